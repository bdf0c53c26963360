/- All paths of a tree. Plain law, and paths in memory. -/
import Derived.Test.YtfhfecepcnapfaaJ15
import Derived.Test.YtfhfecepcnapfaaT11
set_option linter.unusedVariables false
set_option linter.unusedSimpArgs false
namespace Go.Proofs.Ytfhfecepcnapfaa.K
open Go Go.RowKit
mutual
def Nd.paths : Nd → List Int → List (List Int × Int)
  | .mk k s w b ks, pre => (List.range (1 + w.length + b.length)).map (fun (i : Nat) => (pre, (i : Int) - 1)) ++ Nd.pathsL ks pre 0
def Nd.pathsL : List Nd → List Int → Nat → List (List Int × Int)
  | [], _, _ => []
  | t :: ts, pre, j => t.paths (pre ++ [(j : Int)]) ++ Nd.pathsL ts pre (j + 1)
end
mutual
def Nd.dep : Nd → Nat
  | .mk _ _ _ _ ks => 1 + Nd.depL ks
def Nd.depL : List Nd → Nat
  | [] => 0
  | t :: ts => max t.dep (Nd.depL ts)
end
theorem Nd.depL_at : ∀ (ts : List Nd) (i : Nat) (h : i < ts.length), ts[i].dep ≤ Nd.depL ts
  | [], i, h => by simp at h
  | t :: ts, 0, _ => by rw [Nd.depL]; exact Nat.le_max_left _ _
  | t :: ts, i + 1, h => by
    have := Nd.depL_at ts i (by simpa using h)
    rw [Nd.depL]
    exact Nat.le_trans this (Nat.le_max_right _ _)
theorem pathsL_split : ∀ (ts : List Nd) (pre : List Int) (j0 k : Nat) (h : k < ts.length), Nd.pathsL ts pre j0 = Nd.pathsL (ts.take k) pre j0 ++ (ts[k].paths (pre ++ [((j0 + k : Nat) : Int)]) ++ Nd.pathsL (ts.drop (k + 1)) pre (j0 + k + 1))
  | [], _, _, _, h => by simp at h
  | t :: ts, pre, j0, 0, _ => by simp [Nd.pathsL]
  | t :: ts, pre, j0, k + 1, h => by
    have ih := pathsL_split ts pre (j0 + 1) k (by simpa using h)
    rw [Nd.pathsL, ih, List.take_succ_cons, Nd.pathsL, List.append_assoc, List.getElem_cons_succ, List.drop_succ_cons, show j0 + 1 + k = j0 + (k + 1) from by omega]
theorem pathsL_take (ts : List Nd) (pre : List Int) (k : Nat) (h : k < ts.length) : (Nd.pathsL (ts.take (k + 1)) pre 0).length = (Nd.pathsL (ts.take k) pre 0).length + (ts[k].paths (pre ++ [(k : Int)])).length := by
  have h1 := pathsL_split (ts.take (k + 1)) pre 0 k (by simp; omega)
  rw [h1]
  simp [List.take_take, List.getElem_take, Nd.pathsL, Nat.min_eq_left]
def own1 (w b : List Int) : Nat := 1 + w.length + b.length
theorem paths_word {k s : Int} {w b : List Int} {ks : List Nd} {pre : List Int} {i : Nat} (h : i < own1 w b) : ((Nd.mk k s w b ks).paths pre)[i]? = some (pre, (i : Int) - 1) := by
  unfold own1 at h
  rw [Nd.paths, List.getElem?_append_left (by simpa using h), List.getElem?_map, List.getElem?_range h]
  rfl
theorem paths_kid {k s : Int} {w b : List Int} {ks : List Nd} {pre : List Int} {j : Nat} (hj : j < ks.length) {i : Nat} (h : i < (ks[j].paths (pre ++ [(j : Int)])).length) : ((Nd.mk k s w b ks).paths pre)[own1 w b + (Nd.pathsL (ks.take j) pre 0).length + i]? = (ks[j].paths (pre ++ [(j : Int)]))[i]? := by
  have h1 := pathsL_split ks pre 0 j hj
  unfold own1
  rw [Nd.paths, List.getElem?_append_right (by simp; omega), h1, List.getElem?_append_right (by simp; omega), Nat.zero_add, List.getElem?_append_left (by simp; omega)]
  congr 1
  simp
  omega
theorem paths_len (k s : Int) (w b : List Int) (ks : List Nd) (pre : List Int) : ((Nd.mk k s w b ks).paths pre).length = own1 w b + (Nd.pathsL ks pre 0).length := by
  rw [Nd.paths, List.length_append, List.length_map, List.length_range]
  rfl
/-- Paths in a row. -/
inductive PathsR (w : World) : List Value → List (List Int × Int) → Prop
  | nil : PathsR w [] []
  | cons {ad : Option Addr} {c : Nat} {p : List Int × Int} {cs : List Value} {L : List (List Int × Int)} (h : RowAt w 1 ad p.1.length (p.1.map (.int .i64))) (hc : p.1.length ≤ c) (hc2 : c ≤ maxLen) (r : PathsR w cs L) : PathsR w (.slice ad p.1.length c :: .int .i64 p.2 :: cs) (p :: L)
theorem PathsR.sees {w w' : World} (g : Sees w w') : ∀ {cs : List Value} {L : List (List Int × Int)}, PathsR w cs L → PathsR w' cs L
  | _, _, .nil => .nil
  | _, _, .cons h hc hc2 r => .cons (h.sees g) hc hc2 (PathsR.sees g r)
theorem PathsR.snoc {w : World} {ad : Option Addr} {c : Nat} {p : List Int × Int} (h : RowAt w 1 ad p.1.length (p.1.map (.int .i64))) (hc : p.1.length ≤ c) (hc2 : c ≤ maxLen) : ∀ {cs : List Value} {L : List (List Int × Int)}, PathsR w cs L → PathsR w (cs ++ [.slice ad p.1.length c, .int .i64 p.2]) (L ++ [p])
  | _, _, .nil => .cons h hc hc2 .nil
  | _, _, .cons h' hc' hc2' r => .cons h' hc' hc2' (PathsR.snoc h hc hc2 r)
theorem PathsR.len {w : World} : ∀ {cs : List Value} {L : List (List Int × Int)}, PathsR w cs L → cs.length = L.length * 2
  | _, _, .nil => rfl
  | _, _, .cons h hc hc2 r => by have := PathsR.len r; simp only [List.length_cons]; omega
theorem PathsR.at_ {w : World} : ∀ {cs : List Value} {L : List (List Int × Int)} (i : Nat) (p : List Int × Int), PathsR w cs L → L[i]? = some p → ∃ ad c, (cs.drop (i * 2)).take 2 = [.slice ad p.1.length c, .int .i64 p.2] ∧ p.1.length ≤ c ∧ c ≤ maxLen ∧ RowAt w 1 ad p.1.length (p.1.map (.int .i64))
  | _, _, i, p, .nil, h => by simp at h
  | _, _, 0, p, .cons h hc hc2 r, h1 => by
    simp only [List.getElem?_cons_zero, Option.some.injEq] at h1
    subst h1
    exact ⟨_, _, by simp, hc, hc2, h⟩
  | _, _, i + 1, p, .cons h hc hc2 r, h1 => by
    simp only [List.getElem?_cons_succ] at h1
    obtain ⟨ad, c, h2, h3⟩ := PathsR.at_ i p r h1
    refine ⟨ad, c, ?_, h3⟩
    rw [show (i + 1) * 2 = i * 2 + 1 + 1 from by omega, List.drop_succ_cons, List.drop_succ_cons]
    exact h2
/-- A yield leaves alone all blocks from there on, but for rows of paths. -/
def Keeps (TP : TypeId) (N : Nat) (w w' : World) : Prop := ∀ (b : Nat) (o : Obj), N ≤ b → w.heap[b]? = some o → (∀ (cs : Array Value) (fr : Nat × Nat), o ≠ Obj.cells cs TP fr) → w'.heap[b]? = some o
theorem Keeps.trans {TP : TypeId} {N : Nat} {a b c : World} (h : Keeps TP N a b) (k : Keeps TP N b c) : Keeps TP N a c := fun x o h1 h2 h3 => k x o h1 (h x o h1 h2 h3) h3
theorem Keeps.grow {TP : TypeId} {N : Nat} {a b : World} (g : Grow a b) : Keeps TP N a b := fun _ _ _ h _ => g.heap h
theorem Keeps.upd {TP : TypeId} {N b : Nat} {w w' : World} (u : Upd b w w') (hb : b < N) : Keeps TP N w w' := fun x o h1 h2 _ => u.heap h2 (by omega)
theorem Keeps.mono {TP : TypeId} {N M : Nat} {a b : World} (h : Keeps TP N a b) (hn : N ≤ M) : Keeps TP M a b := fun x o h1 => h x o (Nat.le_trans hn h1)
def NotC (o : Obj) : Prop := ∀ (cs : Array Value) (T : TypeId) (fr : Nat × Nat), o ≠ Obj.cells cs T fr
def markD (m : Nat) : Deferred := ⟨.collected m, #[]⟩
/-- All marks are taken; what outlives that is still so. -/
theorem marks_taken {P : Program} {N : Nat} (J : World → Prop) (hJ : ∀ W W' b o, J W → N ≤ b → W.heap[b]? = some o → NotC o → Upd b W W' → J W') : ∀ (mk : List Nat) (W : World), mk.Nodup → (∀ m ∈ mk, N ≤ m ∧ W.heap[m]? = some (.deferred (some []))) → J W → ∃ W', Taken P (mk.map markD) W W' ∧ J W'
  | [], W, _, _, h => ⟨W, rfl, h⟩
  | m :: mk, W, hn, hm, h => by
    obtain ⟨h1, h2⟩ := hm m (by simp)
    have u := upd_put (o' := .deferred none) h2
    obtain ⟨hnm, hnd⟩ := List.nodup_cons.1 hn
    obtain ⟨W', h3, h4⟩ := marks_taken J hJ mk (W.putObj m (.deferred none)) hnd (fun k hk => by
      obtain ⟨h5, h6⟩ := hm k (by simp [hk])
      exact ⟨h5, u.heap h6 (fun he => hnm (he ▸ hk))⟩) (hJ W _ m _ h h1 h2 (fun _ _ _ he => by cases he) u)
    exact ⟨W', ⟨m, _, rfl, run_takeDeferred h2, h3⟩, h4⟩
theorem NodeR.kidsrow {w : World} {y0 y1 : Int} {ya za ua : Option Addr} {yn yc zn zc un uc : Nat} {k s : Int} {ws bs : List Int} {ks : List Nd} (h : NodeR w [.int .i64 y0, .int .i64 y1, .slice ya yn yc, .slice za zn zc, .slice ua un uc] (.mk k s ws bs ks)) : ∃ kc, RowAt w 5 ua un kc ∧ KidsR w kc ks := by
  generalize hc : [Value.int .i64 y0, .int .i64 y1, .slice ya yn yc, .slice za zn zc, .slice ua un uc] = c at h
  obtain @⟨kind, size, words, bytes, kids, ws, bs, ks, kc, hk, hs, hW, hwr, hB, hbr, hK, hKs⟩ := h
  obtain ⟨aw, cw, rfl, -, -, h1⟩ := hW
  obtain ⟨ab, cb, rfl, -, -, h2⟩ := hB
  obtain ⟨ak, ck, rfl, -, -, h3⟩ := hK
  simp only [List.cons.injEq, Value.int.injEq, Value.slice.injEq, true_and, and_true] at hc
  obtain ⟨rfl, rfl, ⟨rfl, rfl, -⟩, ⟨rfl, rfl, -⟩, rfl, rfl, -⟩ := hc
  exact ⟨kc, h3, hKs⟩
theorem row_none {w : World} {sz n : Nat} {xs : List Value} (h : RowAt w sz none n xs) : n = 0 := by
  rcases Nat.eq_zero_or_pos n with h0 | h0
  · exact h0
  · obtain ⟨b, o, cs, T, fr, he, -⟩ := h.at_ h0
    cases he
theorem depL_kid {k s : Int} {w b : List Int} {ks : List Nd} {j : Nat} (hj : j < ks.length) : ks[j].dep + 1 ≤ (Nd.mk k s w b ks).dep := by
  have := Nd.depL_at ks j hj
  rw [Nd.dep]; omega
/-- What a copy of numbers is, where fresh rows may be written at their far ends. -/
def CopyR (T : TypeId) (base : Nat) (pre : List Int) (w : World) (v : Value) : Prop :=
  (pre = [] ∧ v = .slice none 0 0) ∨ (pre ≠ [] ∧ ∃ b cs, v = .slice (some ⟨b, 0, none⟩) pre.length cs.size ∧ base ≤ b ∧ w.heap[b]? = some (.cells cs T (0, 0)) ∧ pre.length ≤ cs.size ∧ cs.size ≤ maxLen ∧ cs.toList.take pre.length = pre.map (.int .i64))
theorem CopyR.ks {T : TypeId} {base b2 : Nat} {pre : List Int} {w w' : World} {v : Value} (k : KsP T b2 pre.length w w') (h : CopyR T base pre w v) : CopyR T base pre w' v := by
  rcases h with h | ⟨h0, b, cs, h1, h2, h3, h4, h5, h6⟩
  · exact .inl h
  · obtain ⟨cs', g1, g2, g3, -⟩ := k.new b cs h3
    exact .inr ⟨h0, b, cs', by rw [g2]; exact h1, h2, g1, by rw [g2]; exact h4, by rw [g2]; exact h5, by rw [g3]; exact h6⟩
theorem CopyR.own {T : TypeId} {base : Nat} {pre : List Int} {w : World} {v : Value} (h : CopyR T base pre w v) : w.ownsRow base T 1 v pre.length (pre.map (.int .i64)) := by
  rcases h with ⟨rfl, rfl⟩ | ⟨h0, b, cs, rfl, h2, h3, h4, h5, h6⟩
  · exact World.ownsRow_nil _ _ _ _
  · exact ⟨by simp, .inr ⟨b, cs.size, cs, rfl, h2, h3, h4, h5, by simp, by rw [Nat.mul_one]; exact h6⟩⟩
theorem CopyR.of_own {T : TypeId} {base b2 : Nat} {pre : List Int} {w : World} {v : Value} (h : w.ownsRow b2 T 1 v pre.length (pre.map (.int .i64))) (hb : base ≤ b2) (h0 : pre ≠ []) : CopyR T base pre w v := by
  rcases h.2 with ⟨-, hn⟩ | ⟨q, cap, cur, rfl, g1, g2, g3, g4, g5, g6⟩
  · exact absurd (by simpa using hn) h0
  · rw [Nat.mul_one] at g5 g6
    exact .inr ⟨h0, q, cur, by rw [g5], Nat.le_trans hb g1, g2, by omega, by omega, g6⟩
theorem CopyR.keeps {T : TypeId} {base : Nat} {pre : List Int} {w w' : World} {v : Value} (h : CopyR T base pre w v) (gr : w.grownBy w' v.ownBlock)
    (hk : ∀ g cap cur, v = .slice (some ⟨g, 0, none⟩) pre.length cap → w.heap[g]? = some (.cells cur T (0, 0)) → ∃ cur' : Array Value, w'.heap[g]? = some (.cells cur' T (0, 0)) ∧ cur'.size = cur.size ∧ cur'.toList.take (pre.length * 1) = cur.toList.take (pre.length * 1) ∧ (cap < pre.length + 1 → cur' = cur)) : KsP T base pre.length w w' := by
  rcases h with ⟨rfl, rfl⟩ | ⟨h0, b, cs, rfl, h2, h3, h4, h5, h6⟩
  · exact (ksR T base _).grow (gr_grow gr)
  · have hl : 1 ≤ pre.length := by cases pre with | nil => exact absurd rfl h0 | cons x l => simp
    have := hk b _ cs rfl h3
    rw [Nat.mul_one] at this
    exact KsP.of_append gr h2 h3 rfl this hl
theorem CopyR.grow {T : TypeId} {base : Nat} {pre : List Int} {w w' : World} {v : Value} (g : Grow w w') (h : CopyR T base pre w v) : CopyR T base pre w' v := CopyR.ks ((ksR T base _).grow g) h
theorem CopyR.blk {T : TypeId} {base : Nat} {pre : List Int} {w : World} {v : Value} (h : CopyR T base pre w v) (h0 : pre ≠ []) : ∃ b cs, v = .slice (some ⟨b, 0, none⟩) pre.length cs.size ∧ base ≤ b ∧ w.heap[b]? = some (.cells cs T (0, 0)) ∧ pre.length ≤ cs.size ∧ cs.size ≤ maxLen ∧ cs.toList.take pre.length = pre.map (.int .i64) := by
  rcases h with ⟨h1, -⟩ | ⟨-, h⟩
  · exact absurd h1 h0
  · exact h
theorem own_neC {w : World} {base n sz b : Nat} {T : TypeId} {v : Value} {xs : List Value} (h : w.ownsRow base T sz v n xs) (hn : ∀ (cs : Array Value) (T : TypeId) (fr : Nat × Nat), w.heap[b]? ≠ some (Obj.cells cs T fr)) : v.ownBlock ≠ some b := by
  intro he
  rcases h.2 with ⟨rfl, _⟩ | ⟨q, cap, cur, rfl, _, hg, _⟩
  · simp [Value.ownBlock] at he
  · simp only [Value.ownBlock, Option.some.injEq] at he
    subst he
    exact hn _ _ _ hg
theorem Keeps.gr {TP : TypeId} {N base n sz : Nat} {v : Value} {xs : List Value} {w w' : World} (g : w.grownBy w' v.ownBlock) (h : w.ownsRow base TP sz v n xs) : Keeps TP N w w' := fun b o _ hb ho => by
  have k := Kp.of_grownBy (F := v.ownBlock.toList) g (fun k hk => by rw [Option.mem_toList]; exact hk)
  refine k.heap hb (fun hm => ?_)
  rw [Option.mem_toList] at hm
  rcases h.2 with ⟨rfl, _⟩ | ⟨q, cap, cur, rfl, _, hg, _⟩
  · simp [Value.ownBlock] at hm
  · simp only [Value.ownBlock, Option.mem_def, Option.some.injEq] at hm
    subst hm
    rw [hg] at hb
    simp only [Option.some.injEq] at hb
    exact ho _ _ hb.symm
end Go.Proofs.Ytfhfecepcnapfaa.K
