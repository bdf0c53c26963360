/- append of so many noughts (append(s, make([]T, n)...)); a slice against nil. Generic in the program. -/
import Derived.Test.YtldlfhodboigeaaJ8
import Derived.Laws.Cover3
import Derived.WalkSpells
set_option linter.unusedVariables false
set_option linter.unusedSimpArgs false
namespace Go.Proofs.Ytldlfhodboigeaa.K
open Go Go.RowKit
theorem zeros_one (z : Value) (m : Nat) : (Builtin.zeroCells #[z] m).toList = List.replicate m z := by
  apply List.ext_getElem?
  intro j
  by_cases hj : j < m
  · simp [Builtin.zeroCells, hj, Nat.mod_one]
  · simp [Builtin.zeroCells, hj]
section
variable {P : Program} (w : World)
theorem run_made_own (base : Nat) (t ti ty e : TypeId) (i : TypeInfo) (z : Value) (by_ : Nat) (ki : IntKind) (ht : P.underlying t = some (.slice e)) (hti : P.underlying ti = some (.int ki)) (hi : P.info? e = some i) (hz : i.zero = some z) (hzc : z.cells = #[z]) (hs1 : i.size = 1) (hby : i.bytes = by_)
    (h1 : z.oneCell' = true) (v : Value) (n : Nat) (xs : List Value) (hown : w.ownsRow base e 1 v n xs) (m : Nat) (hnm : n + m ≤ 140737488355328) (hmb : (n + m) * by_ ≤ 140737488355328) (hbase : base ≤ w.heap.size) :
    ∃ v' w', (Builtin.append_ #[t, ti] ty #[v, .int .i64 m]).run P w = .ok v' w' ∧ w'.ownsRow base e 1 v' (n + m) (xs ++ List.replicate m z) ∧ w.grownBy w' v.ownBlock := by
  subst hby
  have hmm : m * i.bytes ≤ 140737488355328 := Nat.le_trans (Nat.mul_le_mul_right _ (by omega)) hmb
  have hw : IntKind.i64.wrap (m : Int) = m := by rw [IntKind.wrap_i64]; omega
  have n1 : ¬ ((m : Int) < 0) := by omega
  have n2 : ¬ (281474976710656 < (m : Int) * (i.bytes : Int)) := by
    have : ((m * i.bytes : Nat) : Int) ≤ 140737488355328 := by omega
    rw [Int.natCast_mul] at this; omega
  have n4 : ¬ (9223372036854775807 < ((n : Int) + (m : Int))) := by omega
  have hlen : (xs ++ List.replicate m z).length = n + m := by rw [List.length_append, hown.1, List.length_replicate, Nat.mul_one]
  have grown : ∀ (old : Nat), old < n + m → ∀ (row : Option Nat),
      (w.drew.alloc (.cells (xs.toArray ++ (List.replicate m z).toArray ++ Builtin.zeroCells #[z] (grownCap w (n + m) old e - (n + m))) e)).ownsRow base e 1
        (.slice (some ⟨w.heap.size, 0, none⟩) (n + m) (grownCap w (n + m) old e)) (n + m) (xs ++ List.replicate m z) ∧
      w.grownBy (w.drew.alloc (.cells (xs.toArray ++ (List.replicate m z).toArray ++ Builtin.zeroCells #[z] (grownCap w (n + m) old e - (n + m))) e)) row := by
    intro old ho row
    have hge := grownCap_ge w (n + m) old e
    have hcm : grownCap w (n + m) old e ≤ maxLen := grownCap_le_maxLen w (n + m) old e (by simp only [maxLen]; omega)
    refine ⟨⟨by rw [hlen, Nat.mul_one], .inr ⟨w.heap.size, _, _, rfl, hbase, heap_alloc_new w.drew _, hge, hcm, ?_, ?_⟩⟩, ⟨rfl, rfl, rfl, by simp, fun k hk _ => Below.heap_alloc w.drew _ k hk⟩⟩
    · have hz2 : (Builtin.zeroCells #[z] (grownCap w (n + m) old e - (n + m))).size = grownCap w (n + m) old e - (n + m) := by rw [← Array.length_toList, zeros_one, List.length_replicate]
      simp only [Array.size_append, List.size_toArray, hz2, hown.1, List.length_replicate]
      omega
    · simp only [Array.toList_append, List.append_assoc]
      rw [← List.append_assoc, Nat.mul_one, ← hlen]
      exact List.take_left
  rcases hown.2 with ⟨rfl, rfl⟩ | ⟨g, cap, cur, rfl, hbg, hg, hnc, hcm, hcs, htake⟩
  · have hx : xs = [] := List.eq_nil_of_length_eq_zero (by simpa using hown.1)
    subst hx
    by_cases hm : m = 0
    · subst hm
      refine ⟨.slice none 0 0, w, ?_, World.ownsRow_nil w base e 1, ⟨rfl, rfl, rfl, Nat.le_refl _, fun _ _ _ => rfl⟩⟩
      simp [Builtin.append_, run_underlying ht, run_underlying hti, sizeOf, typeInfo, hi, asInt, asIntOf, IntKind.wrap_i64]
    · have hgr := grown 0 (by omega) (Value.ownBlock (.slice none 0 0))
      have h48' : ¬ (281474976710656 < Builtin.nextslicecap m 0 * i.bytes) := by rw [nextslicecap_zero (by omega)]; omega
      simp only [Nat.zero_add, List.nil_append] at hgr n4 ⊢
      refine ⟨_, _, ?_, hgr.1, hgr.2⟩
      have n5 : ¬ (9223372036854775807 < (m : Int)) := by omega
      simp [Builtin.append_, run_underlying ht, run_underlying hti, sizeOf, typeInfo, zeroValue, hi, hz, hzc, hs1, asInt, asIntOf, hw, n1, n2, hm, n5, h48', Question.forced, run_firstCells_none, newRow, grownCap]
      congr 3
      apply Array.ext'
      simp [zeros_one]
  · by_cases hroom : n + m ≤ cap
    · have hst := run_storeCells_at P g n e (List.replicate m z) 0 cur w hg (by simp; omega) (fun v hv => by rw [(List.mem_replicate.1 hv).2]; exact h1)
      simp only [Nat.add_zero] at hst
      refine ⟨.slice (some ⟨g, 0, none⟩) (n + m) cap, w.setRow g (cur.toList.take n ++ List.replicate m z ++ cur.toList.drop (n + (List.replicate m z).length)).toArray, ?_, ⟨by rw [hlen, Nat.mul_one], .inr ⟨g, cap, _, rfl, hbg, setRow_heap w g cur _ e _ hg, hroom, hcm, ?_, ?_⟩⟩, ⟨rfl, rfl, rfl, by simp, fun k _ hk => setRow_other w g k _ (fun e => hk (by simp [Value.ownBlock, e]))⟩⟩
      · by_cases hm : m = 0
        · subst hm
          have hcur : (cur.toList.take n ++ List.replicate 0 z ++ cur.toList.drop (n + (List.replicate 0 z).length)).toArray = cur := by
            apply Array.ext'
            simp
          rw [hcur, setRow_self w g cur e (0, 0) hg]
          simp [Builtin.append_, run_underlying ht, run_underlying hti, sizeOf, typeInfo, hi, hs1, asInt, asIntOf, IntKind.wrap_i64, hnc, storeCells]
        · simp [Builtin.append_, run_underlying ht, run_underlying hti, sizeOf, typeInfo, zeroValue, hi, hz, hzc, hs1, asInt, asIntOf, hw, n1, n2, hm, hroom, Addr.add_lit, zeros_one, hst]
      · simp only [List.size_toArray, List.length_append, List.length_take, List.length_drop, Array.length_toList, List.length_replicate]
        omega
      · rw [Nat.mul_one] at htake
        rw [htake, Nat.mul_one, ← hlen]
        exact List.take_left
    · have holds : ∀ j u, xs[j]? = some u → w.cell? ((⟨g, 0, none⟩ : Addr).add j) = some u := hown.cells (g := g) rfl
      have hgr := grown cap (by omega) (Value.ownBlock (.slice (some ⟨g, 0, none⟩) n cap))
      have h48' : ¬ (281474976710656 < Builtin.nextslicecap (n + m) cap * i.bytes) := by have := growslice_fits (old := cap) (by omega) hmb; omega
      have hfo := run_firstCells_some (P := P) w.drew 1 n ⟨g, 0, none⟩ n cap xs hown.1 (by simpa using holds)
      refine ⟨_, _, ?_, hgr.1, hgr.2⟩
      have hm : ¬ m = 0 := by omega
      simp [Builtin.append_, run_underlying ht, run_underlying hti, sizeOf, typeInfo, zeroValue, hi, hz, hzc, hs1, asInt, asIntOf, hw, n1, n2, hm, n4, h48', hroom, Question.forced, hfo, newRow, grownCap]
      congr 3
      apply Array.ext'
      simp [zeros_one]
end
section
variable {P : Program} {ops : Array Oper} {e : Env} {w : World} {K : Value → World → Prop}
variable {d : Option Nat} {ty : TypeId} {pos : String} {af : Array Edge} {g : Option (Nat × Bool)}
variable {t u : TypeId} {x y : Operand} {k : IntKind}
theorem r_appendZ {xs_ : Array Operand} {at_ : Array TypeId} {ti : TypeId} (hxs : xs_ = #[x, y]) (hat : at_ = #[t, ti]) {base n m : Nat} {el : TypeId} {by_ : Nat} {z v : Value} {xs : List Value} [hz : ElzI P t el 1 by_ z] [hu : IntI P ti k] (hx : ev e x = v) (hy : ev e y = .int .i64 m) (hzc : z.cells = #[z]) (h1 : z.oneCell' = true)
    (hown : w.ownsRow base el 1 v n xs) (hl : n + m ≤ 140737488355328) (hby : (n + m) * by_ ≤ 140737488355328) (hbase : base ≤ w.heap.size)
    (h : ∀ v' w', w'.ownsRow base el 1 v' (n + m) (xs ++ List.replicate m z) → w.grownBy w' v.ownBlock → K v' w') : Run1 P ⟨d, .call ⟨.builtin .append, xs_, at_⟩, ty, pos, af, g⟩ e w K := by
  subst hxs; subst hat
  obtain ⟨hul, i, hi, hzz, hsz, hbb, hzs, hpos⟩ := elz_of hz.h
  obtain ⟨v', w', hrun, ho, hg⟩ := run_made_own (P := P) w base t ti ty el i z by_ k hul hu.h hi hzz hzc hsz hbb h1 v n xs hown m hl hby hbase
  refine run1_ok (v := v') (w' := w') ?_ (h v' w' ho hg)
  simp only [execOp, resolve, invoke, builtin, Sem.run_bind, Sem.run_pure, Result.andThen_ok, List.map_toArray, List.map_cons, List.map_nil, hx, hy, hrun]
theorem r_eqlNil {n c : Nat} {ad : Option Addr} {el : TypeId} {sz : Nat} [hui : ElI P t el sz] (hx : ev e x = .slice ad n c) (hy : ev e y = .slice none 0 0) (h : K (.bool ad.isNone) w) : Run1 P ⟨d, .binOp .eql t x y u, ty, pos, af, g⟩ e w K := by
  obtain ⟨hu, _⟩ := el_sliced hui.h
  refine run1_ok (w' := w) (v := .bool ad.isNone) ?_ h
  have hg : ∀ w : World, (eqGuard .eql t x y (.slice ad n c) (.slice none 0 0)).run P w = .ok () w := fun _ => rfl
  have hb : (binOp .eql t (.slice ad n c) (.slice none 0 0)).run P w = .ok (.bool ad.isNone) w := by
    simp only [binOp]
    simp [run_equal_slice_nil w t _ ad n c hu]
  simp only [execOp, hx, hy, Sem.run_bind, hg, Result.andThen_ok, hb, Sem.run_pure]
theorem r_slice3 {n cap : Nat} {ad : Option Addr} {el : TypeId} {sz : Nat} {kl kh km : IntKind} [hui : ElI P t el sz] {lo hi mx : Operand} {l h m : Int} (hx : ev e x = .slice ad n cap) (hl : ev e lo = .int kl l) (hh : ev e hi = .int kh h) (hm : ev e mx = .int km m) (h0 : 0 ≤ l) (h1 : l ≤ h) (h2 : h ≤ m) (h3 : m ≤ cap)
    (hK : K (.slice (if m.toNat = l.toNat then ad else ad.map (·.add (l.toNat * sz))) (h.toNat - l.toNat) (m.toNat - l.toNat)) w) : Run1 P ⟨d, .slice t x (some lo) (some hi) (some mx), ty, pos, af, g⟩ e w K := by
  obtain ⟨hu, inf, hi', rfl⟩ := el_sliced hui.h
  refine run1_ok (w' := w) ?_ hK
  simp only [execOp, Option.map_some, hx, hl, hh, hm, Sem.run_bind, run_sliceAt_slice w t _ _ _ _ hu, run_slice_lhm w t ad n cap hu kl kh km l h m h0 h1 h2 h3, sizeOf, typeInfo, program, Sem.run, hi', Sem.run_pure, Result.andThen_ok, sliced]
theorem own_lit0 {b base sz : Nat} {T : TypeId} (hc : w.heap[b]? = some (.cells #[] T (0, 0))) (hb : base ≤ b) : w.ownsRow base T sz (.slice (some ⟨b, 0, none⟩) 0 0) 0 [] :=
  ⟨by simp, .inr ⟨b, 0, #[], rfl, hb, hc, Nat.le_refl _, Nat.zero_le _, by simp, by simp⟩⟩
theorem Grow.grown {w w1 w2 : World} {row : Option Nat} (G : Grow w w1) (h : w1.grownBy w2 row) (hr : ∀ k, row = some k → w.heap.size ≤ k) : Grow w w2 := Below.grown G h G.size hr
theorem own_ge {base n sz : Nat} {T : TypeId} {v : Value} {xs : List Value} (h : w.ownsRow base T sz v n xs) : ∀ k, v.ownBlock = some k → base ≤ k := fun k hk => (h.lt k hk).1
theorem own_row {base n sz : Nat} {T : TypeId} {v : Value} {xs : List Value} (h : w.ownsRow base T sz v n xs) (hl : n ≤ 140737488355328) : Row w sz v n xs := Row.of_own h hl
theorem own_ne {base n sz k : Nat} {T T' : TypeId} {v : Value} {xs : List Value} {cs : Array Value} {fr : Nat × Nat} (h : w.ownsRow base T sz v n xs) (hk : w.heap[k]? = some (.cells cs T' fr)) (hT : T ≠ T') : v.ownBlock ≠ some k := by
  intro he
  rcases h.2 with ⟨rfl, _⟩ | ⟨g, cap, cur, rfl, _, hg, _⟩
  · simp [Value.ownBlock] at he
  · simp only [Value.ownBlock, Option.some.injEq] at he
    subst he
    rw [hg] at hk
    simp only [Option.some.injEq, Obj.cells.injEq] at hk
    exact hT hk.2.1
theorem own_ne_loop {base n sz k : Nat} {T : TypeId} {v : Value} {xs : List Value} {rc : Loop} (h : w.ownsRow base T sz v n xs) (hk : w.heap[k]? = some (.loop rc)) : v.ownBlock ≠ some k := by
  intro he
  rcases h.2 with ⟨rfl, _⟩ | ⟨g, cap, cur, rfl, _, hg, _⟩
  · simp [Value.ownBlock] at he
  · simp only [Value.ownBlock, Option.some.injEq] at he
    subst he
    rw [hg] at hk
    cases hk
theorem own_ne_def {base n sz k : Nat} {T : TypeId} {v : Value} {xs : List Value} {ds : Option (List Deferred)} (h : w.ownsRow base T sz v n xs) (hk : w.heap[k]? = some (.deferred ds)) : v.ownBlock ≠ some k := by
  intro he
  rcases h.2 with ⟨rfl, _⟩ | ⟨g, cap, cur, rfl, _, hg, _⟩
  · simp [Value.ownBlock] at he
  · simp only [Value.ownBlock, Option.some.injEq] at he
    subst he
    rw [hg] at hk
    cases hk
theorem gr_heap {w' : World} {row : Option Nat} {k : Nat} {o : Obj} (gr : w.grownBy w' row) (hb : w.heap[k]? = some o) (hne : row ≠ some k) : w'.heap[k]? = some o := by
  rw [gr.block k (lt_of_heap hb) (fun h => hne h.symm)]; exact hb
theorem own_upd {w' : World} {base n sz b : Nat} {T : TypeId} {v : Value} {xs : List Value} (h : w.ownsRow base T sz v n xs) (u : Upd b w w') (hne : v.ownBlock ≠ some b) : w'.ownsRow base T sz v n xs := by
  refine ⟨h.1, ?_⟩
  rcases h.2 with hn | ⟨g, cap, cur, rfl, hb, hg, rest⟩
  · exact .inl hn
  · exact .inr ⟨g, cap, cur, rfl, hb, u.heap hg (by simpa [Value.ownBlock] using hne), rest⟩
theorem own_grow {w' : World} {base n sz : Nat} {T : TypeId} {v : Value} {xs : List Value} (h : w.ownsRow base T sz v n xs) (g : Grow w w') : w'.ownsRow base T sz v n xs := by
  refine ⟨h.1, ?_⟩
  rcases h.2 with hn | ⟨q, cap, cur, rfl, hb, hg, rest⟩
  · exact .inl hn
  · exact .inr ⟨q, cap, cur, rfl, hb, g.heap hg, rest⟩
theorem own_base {base base' n sz : Nat} {T : TypeId} {v : Value} {xs : List Value} (h : w.ownsRow base T sz v n xs) (hb : base' ≤ base) : w.ownsRow base' T sz v n xs := by
  refine ⟨h.1, ?_⟩
  rcases h.2 with hn | ⟨q, cap, cur, rfl, hq, rest⟩
  · exact .inl hn
  · exact .inr ⟨q, cap, cur, rfl, by omega, rest⟩
theorem own_one {base n sz : Nat} {T : TypeId} {v : Value} {xs : List Value} (h : w.ownsRow base T sz v n xs) : v.oneCell' = true := by
  rcases h.2 with ⟨rfl, _⟩ | ⟨q, cap, cur, rfl, _⟩ <;> rfl
theorem RowAt.chunk {n l m : Nat} {ad : Option Addr} {xs : List Value} (h : RowAt w 1 ad n xs) (hm : l + m ≤ n) : RowAt w 1 (if l + m = l then ad else ad.map (·.add (l * 1))) m ((xs.drop l).take m) := by
  have h2 := h.part l m hm (by omega)
  rw [Nat.mul_one m] at h2
  split
  · have : m = 0 := by omega
    subst this
    exact RowAt.empty _ _ _
  · have e : l * 1 = l := Nat.mul_one l
    rw [e] at h2 ⊢
    exact h2
end
end Go.Proofs.Ytldlfhodboigeaa.K
