/- append keeps what its own row had; memory by the type of its cells; a drawn region in which the far end of fresh rows may be written. Generic in the program. -/
import Derived.Test.YtldlfhodboigeaaJ14
import Derived.Test.YtldlfhodboigeaaQ08
set_option linter.unusedVariables false
set_option linter.unusedSimpArgs false
namespace Go.Proofs.Ytldlfhodboigeaa.K
open Go Go.RowKit
/-- append keeps what its own row had; where there is no room, all of it. -/
theorem append_keep {P : Program} {w w' : World} {base n m cp g cap : Nat} {t ty el : TypeId} {sz by_ : Nat} {z v' : Value} {ad : Option Addr} {xs ys : List Value} {cur : Array Value} [hz : ElzI P t el sz by_ z] (hown : w.ownsRow base el sz (.slice (some ⟨g, 0, none⟩) n cap) n xs) (hg : w.heap[g]? = some (.cells cur el (0, 0))) (hra : RowAt w sz ad m ys) (hm : 0 < m)
    (h1 : ∀ q ∈ ys, q.oneCell' = true) (hl : n + m ≤ maxLen) (hby : (n + m) * by_ ≤ 140737488355328) (hrun : (Builtin.append_ #[t, t] ty #[.slice (some ⟨g, 0, none⟩) n cap, .slice ad m cp]).run P w = .ok v' w') :
    ∃ cur' : Array Value, w'.heap[g]? = some (.cells cur' el (0, 0)) ∧ cur'.size = cur.size ∧ cur'.toList.take (n * sz) = cur.toList.take (n * sz) ∧ (cap < n + m → cur' = cur) := by
  obtain ⟨hu, i, hi, hzz, hsz, hbb, hzs, hpos⟩ := elz_of hz.h
  subst hsz; subst hbb
  have hsmall : n + m ≤ 9223372036854775807 := by simp only [maxLen] at hl; omega
  obtain ⟨b, o, cs, T, fr, rfl, hb, hrow⟩ := hra.at_ hm
  have hcell : ∀ j u, ys[j]? = some u → w.cell? ((⟨b, o, none⟩ : Addr).add j) = some u := fun j u hj => by
    rw [add_lit, cell_of_row w b (o + j) cs T fr hb]
    exact row_cell hrow hj
  have hcs : cur.size = cap * i.size := by
    rcases hown.2 with ⟨h, _⟩ | ⟨q, cap', cur', hv, _, hg', _, _, h2, _⟩
    · cases h
    · simp only [Value.slice.injEq, Option.some.injEq, Addr.mk.injEq, and_true, true_and] at hv
      obtain ⟨rfl, rfl⟩ := hv
      rw [hg] at hg'
      simp only [Option.some.injEq, Obj.cells.injEq, and_true] at hg'
      subst hg'
      exact h2
  by_cases hroom : n + m ≤ cap
  · have hfit : n * i.size + ys.length ≤ cur.size := by rw [hra.len, hcs, ← Nat.add_mul]; exact Nat.mul_le_mul_right _ hroom
    have hr := run_append_room (P := P) w t ty el i hu hi g n cap cur hg ⟨b, o, none⟩ m cp ys hra.len hcell h1 hroom hfit
    rw [hr] at hrun
    simp only [Result.ok.injEq] at hrun
    obtain ⟨-, rfl⟩ := hrun
    refine ⟨_, setRow_heap w g cur _ el _ hg, ?_, ?_, fun h => by omega⟩
    · simp; omega
    · simp
      rw [List.take_append_of_le_length (by simp; omega), List.take_take, Nat.min_self]
  · have hr := run_append_grow (P := P) w t ty el i z hu hi hzz ⟨g, 0, none⟩ n cap xs hown.1 (hown.cells (g := g) rfl) ⟨b, o, none⟩ m cp ys hra.len hcell (by omega) (by omega) (growslice_fits (by omega) hby)
    rw [hr] at hrun
    simp only [Result.ok.injEq] at hrun
    obtain ⟨-, rfl⟩ := hrun
    exact ⟨cur, by rw [Below.heap_alloc w.drew _ g (lt_of_heap hg)]; exact hg, rfl, rfl, fun _ => rfl⟩
section
variable {P : Program} {e : Env} {w : World} {K : Value → World → Prop} {d : Option Nat} {ty : TypeId} {pos : String} {af : Array Edge} {g : Option (Nat × Bool)} {t u : TypeId} {x y : Operand}
/-- append, with what is kept of its own row. -/
theorem r_appendK {xs_ : Array Operand} {at_ : Array TypeId} (hxs : xs_ = #[x, y]) (hat : at_ = #[t, t]) {base n m : Nat} {el : TypeId} {sz by_ : Nat} {z v u : Value} {xs ys : List Value} [hz : ElzI P t el sz by_ z] (hx : ev e x = v) (hy : ev e y = u)
    (hown : w.ownsRow base el sz v n xs) (hr : Row w sz u m ys) (hm : 0 < m) (h1 : ∀ q ∈ ys, q.oneCell' = true) (hl : n + m ≤ maxLen) (hby : (n + m) * by_ ≤ 140737488355328) (hbase : base ≤ w.heap.size)
    (h : ∀ v' w', w'.ownsRow base el sz v' (n + m) (xs ++ ys) → w.grownBy w' v.ownBlock → (∀ g cap cur, v = .slice (some ⟨g, 0, none⟩) n cap → w.heap[g]? = some (.cells cur el (0, 0)) → ∃ cur' : Array Value, w'.heap[g]? = some (.cells cur' el (0, 0)) ∧ cur'.size = cur.size ∧ cur'.toList.take (n * sz) = cur.toList.take (n * sz) ∧ (cap < n + m → cur' = cur)) → K v' w') : Run1 P ⟨d, .call ⟨.builtin .append, xs_, at_⟩, ty, pos, af, g⟩ e w K := by
  subst hxs; subst hat
  obtain ⟨ad, cp, rfl, hmc, _, hra⟩ := hr
  obtain ⟨v', w', hrun, ho, hg, -⟩ := append_run (P := P) (t := t) (ty := ty) (cp := cp) hown hra h1 hl hby hbase
  refine run1_ok (v := v') (w' := w') ?_ (h v' w' ho hg fun g cap cur hv hgc => by subst hv; exact append_keep hown hgc hra hm h1 hl hby hrun)
  simp only [execOp, resolve, invoke, builtin, Sem.run_bind, Sem.run_pure, Result.andThen_ok, List.map_toArray, List.map_cons, List.map_nil, hx, hy, hrun]
end
/-! ### fresh rows of one type may be written behind their first cells -/
structure KsP (T : TypeId) (base n : Nat) (w w' : World) : Prop where
  os : w'.os = w.os
  tape : w'.tape = w.tape
  output : w'.output = w.output
  size : w.heap.size ≤ w'.heap.size
  old : ∀ k : Nat, k < w.heap.size → (k < base ∨ ¬ ∃ cs, w.heap[k]? = some (.cells cs T (0, 0))) → w'.heap[k]? = w.heap[k]?
  new : ∀ (k : Nat) (cs : Array Value), w.heap[k]? = some (.cells cs T (0, 0)) → ∃ cs' : Array Value, w'.heap[k]? = some (.cells cs' T (0, 0)) ∧ cs'.size = cs.size ∧ cs'.toList.take n = cs.toList.take n ∧ (cs.size ≤ n ∨ cs.size ≤ 1 → cs' = cs)
def ksR (T : TypeId) (base n : Nat) : KpR where
  r := KsP T base n
  refl := fun w => ⟨rfl, rfl, rfl, Nat.le_refl _, fun _ _ _ => rfl, fun k cs h => ⟨cs, h, rfl, rfl, fun _ => rfl⟩⟩
  tr := fun {a b c} h k => ⟨k.os.trans h.os, k.tape.trans h.tape, k.output.trans h.output, Nat.le_trans h.size k.size, fun i hi hc => by
      have h1 := h.old i hi hc
      rw [k.old i (Nat.lt_of_lt_of_le hi h.size) (by rw [h1]; exact hc), h1], fun i cs hi => by
      obtain ⟨cs1, h1, h2, h3, h4⟩ := h.new i cs hi
      obtain ⟨cs2, h5, h6, h7, h8⟩ := k.new i cs1 h1
      exact ⟨cs2, h5, h6.trans h2, h7.trans h3, fun hs => by rw [h8 (by rw [h2]; exact hs), h4 hs]⟩⟩
  grow := fun {a b} g => ⟨g.os, g.tape, g.output, g.size, fun k hk _ => g.block k hk, fun k cs h => ⟨cs, g.heap h, rfl, rfl, fun _ => rfl⟩⟩
theorem KsP.to_grow {T : TypeId} {n : Nat} {W w w' : World} (k : KsP T W.heap.size n w w') (g : Grow W w) : Grow W w' :=
  ⟨k.os.trans g.os, k.tape.trans g.tape, k.output.trans g.output, Nat.le_trans g.size k.size, fun i hi => by rw [k.old i (Nat.lt_of_lt_of_le hi g.size) (.inl hi), g.block i hi]⟩
theorem KsP.heap {T T2 : TypeId} {base n k : Nat} {w w' : World} {cs : Array Value} {fr : Nat × Nat} (h : KsP T base n w w') (hk : w.heap[k]? = some (.cells cs T2 fr)) (hT : T2 ≠ T) : w'.heap[k]? = some (.cells cs T2 fr) := by
  rw [h.old k (lt_of_heap hk) (.inr fun ⟨cs2, h2⟩ => by rw [hk] at h2; simp only [Option.some.injEq, Obj.cells.injEq] at h2; exact hT h2.2.1)]
  exact hk
/-- An append to a fresh row of so many does that. -/
theorem KsP.of_append {T : TypeId} {base n cap g : Nat} {w w' : World} {cur : Array Value} (gr : w.grownBy w' (some g)) (hb : base ≤ g) (hg : w.heap[g]? = some (.cells cur T (0, 0))) (hcs : cur.size = cap) (hk : ∃ cur' : Array Value, w'.heap[g]? = some (.cells cur' T (0, 0)) ∧ cur'.size = cur.size ∧ cur'.toList.take n = cur.toList.take n ∧ (cap < n + 1 → cur' = cur)) (hn : 1 ≤ n) : KsP T base n w w' := by
  have k1 : Kp [g] w w' := Kp.of_grownBy gr (fun k hk => by simp only [Option.some.injEq] at hk; subst hk; simp)
  obtain ⟨cur', h1, h2, h3, h4⟩ := hk
  refine ⟨k1.os, k1.tape, k1.output, k1.size, fun k hk hc => k1.block k hk (fun hm => ?_), fun k cs hk => ?_⟩
  · simp only [List.mem_singleton] at hm
    subst hm
    rcases hc with hc | hc
    · omega
    · exact hc ⟨cur, hg⟩
  · by_cases hkg : k = g
    · subst hkg
      rw [hg] at hk
      simp only [Option.some.injEq, Obj.cells.injEq, and_true] at hk
      subst hk
      exact ⟨cur', h1, h2, h3, fun hs => h4 (by omega)⟩
    · exact ⟨cs, k1.heap hk (by simp [hkg]), rfl, rfl, fun _ => rfl⟩
/-! ### memory of which only cells of one type are seen -/
open Classical in
noncomputable def seeT (T : TypeId) (w : World) : World := { w with heap := w.heap.map fun o => if (∃ cs fr, o = Obj.cells cs T fr) then o else .deferred none }
theorem seeT_cells {T T' : TypeId} {k : Nat} {w : World} {cs : Array Value} {fr : Nat × Nat} : (seeT T w).heap[k]? = some (.cells cs T' fr) ↔ T' = T ∧ w.heap[k]? = some (.cells cs T' fr) := by
  have h0 : (seeT T w).heap[k]? = (w.heap[k]?).map fun o => @ite _ (∃ cs fr, o = Obj.cells cs T fr) (Classical.propDecidable _) o (.deferred none) := by simp only [seeT, Array.getElem?_map]
  rw [h0]
  constructor
  · intro h
    cases hk : w.heap[k]? with
    | none => rw [hk] at h; cases h
    | some o =>
      rw [hk] at h
      simp only [Option.map_some, Option.some.injEq] at h
      split at h
      · subst h
        rename_i hv
        obtain ⟨cs2, fr2, h2⟩ := hv
        simp only [Obj.cells.injEq] at h2
        exact ⟨h2.2.1, rfl⟩
      · cases h
  · rintro ⟨rfl, h2⟩
    rw [h2, Option.map_some, if_pos ⟨_, _, rfl⟩]
theorem Sees.typ (T : TypeId) (w : World) : Sees (seeT T w) w := fun _ _ _ _ h => (seeT_cells.1 h).2
theorem Sees.typ_of {T : TypeId} {w w' : World} (h : ∀ (b : Nat) (cs : Array Value) (fr : Nat × Nat), w.heap[b]? = some (Obj.cells cs T fr) → w'.heap[b]? = some (Obj.cells cs T fr)) : Sees (seeT T w) (seeT T w') := fun b cs T' fr x => by
  obtain ⟨rfl, x2⟩ := seeT_cells.1 x
  exact seeT_cells.2 ⟨rfl, h b cs fr x2⟩
theorem Sees.typ_grow {T : TypeId} {w w' : World} (g : Grow w w') : Sees (seeT T w) (seeT T w') := Sees.typ_of fun _ _ _ h => g.heap h
theorem Sees.typ_upd {T : TypeId} {b : Nat} {w w' : World} (u : Upd b w w') (h : ∀ (cs : Array Value) (fr : Nat × Nat), w.heap[b]? ≠ some (Obj.cells cs T fr)) : Sees (seeT T w) (seeT T w') := Sees.typ_of fun k cs fr hk => u.heap hk (fun he => h cs fr (he ▸ hk))
theorem Sees.typ_gr {T T' : TypeId} {base n sz : Nat} {v : Value} {xs : List Value} {w w' : World} (g : w.grownBy w' v.ownBlock) (h : w.ownsRow base T' sz v n xs) (hT : T' ≠ T) : Sees (seeT T w) (seeT T w') := Sees.typ_of fun k cs fr hk => gr_heap g hk (own_ne h hk hT)
theorem own_typ {w : World} {base n sz : Nat} {T : TypeId} {v : Value} {xs : List Value} (h : w.ownsRow base T sz v n xs) (hl : n ≤ 140737488355328) : Row (seeT T w) sz v n xs := by
  obtain ⟨h1, h2⟩ := h
  rcases h2 with ⟨rfl, rfl⟩ | ⟨g, cap, cur, rfl, hb, hg, hnc, hcm, hcs, ht⟩
  · have : xs = [] := List.eq_nil_of_length_eq_zero (by simpa using h1)
    subst this; exact Row.nil _ sz
  · exact ⟨_, cap, rfl, hnc, hcm, h1, hl, fun _ => ⟨g, 0, cur, T, (0, 0), rfl, seeT_cells.2 ⟨rfl, hg⟩, by rw [List.drop_zero]; exact ht⟩⟩
end Go.Proofs.Ytldlfhodboigeaa.K
