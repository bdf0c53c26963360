/- A tree laid in one segment: another number in its word lays another number in its place, and nothing else. Plain law. -/
import Derived.Test.YtfhfecepcnapfaaP08
import Derived.Test.YtfhfecepcnapfaaS08
set_option linter.unusedVariables false
set_option linter.unusedSimpArgs false
namespace Go.Proofs.Ytfhfecepcnapfaa.K
open Go Go.RowKit
theorem Nd.lay_step (size : Int) {k z : Int} {w b : List Int} {ks : List Nd} {s : List Int} {i : Nat} (hR : (Nd.mk k z w b ks).fine) (hk : ¬ k = 0) (hn : ¬ (Nd.mk k z w b ks).need = 0) (h1 : (s.length : Int) + (Nd.mk k z w b ks).need ≤ size) (h2 : (s.length : Int) + (Nd.mk k z w b ks).need ≤ 4096) :
    (Nd.mk k z w b ks).lay size ⟨[s], false⟩ 0 i = Nd.lays size ks ⟨[s.set i ((Nd.mk k z w b ks).near ((s.length : Int) - i - 1)) ++ (Nd.mk k z w b ks).content], false⟩ 0 (s.length + ((Nd.mk k z w b ks).need.toNat - ks.length)) := by
  obtain ⟨hkd, hlw, hlb, hlk, hnn, hnm, hkn, hb1⟩ := Nd.own_b (Nd.fine_own hR)
  simp only [Nd.lay, Bool.false_eq_true, or_false]
  rw [if_neg hk, if_neg hn]
  have hp : placeP size (.mk k z w b ks) ⟨[s], false⟩ 0 i = ⟨⟨[s.set i ((Nd.mk k z w b ks).near ((s.length : Int) - i - 1))], false⟩, 0, s.length⟩ := by
    unfold placeP
    rw [if_pos (by refine ⟨rfl, ?_⟩; show ((s.length : Nat) : Int) + _ ≤ _; omega)]
    show (⟨⟨setP [s] 0 i _, false⟩, 0, _⟩ : Plc) = _
    rw [setP1]
    rfl
  have hco : ((Nd.mk k z w b ks).content.length : Int) = (Nd.mk k z w b ks).need := Nd.content_length _ (by simp only [Nd.kind]; omega) (by simpa only [Nd.kind, Nd.bytes] using hb1)
  rw [hp]
  have hm : moreP size ⟨[s.set i ((Nd.mk k z w b ks).near ((s.length : Int) - i - 1))], false⟩ 0 (Nd.mk k z w b ks).content = ⟨[s.set i ((Nd.mk k z w b ks).near ((s.length : Int) - i - 1)) ++ (Nd.mk k z w b ks).content], false⟩ := by
    simp only [moreP, growA1, Bool.false_or]
    rw [full1 (by rw [List.length_append, List.length_set]; omega) (by rw [List.length_append, List.length_set]; omega)]
  simp only [hm]
mutual
theorem Nd.lay_at (size : Int) : ∀ (t : Nd) (s : List Int) (i : Nat), t.fine → i < s.length → (s.length : Int) + t.needs ≤ size → (s.length : Int) + t.needs ≤ 4096 →
    ∃ s', t.lay size ⟨[s], false⟩ 0 i = ⟨[s'], false⟩ ∧ (s'.length : Int) = s.length + t.needs ∧ ∀ j v, j < s.length → j ≠ i → t.lay size ⟨[s.set j v], false⟩ 0 i = ⟨[s'.set j v], false⟩
  | .mk k z w b ks, s, i, hR, hi, h1, h2 => by
    obtain ⟨hkd, hlw, hlb, hlk, hnn, hnm, hkn, hb1⟩ := Nd.own_b (Nd.fine_own hR)
    have hnl := Nd.needsL_nn ks
    simp only [Nd.needs] at h1 h2
    by_cases hk : k = 0
    · have hks : ks = [] := own_kids (Nd.fine_own hR) (by omega)
      subst hks
      simp only [Nd.lay, Bool.false_eq_true, or_false, if_pos hk]
      exact ⟨s, rfl, by simp [Nd.needs, Nd.need, hk, Nd.needsL], fun j v hj hji => rfl⟩
    · by_cases hn : (Nd.mk k z w b ks).need = 0
      · have hks : ks = [] := List.eq_nil_of_length_eq_zero (by have := hkn hk; omega)
        subst hks
        simp only [Nd.lay, Bool.false_eq_true, or_false, if_neg hk, if_pos hn, setP1]
        exact ⟨_, rfl, by rw [List.length_set]; simp [Nd.needs, hn, Nd.needsL], fun j v hj hji => by rw [List.set_comm _ _ hji]⟩
      · have hco : ((Nd.mk k z w b ks).content.length : Int) = (Nd.mk k z w b ks).need := Nd.content_length _ (by simp only [Nd.kind]; omega) (by simpa only [Nd.kind, Nd.bytes] using hb1)
        obtain ⟨s', h3, h4, h5⟩ := Nd.lays_at size ks (s.set i ((Nd.mk k z w b ks).near ((s.length : Int) - i - 1)) ++ (Nd.mk k z w b ks).content) (s.length + ((Nd.mk k z w b ks).need.toNat - ks.length)) (fun j hj => Nd.fine_kid hR hj)
          (by rw [List.length_append, List.length_set]; have := hkn hk; omega) (by rw [List.length_append, List.length_set]; omega) (by rw [List.length_append, List.length_set]; omega)
        rw [Nd.lay_step size hR hk hn (by omega) (by omega)]
        refine ⟨s', h3, ?_, fun j v hj hji => ?_⟩
        · rw [h4, List.length_append, List.length_set]
          simp only [Nd.needs]
          omega
        · rw [Nd.lay_step size hR hk hn (by rw [List.length_set]; omega) (by rw [List.length_set]; omega), List.length_set, List.set_comm _ _ hji]
          rw [← List.set_append_left _ _ (by rw [List.length_set]; exact hj)]
          exact h5 j v (by rw [List.length_append, List.length_set]; omega) (fun q hq => by omega)
theorem Nd.lays_at (size : Int) : ∀ (ts : List Nd) (s : List Int) (i : Nat), (∀ (j : Nat) (h : j < ts.length), ts[j].fine) → i + ts.length ≤ s.length → (s.length : Int) + Nd.needsL ts ≤ size → (s.length : Int) + Nd.needsL ts ≤ 4096 →
    ∃ s', Nd.lays size ts ⟨[s], false⟩ 0 i = ⟨[s'], false⟩ ∧ (s'.length : Int) = s.length + Nd.needsL ts ∧ ∀ j v, j < s.length → (∀ q, q < ts.length → j ≠ i + q) → Nd.lays size ts ⟨[s.set j v], false⟩ 0 i = ⟨[s'.set j v], false⟩
  | [], s, i, _, _, _, _ => ⟨s, rfl, by simp [Nd.needsL], fun j v _ _ => rfl⟩
  | t :: ts, s, i, hR, hi, h1, h2 => by
    have ha := Nd.needs_nn t
    have hb := Nd.needsL_nn ts
    simp only [Nd.needsL, List.length_cons] at h1 h2 hi
    obtain ⟨s1, h3, h4, h5⟩ := Nd.lay_at size t s i (hR 0 (by simp)) (by omega) (by omega) (by omega)
    obtain ⟨s2, h6, h7, h8⟩ := Nd.lays_at size ts s1 (i + 1) (fun j hj => by have := hR (j + 1) (by simpa using hj); simpa using this) (by omega) (by omega) (by omega)
    refine ⟨s2, by simp only [Nd.lays, h3, h6], ?_, fun j v hj hq => ?_⟩
    · simp only [Nd.needsL]
      omega
    · simp only [Nd.lays]
      rw [h5 j v hj (by have := hq 0 (by simp); omega)]
      exact h8 j v (by omega) (fun q hq2 => by have := hq (q + 1) (by simpa using hq2); omega)
end
def wrapN (n : Int) (t : Nd) : Nd := .mk 1 0 [n] [] [t]
theorem wrapN_right (n : Int) {t : Nd} {l : Nat} (h : t.right l = true) : (wrapN n t).right (l + 1) = true := by
  simp [wrapN, Nd.right, Nd.own, Nd.rights, h]
theorem wrapN_needs (n : Int) (t : Nd) : (wrapN n t).needs = 2 + t.needs := by simp [wrapN, Nd.needs, Nd.needsL, Nd.need]
theorem twice_one {t : Nd} (n : Int) (hR : t.right 31 = true) (h1 : 3 + t.needs ≤ 4096) : ∃ s : List Int, (∀ m, (wrapN m t).build 4096 = ([s.set 1 m], 0)) ∧ 2 ≤ s.length ∧ s.length ≤ 4096 := by
  have hnn := Nd.needs_nn t
  obtain ⟨s, h3, h4, h5⟩ := Nd.lay_at 4096 t [(wrapN n t).near 0, n, 0] 2 ⟨31, hR⟩ (by simp) (by simpa using h1) (by simpa using h1)
  simp only [List.length_cons, List.length_nil] at h4
  refine ⟨s, fun m => ?_, by omega, by omega⟩
  have h6 : (wrapN m t).lay 4096 ⟨[[0]], false⟩ 0 0 = ⟨[s.set 1 m], false⟩ := by
    have h7 := Nd.lay_step 4096 (k := 1) (z := 0) (w := [m]) (b := []) (ks := [t]) (s := [0]) (i := 0) ⟨32, wrapN_right m hR⟩ (by decide) (by simp [Nd.need]) (by simp [Nd.need]) (by simp [Nd.need])
    have h8 : (wrapN m t).near 0 = (wrapN n t).near 0 := rfl
    have h9 := h5 1 m (by simp) (by decide)
    show (Nd.mk 1 0 [m] [] [t]).lay 4096 ⟨[[0]], false⟩ 0 0 = _
    rw [h7]
    have h10 : ([0] : List Int).set 0 ((Nd.mk 1 0 [m] [] [t]).near ((([0] : List Int).length : Int) - ((0 : Nat) : Int) - 1)) ++ (Nd.mk 1 0 [m] [] [t]).content = [(wrapN n t).near 0, m, 0] := rfl
    rw [h10]
    have h11 : ([0] : List Int).length + ((Nd.mk 1 0 [m] [] [t]).need.toNat - [t].length) = 2 := rfl
    rw [h11, Nd.lays, Nd.lays]
    exact h9
  unfold Nd.build
  rw [if_neg (by rw [wrapN_right m hR]; simp), h6, if_neg (by simp)]
/-- What two lists are to each other that part at place 1 alone. -/
theorem set1_part {s : List Int} (n m : Int) (h : 2 ≤ s.length) (hnm : n ≠ m) : (s.set 1 n).length = s.length ∧ (s.set 1 m).length = s.length ∧ (s.set 1 n).getD 1 0 ≠ (s.set 1 m).getD 1 0 ∧ ∀ j, j ≠ 1 → (s.set 1 n).getD j 0 = (s.set 1 m).getD j 0 := by
  refine ⟨List.length_set, List.length_set, ?_, fun j hj => ?_⟩
  · simp [List.getD_eq_getElem?_getD, List.getElem?_set, show 1 < s.length from h, hnm]
  · simp [List.getD_eq_getElem?_getD, List.getElem?_set, show ¬ 1 = j from fun h => hj h.symm]
theorem wrapN_ne {n m : Int} {t : Nd} (h : n ≠ m) : (wrapN n t).beq (wrapN m t) = false := by
  cases hb : (wrapN n t).beq (wrapN m t) with
  | false => rfl
  | true => have := (Nd.beq_iff _ _).1 hb; simp only [wrapN, Nd.mk.injEq, List.cons.injEq] at this; exact absurd this.2.2.1.1 h
end Go.Proofs.Ytfhfecepcnapfaa.K
