/- Plain laws of chapter 09's statements. No program here. -/
import Derived.Test.YtfhfecepcnapfaaR09
import Derived.Test.YtfhfecepcnapfaaP08
set_option linter.unusedVariables false
set_option linter.unusedSimpArgs false
namespace Go.Proofs.Ytfhfecepcnapfaa.K
open Go Go.RowKit
def known9 : List (List Int) := [[4294967296, 7]]
theorem known9_build : (Nd.mk 1 0 [7] [] []).build 9 = (known9, 0) := by decide +kernel
theorem known9_ok : OkA known9 := ⟨by decide, by decide, by decide, by decide, by
  intro q hq x hx
  simp only [known9, List.mem_singleton] at hq
  subst hq
  simp only [List.mem_cons, List.not_mem_nil, or_false] at hx
  rcases hx with rfl | rfl <;> simp [inR]⟩
theorem rowat_nil (w : World) (sz : Nat) : RowAt w sz none 0 [] := ⟨by simp, by omega, fun h => by omega⟩
theorem known9_a : walkS (wholeS known9) [] 0 10 = (⟨1, 0, 0, 0, 7⟩, 0) := by decide +kernel
theorem known9_b : walkS (wholeS known9) [] 0 1 = (Vl0, 22) := by decide +kernel
/-! ### noughts -/
theorem step_null (s : Src) (k : Int) : stepS s Ob0 k = (Ob0, 0) := by unfold stepS; rw [if_pos (.inl rfl)]
theorem val_null (s : Src) (a : Int) : valS s Ob0 a = (Vl0, 0) := by
  unfold valS
  split
  · rfl
  · have h : atS s Ob0 a = (0, 0) := by unfold atS; rw [if_pos (.inl rfl)]
    rw [h]; rfl
theorem next_null (s : Src) (a : Int) : ∀ (ks : List Int) (left : Int), (ks.length : Int) ≤ left → nextS s a ks Ob0 left = (Vl0, 0)
  | [], left, _ => by rw [nextS]; exact val_null s a
  | k :: ks, left, h => by
    simp only [List.length_cons] at h
    have hw : wordsO Ob0 = 0 := rfl
    rw [nextS, step_null, if_neg (by decide), hw, if_neg (by omega)]
    exact next_null s a ks _ (by omega)
theorem follow_null {A : List (List Int)} (h : (wordA A 0 0).1 = 0) (h2 : (wordA A 0 0).2 = 0) : followS (wholeS A) 0 0 = (Ob0, 0) := by
  have hp : ptrS (wholeS A) 0 0 = (Pt0, 0) := by
    unfold ptrS
    show (if (wordA A 0 0).2 ≠ 0 then (Pt0, (wordA A 0 0).2) else (decP (wordA A 0 0).1, decE (wordA A 0 0).1)) = _
    rw [h, h2]; rfl
  unfold followS
  rw [hp, if_pos (.inr rfl)]
def noughts (m : Nat) : List (List Int) := [List.replicate m 0]
theorem noughts_ok {m : Nat} (h0 : 1 ≤ m) (h1 : m ≤ 30) : OkA (noughts m) := by
  refine ⟨by simp [noughts], by simp [noughts], by simp [noughts]; omega, by simp [noughts, totalP]; omega, ?_⟩
  intro q hq x hx
  simp only [noughts, List.mem_singleton] at hq
  subst hq
  have := List.eq_of_mem_replicate hx
  subst this
  simp [inR]
theorem noughts_walk {m : Nat} (h0 : 1 ≤ m) {steps : List Int} (hs : ∀ x ∈ steps, 0 ≤ x) (hl : steps.length ≤ 32) (a : Int) : walkS (wholeS (noughts m)) steps a 100 = (Vl0, 0) := by
  have hw : wordA (noughts m) 0 0 = (0, 0) := by
    unfold wordA
    rw [if_pos (by simp [noughts, len2]; omega)]
    simp [noughts, List.getD_eq_getElem?_getD]
    cases m with
    | zero => omega
    | succ m => simp [List.replicate_succ]
  have hf := follow_null (A := noughts m) (by rw [hw]) (by rw [hw])
  unfold walkS
  have hw0 : wordsO Ob0 = 0 := rfl
  rw [if_neg (fun ⟨k, hk, h⟩ => by have := hs k hk; omega), if_neg (by omega), hf, if_neg (by decide), hw0, if_neg (by decide)]
  exact next_null _ _ _ _ (by have : max (100 : Int) (-1) = 100 := by decide
                              rw [this]; omega)
theorem long_walk (s : Src) {steps : List Int} (hs : ∀ x ∈ steps, 0 ≤ x) (hl : 32 < steps.length) (a c : Int) : walkS s steps a c = (Vl0, 3) := by
  unfold walkS
  rw [if_neg (fun ⟨k, hk, h⟩ => by have := hs k hk; omega), if_pos (by omega)]
/-- The path that choices say. -/
def pathP (c : List Int) : List Int := (c.take 6).map (· % 6)
theorem pathP_range {c : List Int} : ∀ x ∈ pathP c, 0 ≤ x ∧ x ≤ 5 := by
  intro x hx
  obtain ⟨y, _, rfl⟩ := List.mem_map.1 hx
  omega
theorem pathP_length (c : List Int) : (pathP c).length ≤ 6 := by simp only [pathP, List.length_map, List.length_take]; omega
theorem arena_one {w : World} {b : Nat} {u : Value} {q : List Int} {T : TypeId} {fr : Nat × Nat} (hb : w.heap[b]? = some (.cells #[u] T fr)) (hu : Row w 1 u q.length (wordsV q)) : ArenaR w (.slice (some ⟨b, 0, none⟩) 1 1) [q] := by
  refine ⟨[u], Row.of_block (n := 1) hb rfl rfl (by decide), fun i s hi => ?_⟩
  cases i with
  | zero => simp only [List.getElem?_cons_zero, Option.some.injEq] at hi; subst hi; exact ⟨u, rfl, hu⟩
  | succ i => simp at hi
theorem wordsV_zero (m : Nat) : wordsV (List.replicate m 0) = List.replicate m (.int .u64 0) := by simp [wordsV]
end Go.Proofs.Ytfhfecepcnapfaa.K
