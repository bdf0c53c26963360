/- Plain laws of chapter 10's statements. No program here. -/
import Derived.Test.YtfhfecepcnapfaaT11
import Derived.Test.YtfhfecepcnapfaaS08
import Derived.Test.YtfhfecepcnapfaaW09
set_option linter.unusedVariables false
set_option linter.unusedSimpArgs false
namespace Go.Proofs.Ytfhfecepcnapfaa.K
open Go Go.RowKit
def known10 : Nd := .mk 1 0 [7] [] []
theorem known10_ask : askT known10 [] 0 = (⟨1, 0, 0, 0, 7⟩, 0) := by decide +kernel
theorem dec_of {x : Int × Nd × Int} {p : Int} {t : Nd} {e : Int} (h : (decide (x.1 = p) && x.2.1.beq t && decide (x.2.2 = e)) = true) : x = (p, t, e) := by
  simp only [Bool.and_eq_true, decide_eq_true_eq, Nd.beq_iff] at h
  obtain ⟨⟨h1, h2⟩, h3⟩ := h
  exact Prod.ext h1 (Prod.ext h2 h3)
theorem known10_dec : nodeD (wholeS known9) 32 0 0 0 = (2, known10, 0) := dec_of (by decide +kernel)
theorem known10_cost : known10.cost = 2 := by decide +kernel
theorem beq_self (t : Nd) : t.beq t = true := (Nd.beq_iff _ _).2 rfl
/-! ### nothing -/
theorem zeros_ok {m : Nat} (h0 : 1 ≤ m) (h1 : m ≤ 4000) : OkA (noughts m) := by
  refine ⟨by simp [noughts], by simp [noughts], by simp [noughts]; omega, by simp [noughts, totalP]; omega, ?_⟩
  intro q hq x hx
  simp only [noughts, List.mem_singleton] at hq
  subst hq
  have := List.eq_of_mem_replicate hx
  subst this
  simp [inR]
theorem zeros_dec {m : Nat} (h0 : 1 ≤ m) : nodeD (wholeS (noughts m)) 32 0 0 0 = (1, .nil, 0) := by
  have hw : wordA (noughts m) 0 0 = (0, 0) := by
    unfold wordA
    rw [if_pos (by simp [noughts, len2]; omega)]
    simp [noughts, List.getD_eq_getElem?_getD]
    cases m with
    | zero => omega
    | succ m => simp [List.replicate_succ]
  have hf := follow_null (A := noughts m) (by rw [hw]) (by rw [hw])
  rw [nodeD_eq]
  unfold nodeK
  rw [hf]
  rfl
theorem ask_beyond (x : Nd) {k a : Int} (hk : 1 ≤ k) (ha : 0 ≤ a) : askT (.mk 1 0 [] [] [x]) [k] a = (Vl0, 0) := by
  have h1 : tstep (.mk 1 0 [] [] [x]) k = (.nil, 0) := by
    rw [tstep_mk, if_neg (by omega), if_neg (by simp; omega), if_neg (by omega)]
  have h2 : tat .nil a = (0, 0) := by
    unfold Nd.nil
    rw [tat_mk, if_neg (by omega), if_neg (by omega), if_neg (by omega), if_neg (by omega)]
  have h3 : tgo [k] (.mk 1 0 [] [] [x]) = (.nil, 0) := by
    rw [tgo, h1, if_neg (by simp)]
    rfl
  unfold askT
  rw [if_neg (by simp; omega), if_neg (by simp), h3, if_neg (by simp), tval, if_neg (by omega), h2, if_neg (by simp)]
  rfl
theorem ask_first (x : Nd) : askT (.mk 1 0 [] [] [x]) [0] (-1) = (⟨x.kind, x.size, (x.words.length : Int) + x.bytes.length, x.kids.length, 0⟩, 0) := by
  have h1 : tstep (.mk 1 0 [] [] [x]) 0 = (x, 0) := by
    rw [tstep_mk, if_neg (by omega), if_pos (by simp)]
    rfl
  have h3 : tgo [0] (.mk 1 0 [] [] [x]) = (x, 0) := by
    rw [tgo, h1, if_neg (by simp)]
    rfl
  unfold askT
  rw [if_neg (by simp), if_neg (by simp), h3, if_neg (by simp), tval, if_pos (by omega)]
end Go.Proofs.Ytfhfecepcnapfaa.K
