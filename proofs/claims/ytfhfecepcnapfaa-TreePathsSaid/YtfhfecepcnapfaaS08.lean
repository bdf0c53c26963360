/- Trees compared. Plain law. -/
import Derived.Test.YtfhfecepcnapfaaO08
set_option linter.unusedVariables false
namespace Go.Proofs.Ytfhfecepcnapfaa.K
open Go Go.RowKit
mutual
def Nd.beq : Nd → Nd → Bool
  | .mk k s w b ks, .mk k' s' w' b' ks' => decide (k = k') && decide (s = s') && decide (w = w') && decide (b = b') && Nd.beqs ks ks'
def Nd.beqs : List Nd → List Nd → Bool
  | [], [] => true
  | [], _ :: _ => false
  | _ :: _, [] => false
  | t :: ts, u :: us => t.beq u && Nd.beqs ts us
end
mutual
theorem Nd.beq_iff : ∀ (t u : Nd), t.beq u = true ↔ t = u
  | .mk k s w b ks, .mk k' s' w' b' ks' => by
    simp only [Nd.beq, Bool.and_eq_true, decide_eq_true_eq, Nd.mk.injEq, Nd.beqs_iff ks ks', and_assoc]
theorem Nd.beqs_iff : ∀ (t u : List Nd), Nd.beqs t u = true ↔ t = u
  | [], [] => by simp [Nd.beqs]
  | [], _ :: _ => by simp [Nd.beqs]
  | _ :: _, [] => by simp [Nd.beqs]
  | t :: ts, u :: us => by
    simp only [Nd.beqs, Bool.and_eq_true, List.cons.injEq, Nd.beq_iff t u, Nd.beqs_iff ts us]
end
theorem Nd.beqs_all : ∀ (t u : List Nd), (decide (t.length = u.length) && (List.range t.length).all fun i => (t.getD i (.mk 0 0 [] [] [])).beq (u.getD i (.mk 0 0 [] [] []))) = Nd.beqs t u
  | [], [] => by simp [Nd.beqs]
  | [], _ :: _ => by simp [Nd.beqs]
  | _ :: _, [] => by simp [Nd.beqs]
  | t :: ts, u :: us => by
    rw [Nd.beqs, ← Nd.beqs_all ts us, List.length_cons, List.length_cons, List.range_succ_eq_map, List.all_cons, List.all_map]
    have h : decide (ts.length + 1 = us.length + 1) = decide (ts.length = us.length) := by
      by_cases h : ts.length = us.length
      · rw [decide_eq_true h, decide_eq_true (by omega)]
      · rw [decide_eq_false h, decide_eq_false (by omega)]
    rw [h]
    show (decide (ts.length = us.length) && (t.beq u && (List.range ts.length).all fun i => (ts.getD i (.mk 0 0 [] [] [])).beq (us.getD i (.mk 0 0 [] [] [])))) = _
    cases decide (ts.length = us.length) <;> cases t.beq u <;> simp
theorem all_range_no {n k : Nat} {p : Nat → Bool} (hk : k < n) (h : p k = false) : (List.range n).all p = false := by
  rw [List.all_eq_false]
  exact ⟨k, List.mem_range.2 hk, by rw [h]; decide⟩
theorem all_range_yes {n : Nat} {p : Nat → Bool} (h : ∀ j, j < n → p j = true) : (List.range n).all p = true := by
  rw [List.all_eq_true]
  exact fun j hj => h j (List.mem_range.1 hj)
end Go.Proofs.Ytfhfecepcnapfaa.K
