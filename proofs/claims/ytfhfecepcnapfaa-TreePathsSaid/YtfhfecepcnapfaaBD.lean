/- Contracts of chapter 08's functions (printed by build08.py). -/
import Derived.Test.YtfhfecepcnapfaaT
import Derived.Test.YtfhfecepcnapfaaM08
import Derived.Test.YtfhfecepcnapfaaB08
set_option linter.unusedVariables false
set_option linter.unusedSimpArgs false
namespace Go.Proofs.Ytfhfecepcnapfaa.K
open Go Go.RowKit Go.Proofs
attribute [local irreducible] Run1 OpG WL W AO Gives
set_option maxRecDepth 100000 in
theorem add_calls (w : World) (a b : Int) (h0 : 0 ≤ a) (h1 : a ≤ 4096) (h2 : 0 ≤ b) (h3 : b ≤ 140737488355328) : Gives Try.prog 85 #[.int .i64 a, .int .i64 b, .int .i64 4096] w (.tuple #[.int .i64 (if a + b ≤ 4096 then a + b else 0), .bool (decide (a + b ≤ 4096))]) := by
 have G := Grow.rfl' w
 refine gives_of Try.func85 Try.ntmps85 Try.results85 rfl rfl ?_
 by_cases hab : a ≤ b
 ·
  by_cases hs : a + b ≤ 4096
  ·
   refine W_seq (W_region rfl ?_)
   refine WL_some (og rfl ?_)
   (first | refine r_assign_int rfl ?_ | refine r_assign rfl ?_)
   refine WL_some (og rfl ?_)
   (first | refine r_assign_bool rfl ?_ | refine r_assign rfl ?_)
   refine WL_nil ?_
   refine W_seq ?_
   refine W_seq (W_region rfl ?_)
   refine WL_some (og rfl ?_)
   (first | refine r_move_int rfl ?_ | refine r_move rfl ?_)
   refine WL_some (og rfl ?_)
   (first | refine r_move_int rfl ?_ | refine r_move rfl ?_)
   refine WL_some (og rfl ?_)
   (first | (refine r_min_l rfl rfl rfl ?_ ?_; omega) | (refine r_min_r rfl rfl rfl ?_ ?_; omega) | refine r_min rfl rfl rfl ?_)
   refine WL_some (og rfl ?_)
   (first | (refine r_lss_t rfl rfl ?_ ?_; (first | assumption | omega)) | (refine r_lss_f rfl rfl ?_ ?_; (first | assumption | omega)) | refine r_lss rfl rfl ?_)
   refine WL_some (og rfl ?_)
   (first | refine r_move_bool rfl ?_ | refine r_move rfl ?_)
   refine WL_some (og rfl ?_)
   (first | refine r_move_int rfl ?_ | refine r_move rfl ?_)
   refine WL_some (og rfl ?_)
   (first | refine r_move_int rfl ?_ | refine r_move rfl ?_)
   refine WL_some (og rfl ?_)
   (first | (refine r_gtr_t rfl rfl ?_ ?_; (first | assumption | omega)) | (refine r_gtr_f rfl rfl ?_ ?_; (first | assumption | omega)) | refine r_gtr rfl rfl ?_)
   refine stp (r_pick_f rfl rfl rfl ?_)
   refine WL_some (og rfl ?_)
   (first | refine r_move_bool rfl ?_ | refine r_move rfl ?_)
   refine WL_some (og rfl ?_)
   (first | refine r_move_int rfl ?_ | refine r_move rfl ?_)
   refine WL_some (og rfl ?_)
   (first | refine r_move_int rfl ?_ | refine r_move rfl ?_)
   refine WL_some (og rfl ?_)
   (first | refine r_move_int rfl ?_ | refine r_move rfl ?_)
   refine WL_some (og rfl ?_)
   (first | (refine r_sub rfl rfl ?_ ?_; (constructor <;> omega)) | refine r_subw rfl rfl ?_)
   refine WL_some (og rfl ?_)
   (first | (refine r_gtr_t rfl rfl ?_ ?_; (first | assumption | omega)) | (refine r_gtr_f rfl rfl ?_ ?_; (first | assumption | omega)) | refine r_gtr rfl rfl ?_)
   refine stp (r_pick_f rfl rfl rfl ?_)
   refine WL_nil ?_
   refine W_false rfl ?_
   refine W_skip ?_
   refine W_seq (W_region rfl ?_)
   refine WL_some (og rfl ?_)
   (first | refine r_move_int rfl ?_ | refine r_move rfl ?_)
   refine WL_some (og rfl ?_)
   (first | refine r_move_int rfl ?_ | refine r_move rfl ?_)
   refine WL_some (og rfl ?_)
   (first | (refine r_add rfl rfl ?_ ?_; (constructor <;> omega)) | refine r_addw rfl rfl ?_)
   refine WL_some (og rfl ?_)
   (first | refine r_assign_int rfl ?_ | refine r_assign rfl ?_)
   refine WL_some (og rfl ?_)
   (first | refine r_assign_bool rfl ?_ | refine r_assign rfl ?_)
   refine WL_nil ?_
   refine W_ret ?_
   refine ret2 (res_int rfl) (res_bool rfl) ⟨?_, G⟩
   simp [hs]
  ·
   refine W_seq (W_region rfl ?_)
   refine WL_some (og rfl ?_)
   (first | refine r_assign_int rfl ?_ | refine r_assign rfl ?_)
   refine WL_some (og rfl ?_)
   (first | refine r_assign_bool rfl ?_ | refine r_assign rfl ?_)
   refine WL_nil ?_
   refine W_seq ?_
   refine W_seq (W_region rfl ?_)
   refine WL_some (og rfl ?_)
   (first | refine r_move_int rfl ?_ | refine r_move rfl ?_)
   refine WL_some (og rfl ?_)
   (first | refine r_move_int rfl ?_ | refine r_move rfl ?_)
   refine WL_some (og rfl ?_)
   (first | (refine r_min_l rfl rfl rfl ?_ ?_; omega) | (refine r_min_r rfl rfl rfl ?_ ?_; omega) | refine r_min rfl rfl rfl ?_)
   refine WL_some (og rfl ?_)
   (first | (refine r_lss_t rfl rfl ?_ ?_; (first | assumption | omega)) | (refine r_lss_f rfl rfl ?_ ?_; (first | assumption | omega)) | refine r_lss rfl rfl ?_)
   refine WL_some (og rfl ?_)
   (first | refine r_move_bool rfl ?_ | refine r_move rfl ?_)
   refine WL_some (og rfl ?_)
   (first | refine r_move_int rfl ?_ | refine r_move rfl ?_)
   refine WL_some (og rfl ?_)
   (first | refine r_move_int rfl ?_ | refine r_move rfl ?_)
   refine WL_some (og rfl ?_)
   (first | (refine r_gtr_t rfl rfl ?_ ?_; (first | assumption | omega)) | (refine r_gtr_f rfl rfl ?_ ?_; (first | assumption | omega)) | refine r_gtr rfl rfl ?_)
   refine stp (r_pick_f rfl rfl rfl ?_)
   refine WL_some (og rfl ?_)
   (first | refine r_move_bool rfl ?_ | refine r_move rfl ?_)
   refine WL_some (og rfl ?_)
   (first | refine r_move_int rfl ?_ | refine r_move rfl ?_)
   refine WL_some (og rfl ?_)
   (first | refine r_move_int rfl ?_ | refine r_move rfl ?_)
   refine WL_some (og rfl ?_)
   (first | refine r_move_int rfl ?_ | refine r_move rfl ?_)
   refine WL_some (og rfl ?_)
   (first | (refine r_sub rfl rfl ?_ ?_; (constructor <;> omega)) | refine r_subw rfl rfl ?_)
   refine WL_some (og rfl ?_)
   (first | (refine r_gtr_t rfl rfl ?_ ?_; (first | assumption | omega)) | (refine r_gtr_f rfl rfl ?_ ?_; (first | assumption | omega)) | refine r_gtr rfl rfl ?_)
   refine stp (r_pick_f rfl rfl rfl ?_)
   refine WL_nil ?_
   refine W_true rfl ?_
   refine W_seq (W_region rfl ?_)
   refine WL_some (og rfl ?_)
   (first | refine r_assign_int rfl ?_ | refine r_assign rfl ?_)
   refine WL_some (og rfl ?_)
   (first | refine r_assign_bool rfl ?_ | refine r_assign rfl ?_)
   refine WL_nil ?_
   refine W_ret ?_
   refine ret2 (res_int rfl) (res_bool rfl) ⟨?_, G⟩
   simp [hs]
 ·
  by_cases hs : a + b ≤ 4096
  ·
   refine W_seq (W_region rfl ?_)
   refine WL_some (og rfl ?_)
   (first | refine r_assign_int rfl ?_ | refine r_assign rfl ?_)
   refine WL_some (og rfl ?_)
   (first | refine r_assign_bool rfl ?_ | refine r_assign rfl ?_)
   refine WL_nil ?_
   refine W_seq ?_
   refine W_seq (W_region rfl ?_)
   refine WL_some (og rfl ?_)
   (first | refine r_move_int rfl ?_ | refine r_move rfl ?_)
   refine WL_some (og rfl ?_)
   (first | refine r_move_int rfl ?_ | refine r_move rfl ?_)
   refine WL_some (og rfl ?_)
   (first | (refine r_min_l rfl rfl rfl ?_ ?_; omega) | (refine r_min_r rfl rfl rfl ?_ ?_; omega) | refine r_min rfl rfl rfl ?_)
   refine WL_some (og rfl ?_)
   (first | (refine r_lss_t rfl rfl ?_ ?_; (first | assumption | omega)) | (refine r_lss_f rfl rfl ?_ ?_; (first | assumption | omega)) | refine r_lss rfl rfl ?_)
   refine WL_some (og rfl ?_)
   (first | refine r_move_bool rfl ?_ | refine r_move rfl ?_)
   refine WL_some (og rfl ?_)
   (first | refine r_move_int rfl ?_ | refine r_move rfl ?_)
   refine WL_some (og rfl ?_)
   (first | refine r_move_int rfl ?_ | refine r_move rfl ?_)
   refine WL_some (og rfl ?_)
   (first | (refine r_gtr_t rfl rfl ?_ ?_; (first | assumption | omega)) | (refine r_gtr_f rfl rfl ?_ ?_; (first | assumption | omega)) | refine r_gtr rfl rfl ?_)
   refine stp (r_pick_f rfl rfl rfl ?_)
   refine WL_some (og rfl ?_)
   (first | refine r_move_bool rfl ?_ | refine r_move rfl ?_)
   refine WL_some (og rfl ?_)
   (first | refine r_move_int rfl ?_ | refine r_move rfl ?_)
   refine WL_some (og rfl ?_)
   (first | refine r_move_int rfl ?_ | refine r_move rfl ?_)
   refine WL_some (og rfl ?_)
   (first | refine r_move_int rfl ?_ | refine r_move rfl ?_)
   refine WL_some (og rfl ?_)
   (first | (refine r_sub rfl rfl ?_ ?_; (constructor <;> omega)) | refine r_subw rfl rfl ?_)
   refine WL_some (og rfl ?_)
   (first | (refine r_gtr_t rfl rfl ?_ ?_; (first | assumption | omega)) | (refine r_gtr_f rfl rfl ?_ ?_; (first | assumption | omega)) | refine r_gtr rfl rfl ?_)
   refine stp (r_pick_f rfl rfl rfl ?_)
   refine WL_nil ?_
   refine W_false rfl ?_
   refine W_skip ?_
   refine W_seq (W_region rfl ?_)
   refine WL_some (og rfl ?_)
   (first | refine r_move_int rfl ?_ | refine r_move rfl ?_)
   refine WL_some (og rfl ?_)
   (first | refine r_move_int rfl ?_ | refine r_move rfl ?_)
   refine WL_some (og rfl ?_)
   (first | (refine r_add rfl rfl ?_ ?_; (constructor <;> omega)) | refine r_addw rfl rfl ?_)
   refine WL_some (og rfl ?_)
   (first | refine r_assign_int rfl ?_ | refine r_assign rfl ?_)
   refine WL_some (og rfl ?_)
   (first | refine r_assign_bool rfl ?_ | refine r_assign rfl ?_)
   refine WL_nil ?_
   refine W_ret ?_
   refine ret2 (res_int rfl) (res_bool rfl) ⟨?_, G⟩
   simp [hs]
  ·
   refine W_seq (W_region rfl ?_)
   refine WL_some (og rfl ?_)
   (first | refine r_assign_int rfl ?_ | refine r_assign rfl ?_)
   refine WL_some (og rfl ?_)
   (first | refine r_assign_bool rfl ?_ | refine r_assign rfl ?_)
   refine WL_nil ?_
   refine W_seq ?_
   refine W_seq (W_region rfl ?_)
   refine WL_some (og rfl ?_)
   (first | refine r_move_int rfl ?_ | refine r_move rfl ?_)
   refine WL_some (og rfl ?_)
   (first | refine r_move_int rfl ?_ | refine r_move rfl ?_)
   refine WL_some (og rfl ?_)
   (first | (refine r_min_l rfl rfl rfl ?_ ?_; omega) | (refine r_min_r rfl rfl rfl ?_ ?_; omega) | refine r_min rfl rfl rfl ?_)
   refine WL_some (og rfl ?_)
   (first | (refine r_lss_t rfl rfl ?_ ?_; (first | assumption | omega)) | (refine r_lss_f rfl rfl ?_ ?_; (first | assumption | omega)) | refine r_lss rfl rfl ?_)
   refine WL_some (og rfl ?_)
   (first | refine r_move_bool rfl ?_ | refine r_move rfl ?_)
   refine WL_some (og rfl ?_)
   (first | refine r_move_int rfl ?_ | refine r_move rfl ?_)
   refine WL_some (og rfl ?_)
   (first | refine r_move_int rfl ?_ | refine r_move rfl ?_)
   refine WL_some (og rfl ?_)
   (first | (refine r_gtr_t rfl rfl ?_ ?_; (first | assumption | omega)) | (refine r_gtr_f rfl rfl ?_ ?_; (first | assumption | omega)) | refine r_gtr rfl rfl ?_)
   refine stp (r_pick_f rfl rfl rfl ?_)
   refine WL_some (og rfl ?_)
   (first | refine r_move_bool rfl ?_ | refine r_move rfl ?_)
   refine WL_some (og rfl ?_)
   (first | refine r_move_int rfl ?_ | refine r_move rfl ?_)
   refine WL_some (og rfl ?_)
   (first | refine r_move_int rfl ?_ | refine r_move rfl ?_)
   refine WL_some (og rfl ?_)
   (first | refine r_move_int rfl ?_ | refine r_move rfl ?_)
   refine WL_some (og rfl ?_)
   (first | (refine r_sub rfl rfl ?_ ?_; (constructor <;> omega)) | refine r_subw rfl rfl ?_)
   refine WL_some (og rfl ?_)
   (first | (refine r_gtr_t rfl rfl ?_ ?_; (first | assumption | omega)) | (refine r_gtr_f rfl rfl ?_ ?_; (first | assumption | omega)) | refine r_gtr rfl rfl ?_)
   refine stp (r_pick_f rfl rfl rfl ?_)
   refine WL_nil ?_
   refine W_true rfl ?_
   refine W_seq (W_region rfl ?_)
   refine WL_some (og rfl ?_)
   (first | refine r_assign_int rfl ?_ | refine r_assign rfl ?_)
   refine WL_some (og rfl ?_)
   (first | refine r_assign_bool rfl ?_ | refine r_assign rfl ?_)
   refine WL_nil ?_
   refine W_ret ?_
   refine ret2 (res_int rfl) (res_bool rfl) ⟨?_, G⟩
   simp [hs]

set_option maxRecDepth 100000 in
theorem awords_calls (w : World) {ad : Option Addr} {n c : Nat} {segs : List Value} {A : List (List Int)} (R : RowAt w 1 ad n segs) (hA : A.length = n) (hs : ∀ (i : Nat) (s : List Int), A[i]? = some s → ∃ v, segs[i]? = some v ∧ Row w 1 v s.length (wordsV s)) (hn : n ≤ 1000) (hm : ∀ s ∈ A, s.length ≤ 100000) : Gives Try.prog 83 #[.slice ad n c] w (.int .i64 (totalP A)) := by
 have G := Grow.rfl' w
 refine gives_of Try.func83 Try.ntmps83 Try.results83 rfl rfl ?_
 refine W_seq (W_region rfl ?_)
 refine WL_some (og rfl ?_)
 (first | refine r_assign_int rfl ?_ | refine r_assign rfl ?_)
 refine WL_nil ?_
 refine W_seq (W_region rfl ?_)
 refine WL_some (og rfl ?_)
 (first | refine r_assign_int rfl ?_ | refine r_assign rfl ?_)
 refine WL_nil ?_
 refine W_seq ?_
 refine W_seq (W_region rfl ?_)
 refine WL_some (og rfl ?_)
 (first | refine r_assign_int rfl ?_ | refine r_assign rfl ?_)
 refine WL_nil ?_
 refine W_block ?_
 refine W_loop (fun m_ e_ w_ => ∃ (k : Nat), m_ = n - k ∧ Fr [(0, .slice ad n c), (3, .int .i64 (totalP (A.take k))), (4, .int .i64 (k : Int))] e_ ∧ (k ≤ n) ∧ Grow w w_) _ ⟨0, rfl, fr_of ⟨rfl, rfl, rfl, trivial⟩, by omega, G⟩ ?_
 clear G
 rintro m_ e_ w1 ⟨k, rfl, ⟨e2, rfl⟩, hk, G⟩
 refine W_seq ?_
 refine W_seq (W_region rfl ?_)
 refine WL_some (og rfl ?_)
 (first | refine r_move_int rfl ?_ | refine r_move rfl ?_)
 refine WL_some (og rfl ?_)
 (first | refine r_move_slice rfl ?_ | refine r_move rfl ?_)
 refine stp (r_len rfl rfl rfl ?_)
 refine WL_some (og rfl ?_)
 (first | (refine r_lss_t rfl rfl ?_ ?_; (first | assumption | omega)) | (refine r_lss_f rfl rfl ?_ ?_; (first | assumption | omega)) | refine r_lss rfl rfl ?_)
 refine WL_nil ?_
 refine W_cond2 rfl (fun hlt => ?_) (fun hlt => ?_)
 ·-- true
  first | (replace hlt := of_decide_eq_true hlt) | (replace hlt := of_decide_eq_false hlt) | skip
  have hi : k < A.length := by omega
  obtain ⟨v, hv, ad2, c2, rfl, hc1, hc2, R2⟩ := hs k A[k] (List.getElem?_eq_getElem hi)
  obtain ⟨b_, o_, cs_, T_, fr_, rfl, hb_, hx_⟩ := (R.grow G).at_ (by omega)
  have ht := totalP_take hi
  have hb1 := totalP_bound (A := A.take k) (fun s h => hm s (List.mem_of_mem_take h))
  have hlk : (A.take k).length ≤ 1000 := by rw [List.length_take]; omega
  have hmk := hm A[k] (List.getElem_mem hi)
  refine W_skip ?_
  refine W_seq ?_
  refine W_block ?_
  refine W_region rfl ?_
  refine WL_some (og rfl ?_)
  (first | refine r_move_int rfl ?_ | refine r_move rfl ?_)
  refine WL_some (og rfl ?_)
  (first | refine r_move_slice rfl ?_ | refine r_move rfl ?_)
  refine WL_some (og rfl ?_)
  (first | refine r_move_int rfl ?_ | refine r_move rfl ?_)
  refine WL_some (og rfl ?_)
  (refine r_indexAddr rfl rfl ?_ ?_ ?_; omega; omega)
  refine stp (r_load (v := .slice ad2 A[k].length c2) rfl hb_ (by rw [Int.toNat_natCast, Nat.mul_one]; exact row_cell hx_ hv) ?_)
  refine stp (r_len rfl rfl rfl ?_)
  refine WL_some (og rfl ?_)
  (first | (refine r_add rfl rfl ?_ ?_; (constructor <;> omega)) | refine r_addw rfl rfl ?_)
  refine WL_some (og rfl ?_)
  (first | refine r_assign_int rfl ?_ | refine r_assign rfl ?_)
  refine WL_nil ?_
  refine W_region rfl ?_
  refine WL_some (og rfl ?_)
  (first | refine r_move_int rfl ?_ | refine r_move rfl ?_)
  refine WL_some (og rfl ?_)
  (first | (refine r_add rfl rfl ?_ ?_; (constructor <;> omega)) | refine r_addw rfl rfl ?_)
  refine WL_some (og rfl ?_)
  (first | refine r_assign_int rfl ?_ | refine r_assign rfl ?_)
  refine WL_nil ?_
  refine ⟨_, ?_, k + 1, rfl, fr_of ⟨rfl, congrArg (Value.int .i64) ht.symm, rfl, trivial⟩, by omega, G⟩
  omega
 ·-- false
  first | (replace hlt := of_decide_eq_true hlt) | (replace hlt := of_decide_eq_false hlt) | skip
  have hk2 : k = A.length := by omega
  subst hk2
  refine W_exit ?_
  refine W_seq (W_region rfl ?_)
  refine WL_some (og rfl ?_)
  (first | refine r_move_int rfl ?_ | refine r_move rfl ?_)
  refine WL_some (og rfl ?_)
  (first | refine r_assign_int rfl ?_ | refine r_assign rfl ?_)
  refine WL_nil ?_
  refine W_ret ?_
  refine ret1 (res_int rfl) ⟨?_, G⟩
  rw [List.take_length]

set_option maxRecDepth 100000 in
theorem sizes_calls (w : World) {ad : Option Addr} {n c : Nat} {segs : List Value} {A : List (List Int)} (R : RowAt w 1 ad n segs) (hA : A.length = n) (hs : ∀ (i : Nat) (s : List Int), A[i]? = some s → ∃ v, segs[i]? = some v ∧ Row w 1 v s.length (wordsV s)) (hn : n ≤ 1000) : Calls Try.prog 62 #[.slice ad n c] w (Ret fun v w' => w'.ownsRow w.heap.size 3 1 v n (A.map fun s => .int .i64 (s.length : Int)) ∧ Grow w w') := by
 have G := Grow.rfl' w
 refine calls_ret Try.func62 Try.ntmps62 Try.results62 rfl rfl ?_
 refine W_seq (W_region rfl ?_)
 refine WL_some (og rfl ?_)
 (first | refine r_assign_slice rfl ?_ | refine r_assign rfl ?_)
 refine WL_nil ?_
 refine W_seq (W_region rfl ?_)
 refine WL_some (og rfl ?_)
 (first | refine r_assign_slice rfl ?_ | refine r_assign rfl ?_)
 refine WL_nil ?_
 refine W_seq ?_
 refine W_seq (W_region rfl ?_)
 refine WL_some (og rfl ?_)
 (first | refine r_move_slice rfl ?_ | refine r_move rfl ?_)
 refine stp (r_len rfl rfl rfl ?_)
 refine WL_some (og rfl ?_)
 (first | refine r_move_int rfl ?_ | refine r_move rfl ?_)
 refine WL_nil ?_
 refine W_block ?_
 refine W_loop (fun m_ e_ w_ => ∃ (k : Nat) (v : Value), m_ = n - k ∧ Fr [(3, v), (6, .slice ad n c), (7, .int .i64 (n : Int)), (8, .int .i64 (k : Int))] e_ ∧ (k ≤ n) ∧ (w_.ownsRow w.heap.size 3 1 v k ((A.take k).map fun s => .int .i64 (s.length : Int))) ∧ Grow w w_) _ ⟨0, .slice none 0 0, rfl, fr_of ⟨rfl, rfl, rfl, rfl, trivial⟩, by omega, World.ownsRow_nil _ _ _ _, G⟩ ?_
 clear G
 rintro m_ e_ w1 ⟨k, v, rfl, ⟨e2, rfl⟩, hk, own, G⟩
 refine W_seq (W_region rfl ?_)
 refine WL_some (og rfl ?_)
 (first | (refine r_lss_t rfl rfl ?_ ?_; (first | assumption | omega)) | (refine r_lss_f rfl rfl ?_ ?_; (first | assumption | omega)) | refine r_lss rfl rfl ?_)
 refine WL_nil ?_
 refine W_seq ?_
 refine W_cond2 rfl (fun hlt => ?_) (fun hlt => ?_)
 ·-- true
  first | (replace hlt := of_decide_eq_true hlt) | (replace hlt := of_decide_eq_false hlt) | skip
  have hi : k < A.length := by omega
  obtain ⟨v2, hv2, ad2, c2, rfl, hc1, hc2, R2⟩ := hs k A[k] (List.getElem?_eq_getElem hi)
  obtain ⟨b_, o_, cs_, T_, fr_, rfl, hb_, hx_⟩ := (R.grow G).at_ (by omega)
  refine W_skip ?_
  refine W_seq ?_
  refine W_block ?_
  refine W_seq (W_region rfl ?_)
  refine WL_some (og rfl ?_)
  (refine r_indexAddr rfl rfl ?_ ?_ ?_; omega; omega)
  refine stp (r_load (v := .slice ad2 A[k].length c2) rfl hb_ (by rw [Int.toNat_natCast, Nat.mul_one]; exact row_cell hx_ hv2) ?_)
  refine WL_some (og rfl ?_)
  (first | refine r_assign_slice rfl ?_ | refine r_assign rfl ?_)
  refine WL_nil ?_
  refine W_region rfl ?_
  refine WL_some (og rfl ?_)
  (first | refine r_move_slice rfl ?_ | refine r_move rfl ?_)
  refine WL_some (og rfl ?_)
  (first | refine r_move_slice rfl ?_ | refine r_move rfl ?_)
  refine stp (r_len rfl rfl rfl ?_)
  refine stp (r_buildSlice (cs := #[.int .i64 (A[k].length : Int)]) (el := 3) (fun w => by kernel_rfl) ?_)
  intro bs w5 hbs hcs g5
  replace own := own_grow own g5
  replace hb_ := g5.heap hb_
  replace G := G.tr g5
  refine stp (r_append rfl rfl rfl rfl own (Row.of_block (n := 1) hcs rfl rfl (by omega)) (fun q_ hq_ => by simp at hq_; subst hq_; rfl) (by simp only [maxLen]; omega) (by omega) G.size ?_)
  intro v6 w6 own6 gr6
  replace G := G.grown gr6 (own_ge own)
  refine WL_some (og rfl ?_)
  (first | refine r_assign_slice rfl ?_ | refine r_assign rfl ?_)
  refine WL_nil ?_
  refine W_region rfl ?_
  refine WL_some (og rfl ?_)
  (first | (refine r_add rfl rfl ?_ ?_; (constructor <;> omega)) | refine r_addw rfl rfl ?_)
  refine WL_some (og rfl ?_)
  (first | refine r_move_int rfl ?_ | refine r_move rfl ?_)
  refine WL_nil ?_
  refine ⟨_, ?_, k + 1, v6, rfl, fr_of ⟨rfl, rfl, rfl, rfl, trivial⟩, by omega, (by rw [List.take_add_one, List.getElem?_eq_getElem hi, List.map_append]; exact own6), G⟩
  omega
 ·-- false
  first | (replace hlt := of_decide_eq_true hlt) | (replace hlt := of_decide_eq_false hlt) | skip
  have hk2 : k = n := by omega
  subst hk2
  refine W_exit ?_
  refine W_seq (W_region rfl ?_)
  refine WL_some (og rfl ?_)
  (first | refine r_move_slice rfl ?_ | refine r_move rfl ?_)
  refine WL_some (og rfl ?_)
  (first | refine r_assign_slice rfl ?_ | refine r_assign rfl ?_)
  refine WL_nil ?_
  refine W_ret ?_
  rw [List.take_of_length_le (by omega)] at own
  exact ret1 (res_tmp rfl) ⟨own, G⟩

set_option maxRecDepth 100000 in
theorem fits_calls (w : World) {ad : Option Addr} {n c : Nat} {A : List (List Int)} (R : RowAt w 1 ad n (A.map fun s => .int .i64 (s.length : Int))) (hA : A.length = n) (h1 : 1 ≤ n) (h16 : n ≤ 16) (hf : 1 ≤ (A.getD 0 []).length) (ht : totalP A ≤ 4096) : Gives Try.prog 61 #[.slice ad n c] w (.bool true) := by
 obtain ⟨b_, o_, cs_, T_, fr_, rfl, hb_, hx_⟩ := R.at_ (by omega)
 have hf2 : 1 ≤ (A[0]'(by omega)).length := by rw [List.getD_eq_getElem?_getD, List.getElem?_eq_getElem (by omega)] at hf; exact hf
 have G := Grow.rfl' w
 refine gives_of Try.func61 Try.ntmps61 Try.results61 rfl rfl ?_
 refine W_seq (W_region rfl ?_)
 refine WL_some (og rfl ?_)
 (first | refine r_assign_bool rfl ?_ | refine r_assign rfl ?_)
 refine WL_nil ?_
 refine W_seq ?_
 refine W_seq (W_region rfl ?_)
 refine WL_some (og rfl ?_)
 (first | refine r_move_slice rfl ?_ | refine r_move rfl ?_)
 refine stp (r_len rfl rfl rfl ?_)
 refine WL_some (og rfl ?_)
 (first | (refine r_lss_t rfl rfl ?_ ?_; (first | assumption | omega)) | (refine r_lss_f rfl rfl ?_ ?_; (first | assumption | omega)) | refine r_lss rfl rfl ?_)
 refine WL_some (og rfl ?_)
 (first | refine r_move_bool rfl ?_ | refine r_move rfl ?_)
 refine WL_some (og rfl ?_)
 (first | refine r_move_slice rfl ?_ | refine r_move rfl ?_)
 refine stp (r_len rfl rfl rfl ?_)
 refine WL_some (og rfl ?_)
 (first | (refine r_gtr_t rfl rfl ?_ ?_; (first | assumption | omega)) | (refine r_gtr_f rfl rfl ?_ ?_; (first | assumption | omega)) | refine r_gtr rfl rfl ?_)
 refine stp (r_pick_f rfl rfl rfl ?_)
 refine WL_some (og rfl ?_)
 (first | refine r_move_bool rfl ?_ | refine r_move rfl ?_)
 refine WL_some (og rfl ?_)
 (first | refine r_move_slice rfl ?_ | refine r_move rfl ?_)
 refine WL_some (og rfl ?_)
 (refine r_indexAddr rfl rfl ?_ ?_ ?_; omega; omega)
 refine stp (r_load (v := .int .i64 ((A[0]'(by omega)).length : Int)) rfl hb_ (row_cell (i := 0) hx_ (by rw [List.getElem?_map, List.getElem?_eq_getElem (by omega)]; rfl)) ?_)
 refine WL_some (og rfl ?_)
 (first | (refine r_lss_t rfl rfl ?_ ?_; (first | assumption | omega)) | (refine r_lss_f rfl rfl ?_ ?_; (first | assumption | omega)) | refine r_lss rfl rfl ?_)
 refine stp (r_pick_f rfl rfl rfl ?_)
 refine WL_nil ?_
 refine W_false rfl ?_
 refine W_skip ?_
 refine W_seq (W_region rfl ?_)
 refine WL_some (og rfl ?_)
 (first | refine r_assign_int rfl ?_ | refine r_assign rfl ?_)
 refine WL_nil ?_
 refine W_seq ?_
 refine W_seq (W_region rfl ?_)
 refine WL_some (og rfl ?_)
 (first | refine r_move_slice rfl ?_ | refine r_move rfl ?_)
 refine stp (r_len rfl rfl rfl ?_)
 refine WL_some (og rfl ?_)
 (first | refine r_move_int rfl ?_ | refine r_move rfl ?_)
 refine WL_nil ?_
 refine W_block ?_
 refine W_loop (fun m_ e_ w_ => ∃ (k : Nat), m_ = n - k ∧ Fr [(3, .int .i64 (totalP (A.take k))), (22, .slice (some ⟨b_, o_, none⟩) n c), (23, .int .i64 (n : Int)), (24, .int .i64 (k : Int))] e_ ∧ (k ≤ n) ∧ (w_.heap[b_]? = some (.cells cs_ T_ fr_)) ∧ Grow w w_) _ ⟨0, rfl, fr_of ⟨rfl, rfl, rfl, rfl, trivial⟩, by omega, hb_, G⟩ ?_
 clear hb_
 clear G
 rintro m_ e_ w1 ⟨k, rfl, ⟨e2, rfl⟩, hk, hb_, G⟩
 refine W_seq (W_region rfl ?_)
 refine WL_some (og rfl ?_)
 (first | (refine r_lss_t rfl rfl ?_ ?_; (first | assumption | omega)) | (refine r_lss_f rfl rfl ?_ ?_; (first | assumption | omega)) | refine r_lss rfl rfl ?_)
 refine WL_nil ?_
 refine W_seq ?_
 refine W_cond2 rfl (fun hlt => ?_) (fun hlt => ?_)
 ·-- true
  first | (replace hlt := of_decide_eq_true hlt) | (replace hlt := of_decide_eq_false hlt) | skip
  have hi : k < A.length := by omega
  have ht1 := totalP_take hi
  have ht2 := totalP_le (A := A) (k + 1)
  have ht3 := totalP_nn (A.take k)
  refine W_skip ?_
  refine W_seq ?_
  refine W_block ?_
  refine W_seq (W_region rfl ?_)
  refine WL_some (og rfl ?_)
  (refine r_indexAddr rfl rfl ?_ ?_ ?_; omega; omega)
  refine stp (r_load (v := .int .i64 (A[k].length : Int)) rfl hb_ (by rw [Int.toNat_natCast, Nat.mul_one]; exact row_cell hx_ (by rw [List.getElem?_map, List.getElem?_eq_getElem hi]; rfl)) ?_)
  refine WL_some (og rfl ?_)
  (first | refine r_assign_int rfl ?_ | refine r_assign rfl ?_)
  refine WL_nil ?_
  refine W_seq (W_region rfl ?_)
  refine WL_some (og rfl ?_)
  (first | refine r_move_int rfl ?_ | refine r_move rfl ?_)
  refine WL_some (og rfl ?_)
  (first | refine r_move_int rfl ?_ | refine r_move rfl ?_)
  refine stp (r_gives rfl (gives_eq (add_calls _ (totalP (A.take k)) (A[k].length : Int) (by omega) (by omega) (by omega) (by omega)) (y := .tuple #[.int .i64 (totalP (A.take (k + 1))), .bool true]) (by rw [if_pos (by omega), ht1, decide_eq_true (by omega)])) ?_)
  intro w3 g4
  replace hb_ := g4.heap hb_
  replace G := G.tr g4
  clear g4
  refine WL_some (og rfl ?_)
  (first | refine r_move_tuple rfl ?_ | refine r_move rfl ?_)
  refine stp (r_extract rfl rfl ?_)
  refine stp (r_extract rfl rfl ?_)
  refine WL_some (og rfl ?_)
  (first | refine r_assign_int rfl ?_ | refine r_assign rfl ?_)
  refine WL_some (og rfl ?_)
  (first | refine r_assign_bool rfl ?_ | refine r_assign rfl ?_)
  refine WL_nil ?_
  refine W_seq ?_
  refine W_seq (W_region rfl ?_)
  refine WL_some (og rfl ?_)
  (first | refine r_move_bool rfl ?_ | refine r_move rfl ?_)
  refine WL_some (og rfl ?_)
  (first | (refine r_not_t rfl ?_ ?_; (first | rfl | assumption)) | (refine r_not_f rfl ?_ ?_; (first | rfl | assumption)) | refine r_not rfl ?_)
  refine WL_nil ?_
  refine W_false rfl ?_
  refine W_skip ?_
  refine W_region rfl ?_
  refine WL_some (og rfl ?_)
  (first | refine r_move_int rfl ?_ | refine r_move rfl ?_)
  refine WL_some (og rfl ?_)
  (first | refine r_assign_int rfl ?_ | refine r_assign rfl ?_)
  refine WL_nil ?_
  refine W_region rfl ?_
  refine WL_some (og rfl ?_)
  (first | (refine r_add rfl rfl ?_ ?_; (constructor <;> omega)) | refine r_addw rfl rfl ?_)
  refine WL_some (og rfl ?_)
  (first | refine r_move_int rfl ?_ | refine r_move rfl ?_)
  refine WL_nil ?_
  refine ⟨_, ?_, k + 1, rfl, fr_of ⟨rfl, rfl, rfl, rfl, trivial⟩, by omega, hb_, G⟩
  omega
 ·-- false
  first | (replace hlt := of_decide_eq_true hlt) | (replace hlt := of_decide_eq_false hlt) | skip
  refine W_exit ?_
  refine W_seq (W_region rfl ?_)
  refine WL_some (og rfl ?_)
  (first | refine r_assign_bool rfl ?_ | refine r_assign rfl ?_)
  refine WL_nil ?_
  refine W_ret ?_
  exact ret1 (res_bool rfl) ⟨rfl, G⟩

set_option maxRecDepth 100000 in
theorem aright_calls (w : World) {ad : Option Addr} {n c : Nat} {segs : List Value} {A : List (List Int)} (R : RowAt w 1 ad n segs) (hA : A.length = n) (hs : ∀ (i : Nat) (s : List Int), A[i]? = some s → ∃ v, segs[i]? = some v ∧ Row w 1 v s.length (wordsV s)) (h1 : 1 ≤ n) (h16 : n ≤ 16) (hf : 1 ≤ (A.getD 0 []).length) (ht : totalP A ≤ 4096) : Gives Try.prog 37 #[.slice ad n c] w (.bool true) := by
 have G := Grow.rfl' w
 refine gives_of Try.func37 Try.ntmps37 Try.results37 rfl rfl ?_
 refine W_seq (W_region rfl ?_)
 refine WL_some (og rfl ?_)
 (first | refine r_assign_bool rfl ?_ | refine r_assign rfl ?_)
 refine WL_nil ?_
 refine W_seq (W_region rfl ?_)
 refine WL_some (og rfl ?_)
 (first | refine r_move_slice rfl ?_ | refine r_move rfl ?_)
 refine WL_some (og rfl ?_)
 refine r_call rfl (sizes_calls _ (R.grow G) hA (fun i s h => by obtain ⟨v, h1, h2⟩ := hs i s h; exact ⟨v, h1, h2.grow G⟩) (by omega)) ?_
 rintro v_ w5_ ⟨own, g5_⟩
 replace G := G.tr g5_
 obtain ⟨ad5, c5, rfl, hc5, hc6, RS⟩ := own_row own (by omega)
 refine stp (r_gives rfl (fits_calls _ RS hA h1 h16 hf ht) ?_)
 intro w1 g2
 replace G := G.tr g2
 clear g2
 refine WL_some (og rfl ?_)
 (first | refine r_assign_bool rfl ?_ | refine r_assign rfl ?_)
 refine WL_nil ?_
 refine W_ret ?_
 exact ret1 (res_bool rfl) ⟨rfl, G⟩

set_option maxRecDepth 100000 in
theorem rget_calls (w : World) {ad : Option Addr} {n c : Nat} {xs : List Int} (hn : n = xs.length) (R : RowAt w 1 ad n (xs.map (.int .u8))) (hx : ∀ x ∈ xs, inR .u8 x) (h8 : n ≤ 8) : Gives Try.prog 84 #[.slice ad n c] w (.int .u64 (getP xs)) := by
 have G := Grow.rfl' w
 refine gives_of Try.func84 Try.ntmps84 Try.results84 rfl rfl ?_
 refine W_seq (W_region rfl ?_)
 refine WL_some (og rfl ?_)
 (first | refine r_assign_int rfl ?_ | refine r_assign rfl ?_)
 refine WL_nil ?_
 refine W_seq (W_region rfl ?_)
 refine WL_some (og rfl ?_)
 (first | refine r_assign_int rfl ?_ | refine r_assign rfl ?_)
 refine WL_nil ?_
 refine W_seq ?_
 refine W_seq (W_region rfl ?_)
 refine WL_some (og rfl ?_)
 (first | refine r_move_slice rfl ?_ | refine r_move rfl ?_)
 refine stp (r_len rfl rfl rfl ?_)
 refine WL_some (og rfl ?_)
 (first | (refine r_min_l rfl rfl rfl ?_ ?_; omega) | (refine r_min_r rfl rfl rfl ?_ ?_; omega) | refine r_min rfl rfl rfl ?_)
 refine WL_some (og rfl ?_)
 (first | (refine r_sub rfl rfl ?_ ?_; (constructor <;> omega)) | refine r_subw rfl rfl ?_)
 refine WL_some (og rfl ?_)
 (first | refine r_assign_int rfl ?_ | refine r_assign rfl ?_)
 refine WL_nil ?_
 refine W_block ?_
 refine W_loop (fun m_ e_ w_ => ∃ (k : Nat), m_ = n - k ∧ Fr [(0, .slice ad n c), (3, .int .u64 (getP (xs.drop (n - k)))), (4, .int .i64 ((n : Int) - 1 - k))] e_ ∧ (k ≤ n) ∧ Grow w w_) _ ⟨0, rfl, fr_of ⟨rfl, congrArg (Value.int .u64) (by rw [Nat.sub_zero, hn, List.drop_length]; rfl), congrArg (Value.int .i64) (by omega), trivial⟩, by omega, G⟩ ?_
 clear G
 rintro m_ e_ w1 ⟨k, rfl, ⟨e2, rfl⟩, hk2, G⟩
 refine W_seq ?_
 refine W_seq (W_region rfl ?_)
 refine WL_some (og rfl ?_)
 (first | refine r_move_int rfl ?_ | refine r_move rfl ?_)
 refine WL_some (og rfl ?_)
 (first | (refine r_geq_t rfl rfl ?_ ?_; (first | assumption | omega)) | (refine r_geq_f rfl rfl ?_ ?_; (first | assumption | omega)) | refine r_geq rfl rfl ?_)
 refine WL_nil ?_
 refine W_cond2 rfl (fun hge => ?_) (fun hge => ?_)
 ·-- true
  first | (replace hge := of_decide_eq_true hge) | (replace hge := of_decide_eq_false hge) | skip
  have hk3 : k < n := by omega
  obtain ⟨b_, o_, cs_, T_, fr_, rfl, hb_, hx_⟩ := (R.grow G).at_ (by omega)
  have hyr := getP_range (xs.drop (n - k)) (fun x hq_ => hx x (List.mem_of_mem_drop hq_))
  have hpow := pow_le8 (show (xs.drop (n - k)).length ≤ 7 from by rw [List.length_drop]; omega)
  have hxi := hx (xs[n - 1 - k]'(by omega)) (List.getElem_mem _)
  simp only [inR] at hxi
  refine W_skip ?_
  refine W_seq ?_
  refine W_block ?_
  refine W_region rfl ?_
  refine WL_some (og rfl ?_)
  (first | refine r_move_int rfl ?_ | refine r_move rfl ?_)
  refine WL_some (og rfl ?_)
  (first | (refine r_mul rfl rfl ?_ ?_; (constructor <;> omega)) | refine r_mulw rfl rfl ?_)
  refine WL_some (og rfl ?_)
  (first | refine r_move_slice rfl ?_ | refine r_move rfl ?_)
  refine WL_some (og rfl ?_)
  (first | refine r_move_int rfl ?_ | refine r_move rfl ?_)
  refine WL_some (og rfl ?_)
  (refine r_indexAddr rfl rfl ?_ ?_ ?_; omega; omega)
  refine stp (r_load (v := .int .u8 (xs[n - 1 - k]'(by omega))) rfl hb_ (by rw [show o_ + (((n : Int) - 1 - k).toNat) * 1 = o_ + (n - 1 - k) from by omega]; exact row_cell hx_ (by rw [List.getElem?_map, List.getElem?_eq_getElem (by omega)]; rfl)) ?_)
  refine WL_some (og rfl ?_)
  (first | (refine r_conv rfl ?_ ?_; (constructor <;> omega)) | refine r_convw rfl ?_)
  refine WL_some (og rfl ?_)
  (first | (refine r_add rfl rfl ?_ ?_; (constructor <;> omega)) | refine r_addw rfl rfl ?_)
  refine WL_some (og rfl ?_)
  (first | refine r_assign_int rfl ?_ | refine r_assign rfl ?_)
  refine WL_nil ?_
  refine W_region rfl ?_
  refine WL_some (og rfl ?_)
  (first | refine r_move_int rfl ?_ | refine r_move rfl ?_)
  refine WL_some (og rfl ?_)
  (first | (refine r_sub rfl rfl ?_ ?_; (constructor <;> omega)) | refine r_subw rfl rfl ?_)
  refine WL_some (og rfl ?_)
  (first | refine r_assign_int rfl ?_ | refine r_assign rfl ?_)
  refine WL_nil ?_
  refine ⟨_, ?_, k + 1, rfl, fr_of ⟨rfl, congrArg (Value.int .u64) (by rw [getP_drop hn hk3]; omega), congrArg (Value.int .i64) (by omega), trivial⟩, by omega, G⟩
  omega
 ·-- false
  first | (replace hge := of_decide_eq_true hge) | (replace hge := of_decide_eq_false hge) | skip
  have hk3 : k = n := by omega
  subst hk3
  refine W_exit ?_
  refine W_seq (W_region rfl ?_)
  refine WL_some (og rfl ?_)
  (first | refine r_move_int rfl ?_ | refine r_move rfl ?_)
  refine WL_some (og rfl ?_)
  (first | refine r_assign_int rfl ?_ | refine r_assign rfl ?_)
  refine WL_nil ?_
  refine W_ret ?_
  refine ret1 (res_int rfl) ⟨?_, G⟩
  rw [Nat.sub_self]; rfl

set_option maxRecDepth 100000 in
theorem rcontent_calls (w : World) {c : List Value} {t : Nd} (T : NodeR w c t) (hw4 : t.words.length ≤ 4096) (hb4 : t.bytes.length ≤ 4096) (hk4 : t.kids.length ≤ 4096) : Calls Try.prog 60 #[.agg c.toArray] w (Ret fun v w' => w'.ownsRow w.heap.size 55 1 v t.content.length (t.content.map (.int .u64)) ∧ Grow w w') := by
 obtain @⟨kind, size, words, bytes, kids, ws, bs, ks, kc, hk, hs, hW, hwr, hB, hbr, hK, hKs⟩ := T
 obtain ⟨aw, cw, rfl, hcw, hcw2, RW⟩ := hW
 obtain ⟨ab, cb, rfl, hcb, hcb2, RB⟩ := hB
 obtain ⟨ak, ck, rfl, hck, hck2, RK⟩ := hK
 have lw := RW.lim
 have lb := RB.lim
 have lk := RK.lim
 simp only [inR] at hk hs
 simp only [Nd.words, Nd.bytes, Nd.kids] at hw4 hb4 hk4
 have G := Grow.rfl' w
 refine calls_ret Try.func60 Try.ntmps60 Try.results60 rfl rfl ?_
 refine W_seq (W_region rfl ?_)
 refine WL_some (og rfl ?_)
 (first | refine r_box_agg rfl ?_ | refine r_box_int rfl ?_ | refine r_box_slice rfl ?_ | refine r_box rfl rfl ?_)
 intro b1 w2 hb3 hc4 g5
 have hge6 := Nat.le_trans G.size hb3
 replace G := G.tr g5
 clear g5 hb3
 refine WL_some (og rfl ?_)
 (first | refine r_assign_slice rfl ?_ | refine r_assign rfl ?_)
 refine WL_nil ?_
 refine W_seq (W_region rfl ?_)
 refine WL_some (og rfl ?_)
 (first | refine r_assign_slice rfl ?_ | refine r_assign rfl ?_)
 refine WL_nil ?_
 refine W_seq (W_region rfl ?_)
 refine WL_some (og rfl ?_)
 (first | refine r_move_slice rfl ?_ | refine r_move rfl ?_)
 refine stp (r_fieldAddr rfl ?_)
 refine stp (r_load rfl (by assumption) (by rfl) ?_)
 refine WL_some (og rfl ?_)
 have own00 := World.ownsRow_nil w2 w.heap.size 55 1
 refine r_append rfl rfl rfl rfl own00 ⟨_, cw, rfl, hcw, hcw2, RW.grow G⟩ (fun q_ hq_ => by obtain ⟨z, _, rfl⟩ := List.mem_map.1 hq_; rfl) (by simp only [maxLen]; omega) (by omega) G.size ?_
 intro v5 w5 own5 gr6
 replace G := G.grown gr6 (own_ge own00)
 replace hc4 := gr_heap gr6 hc4 (own_ne own00 hc4 (by decide))
 refine WL_some (og rfl ?_)
 (first | refine r_assign_slice rfl ?_ | refine r_assign rfl ?_)
 refine WL_nil ?_
 refine W_seq ?_
 refine W_seq (W_region rfl ?_)
 refine WL_some (og rfl ?_)
 (first | refine r_assign_int rfl ?_ | refine r_assign rfl ?_)
 refine WL_nil ?_
 refine W_block ?_
 refine W_loop (fun m_ e_ w_ => ∃ (k : Nat) (v : Value), m_ = bytes.length + 8 - 8 * k ∧ Fr [(1, .pointer (some ⟨b1, 0, none⟩)), (3, v), (4, .int .i64 ((8 * k : Nat) : Int))] e_ ∧ (8 * k < bytes.length + 8) ∧ (w_.heap[b1]? = some (.cells #[.int .i64 kind, .int .i64 size, .slice aw words.length cw, .slice ab bytes.length cb, .slice ak kids.length ck] 37 (0, 0))) ∧ (w_.ownsRow w.heap.size 55 1 v (words.length + k) ((words ++ (List.range k).map (chunkP bytes)).map (.int .u64))) ∧ Grow w w_) _ ⟨0, v5, rfl, fr_of ⟨rfl, rfl, rfl, trivial⟩, by omega, hc4, by simpa using own5, G⟩ ?_
 clear hc4
 clear G
 rintro m_ e_ w7 ⟨k, v, rfl, ⟨e8, rfl⟩, hk2, hc_, own, G⟩
 refine W_seq ?_
 refine W_seq (W_region rfl ?_)
 refine WL_some (og rfl ?_)
 (first | refine r_move_int rfl ?_ | refine r_move rfl ?_)
 refine stp (r_fieldAddr rfl ?_)
 refine stp (r_load rfl (by assumption) (by rfl) ?_)
 refine stp (r_len rfl rfl rfl ?_)
 refine WL_some (og rfl ?_)
 (first | (refine r_lss_t rfl rfl ?_ ?_; (first | assumption | omega)) | (refine r_lss_f rfl rfl ?_ ?_; (first | assumption | omega)) | refine r_lss rfl rfl ?_)
 refine WL_nil ?_
 refine W_cond2 rfl (fun hlt => ?_) (fun hlt => ?_)
 ·-- true
  first | (replace hlt := of_decide_eq_true hlt) | (replace hlt := of_decide_eq_false hlt) | skip
  have hcn : chunkN bytes.length k ≤ 8 := by unfold chunkN; omega
  have hcm : 8 * k + chunkN bytes.length k ≤ bytes.length := by unfold chunkN; omega
  refine W_skip ?_
  refine W_seq ?_
  refine W_block ?_
  refine W_region rfl ?_
  refine WL_some (og rfl ?_)
  (first | refine r_move_slice rfl ?_ | refine r_move rfl ?_)
  refine stp (r_fieldAddr rfl ?_)
  refine stp (r_load rfl (by assumption) (by rfl) ?_)
  refine WL_some (og rfl ?_)
  (first | refine r_move_int rfl ?_ | refine r_move rfl ?_)
  refine WL_some (og rfl ?_)
  (first | refine r_move_int rfl ?_ | refine r_move rfl ?_)
  refine WL_some (og rfl ?_)
  (first | (refine r_add rfl rfl ?_ ?_; (constructor <;> omega)) | refine r_addw rfl rfl ?_)
  refine stp (r_fieldAddr rfl ?_)
  refine stp (r_load rfl (by assumption) (by rfl) ?_)
  refine stp (r_len rfl rfl rfl ?_)
  refine WL_some (og rfl ?_)
  refine r_min rfl rfl rfl ?_
  rw [show (if (bytes.length : Int) < ((8 * k : Nat) : Int) + 8 then (bytes.length : Int) else ((8 * k : Nat) : Int) + 8) = ((8 * k + chunkN bytes.length k : Nat) : Int) from by unfold chunkN; split <;> omega]
  refine WL_some (og rfl ?_)
  refine r_sliceLH rfl rfl rfl (by omega) (by omega) (by omega) ?_
  rw [Int.toNat_natCast, Int.toNat_natCast, show 8 * k + chunkN bytes.length k - 8 * k = chunkN bytes.length k from by omega]
  have Rj : RowAt w 1 (if cb = 8 * k then ab else ab.map (·.add (8 * k * 1))) (chunkN bytes.length k) (((bytes.drop (8 * k)).take 8).map (.int .u8)) := by
   have h := RB.sliceLH (l := 8 * k) (m := chunkN bytes.length k) hcb hcm (by omega)
   simp only [Nat.mul_one, ← List.map_drop, ← List.map_take, drop_chunk] at h ⊢; exact h
  have hlenj : chunkN bytes.length k = ((bytes.drop (8 * k)).take 8).length := by rw [List.length_take, List.length_drop, chunkN]
  have hxj : ∀ x ∈ (bytes.drop (8 * k)).take 8, inR .u8 x := fun x hx_ => hbr x (List.mem_of_mem_drop (List.mem_of_mem_take hx_))
  refine stp (r_gives rfl (gives_eq (rget_calls _ hlenj (Rj.grow G) hxj hcn) (y := .int .u64 (chunkP bytes k)) rfl) ?_)
  intro w9 g10
  replace hc_ := g10.heap hc_
  replace own := own_grow own g10
  replace G := G.tr g10
  clear g10
  refine stp (r_buildSlice (cs := #[.int .u64 (chunkP bytes k)]) (el := 55) (fun w => by kernel_rfl) ?_)
  intro bs w5 hbs hcs g5
  replace hc_ := g5.heap hc_
  replace own := own_grow own g5
  replace G := G.tr g5
  refine stp (r_append rfl rfl rfl rfl own (Row.of_block (n := 1) hcs rfl rfl (by omega)) (fun q_ hq_ => by simp at hq_; subst hq_; rfl) (by simp only [maxLen]; omega) (by omega) G.size ?_)
  intro v6 w6 own6 gr6
  replace G := G.grown gr6 (own_ge own)
  replace hc_ := gr_heap gr6 hc_ (own_ne own hc_ (by decide))
  have e3 : (words ++ (List.range (k + 1)).map (chunkP bytes)).map (Value.int .u64) = (words ++ (List.range k).map (chunkP bytes)).map (Value.int .u64) ++ [.int .u64 (chunkP bytes k)] := by simp [List.range_succ]
  have own7 := own6
  rw [← e3, Nat.add_assoc] at own7
  refine WL_some (og rfl ?_)
  (first | refine r_assign_slice rfl ?_ | refine r_assign rfl ?_)
  refine WL_nil ?_
  refine W_region rfl ?_
  refine WL_some (og rfl ?_)
  (first | refine r_move_int rfl ?_ | refine r_move rfl ?_)
  refine WL_some (og rfl ?_)
  (first | (refine r_add rfl rfl ?_ ?_; (constructor <;> omega)) | refine r_addw rfl rfl ?_)
  refine WL_some (og rfl ?_)
  (first | refine r_assign_int rfl ?_ | refine r_assign rfl ?_)
  refine WL_nil ?_
  refine ⟨_, ?_, k + 1, v6, rfl, fr_of ⟨rfl, rfl, congrArg (Value.int .i64) (by omega), trivial⟩, by omega, hc_, own7, G⟩
  omega
 ·-- false
  first | (replace hlt := of_decide_eq_true hlt) | (replace hlt := of_decide_eq_false hlt) | skip
  have hk3 : (bytes.length + 7) / 8 = k := by omega
  refine W_exit ?_
  refine W_seq (W_region rfl ?_)
  refine WL_some (og rfl ?_)
  (first | refine r_move_slice rfl ?_ | refine r_move rfl ?_)
  refine stp (r_fieldAddr rfl ?_)
  refine stp (r_load rfl (by assumption) (by rfl) ?_)
  refine stp (r_len rfl rfl rfl ?_)
  refine stp (r_appendZ (z := .int .u64 0) (by_ := 8) rfl rfl rfl rfl (by rfl) (by rfl) own (by omega) (by omega) G.size ?_)
  intro v9 w9 own9 gr9
  have G9 := G.grown gr9 (own_ge own)
  refine WL_some (og rfl ?_)
  (first | refine r_assign_slice rfl ?_ | refine r_assign rfl ?_)
  refine WL_nil ?_
  refine W_seq (W_region rfl ?_)
  refine WL_some (og rfl ?_)
  (first | refine r_move_slice rfl ?_ | refine r_move rfl ?_)
  refine WL_some (og rfl ?_)
  (first | refine r_assign_slice rfl ?_ | refine r_assign rfl ?_)
  refine WL_nil ?_
  refine W_ret ?_
  refine ret1 (res_tmp rfl) ⟨?_, G9⟩
  have e1 : (Nd.mk kind size words bytes kids).content.length = words.length + k + kids.length := by simp only [Nd.content, chunksP, List.length_append, List.length_map, List.length_range, List.length_replicate]; omega
  have e2 : (Nd.mk kind size words bytes kids).content.map (Value.int .u64) = (words ++ (List.range k).map (chunkP bytes)).map (Value.int .u64) ++ List.replicate kids.length (.int .u64 0) := by rw [← hk3]; simp [Nd.content, chunksP]
  rw [e1, e2]
  exact own9
end Go.Proofs.Ytfhfecepcnapfaa.K
