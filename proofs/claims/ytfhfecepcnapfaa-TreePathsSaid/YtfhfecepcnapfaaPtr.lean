/- The contracts of package ptr's functions (printed by ptr06.py). -/
import Derived.Test.YtfhfecepcnapfaaT
import Derived.Test.YtfhfecepcnapfaaM06
set_option linter.unusedVariables false
set_option linter.unusedSimpArgs false
namespace Go.Proofs.Ytfhfecepcnapfaa.K
open Go Go.RowKit Go.Proofs
attribute [local irreducible] Run1 OpG WL W AO Gives
set_option maxRecDepth 100000 in
theorem kind_calls (w : World)  : Gives Try.prog 106 #[] w (.agg #[.int .i64 0, .int .i64 2]) := by
 have G := Grow.rfl' w
 refine gives_of Try.func106 Try.ntmps106 Try.results106 rfl rfl ?_
 refine W_seq (W_region rfl ?_)
 refine stp (r_alloc ?_)
 intro b1 w2 hb3 hc4 g5
 refine WL_nil ?_
 refine W_seq (W_region rfl ?_)
 refine stp (r_build (v := .agg #[.int .i64 0, .int .i64 2]) (fun w => by kernel_rfl) ?_)
 refine stn (r_storeAll rfl rfl hc4 (by rfl) (by rfl) (by rfl) ?_)
 intro w6 hc7 u8
 have g9 := g5.upd u8 hb3
 have hge10 := Nat.le_trans G.size hb3
 replace G := G.tr g9
 clear u8 g5 hb3 hc4
 refine WL_nil ?_
 refine W_ret ?_
 exact ret1 (res_all rfl (by assumption) (by rfl)) ⟨rfl, G⟩

set_option maxRecDepth 100000 in
theorem off_calls (w : World)  : Gives Try.prog 116 #[] w (.agg #[.int .i64 2, .int .i64 30]) := by
 have G := Grow.rfl' w
 refine gives_of Try.func116 Try.ntmps116 Try.results116 rfl rfl ?_
 refine W_seq (W_region rfl ?_)
 refine stp (r_alloc ?_)
 intro b1 w2 hb3 hc4 g5
 refine WL_nil ?_
 refine W_seq (W_region rfl ?_)
 refine stp (r_build (v := .agg #[.int .i64 2, .int .i64 30]) (fun w => by kernel_rfl) ?_)
 refine stn (r_storeAll rfl rfl hc4 (by rfl) (by rfl) (by rfl) ?_)
 intro w6 hc7 u8
 have g9 := g5.upd u8 hb3
 have hge10 := Nat.le_trans G.size hb3
 replace G := G.tr g9
 clear u8 g5 hb3 hc4
 refine WL_nil ?_
 refine W_ret ?_
 exact ret1 (res_all rfl (by assumption) (by rfl)) ⟨rfl, G⟩

set_option maxRecDepth 100000 in
theorem data_calls (w : World)  : Gives Try.prog 108 #[] w (.agg #[.int .i64 32, .int .i64 16]) := by
 have G := Grow.rfl' w
 refine gives_of Try.func108 Try.ntmps108 Try.results108 rfl rfl ?_
 refine W_seq (W_region rfl ?_)
 refine stp (r_alloc ?_)
 intro b1 w2 hb3 hc4 g5
 refine WL_nil ?_
 refine W_seq (W_region rfl ?_)
 refine stp (r_build (v := .agg #[.int .i64 32, .int .i64 16]) (fun w => by kernel_rfl) ?_)
 refine stn (r_storeAll rfl rfl hc4 (by rfl) (by rfl) (by rfl) ?_)
 intro w6 hc7 u8
 have g9 := g5.upd u8 hb3
 have hge10 := Nat.le_trans G.size hb3
 replace G := G.tr g9
 clear u8 g5 hb3 hc4
 refine WL_nil ?_
 refine W_ret ?_
 exact ret1 (res_all rfl (by assumption) (by rfl)) ⟨rfl, G⟩

set_option maxRecDepth 100000 in
theorem ptrs_calls (w : World)  : Gives Try.prog 109 #[] w (.agg #[.int .i64 48, .int .i64 16]) := by
 have G := Grow.rfl' w
 refine gives_of Try.func109 Try.ntmps109 Try.results109 rfl rfl ?_
 refine W_seq (W_region rfl ?_)
 refine stp (r_alloc ?_)
 intro b1 w2 hb3 hc4 g5
 refine WL_nil ?_
 refine W_seq (W_region rfl ?_)
 refine stp (r_build (v := .agg #[.int .i64 48, .int .i64 16]) (fun w => by kernel_rfl) ?_)
 refine stn (r_storeAll rfl rfl hc4 (by rfl) (by rfl) (by rfl) ?_)
 intro w6 hc7 u8
 have g9 := g5.upd u8 hb3
 have hge10 := Nat.le_trans G.size hb3
 replace G := G.tr g9
 clear u8 g5 hb3 hc4
 refine WL_nil ?_
 refine W_ret ?_
 exact ret1 (res_all rfl (by assumption) (by rfl)) ⟨rfl, G⟩

set_option maxRecDepth 100000 in
theorem size_calls (w : World)  : Gives Try.prog 110 #[] w (.agg #[.int .i64 32, .int .i64 3]) := by
 have G := Grow.rfl' w
 refine gives_of Try.func110 Try.ntmps110 Try.results110 rfl rfl ?_
 refine W_seq (W_region rfl ?_)
 refine stp (r_alloc ?_)
 intro b1 w2 hb3 hc4 g5
 refine WL_nil ?_
 refine W_seq (W_region rfl ?_)
 refine stp (r_build (v := .agg #[.int .i64 32, .int .i64 3]) (fun w => by kernel_rfl) ?_)
 refine stn (r_storeAll rfl rfl hc4 (by rfl) (by rfl) (by rfl) ?_)
 intro w6 hc7 u8
 have g9 := g5.upd u8 hb3
 have hge10 := Nat.le_trans G.size hb3
 replace G := G.tr g9
 clear u8 g5 hb3 hc4
 refine WL_nil ?_
 refine W_ret ?_
 exact ret1 (res_all rfl (by assumption) (by rfl)) ⟨rfl, G⟩

set_option maxRecDepth 100000 in
theorem count_calls (w : World)  : Gives Try.prog 111 #[] w (.agg #[.int .i64 35, .int .i64 29]) := by
 have G := Grow.rfl' w
 refine gives_of Try.func111 Try.ntmps111 Try.results111 rfl rfl ?_
 refine W_seq (W_region rfl ?_)
 refine stp (r_alloc ?_)
 intro b1 w2 hb3 hc4 g5
 refine WL_nil ?_
 refine W_seq (W_region rfl ?_)
 refine stp (r_build (v := .agg #[.int .i64 35, .int .i64 29]) (fun w => by kernel_rfl) ?_)
 refine stn (r_storeAll rfl rfl hc4 (by rfl) (by rfl) (by rfl) ?_)
 intro w6 hc7 u8
 have g9 := g5.upd u8 hb3
 have hge10 := Nat.le_trans G.size hb3
 replace G := G.tr g9
 clear u8 g5 hb3 hc4
 refine WL_nil ?_
 refine W_ret ?_
 exact ret1 (res_all rfl (by assumption) (by rfl)) ⟨rfl, G⟩

set_option maxRecDepth 100000 in
theorem double_calls (w : World)  : Gives Try.prog 114 #[] w (.agg #[.int .i64 2, .int .i64 1]) := by
 have G := Grow.rfl' w
 refine gives_of Try.func114 Try.ntmps114 Try.results114 rfl rfl ?_
 refine W_seq (W_region rfl ?_)
 refine stp (r_alloc ?_)
 intro b1 w2 hb3 hc4 g5
 refine WL_nil ?_
 refine W_seq (W_region rfl ?_)
 refine stp (r_build (v := .agg #[.int .i64 2, .int .i64 1]) (fun w => by kernel_rfl) ?_)
 refine stn (r_storeAll rfl rfl hc4 (by rfl) (by rfl) (by rfl) ?_)
 intro w6 hc7 u8
 have g9 := g5.upd u8 hb3
 have hge10 := Nat.le_trans G.size hb3
 replace G := G.tr g9
 clear u8 g5 hb3 hc4
 refine WL_nil ?_
 refine W_ret ?_
 exact ret1 (res_all rfl (by assumption) (by rfl)) ⟨rfl, G⟩

set_option maxRecDepth 100000 in
theorem place_calls (w : World)  : Gives Try.prog 112 #[] w (.agg #[.int .i64 3, .int .i64 29]) := by
 have G := Grow.rfl' w
 refine gives_of Try.func112 Try.ntmps112 Try.results112 rfl rfl ?_
 refine W_seq (W_region rfl ?_)
 refine stp (r_alloc ?_)
 intro b1 w2 hb3 hc4 g5
 refine WL_nil ?_
 refine W_seq (W_region rfl ?_)
 refine stp (r_build (v := .agg #[.int .i64 3, .int .i64 29]) (fun w => by kernel_rfl) ?_)
 refine stn (r_storeAll rfl rfl hc4 (by rfl) (by rfl) (by rfl) ?_)
 intro w6 hc7 u8
 have g9 := g5.upd u8 hb3
 have hge10 := Nat.le_trans G.size hb3
 replace G := G.tr g9
 clear u8 g5 hb3 hc4
 refine WL_nil ?_
 refine W_ret ?_
 exact ret1 (res_all rfl (by assumption) (by rfl)) ⟨rfl, G⟩

set_option maxRecDepth 100000 in
theorem seg_calls (w : World)  : Gives Try.prog 113 #[] w (.agg #[.int .i64 32, .int .i64 32]) := by
 have G := Grow.rfl' w
 refine gives_of Try.func113 Try.ntmps113 Try.results113 rfl rfl ?_
 refine W_seq (W_region rfl ?_)
 refine stp (r_alloc ?_)
 intro b1 w2 hb3 hc4 g5
 refine WL_nil ?_
 refine W_seq (W_region rfl ?_)
 refine stp (r_build (v := .agg #[.int .i64 32, .int .i64 32]) (fun w => by kernel_rfl) ?_)
 refine stn (r_storeAll rfl rfl hc4 (by rfl) (by rfl) (by rfl) ?_)
 intro w6 hc7 u8
 have g9 := g5.upd u8 hb3
 have hge10 := Nat.le_trans G.size hb3
 replace G := G.tr g9
 clear u8 g5 hb3 hc4
 refine WL_nil ?_
 refine W_ret ?_
 exact ret1 (res_all rfl (by assumption) (by rfl)) ⟨rfl, G⟩

set_option maxRecDepth 100000 in
theorem get_calls (w : World) (x at_ wide : Int) (h0 : 0 ≤ at_) (h1 : 0 ≤ wide) : Gives Try.prog 107 #[.agg #[.int .i64 at_, .int .i64 wide], .int .u64 x] w (.int .u64 (getF at_ wide x)) := by
 have G := Grow.rfl' w
 refine gives_of Try.func107 Try.ntmps107 Try.results107 rfl rfl ?_
 refine W_seq (W_region rfl ?_)
 refine WL_some (og rfl ?_)
 (first | refine r_box_agg rfl ?_ | refine r_box_int rfl ?_ | refine r_box_slice rfl ?_ | refine r_box rfl rfl ?_)
 intro b1 w2 hb3 hc4 g5
 have hge6 := Nat.le_trans G.size hb3
 replace G := G.tr g5
 clear g5 hb3
 refine WL_some (og rfl ?_)
 (first | refine r_assign_int rfl ?_ | refine r_assign rfl ?_)
 refine WL_nil ?_
 refine W_seq ?_
 refine W_any 10 [[], [], [0], [2, 1, 0], [], [0], [1, 0], [2, 1, 0], [7, 6, 5, 4, 3, 2, 1, 0], [8, 7, 6, 5, 4, 3, 2, 1, 0]] mixed (by kernel_rfl) (by kernel_rfl) (by kernel_rfl) ?_
 intro w7 g8
 replace hc4 := g8.heap hc4
 replace G := G.tr g8
 clear g8
 apply AO_ex
 ·intro w_ g_; refine og rfl ?_; (first | refine r_move_int rfl ?_ | refine r_move rfl ?_); exact ⟨Grow.rfl' _, rfl⟩
 apply AO_ex
 ·intro w_ g_; refine og rfl ?_; refine r_fieldAddr rfl ?_; exact ⟨Grow.rfl' _, rfl⟩
 apply AO_ex
 ·intro w_ g_; refine og rfl ?_; refine r_load rfl (by exact Grow.heap g_ (by assumption)) (by rfl) ?_; exact ⟨Grow.rfl' _, rfl⟩
 apply AO_ex
 ·intro w_ g_; refine og rfl ?_; (refine r_shr rfl rfl ?_ ?_; omega); exact ⟨Grow.rfl' _, rfl⟩
 apply AO_ex
 ·intro w_ g_; refine og rfl ?_; refine r_fieldAddr rfl ?_; exact ⟨Grow.rfl' _, rfl⟩
 apply AO_ex
 ·intro w_ g_; refine og rfl ?_; refine r_load rfl (by exact Grow.heap g_ (by assumption)) (by rfl) ?_; exact ⟨Grow.rfl' _, rfl⟩
 apply AO_ex
 ·intro w_ g_; refine og rfl ?_; (refine r_shl rfl rfl ?_ ?_; omega); exact ⟨Grow.rfl' _, rfl⟩
 apply AO_ex
 ·intro w_ g_; refine og rfl ?_; (first | (refine r_sub rfl rfl ?_ ?_; (constructor <;> omega)) | refine r_subw rfl rfl ?_); exact ⟨Grow.rfl' _, rfl⟩
 apply AO_ex
 ·intro w_ g_; refine og rfl ?_; refine r_and rfl rfl ?_; exact ⟨Grow.rfl' _, rfl⟩
 apply AO_ex
 ·intro w_ g_; refine og rfl ?_; (first | refine r_assign_int rfl ?_ | refine r_assign rfl ?_); exact ⟨Grow.rfl' _, rfl⟩
 refine AO_nil ?_
 intro w9 g10
 replace hc4 := g10.heap hc4
 replace G := G.tr g10
 clear g10
 refine WL_nil ?_
 refine W_ret ?_
 exact ret1 (res_tmp rfl) ⟨rfl, G⟩

theorem get_kind (w : World) (x : Int) (h0 : 0 ≤ x) (h1 : x ≤ 18446744073709551615) : Gives Try.prog 107 #[.agg #[.int .i64 0, .int .i64 2], .int .u64 x] w (.int .u64 (x % 4)) := by
  have e : getF 0 2 x = x % 4 := (getF_eq 0 2 (by omega) (by omega) x h0 h1).trans (by simp)
  have h := get_calls w x 0 2 (by omega) (by omega)
  rw [e] at h
  exact h

theorem get_off (w : World) (x : Int) (h0 : 0 ≤ x) (h1 : x ≤ 18446744073709551615) : Gives Try.prog 107 #[.agg #[.int .i64 2, .int .i64 30], .int .u64 x] w (.int .u64 (x / 4 % 1073741824)) := by
  have e : getF 2 30 x = x / 4 % 1073741824 := (getF_eq 2 30 (by omega) (by omega) x h0 h1).trans (by simp)
  have h := get_calls w x 2 30 (by omega) (by omega)
  rw [e] at h
  exact h

theorem get_data (w : World) (x : Int) (h0 : 0 ≤ x) (h1 : x ≤ 18446744073709551615) : Gives Try.prog 107 #[.agg #[.int .i64 32, .int .i64 16], .int .u64 x] w (.int .u64 (x / 4294967296 % 65536)) := by
  have e : getF 32 16 x = x / 4294967296 % 65536 := (getF_eq 32 16 (by omega) (by omega) x h0 h1).trans (by simp)
  have h := get_calls w x 32 16 (by omega) (by omega)
  rw [e] at h
  exact h

theorem get_ptrs (w : World) (x : Int) (h0 : 0 ≤ x) (h1 : x ≤ 18446744073709551615) : Gives Try.prog 107 #[.agg #[.int .i64 48, .int .i64 16], .int .u64 x] w (.int .u64 (x / 281474976710656 % 65536)) := by
  have e : getF 48 16 x = x / 281474976710656 % 65536 := (getF_eq 48 16 (by omega) (by omega) x h0 h1).trans (by simp)
  have h := get_calls w x 48 16 (by omega) (by omega)
  rw [e] at h
  exact h

theorem get_size (w : World) (x : Int) (h0 : 0 ≤ x) (h1 : x ≤ 18446744073709551615) : Gives Try.prog 107 #[.agg #[.int .i64 32, .int .i64 3], .int .u64 x] w (.int .u64 (x / 4294967296 % 8)) := by
  have e : getF 32 3 x = x / 4294967296 % 8 := (getF_eq 32 3 (by omega) (by omega) x h0 h1).trans (by simp)
  have h := get_calls w x 32 3 (by omega) (by omega)
  rw [e] at h
  exact h

theorem get_count (w : World) (x : Int) (h0 : 0 ≤ x) (h1 : x ≤ 18446744073709551615) : Gives Try.prog 107 #[.agg #[.int .i64 35, .int .i64 29], .int .u64 x] w (.int .u64 (x / 34359738368 % 536870912)) := by
  have e : getF 35 29 x = x / 34359738368 % 536870912 := (getF_eq 35 29 (by omega) (by omega) x h0 h1).trans (by simp)
  have h := get_calls w x 35 29 (by omega) (by omega)
  rw [e] at h
  exact h

theorem get_double (w : World) (x : Int) (h0 : 0 ≤ x) (h1 : x ≤ 18446744073709551615) : Gives Try.prog 107 #[.agg #[.int .i64 2, .int .i64 1], .int .u64 x] w (.int .u64 (x / 4 % 2)) := by
  have e : getF 2 1 x = x / 4 % 2 := (getF_eq 2 1 (by omega) (by omega) x h0 h1).trans (by simp)
  have h := get_calls w x 2 1 (by omega) (by omega)
  rw [e] at h
  exact h

theorem get_place (w : World) (x : Int) (h0 : 0 ≤ x) (h1 : x ≤ 18446744073709551615) : Gives Try.prog 107 #[.agg #[.int .i64 3, .int .i64 29], .int .u64 x] w (.int .u64 (x / 8 % 536870912)) := by
  have e : getF 3 29 x = x / 8 % 536870912 := (getF_eq 3 29 (by omega) (by omega) x h0 h1).trans (by simp)
  have h := get_calls w x 3 29 (by omega) (by omega)
  rw [e] at h
  exact h

theorem get_seg (w : World) (x : Int) (h0 : 0 ≤ x) (h1 : x ≤ 18446744073709551615) : Gives Try.prog 107 #[.agg #[.int .i64 32, .int .i64 32], .int .u64 x] w (.int .u64 (x / 4294967296 % 4294967296)) := by
  have e : getF 32 32 x = x / 4294967296 % 4294967296 := (getF_eq 32 32 (by omega) (by omega) x h0 h1).trans (by simp)
  have h := get_calls w x 32 32 (by omega) (by omega)
  rw [e] at h
  exact h

set_option maxRecDepth 100000 in
theorem signed_calls (w : World) (n : Int) (h0 : 0 ≤ n) (h1 : n < 1073741824) : Gives Try.prog 115 #[.int .u64 n, .int .i64 30] w (.int .i64 (sgn30 n)) := by
 have G := Grow.rfl' w
 refine gives_of Try.func115 Try.ntmps115 Try.results115 rfl rfl ?_
 refine W_seq (W_region rfl ?_)
 refine WL_some (og rfl ?_)
 (first | refine r_assign_int rfl ?_ | refine r_assign rfl ?_)
 refine WL_nil ?_
 refine W_seq (W_region rfl ?_)
 refine WL_some (og rfl ?_)
 (first | refine r_move_int rfl ?_ | refine r_move rfl ?_)
 refine WL_some (og rfl ?_)
 (first | (refine r_min_l rfl rfl rfl ?_ ?_; omega) | (refine r_min_r rfl rfl rfl ?_ ?_; omega) | refine r_min rfl rfl rfl ?_)
 refine WL_some (og rfl ?_)
 (first | (refine r_max_l rfl rfl rfl ?_ ?_; omega) | (refine r_max_r rfl rfl rfl ?_ ?_; omega) | refine r_max rfl rfl rfl ?_)
 refine WL_some (og rfl ?_)
 (first | (refine r_sub rfl rfl ?_ ?_; (constructor <;> omega)) | refine r_subw rfl rfl ?_)
 refine WL_some (og rfl ?_)
 (first | refine r_assign_int rfl ?_ | refine r_assign rfl ?_)
 refine WL_nil ?_
 refine W_seq (W_region rfl ?_)
 refine WL_some (og rfl ?_)
 (first | refine r_move_int rfl ?_ | refine r_move rfl ?_)
 refine WL_some (og rfl ?_)
 (first | refine r_move_int rfl ?_ | refine r_move rfl ?_)
 refine WL_some (og rfl ?_)
 (refine r_shl rfl rfl ?_ ?_; omega)
 refine WL_some (og rfl ?_)
 (first | (refine r_conv rfl ?_ ?_; (constructor <;> omega)) | refine r_convw rfl ?_)
 refine WL_some (og rfl ?_)
 (first | refine r_move_int rfl ?_ | refine r_move rfl ?_)
 refine WL_some (og rfl ?_)
 (refine r_shr rfl rfl ?_ ?_; omega)
 refine WL_some (og rfl ?_)
 (first | refine r_assign_int rfl ?_ | refine r_assign rfl ?_)
 refine WL_nil ?_
 refine W_ret ?_
 exact ret1 (res_tmp rfl) ⟨congrArg (Value.int .i64) (signed_eq n h0 h1), G⟩

set_option maxRecDepth 100000 in
theorem decode_calls (w : World) (x : Int) (hx0 : 0 ≤ x) (hx1 : x ≤ 18446744073709551615) : Gives Try.prog 103 #[.int .u64 x] w (.tuple #[(decP x).v, .int .u16 (decE x)]) := by
 have G := Grow.rfl' w
 refine gives_of Try.func103 Try.ntmps103 Try.results103 rfl rfl ?_
 refine W_seq (W_region rfl ?_)
 refine stp (r_alloc ?_)
 intro b1 w2 hb3 hc4 g5
 refine WL_some (og rfl ?_)
 (first | refine r_assign_int rfl ?_ | refine r_assign rfl ?_)
 refine WL_nil ?_
 refine W_seq ?_
 refine W_seq (W_region rfl ?_)
 refine WL_some (og rfl ?_)
 (first | refine r_move_int rfl ?_ | refine r_move rfl ?_)
 refine WL_some (og rfl ?_)
 (first | (refine r_eql_t rfl rfl ?_ ?_; (first | assumption | omega)) | (refine r_eql_f rfl rfl ?_ ?_; (first | assumption | omega)) | refine r_eql rfl rfl ?_)
 refine WL_nil ?_
 have hge6 := Nat.le_trans G.size hb3
 replace G := G.tr g5
 clear g5 hb3
 refine W_cond2 rfl (fun h0 => ?_) (fun h0 => ?_)
 ·-- true
  first | (replace h0 := of_decide_eq_true h0) | (replace h0 := of_decide_eq_false h0) | skip
  refine W_seq (W_region rfl ?_)
  refine stp (r_build (v := .agg #[.int .i64 (0), .int .i64 (0), .int .i64 (0), .int .i64 (0), .int .i64 (0), .int .i64 (0), .int .i64 (0), .bool false]) (fun w => by kernel_rfl) ?_)
  refine stn (r_storeAll rfl rfl hc4 (by rfl) (by rfl) (by rfl) ?_)
  intro w10 hc11 u12
  replace G := G.upd u12 hge6
  clear u12 hc4
  refine WL_some (og rfl ?_)
  (first | refine r_assign_int rfl ?_ | refine r_assign rfl ?_)
  refine WL_nil ?_
  refine W_ret ?_
  subst h0
  refine ret2 (res_all rfl (by assumption) (by rfl)) (res_int rfl) ⟨?_, G⟩
  simp [decP, decE, Pt.v, Pt0, ]
 ·-- false
  first | (replace h0 := of_decide_eq_true h0) | (replace h0 := of_decide_eq_false h0) | skip
  refine W_skip ?_
  refine W_seq (W_region rfl ?_)
  refine stp (r_alloc ?_)
  intro b13 w14 hb15 hc16 g17
  refine WL_nil ?_
  refine W_seq ?_
  refine W_seq (W_region rfl ?_)
  have hge18 := Nat.le_trans G.size hb15
  have ne19 := Nat.ne_of_lt (Nat.lt_of_lt_of_le (lt_of_heap hc4) hb15)
  replace hc4 := g17.heap hc4
  replace G := G.tr g17
  clear g17 hb15
  refine stp (r_gives rfl (kind_calls _) ?_)
  intro w20 g21
  replace hc4 := g21.heap hc4
  replace hc16 := g21.heap hc16
  replace G := G.tr g21
  clear g21
  refine WL_some (og rfl ?_)
  (first | refine r_move_int rfl ?_ | refine r_move rfl ?_)
  refine stp (r_gives rfl (get_kind _ _ hx0 hx1) ?_)
  intro w22 g23
  replace hc4 := g23.heap hc4
  replace hc16 := g23.heap hc16
  replace G := G.tr g23
  clear g23
  refine WL_some (og rfl ?_)
  (first | refine r_assign_int rfl ?_ | refine r_assign rfl ?_)
  refine WL_nil ?_
  refine W_seq (W_region rfl ?_)
  refine WL_some (og rfl ?_)
  (first | refine r_move_int rfl ?_ | refine r_move rfl ?_)
  refine WL_nil ?_
  refine W_block ?_
  refine W_seq (W_region rfl ?_)
  refine WL_some (og rfl ?_)
  (first | (refine r_eql_t rfl rfl ?_ ?_; (first | assumption | omega)) | (refine r_eql_f rfl rfl ?_ ?_; (first | assumption | omega)) | refine r_eql rfl rfl ?_)
  refine WL_some (og rfl ?_)
  (first | refine r_assign_bool rfl ?_ | refine r_assign rfl ?_)
  refine WL_nil ?_
  refine W_cond2 rfl (fun h1 => ?_) (fun h1 => ?_)
  ·-- true
   first | (replace h1 := of_decide_eq_true h1) | (replace h1 := of_decide_eq_false h1) | skip
   refine W_region rfl ?_
   refine stp (r_gives rfl (data_calls _) ?_)
   intro w24 g25
   replace hc4 := g25.heap hc4
   replace hc16 := g25.heap hc16
   replace G := G.tr g25
   clear g25
   refine WL_some (og rfl ?_)
   (first | refine r_move_int rfl ?_ | refine r_move rfl ?_)
   refine stp (r_gives rfl (get_data _ _ hx0 hx1) ?_)
   intro w26 g27
   replace hc4 := g27.heap hc4
   replace hc16 := g27.heap hc16
   replace G := G.tr g27
   clear g27
   refine WL_some (og rfl ?_)
   (first | (refine r_conv rfl ?_ ?_; (constructor <;> omega)) | refine r_convw rfl ?_)
   refine stp (r_gives rfl (ptrs_calls _) ?_)
   intro w28 g29
   replace hc4 := g29.heap hc4
   replace hc16 := g29.heap hc16
   replace G := G.tr g29
   clear g29
   refine WL_some (og rfl ?_)
   (first | refine r_move_int rfl ?_ | refine r_move rfl ?_)
   refine stp (r_gives rfl (get_ptrs _ _ hx0 hx1) ?_)
   intro w30 g31
   replace hc4 := g31.heap hc4
   replace hc16 := g31.heap hc16
   replace G := G.tr g31
   clear g31
   refine WL_some (og rfl ?_)
   (first | (refine r_conv rfl ?_ ?_; (constructor <;> omega)) | refine r_convw rfl ?_)
   refine stp (r_build (v := .agg #[.int .i64 (1), .int .i64 (0), .int .i64 (x / 4294967296 % 65536), .int .i64 (x / 281474976710656 % 65536), .int .i64 (0), .int .i64 (0), .int .i64 (0), .bool false]) (fun w => by kernel_rfl) ?_)
   refine stn (r_storeAll rfl rfl hc16 (by rfl) (by rfl) (by rfl) ?_)
   intro w35 hc36 u37
   replace hc4 := u37.heap hc4 ne19
   replace G := G.upd u37 hge18
   clear u37 hc16
   refine WL_nil ?_
   refine W_seq (W_region rfl ?_)
   refine stp (r_gives rfl (off_calls _) ?_)
   intro w38 g39
   replace hc4 := g39.heap hc4
   replace hc36 := g39.heap hc36
   replace G := G.tr g39
   clear g39
   refine WL_some (og rfl ?_)
   (first | refine r_move_int rfl ?_ | refine r_move rfl ?_)
   refine stp (r_gives rfl (get_off _ _ hx0 hx1) ?_)
   intro w40 g41
   replace hc4 := g41.heap hc4
   replace hc36 := g41.heap hc36
   replace G := G.tr g41
   clear g41
   refine stp (r_gives rfl (off_calls _) ?_)
   intro w42 g43
   replace hc4 := g43.heap hc4
   replace hc36 := g43.heap hc36
   replace G := G.tr g43
   clear g43
   refine stp (r_field rfl (by rfl) ?_)
   refine stp (r_gives rfl (signed_calls _ _ (by omega) (by omega)) ?_)
   intro w44 g45
   replace hc4 := g45.heap hc4
   replace hc36 := g45.heap hc36
   replace G := G.tr g45
   clear g45
   refine stp (r_fieldAddr rfl ?_)
   refine stn (r_store1 (v := .int _ _) rfl rfl (by rfl) hc36 (by rfl) (by rfl) ?_)
   intro w49 hc50 u51
   replace hc4 := u51.heap hc4 ne19
   replace G := G.upd u51 hge18
   clear u51 hc36
   refine WL_nil ?_
   refine W_seq (W_region rfl ?_)
   refine WL_some (og rfl ?_)
   (first | refine r_loadAll rfl (by assumption) (by rfl) ?_ | refine r_loadN rfl (by assumption) (by rfl) (by rfl) ?_)
   refine stn (r_storeAll rfl rfl hc4 (by rfl) (by rfl) (by rfl) ?_)
   intro w55 hc56 u57
   replace hc50 := u57.heap hc50 ne19.symm
   replace G := G.upd u57 hge6
   clear u57 hc4
   refine WL_some (og rfl ?_)
   (first | refine r_assign_int rfl ?_ | refine r_assign rfl ?_)
   refine WL_nil ?_
   refine W_ret ?_
   refine ret2 (res_all rfl (by assumption) (by rfl)) (res_int rfl) ⟨?_, G⟩
   simp [decP, decE, Pt.v, Pt0, h0, h1]
  ·-- false
   first | (replace h1 := of_decide_eq_true h1) | (replace h1 := of_decide_eq_false h1) | skip
   refine W_seq (W_region rfl ?_)
   refine WL_some (og rfl ?_)
   (first | (refine r_eql_t rfl rfl ?_ ?_; (first | assumption | omega)) | (refine r_eql_f rfl rfl ?_ ?_; (first | assumption | omega)) | refine r_eql rfl rfl ?_)
   refine WL_some (og rfl ?_)
   (first | refine r_assign_bool rfl ?_ | refine r_assign rfl ?_)
   refine WL_nil ?_
   refine W_cond2 rfl (fun h2 => ?_) (fun h2 => ?_)
   ·-- true
    first | (replace h2 := of_decide_eq_true h2) | (replace h2 := of_decide_eq_false h2) | skip
    refine W_region rfl ?_
    refine stp (r_gives rfl (size_calls _) ?_)
    intro w58 g59
    replace hc4 := g59.heap hc4
    replace hc16 := g59.heap hc16
    replace G := G.tr g59
    clear g59
    refine WL_some (og rfl ?_)
    (first | refine r_move_int rfl ?_ | refine r_move rfl ?_)
    refine stp (r_gives rfl (get_size _ _ hx0 hx1) ?_)
    intro w60 g61
    replace hc4 := g61.heap hc4
    replace hc16 := g61.heap hc16
    replace G := G.tr g61
    clear g61
    refine WL_some (og rfl ?_)
    (first | (refine r_conv rfl ?_ ?_; (constructor <;> omega)) | refine r_convw rfl ?_)
    refine stp (r_gives rfl (count_calls _) ?_)
    intro w62 g63
    replace hc4 := g63.heap hc4
    replace hc16 := g63.heap hc16
    replace G := G.tr g63
    clear g63
    refine WL_some (og rfl ?_)
    (first | refine r_move_int rfl ?_ | refine r_move rfl ?_)
    refine stp (r_gives rfl (get_count _ _ hx0 hx1) ?_)
    intro w64 g65
    replace hc4 := g65.heap hc4
    replace hc16 := g65.heap hc16
    replace G := G.tr g65
    clear g65
    refine WL_some (og rfl ?_)
    (first | (refine r_conv rfl ?_ ?_; (constructor <;> omega)) | refine r_convw rfl ?_)
    refine stp (r_build (v := .agg #[.int .i64 (2), .int .i64 (0), .int .i64 (0), .int .i64 (0), .int .i64 (x / 4294967296 % 8), .int .i64 (x / 34359738368 % 536870912), .int .i64 (0), .bool false]) (fun w => by kernel_rfl) ?_)
    refine stn (r_storeAll rfl rfl hc16 (by rfl) (by rfl) (by rfl) ?_)
    intro w69 hc70 u71
    replace hc4 := u71.heap hc4 ne19
    replace G := G.upd u71 hge18
    clear u71 hc16
    refine WL_nil ?_
    refine W_seq (W_region rfl ?_)
    refine stp (r_gives rfl (off_calls _) ?_)
    intro w72 g73
    replace hc4 := g73.heap hc4
    replace hc70 := g73.heap hc70
    replace G := G.tr g73
    clear g73
    refine WL_some (og rfl ?_)
    (first | refine r_move_int rfl ?_ | refine r_move rfl ?_)
    refine stp (r_gives rfl (get_off _ _ hx0 hx1) ?_)
    intro w74 g75
    replace hc4 := g75.heap hc4
    replace hc70 := g75.heap hc70
    replace G := G.tr g75
    clear g75
    refine stp (r_gives rfl (off_calls _) ?_)
    intro w76 g77
    replace hc4 := g77.heap hc4
    replace hc70 := g77.heap hc70
    replace G := G.tr g77
    clear g77
    refine stp (r_field rfl (by rfl) ?_)
    refine stp (r_gives rfl (signed_calls _ _ (by omega) (by omega)) ?_)
    intro w78 g79
    replace hc4 := g79.heap hc4
    replace hc70 := g79.heap hc70
    replace G := G.tr g79
    clear g79
    refine stp (r_fieldAddr rfl ?_)
    refine stn (r_store1 (v := .int _ _) rfl rfl (by rfl) hc70 (by rfl) (by rfl) ?_)
    intro w83 hc84 u85
    replace hc4 := u85.heap hc4 ne19
    replace G := G.upd u85 hge18
    clear u85 hc70
    refine WL_nil ?_
    refine W_seq (W_region rfl ?_)
    refine WL_some (og rfl ?_)
    (first | refine r_loadAll rfl (by assumption) (by rfl) ?_ | refine r_loadN rfl (by assumption) (by rfl) (by rfl) ?_)
    refine stn (r_storeAll rfl rfl hc4 (by rfl) (by rfl) (by rfl) ?_)
    intro w89 hc90 u91
    replace hc84 := u91.heap hc84 ne19.symm
    replace G := G.upd u91 hge6
    clear u91 hc4
    refine WL_some (og rfl ?_)
    (first | refine r_assign_int rfl ?_ | refine r_assign rfl ?_)
    refine WL_nil ?_
    refine W_ret ?_
    refine ret2 (res_all rfl (by assumption) (by rfl)) (res_int rfl) ⟨?_, G⟩
    simp [decP, decE, Pt.v, Pt0, h0, h1, h2]
   ·-- false
    first | (replace h2 := of_decide_eq_true h2) | (replace h2 := of_decide_eq_false h2) | skip
    refine W_seq (W_region rfl ?_)
    refine WL_some (og rfl ?_)
    (first | (refine r_eql_t rfl rfl ?_ ?_; (first | assumption | omega)) | (refine r_eql_f rfl rfl ?_ ?_; (first | assumption | omega)) | refine r_eql rfl rfl ?_)
    refine WL_some (og rfl ?_)
    (first | refine r_assign_bool rfl ?_ | refine r_assign rfl ?_)
    refine WL_nil ?_
    refine W_cond2 rfl (fun h3 => ?_) (fun h3 => ?_)
    ·-- true
     first | (replace h3 := of_decide_eq_true h3) | (replace h3 := of_decide_eq_false h3) | skip
     refine W_seq (W_region rfl ?_)
     refine stp (r_gives rfl (place_calls _) ?_)
     intro w92 g93
     replace hc4 := g93.heap hc4
     replace hc16 := g93.heap hc16
     replace G := G.tr g93
     clear g93
     refine WL_some (og rfl ?_)
     (first | refine r_move_int rfl ?_ | refine r_move rfl ?_)
     refine stp (r_gives rfl (get_place _ _ hx0 hx1) ?_)
     intro w94 g95
     replace hc4 := g95.heap hc4
     replace hc16 := g95.heap hc16
     replace G := G.tr g95
     clear g95
     refine WL_some (og rfl ?_)
     (first | (refine r_conv rfl ?_ ?_; (constructor <;> omega)) | refine r_convw rfl ?_)
     refine stp (r_gives rfl (seg_calls _) ?_)
     intro w96 g97
     replace hc4 := g97.heap hc4
     replace hc16 := g97.heap hc16
     replace G := G.tr g97
     clear g97
     refine WL_some (og rfl ?_)
     (first | refine r_move_int rfl ?_ | refine r_move rfl ?_)
     refine stp (r_gives rfl (get_seg _ _ hx0 hx1) ?_)
     intro w98 g99
     replace hc4 := g99.heap hc4
     replace hc16 := g99.heap hc16
     replace G := G.tr g99
     clear g99
     refine WL_some (og rfl ?_)
     (first | (refine r_conv rfl ?_ ?_; (constructor <;> omega)) | refine r_convw rfl ?_)
     refine stp (r_gives rfl (double_calls _) ?_)
     intro w100 g101
     replace hc4 := g101.heap hc4
     replace hc16 := g101.heap hc16
     replace G := G.tr g101
     clear g101
     refine WL_some (og rfl ?_)
     (first | refine r_move_int rfl ?_ | refine r_move rfl ?_)
     refine stp (r_gives rfl (get_double _ _ hx0 hx1) ?_)
     intro w102 g103
     replace hc4 := g103.heap hc4
     replace hc16 := g103.heap hc16
     replace G := G.tr g103
     clear g103
     refine stp (r_eql rfl rfl ?_)
     refine stp (r_build (v := .agg #[.int .i64 (3), .int .i64 (x / 8 % 536870912), .int .i64 (0), .int .i64 (0), .int .i64 (0), .int .i64 (0), .int .i64 (x / 4294967296 % 4294967296), .bool (decide (x / 4 % 2 = 1))]) (fun w => by kernel_rfl) ?_)
     refine stn (r_storeAll rfl rfl hc4 (by rfl) (by rfl) (by rfl) ?_)
     intro w107 hc108 u109
     replace hc16 := u109.heap hc16 ne19.symm
     replace G := G.upd u109 hge6
     clear u109 hc4
     refine WL_some (og rfl ?_)
     (first | refine r_assign_int rfl ?_ | refine r_assign rfl ?_)
     refine WL_nil ?_
     refine W_ret ?_
     refine ret2 (res_all rfl (by assumption) (by rfl)) (res_int rfl) ⟨?_, G⟩
     simp [decP, decE, Pt.v, Pt0, h0, h1, h2, h3]
    ·-- false
     first | (replace h3 := of_decide_eq_true h3) | (replace h3 := of_decide_eq_false h3) | skip
     have h4 : x % 4 = 3 := by omega
     refine W_seq (W_region rfl ?_)
     refine WL_some (og rfl ?_)
     (first | refine r_loadAll rfl (by assumption) (by rfl) ?_ | refine r_loadN rfl (by assumption) (by rfl) (by rfl) ?_)
     refine stn (r_storeAll rfl rfl hc4 (by rfl) (by rfl) (by rfl) ?_)
     intro w113 hc114 u115
     replace hc16 := u115.heap hc16 ne19.symm
     replace G := G.upd u115 hge6
     clear u115 hc4
     refine WL_some (og rfl ?_)
     (first | refine r_assign_int rfl ?_ | refine r_assign rfl ?_)
     refine WL_nil ?_
     refine W_ret ?_
     refine ret2 (res_all rfl (by assumption) (by rfl)) (res_int rfl) ⟨?_, G⟩
     simp [decP, decE, Pt.v, Pt0, h0, h1, h2, h3, h4]

set_option maxRecDepth 100000 in
theorem words_calls (w : World) (p : Pt) : Gives Try.prog 91 #[.agg #[.int .i64 (p.kind), .int .i64 (p.off), .int .i64 (p.data), .int .i64 (p.ptrs), .int .i64 (p.size), .int .i64 (p.count), .int .i64 (p.seg), .bool p.dbl]] w (.tuple #[.int .i64 (wordsN p), .int .u16 (wordsE p)]) := by
 have G := Grow.rfl' w
 refine gives_of Try.func91 Try.ntmps91 Try.results91 rfl rfl ?_
 refine W_seq (W_region rfl ?_)
 refine WL_some (og rfl ?_)
 (first | refine r_box_agg rfl ?_ | refine r_box_int rfl ?_ | refine r_box_slice rfl ?_ | refine r_box rfl rfl ?_)
 intro b1 w2 hb3 hc4 g5
 have hge6 := Nat.le_trans G.size hb3
 replace G := G.tr g5
 clear g5 hb3
 refine WL_some (og rfl ?_)
 (first | refine r_assign_int rfl ?_ | refine r_assign rfl ?_)
 refine WL_some (og rfl ?_)
 (first | refine r_assign_int rfl ?_ | refine r_assign rfl ?_)
 refine WL_nil ?_
 refine W_seq ?_
 refine W_seq (W_region rfl ?_)
 refine stp (r_fieldAddr rfl ?_)
 refine stp (r_load rfl (by assumption) (by rfl) ?_)
 refine WL_nil ?_
 refine W_block ?_
 refine W_seq (W_region rfl ?_)
 refine WL_some (og rfl ?_)
 (first | (refine r_eql_t rfl rfl ?_ ?_; (first | assumption | omega)) | (refine r_eql_f rfl rfl ?_ ?_; (first | assumption | omega)) | refine r_eql rfl rfl ?_)
 refine WL_some (og rfl ?_)
 (first | refine r_assign_bool rfl ?_ | refine r_assign rfl ?_)
 refine WL_nil ?_
 refine W_cond2 rfl (fun h0 => ?_) (fun h0 => ?_)
 ·-- true
  first | (replace h0 := of_decide_eq_true h0) | (replace h0 := of_decide_eq_false h0) | skip
  refine W_seq (W_region rfl ?_)
  refine WL_some (og rfl ?_)
  (first | refine r_assign_int rfl ?_ | refine r_assign rfl ?_)
  refine WL_some (og rfl ?_)
  (first | refine r_assign_int rfl ?_ | refine r_assign rfl ?_)
  refine WL_nil ?_
  refine W_ret ?_
  refine ret2 (res_int rfl) (res_int rfl) ⟨?_, G⟩
  simp [wordsN, wordsE, h0]
 ·-- false
  first | (replace h0 := of_decide_eq_true h0) | (replace h0 := of_decide_eq_false h0) | skip
  refine W_seq (W_region rfl ?_)
  refine WL_some (og rfl ?_)
  (first | (refine r_eql_t rfl rfl ?_ ?_; (first | assumption | omega)) | (refine r_eql_f rfl rfl ?_ ?_; (first | assumption | omega)) | refine r_eql rfl rfl ?_)
  refine WL_some (og rfl ?_)
  (first | refine r_assign_bool rfl ?_ | refine r_assign rfl ?_)
  refine WL_nil ?_
  refine W_cond2 rfl (fun h1 => ?_) (fun h1 => ?_)
  ·-- true
   first | (replace h1 := of_decide_eq_true h1) | (replace h1 := of_decide_eq_false h1) | skip
   refine W_seq (W_region rfl ?_)
   refine stp (r_fieldAddr rfl ?_)
   refine stp (r_load rfl (by assumption) (by rfl) ?_)
   refine stp (r_fieldAddr rfl ?_)
   refine stp (r_load rfl (by assumption) (by rfl) ?_)
   refine WL_some (og rfl ?_)
   (first | (refine r_add rfl rfl ?_ ?_; (constructor <;> omega)) | refine r_addw rfl rfl ?_)
   refine WL_some (og rfl ?_)
   (first | refine r_assign_int rfl ?_ | refine r_assign rfl ?_)
   refine WL_some (og rfl ?_)
   (first | refine r_assign_int rfl ?_ | refine r_assign rfl ?_)
   refine WL_nil ?_
   refine W_ret ?_
   refine ret2 (res_int rfl) (res_int rfl) ⟨?_, G⟩
   simp [wordsN, wordsE, h0, h1]
  ·-- false
   first | (replace h1 := of_decide_eq_true h1) | (replace h1 := of_decide_eq_false h1) | skip
   refine W_seq (W_region rfl ?_)
   refine WL_some (og rfl ?_)
   (first | (refine r_eql_t rfl rfl ?_ ?_; (first | assumption | omega)) | (refine r_eql_f rfl rfl ?_ ?_; (first | assumption | omega)) | refine r_eql rfl rfl ?_)
   refine WL_some (og rfl ?_)
   (first | refine r_assign_bool rfl ?_ | refine r_assign rfl ?_)
   refine WL_nil ?_
   refine W_cond2 rfl (fun h3 => ?_) (fun h3 => ?_)
   ·-- true
    first | (replace h3 := of_decide_eq_true h3) | (replace h3 := of_decide_eq_false h3) | skip
    refine W_seq ?_
    refine W_seq (W_region rfl ?_)
    refine stp (r_fieldAddr rfl ?_)
    refine stp (r_load rfl (by assumption) (by rfl) ?_)
    refine WL_nil ?_
    refine W_cond2 rfl (fun hd_ => ?_) (fun hd_ => ?_)
    ·-- true
     first | (replace hd_ := of_decide_eq_true hd_) | (replace hd_ := of_decide_eq_false hd_) | skip
     refine W_seq (W_region rfl ?_)
     refine WL_some (og rfl ?_)
     (first | refine r_assign_int rfl ?_ | refine r_assign rfl ?_)
     refine WL_some (og rfl ?_)
     (first | refine r_assign_int rfl ?_ | refine r_assign rfl ?_)
     refine WL_nil ?_
     refine W_ret ?_
     refine ret2 (res_int rfl) (res_int rfl) ⟨?_, G⟩
     simp [wordsN, wordsE, h0, h1, h3, hd_]
    ·-- false
     first | (replace hd_ := of_decide_eq_true hd_) | (replace hd_ := of_decide_eq_false hd_) | skip
     refine W_skip ?_
     refine W_seq (W_region rfl ?_)
     refine WL_some (og rfl ?_)
     (first | refine r_assign_int rfl ?_ | refine r_assign rfl ?_)
     refine WL_some (og rfl ?_)
     (first | refine r_assign_int rfl ?_ | refine r_assign rfl ?_)
     refine WL_nil ?_
     refine W_ret ?_
     refine ret2 (res_int rfl) (res_int rfl) ⟨?_, G⟩
     simp [wordsN, wordsE, h0, h1, h3, hd_]
   ·-- false
    first | (replace h3 := of_decide_eq_true h3) | (replace h3 := of_decide_eq_false h3) | skip
    refine W_seq (W_region rfl ?_)
    refine WL_some (og rfl ?_)
    (first | (refine r_eql_t rfl rfl ?_ ?_; (first | assumption | omega)) | (refine r_eql_f rfl rfl ?_ ?_; (first | assumption | omega)) | refine r_eql rfl rfl ?_)
    refine WL_some (og rfl ?_)
    (first | refine r_assign_bool rfl ?_ | refine r_assign rfl ?_)
    refine WL_nil ?_
    refine W_cond2 rfl (fun h2 => ?_) (fun h2 => ?_)
    ·-- true
     first | (replace h2 := of_decide_eq_true h2) | (replace h2 := of_decide_eq_false h2) | skip
     refine W_seq (W_region rfl ?_)
     refine stp (r_fieldAddr rfl ?_)
     refine stp (r_load rfl (by assumption) (by rfl) ?_)
     refine WL_nil ?_
     refine W_block ?_
     refine W_seq ?_
     refine W_block ?_
     refine W_block ?_
     refine W_seq ?_
     refine W_block ?_
     refine W_seq ?_
     refine W_seq ?_
     refine W_seq (W_region rfl ?_)
     refine WL_some (og rfl ?_)
     (first | (refine r_eql_t rfl rfl ?_ ?_; (first | assumption | omega)) | (refine r_eql_f rfl rfl ?_ ?_; (first | assumption | omega)) | refine r_eql rfl rfl ?_)
     refine WL_some (og rfl ?_)
     (first | refine r_assign_bool rfl ?_ | refine r_assign rfl ?_)
     refine WL_nil ?_
     refine W_cond2 rfl (fun s2 => ?_) (fun s2 => ?_)
     ·-- true
      first | (replace s2 := of_decide_eq_true s2) | (replace s2 := of_decide_eq_false s2) | skip
      refine W_exit ?_
      refine W_seq ?_
      refine W_seq (W_region rfl ?_)
      refine stp (r_fieldAddr rfl ?_)
      refine stp (r_load rfl (by assumption) (by rfl) ?_)
      refine WL_some (og rfl ?_)
      (first | (refine r_add rfl rfl ?_ ?_; (constructor <;> omega)) | refine r_addw rfl rfl ?_)
      refine WL_some (og rfl ?_)
      (first | (refine r_sub rfl rfl ?_ ?_; (constructor <;> omega)) | refine r_subw rfl rfl ?_)
      refine WL_some (og rfl ?_)
      (first | (refine r_quo rfl rfl ?_ ?_ ?_ ?_; omega; omega; (constructor <;> omega)) | (refine r_quow rfl rfl ?_ ?_; omega))
      refine WL_some (og rfl ?_)
      (first | refine r_assign_int rfl ?_ | refine r_assign rfl ?_)
      refine WL_some (og rfl ?_)
      (first | refine r_assign_int rfl ?_ | refine r_assign rfl ?_)
      refine WL_nil ?_
      refine W_ret ?_
      refine ret2 (res_int rfl) (res_int rfl) ⟨?_, G⟩
      simp [wordsN, wordsE, h0, h1, h3, h2, s2]
     ·-- false
      first | (replace s2 := of_decide_eq_true s2) | (replace s2 := of_decide_eq_false s2) | skip
      refine W_skip ?_
      refine W_seq ?_
      refine W_seq (W_region rfl ?_)
      refine WL_some (og rfl ?_)
      (first | (refine r_eql_t rfl rfl ?_ ?_; (first | assumption | omega)) | (refine r_eql_f rfl rfl ?_ ?_; (first | assumption | omega)) | refine r_eql rfl rfl ?_)
      refine WL_some (og rfl ?_)
      (first | refine r_assign_bool rfl ?_ | refine r_assign rfl ?_)
      refine WL_nil ?_
      refine W_cond2 rfl (fun s5 => ?_) (fun s5 => ?_)
      ·-- true
       first | (replace s5 := of_decide_eq_true s5) | (replace s5 := of_decide_eq_false s5) | skip
       refine W_exit ?_
       refine W_seq ?_
       refine W_seq (W_region rfl ?_)
       refine stp (r_fieldAddr rfl ?_)
       refine stp (r_load rfl (by assumption) (by rfl) ?_)
       refine WL_some (og rfl ?_)
       (first | refine r_assign_int rfl ?_ | refine r_assign rfl ?_)
       refine WL_some (og rfl ?_)
       (first | refine r_assign_int rfl ?_ | refine r_assign rfl ?_)
       refine WL_nil ?_
       refine W_ret ?_
       refine ret2 (res_int rfl) (res_int rfl) ⟨?_, G⟩
       simp [wordsN, wordsE, h0, h1, h3, h2, s2, s5]
      ·-- false
       first | (replace s5 := of_decide_eq_true s5) | (replace s5 := of_decide_eq_false s5) | skip
       refine W_skip ?_
       refine W_seq (W_region rfl ?_)
       refine WL_some (og rfl ?_)
       (first | (refine r_eql_t rfl rfl ?_ ?_; (first | assumption | omega)) | (refine r_eql_f rfl rfl ?_ ?_; (first | assumption | omega)) | refine r_eql rfl rfl ?_)
       refine WL_some (og rfl ?_)
       (first | refine r_assign_bool rfl ?_ | refine r_assign rfl ?_)
       refine WL_nil ?_
       refine W_cond2 rfl (fun s6 => ?_) (fun s6 => ?_)
       ·-- true
        first | (replace s6 := of_decide_eq_true s6) | (replace s6 := of_decide_eq_false s6) | skip
        refine W_exit ?_
        refine W_seq ?_
        refine W_seq (W_region rfl ?_)
        refine stp (r_fieldAddr rfl ?_)
        refine stp (r_load rfl (by assumption) (by rfl) ?_)
        refine WL_some (og rfl ?_)
        (first | refine r_assign_int rfl ?_ | refine r_assign rfl ?_)
        refine WL_some (og rfl ?_)
        (first | refine r_assign_int rfl ?_ | refine r_assign rfl ?_)
        refine WL_nil ?_
        refine W_ret ?_
        refine ret2 (res_int rfl) (res_int rfl) ⟨?_, G⟩
        simp [wordsN, wordsE, h0, h1, h3, h2, s2, s5, s6]
       ·-- false
        first | (replace s6 := of_decide_eq_true s6) | (replace s6 := of_decide_eq_false s6) | skip
        refine W_skip ?_
        refine W_exit ?_
        refine W_seq (W_region rfl ?_)
        refine WL_some (og rfl ?_)
        (first | refine r_assign_int rfl ?_ | refine r_assign rfl ?_)
        refine WL_some (og rfl ?_)
        (first | refine r_assign_int rfl ?_ | refine r_assign rfl ?_)
        refine WL_nil ?_
        refine W_ret ?_
        refine ret2 (res_int rfl) (res_int rfl) ⟨?_, G⟩
        simp [wordsN, wordsE, h0, h1, h3, h2, s2, s5, s6]
    ·-- false
     first | (replace h2 := of_decide_eq_true h2) | (replace h2 := of_decide_eq_false h2) | skip
     refine W_skip ?_
     refine W_seq (W_region rfl ?_)
     refine WL_some (og rfl ?_)
     (first | refine r_assign_int rfl ?_ | refine r_assign rfl ?_)
     refine WL_some (og rfl ?_)
     (first | refine r_assign_int rfl ?_ | refine r_assign rfl ?_)
     refine WL_nil ?_
     refine W_ret ?_
     refine ret2 (res_int rfl) (res_int rfl) ⟨?_, G⟩
     simp [wordsN, wordsE, h0, h1, h3, h2]

set_option maxRecDepth 100000 in
theorem bits_calls (w : World) (x : Int) (a b : Nat) (hx0 : 0 ≤ x) (hx1 : x ≤ 18446744073709551615) (ha : a ≤ 63) (hb : b ≤ 62) : Gives Try.prog 76 #[.int .u64 x, .int .i64 a, .int .i64 b] w (.int .u64 (x / 2 ^ a % 2 ^ b)) := by
 have G := Grow.rfl' w
 refine gives_of Try.func76 Try.ntmps76 Try.results76 rfl rfl ?_
 refine W_seq (W_region rfl ?_)
 refine WL_some (og rfl ?_)
 (first | refine r_assign_int rfl ?_ | refine r_assign rfl ?_)
 refine WL_nil ?_
 refine W_seq ?_
 refine W_seq (W_region rfl ?_)
 refine WL_some (og rfl ?_)
 (first | refine r_assign_int rfl ?_ | refine r_assign rfl ?_)
 refine WL_nil ?_
 refine W_block ?_
 refine W_loop (fun m_ e_ w_ => ∃ (k : Nat), m_ = a - k ∧ Fr [(0, .int .u64 (x / 2 ^ k)), (1, .int .i64 a), (2, .int .i64 b), (7, .int .i64 k)] e_ ∧ (k ≤ a) ∧ Grow w w_) _ ⟨0, rfl, fr_of ⟨congrArg (Value.int .u64) (by simp), rfl, rfl, rfl, trivial⟩, by omega, G⟩ ?_
 clear G
 rintro m_ e_ w1 ⟨k, rfl, ⟨e2, rfl⟩, hk, G⟩
 refine W_seq ?_
 refine W_seq (W_region rfl ?_)
 refine WL_some (og rfl ?_)
 (first | refine r_move_int rfl ?_ | refine r_move rfl ?_)
 refine WL_some (og rfl ?_)
 (first | refine r_move_int rfl ?_ | refine r_move rfl ?_)
 refine WL_some (og rfl ?_)
 (first | (refine r_lss_t rfl rfl ?_ ?_; (first | assumption | omega)) | (refine r_lss_f rfl rfl ?_ ?_; (first | assumption | omega)) | refine r_lss rfl rfl ?_)
 refine WL_nil ?_
 refine W_cond2 rfl (fun hlt => ?_) (fun hlt => ?_)
 ·-- true
  first | (replace hlt := of_decide_eq_true hlt) | (replace hlt := of_decide_eq_false hlt) | skip
  have hk2 : k < a := by omega
  obtain ⟨hd0, hd1⟩ := div_range x k hx0
  refine W_skip ?_
  refine W_seq ?_
  refine W_block ?_
  refine W_region rfl ?_
  refine WL_some (og rfl ?_)
  (first | refine r_move_int rfl ?_ | refine r_move rfl ?_)
  refine WL_some (og rfl ?_)
  (first | (refine r_quo rfl rfl ?_ ?_ ?_ ?_; omega; omega; (constructor <;> omega)) | (refine r_quow rfl rfl ?_ ?_; omega))
  refine WL_some (og rfl ?_)
  (first | refine r_assign_int rfl ?_ | refine r_assign rfl ?_)
  refine WL_nil ?_
  refine W_region rfl ?_
  refine WL_some (og rfl ?_)
  (first | refine r_move_int rfl ?_ | refine r_move rfl ?_)
  refine WL_some (og rfl ?_)
  (first | (refine r_add rfl rfl ?_ ?_; (constructor <;> omega)) | refine r_addw rfl rfl ?_)
  refine WL_some (og rfl ?_)
  (first | refine r_assign_int rfl ?_ | refine r_assign rfl ?_)
  refine WL_nil ?_
  refine ⟨_, ?_, k + 1, rfl, fr_of ⟨congrArg (Value.int .u64) (div_pow x k).symm, rfl, rfl, rfl, trivial⟩, by omega, G⟩
  omega
 ·-- false
  first | (replace hlt := of_decide_eq_true hlt) | (replace hlt := of_decide_eq_false hlt) | skip
  have hk2 : k = a := by omega
  subst hk2
  obtain ⟨hd0, hd1⟩ := div_range x k hx0
  refine W_exit ?_
  refine W_seq (W_region rfl ?_)
  refine WL_some (og rfl ?_)
  (first | refine r_assign_int rfl ?_ | refine r_assign rfl ?_)
  refine WL_nil ?_
  refine W_seq ?_
  refine W_seq (W_region rfl ?_)
  refine WL_some (og rfl ?_)
  (first | refine r_assign_int rfl ?_ | refine r_assign rfl ?_)
  refine WL_nil ?_
  refine W_block ?_
  refine W_loop (fun m_ e_ w_ => ∃ (j : Nat), m_ = b - j ∧ Fr [(0, .int .u64 (x / 2 ^ k)), (8, .int .u64 (2 ^ j)), (2, .int .i64 b), (9, .int .i64 j)] e_ ∧ (j ≤ b) ∧ Grow w w_) _ ⟨0, rfl, fr_of ⟨rfl, rfl, rfl, rfl, trivial⟩, by omega, G⟩ ?_
  clear G
  rintro m_ e_ w3 ⟨j, rfl, ⟨e4, rfl⟩, hj, G⟩
  refine W_seq ?_
  refine W_seq (W_region rfl ?_)
  refine WL_some (og rfl ?_)
  (first | refine r_move_int rfl ?_ | refine r_move rfl ?_)
  refine WL_some (og rfl ?_)
  (first | refine r_move_int rfl ?_ | refine r_move rfl ?_)
  refine WL_some (og rfl ?_)
  (first | (refine r_lss_t rfl rfl ?_ ?_; (first | assumption | omega)) | (refine r_lss_f rfl rfl ?_ ?_; (first | assumption | omega)) | refine r_lss rfl rfl ?_)
  refine WL_nil ?_
  refine W_cond2 rfl (fun hlt2 => ?_) (fun hlt2 => ?_)
  ·-- true
   first | (replace hlt2 := of_decide_eq_true hlt2) | (replace hlt2 := of_decide_eq_false hlt2) | skip
   have hj2 : j < b := by omega
   obtain ⟨hp0, hp1, hp2⟩ := pow_bound j (by omega)
   refine W_skip ?_
   refine W_seq ?_
   refine W_block ?_
   refine W_region rfl ?_
   refine WL_some (og rfl ?_)
   (first | refine r_move_int rfl ?_ | refine r_move rfl ?_)
   refine WL_some (og rfl ?_)
   (first | (refine r_mul rfl rfl ?_ ?_; (constructor <;> omega)) | refine r_mulw rfl rfl ?_)
   refine WL_some (og rfl ?_)
   (first | refine r_assign_int rfl ?_ | refine r_assign rfl ?_)
   refine WL_nil ?_
   refine W_region rfl ?_
   refine WL_some (og rfl ?_)
   (first | refine r_move_int rfl ?_ | refine r_move rfl ?_)
   refine WL_some (og rfl ?_)
   (first | (refine r_add rfl rfl ?_ ?_; (constructor <;> omega)) | refine r_addw rfl rfl ?_)
   refine WL_some (og rfl ?_)
   (first | refine r_assign_int rfl ?_ | refine r_assign rfl ?_)
   refine WL_nil ?_
   refine ⟨_, ?_, j + 1, rfl, fr_of ⟨rfl, congrArg (Value.int .u64) hp2.symm, rfl, rfl, trivial⟩, by omega, G⟩
   omega
  ·-- false
   first | (replace hlt2 := of_decide_eq_true hlt2) | (replace hlt2 := of_decide_eq_false hlt2) | skip
   have hj2 : j = b := by omega
   subst hj2
   obtain ⟨hp0, hp1, hp2⟩ := pow_bound j (by omega)
   refine W_exit ?_
   refine W_seq (W_region rfl ?_)
   refine WL_some (og rfl ?_)
   (first | refine r_move_int rfl ?_ | refine r_move rfl ?_)
   refine WL_some (og rfl ?_)
   (first | refine r_move_int rfl ?_ | refine r_move rfl ?_)
   refine WL_some (og rfl ?_)
   (first | (refine r_rem rfl rfl ?_ ?_ ?_; omega; omega) | (refine r_remw rfl rfl ?_ ?_; omega))
   refine WL_some (og rfl ?_)
   (first | refine r_assign_int rfl ?_ | refine r_assign rfl ?_)
   refine WL_nil ?_
   refine W_ret ?_
   exact ret1 (res_int rfl) ⟨rfl, G⟩

theorem bits_2_30 (w : World) (x : Int) (h0 : 0 ≤ x) (h1 : x ≤ 18446744073709551615) : Gives Try.prog 76 #[.int .u64 x, .int .i64 2, .int .i64 30] w (.int .u64 (x / 4 % 1073741824)) := by
  have h := bits_calls w x 2 30 h0 h1 (by omega) (by omega)
  rw [show x / 2 ^ 2 % 2 ^ 30 = x / 4 % 1073741824 from by simp] at h
  exact h

theorem bits_32_16 (w : World) (x : Int) (h0 : 0 ≤ x) (h1 : x ≤ 18446744073709551615) : Gives Try.prog 76 #[.int .u64 x, .int .i64 32, .int .i64 16] w (.int .u64 (x / 4294967296 % 65536)) := by
  have h := bits_calls w x 32 16 h0 h1 (by omega) (by omega)
  rw [show x / 2 ^ 32 % 2 ^ 16 = x / 4294967296 % 65536 from by simp] at h
  exact h

theorem bits_48_16 (w : World) (x : Int) (h0 : 0 ≤ x) (h1 : x ≤ 18446744073709551615) : Gives Try.prog 76 #[.int .u64 x, .int .i64 48, .int .i64 16] w (.int .u64 (x / 281474976710656 % 65536)) := by
  have h := bits_calls w x 48 16 h0 h1 (by omega) (by omega)
  rw [show x / 2 ^ 48 % 2 ^ 16 = x / 281474976710656 % 65536 from by simp] at h
  exact h

theorem bits_32_3 (w : World) (x : Int) (h0 : 0 ≤ x) (h1 : x ≤ 18446744073709551615) : Gives Try.prog 76 #[.int .u64 x, .int .i64 32, .int .i64 3] w (.int .u64 (x / 4294967296 % 8)) := by
  have h := bits_calls w x 32 3 h0 h1 (by omega) (by omega)
  rw [show x / 2 ^ 32 % 2 ^ 3 = x / 4294967296 % 8 from by simp] at h
  exact h

theorem bits_35_29 (w : World) (x : Int) (h0 : 0 ≤ x) (h1 : x ≤ 18446744073709551615) : Gives Try.prog 76 #[.int .u64 x, .int .i64 35, .int .i64 29] w (.int .u64 (x / 34359738368 % 536870912)) := by
  have h := bits_calls w x 35 29 h0 h1 (by omega) (by omega)
  rw [show x / 2 ^ 35 % 2 ^ 29 = x / 34359738368 % 536870912 from by simp] at h
  exact h

theorem bits_3_29 (w : World) (x : Int) (h0 : 0 ≤ x) (h1 : x ≤ 18446744073709551615) : Gives Try.prog 76 #[.int .u64 x, .int .i64 3, .int .i64 29] w (.int .u64 (x / 8 % 536870912)) := by
  have h := bits_calls w x 3 29 h0 h1 (by omega) (by omega)
  rw [show x / 2 ^ 3 % 2 ^ 29 = x / 8 % 536870912 from by simp] at h
  exact h

theorem bits_32_32 (w : World) (x : Int) (h0 : 0 ≤ x) (h1 : x ≤ 18446744073709551615) : Gives Try.prog 76 #[.int .u64 x, .int .i64 32, .int .i64 32] w (.int .u64 (x / 4294967296 % 4294967296)) := by
  have h := bits_calls w x 32 32 h0 h1 (by omega) (by omega)
  rw [show x / 2 ^ 32 % 2 ^ 32 = x / 4294967296 % 4294967296 from by simp] at h
  exact h

theorem bits_2_1 (w : World) (x : Int) (h0 : 0 ≤ x) (h1 : x ≤ 18446744073709551615) : Gives Try.prog 76 #[.int .u64 x, .int .i64 2, .int .i64 1] w (.int .u64 (x / 4 % 2)) := by
  have h := bits_calls w x 2 1 h0 h1 (by omega) (by omega)
  rw [show x / 2 ^ 2 % 2 ^ 1 = x / 4 % 2 from by simp] at h
  exact h

theorem bits_0_30 (w : World) (x : Int) (h0 : 0 ≤ x) (h1 : x ≤ 18446744073709551615) : Gives Try.prog 76 #[.int .u64 x, .int .i64 0, .int .i64 30] w (.int .u64 (x % 1073741824)) := by
  have h := bits_calls w x 0 30 h0 h1 (by omega) (by omega)
  rw [show x / 2 ^ 0 % 2 ^ 30 = x % 1073741824 from by simp] at h
  exact h

theorem bits_0_16 (w : World) (x : Int) (h0 : 0 ≤ x) (h1 : x ≤ 18446744073709551615) : Gives Try.prog 76 #[.int .u64 x, .int .i64 0, .int .i64 16] w (.int .u64 (x % 65536)) := by
  have h := bits_calls w x 0 16 h0 h1 (by omega) (by omega)
  rw [show x / 2 ^ 0 % 2 ^ 16 = x % 65536 from by simp] at h
  exact h

theorem bits_0_3 (w : World) (x : Int) (h0 : 0 ≤ x) (h1 : x ≤ 18446744073709551615) : Gives Try.prog 76 #[.int .u64 x, .int .i64 0, .int .i64 3] w (.int .u64 (x % 8)) := by
  have h := bits_calls w x 0 3 h0 h1 (by omega) (by omega)
  rw [show x / 2 ^ 0 % 2 ^ 3 = x % 8 from by simp] at h
  exact h

theorem bits_0_29 (w : World) (x : Int) (h0 : 0 ≤ x) (h1 : x ≤ 18446744073709551615) : Gives Try.prog 76 #[.int .u64 x, .int .i64 0, .int .i64 29] w (.int .u64 (x % 536870912)) := by
  have h := bits_calls w x 0 29 h0 h1 (by omega) (by omega)
  rw [show x / 2 ^ 0 % 2 ^ 29 = x % 536870912 from by simp] at h
  exact h

theorem bits_0_32 (w : World) (x : Int) (h0 : 0 ≤ x) (h1 : x ≤ 18446744073709551615) : Gives Try.prog 76 #[.int .u64 x, .int .i64 0, .int .i64 32] w (.int .u64 (x % 4294967296)) := by
  have h := bits_calls w x 0 32 h0 h1 (by omega) (by omega)
  rw [show x / 2 ^ 0 % 2 ^ 32 = x % 4294967296 from by simp] at h
  exact h

set_option maxRecDepth 100000 in
theorem rsigned_calls (w : World) (n : Int) (h0 : 0 ≤ n) (h1 : n < 1073741824) : Gives Try.prog 77 #[.int .u64 n, .int .i64 30] w (.int .i64 (sgn30 n)) := by
 have G := Grow.rfl' w
 refine gives_of Try.func77 Try.ntmps77 Try.results77 rfl rfl ?_
 refine W_seq (W_region rfl ?_)
 refine WL_some (og rfl ?_)
 (first | refine r_assign_int rfl ?_ | refine r_assign rfl ?_)
 refine WL_nil ?_
 refine W_seq (W_region rfl ?_)
 refine WL_some (og rfl ?_)
 (first | refine r_move_int rfl ?_ | refine r_move rfl ?_)
 refine WL_some (og rfl ?_)
 (first | (refine r_min_l rfl rfl rfl ?_ ?_; omega) | (refine r_min_r rfl rfl rfl ?_ ?_; omega) | refine r_min rfl rfl rfl ?_)
 refine WL_some (og rfl ?_)
 (first | (refine r_max_l rfl rfl rfl ?_ ?_; omega) | (refine r_max_r rfl rfl rfl ?_ ?_; omega) | refine r_max rfl rfl rfl ?_)
 refine WL_some (og rfl ?_)
 (first | refine r_assign_int rfl ?_ | refine r_assign rfl ?_)
 refine WL_nil ?_
 refine W_seq (W_region rfl ?_)
 refine WL_some (og rfl ?_)
 (first | refine r_assign_int rfl ?_ | refine r_assign rfl ?_)
 refine WL_nil ?_
 refine W_seq ?_
 refine W_seq (W_region rfl ?_)
 refine WL_some (og rfl ?_)
 (first | refine r_assign_int rfl ?_ | refine r_assign rfl ?_)
 refine WL_nil ?_
 refine W_block ?_
 refine W_loop (fun m_ e_ w_ => ∃ (k : Nat), m_ = 29 - k ∧ Fr [(0, .int .u64 n), (1, .int .i64 30), (5, .int .i64 (2 ^ k)), (6, .int .i64 (k + 1))] e_ ∧ (k ≤ 29) ∧ Grow w w_) _ ⟨0, rfl, fr_of ⟨rfl, rfl, rfl, rfl, trivial⟩, by omega, G⟩ ?_
 clear G
 rintro m_ e_ w1 ⟨k, rfl, ⟨e2, rfl⟩, hk, G⟩
 refine W_seq ?_
 refine W_seq (W_region rfl ?_)
 refine WL_some (og rfl ?_)
 (first | refine r_move_int rfl ?_ | refine r_move rfl ?_)
 refine WL_some (og rfl ?_)
 (first | refine r_move_int rfl ?_ | refine r_move rfl ?_)
 refine WL_some (og rfl ?_)
 (first | (refine r_lss_t rfl rfl ?_ ?_; (first | assumption | omega)) | (refine r_lss_f rfl rfl ?_ ?_; (first | assumption | omega)) | refine r_lss rfl rfl ?_)
 refine WL_nil ?_
 refine W_cond2 rfl (fun hlt => ?_) (fun hlt => ?_)
 ·-- true
  first | (replace hlt := of_decide_eq_true hlt) | (replace hlt := of_decide_eq_false hlt) | skip
  obtain ⟨hp0, hp1, hp2⟩ := pow_bound30 k (by omega)
  refine W_skip ?_
  refine W_seq ?_
  refine W_block ?_
  refine W_region rfl ?_
  refine WL_some (og rfl ?_)
  (first | refine r_move_int rfl ?_ | refine r_move rfl ?_)
  refine WL_some (og rfl ?_)
  (first | (refine r_mul rfl rfl ?_ ?_; (constructor <;> omega)) | refine r_mulw rfl rfl ?_)
  refine WL_some (og rfl ?_)
  (first | refine r_assign_int rfl ?_ | refine r_assign rfl ?_)
  refine WL_nil ?_
  refine W_region rfl ?_
  refine WL_some (og rfl ?_)
  (first | refine r_move_int rfl ?_ | refine r_move rfl ?_)
  refine WL_some (og rfl ?_)
  (first | (refine r_add rfl rfl ?_ ?_; (constructor <;> omega)) | refine r_addw rfl rfl ?_)
  refine WL_some (og rfl ?_)
  (first | refine r_assign_int rfl ?_ | refine r_assign rfl ?_)
  refine WL_nil ?_
  refine ⟨_, ?_, k + 1, rfl, fr_of ⟨rfl, rfl, congrArg (Value.int .i64) hp2.symm, rfl, trivial⟩, by omega, G⟩
  omega
 ·-- false
  first | (replace hlt := of_decide_eq_true hlt) | (replace hlt := of_decide_eq_false hlt) | skip
  have hk2 : k = 29 := by omega
  subst hk2
  have hpw : (2 : Int) ^ 29 = 536870912 := rfl
  refine W_exit ?_
  refine W_seq (W_region rfl ?_)
  refine WL_some (og rfl ?_)
  (first | refine r_move_int rfl ?_ | refine r_move rfl ?_)
  refine WL_some (og rfl ?_)
  (first | refine r_move_int rfl ?_ | refine r_move rfl ?_)
  refine WL_some (og rfl ?_)
  (first | (refine r_conv rfl ?_ ?_; (constructor <;> omega)) | refine r_convw rfl ?_)
  refine WL_some (og rfl ?_)
  (first | (refine r_mul rfl rfl ?_ ?_; (constructor <;> omega)) | refine r_mulw rfl rfl ?_)
  refine WL_some (og rfl ?_)
  (first | (refine r_rem rfl rfl ?_ ?_ ?_; omega; omega) | (refine r_remw rfl rfl ?_ ?_; omega))
  refine WL_some (og rfl ?_)
  (first | (refine r_conv rfl ?_ ?_; (constructor <;> omega)) | refine r_convw rfl ?_)
  refine WL_some (og rfl ?_)
  (first | refine r_assign_int rfl ?_ | refine r_assign rfl ?_)
  refine WL_nil ?_
  refine W_seq ?_
  refine W_seq (W_region rfl ?_)
  refine WL_some (og rfl ?_)
  (first | refine r_move_int rfl ?_ | refine r_move rfl ?_)
  refine WL_some (og rfl ?_)
  (first | refine r_move_int rfl ?_ | refine r_move rfl ?_)
  refine WL_some (og rfl ?_)
  (first | (refine r_geq_t rfl rfl ?_ ?_; (first | assumption | omega)) | (refine r_geq_f rfl rfl ?_ ?_; (first | assumption | omega)) | refine r_geq rfl rfl ?_)
  refine WL_nil ?_
  refine W_cond2 rfl (fun hge => ?_) (fun hge => ?_)
  ·-- true
   first | (replace hge := of_decide_eq_true hge) | (replace hge := of_decide_eq_false hge) | skip
   refine W_seq (W_region rfl ?_)
   refine WL_some (og rfl ?_)
   (first | refine r_move_int rfl ?_ | refine r_move rfl ?_)
   refine WL_some (og rfl ?_)
   (first | refine r_move_int rfl ?_ | refine r_move rfl ?_)
   refine WL_some (og rfl ?_)
   (first | (refine r_sub rfl rfl ?_ ?_; (constructor <;> omega)) | refine r_subw rfl rfl ?_)
   refine WL_some (og rfl ?_)
   (first | refine r_move_int rfl ?_ | refine r_move rfl ?_)
   refine WL_some (og rfl ?_)
   (first | (refine r_sub rfl rfl ?_ ?_; (constructor <;> omega)) | refine r_subw rfl rfl ?_)
   refine WL_some (og rfl ?_)
   (first | refine r_assign_int rfl ?_ | refine r_assign rfl ?_)
   refine WL_nil ?_
   refine W_ret ?_
   refine ret1 (res_int rfl) ⟨congrArg (Value.int .i64) ?_, G⟩
   unfold sgn30; rw [if_neg (by omega)]; omega
  ·-- false
   first | (replace hge := of_decide_eq_true hge) | (replace hge := of_decide_eq_false hge) | skip
   refine W_skip ?_
   refine W_seq (W_region rfl ?_)
   refine WL_some (og rfl ?_)
   (first | refine r_move_int rfl ?_ | refine r_move rfl ?_)
   refine WL_some (og rfl ?_)
   (first | refine r_assign_int rfl ?_ | refine r_assign rfl ?_)
   refine WL_nil ?_
   refine W_ret ?_
   refine ret1 (res_int rfl) ⟨congrArg (Value.int .i64) ?_, G⟩
   unfold sgn30; rw [if_pos (by omega)]; omega

theorem bits0 (w : World) (x m : Int) (b : Nat) (hx0 : 0 ≤ x) (hx1 : x ≤ 18446744073709551615) (hb : b ≤ 62) (hm : x % 2 ^ b = m) : Gives Try.prog 76 #[.int .u64 x, .int .i64 0, .int .i64 b] w (.int .u64 m) := by
  have h := bits_calls w x 0 b hx0 hx1 (by omega) hb
  rw [Int.pow_zero, Int.ediv_one, hm] at h
  exact h

set_option maxRecDepth 100000 in
theorem low_calls (w : World) (x m : Int) (b : Nat) (hb : b ≤ 62) (hm : IntKind.u64.wrap x % 2 ^ b = m) : Gives Try.prog 47 #[.int .i64 x, .int .i64 b] w (.int .u64 m) := by
 have G := Grow.rfl' w
 refine gives_of Try.func47 Try.ntmps47 Try.results47 rfl rfl ?_
 have hu := wrap_u64 x
 refine W_seq (W_region rfl ?_)
 refine WL_some (og rfl ?_)
 (first | refine r_assign_int rfl ?_ | refine r_assign rfl ?_)
 refine WL_nil ?_
 refine W_seq (W_region rfl ?_)
 refine WL_some (og rfl ?_)
 (first | refine r_move_int rfl ?_ | refine r_move rfl ?_)
 refine WL_some (og rfl ?_)
 (first | (refine r_conv rfl ?_ ?_; (constructor <;> omega)) | refine r_convw rfl ?_)
 refine WL_some (og rfl ?_)
 (first | refine r_move_int rfl ?_ | refine r_move rfl ?_)
 refine stp (r_gives rfl (bits0 _ _ _ b (by omega) (by omega) hb hm) ?_)
 intro w1 g2
 replace G := G.tr g2
 clear g2
 refine WL_some (og rfl ?_)
 (first | refine r_assign_int rfl ?_ | refine r_assign rfl ?_)
 refine WL_nil ?_
 refine W_ret ?_
 exact ret1 (res_int rfl) ⟨rfl, G⟩

theorem low_30 (w : World) (x : Int) : Gives Try.prog 47 #[.int .i64 x, .int .i64 30] w (.int .u64 (x % 1073741824)) :=
  low_calls w x _ 30 (by omega) (by rw [wrap_u64]; show _ % (1073741824 : Int) = _; omega)

theorem low_16 (w : World) (x : Int) : Gives Try.prog 47 #[.int .i64 x, .int .i64 16] w (.int .u64 (x % 65536)) :=
  low_calls w x _ 16 (by omega) (by rw [wrap_u64]; show _ % (65536 : Int) = _; omega)

theorem low_3 (w : World) (x : Int) : Gives Try.prog 47 #[.int .i64 x, .int .i64 3] w (.int .u64 (x % 8)) :=
  low_calls w x _ 3 (by omega) (by rw [wrap_u64]; show _ % (8 : Int) = _; omega)

theorem low_29 (w : World) (x : Int) : Gives Try.prog 47 #[.int .i64 x, .int .i64 29] w (.int .u64 (x % 536870912)) :=
  low_calls w x _ 29 (by omega) (by rw [wrap_u64]; show _ % (536870912 : Int) = _; omega)

theorem low_32 (w : World) (x : Int) : Gives Try.prog 47 #[.int .i64 x, .int .i64 32] w (.int .u64 (x % 4294967296)) :=
  low_calls w x _ 32 (by omega) (by rw [wrap_u64]; show _ % (4294967296 : Int) = _; omega)

set_option maxRecDepth 100000 in
theorem rdecode_calls (w : World) (x : Int) (hx0 : 0 ≤ x) (hx1 : x ≤ 18446744073709551615) : Gives Try.prog 48 #[.int .u64 x] w (.tuple #[(decP x).v, .int .i64 (decE x)]) := by
 have G := Grow.rfl' w
 refine gives_of Try.func48 Try.ntmps48 Try.results48 rfl rfl ?_
 refine W_seq (W_region rfl ?_)
 refine stp (r_alloc ?_)
 intro b1 w2 hb3 hc4 g5
 refine WL_some (og rfl ?_)
 (first | refine r_assign_int rfl ?_ | refine r_assign rfl ?_)
 refine WL_nil ?_
 refine W_seq ?_
 refine W_seq (W_region rfl ?_)
 refine WL_some (og rfl ?_)
 (first | refine r_move_int rfl ?_ | refine r_move rfl ?_)
 refine WL_some (og rfl ?_)
 (first | (refine r_eql_t rfl rfl ?_ ?_; (first | assumption | omega)) | (refine r_eql_f rfl rfl ?_ ?_; (first | assumption | omega)) | refine r_eql rfl rfl ?_)
 refine WL_nil ?_
 have hge6 := Nat.le_trans G.size hb3
 replace G := G.tr g5
 clear g5 hb3
 refine W_cond2 rfl (fun h0 => ?_) (fun h0 => ?_)
 ·-- true
  first | (replace h0 := of_decide_eq_true h0) | (replace h0 := of_decide_eq_false h0) | skip
  refine W_seq (W_region rfl ?_)
  refine stp (r_build (v := .agg #[.int .i64 (0), .int .i64 (0), .int .i64 (0), .int .i64 (0), .int .i64 (0), .int .i64 (0), .int .i64 (0), .bool false]) (fun w => by kernel_rfl) ?_)
  refine stn (r_storeAll rfl rfl hc4 (by rfl) (by rfl) (by rfl) ?_)
  intro w10 hc11 u12
  replace G := G.upd u12 hge6
  clear u12 hc4
  refine WL_some (og rfl ?_)
  (first | refine r_assign_int rfl ?_ | refine r_assign rfl ?_)
  refine WL_nil ?_
  refine W_ret ?_
  subst h0
  refine ret2 (res_all rfl (by assumption) (by rfl)) (res_int rfl) ⟨?_, G⟩
  simp [decP, decE, Pt.v, Pt0]
 ·-- false
  first | (replace h0 := of_decide_eq_true h0) | (replace h0 := of_decide_eq_false h0) | skip
  refine W_skip ?_
  refine W_seq (W_region rfl ?_)
  refine WL_some (og rfl ?_)
  (first | refine r_move_int rfl ?_ | refine r_move rfl ?_)
  refine stp (r_gives rfl (bits_2_30 _ _ (by omega) (by omega)) ?_)
  intro w13 g14
  replace hc4 := g14.heap hc4
  replace G := G.tr g14
  clear g14
  refine stp (r_gives rfl (rsigned_calls _ _ (by omega) (by omega)) ?_)
  intro w15 g16
  replace hc4 := g16.heap hc4
  replace G := G.tr g16
  clear g16
  refine WL_some (og rfl ?_)
  (first | refine r_assign_int rfl ?_ | refine r_assign rfl ?_)
  refine WL_nil ?_
  refine W_seq ?_
  refine W_seq (W_region rfl ?_)
  refine WL_some (og rfl ?_)
  (first | refine r_move_int rfl ?_ | refine r_move rfl ?_)
  refine WL_some (og rfl ?_)
  (first | (refine r_rem rfl rfl ?_ ?_ ?_; omega; omega) | (refine r_remw rfl rfl ?_ ?_; omega))
  refine WL_nil ?_
  refine W_block ?_
  refine W_seq (W_region rfl ?_)
  refine WL_some (og rfl ?_)
  (first | (refine r_eql_t rfl rfl ?_ ?_; (first | assumption | omega)) | (refine r_eql_f rfl rfl ?_ ?_; (first | assumption | omega)) | refine r_eql rfl rfl ?_)
  refine WL_some (og rfl ?_)
  (first | refine r_assign_bool rfl ?_ | refine r_assign rfl ?_)
  refine WL_nil ?_
  refine W_cond2 rfl (fun h1 => ?_) (fun h1 => ?_)
  ·-- true
   first | (replace h1 := of_decide_eq_true h1) | (replace h1 := of_decide_eq_false h1) | skip
   refine W_seq (W_region rfl ?_)
   refine WL_some (og rfl ?_)
   (first | refine r_move_int rfl ?_ | refine r_move rfl ?_)
   refine WL_some (og rfl ?_)
   (first | refine r_move_int rfl ?_ | refine r_move rfl ?_)
   refine stp (r_gives rfl (bits_32_16 _ _ (by omega) (by omega)) ?_)
   intro w17 g18
   replace hc4 := g18.heap hc4
   replace G := G.tr g18
   clear g18
   refine WL_some (og rfl ?_)
   (first | (refine r_conv rfl ?_ ?_; (constructor <;> omega)) | refine r_convw rfl ?_)
   refine WL_some (og rfl ?_)
   (first | refine r_move_int rfl ?_ | refine r_move rfl ?_)
   refine stp (r_gives rfl (bits_48_16 _ _ (by omega) (by omega)) ?_)
   intro w19 g20
   replace hc4 := g20.heap hc4
   replace G := G.tr g20
   clear g20
   refine WL_some (og rfl ?_)
   (first | (refine r_conv rfl ?_ ?_; (constructor <;> omega)) | refine r_convw rfl ?_)
   refine stp (r_build (v := .agg #[.int .i64 (1), .int .i64 (sgn30 (x / 4 % 1073741824)), .int .i64 (x / 4294967296 % 65536), .int .i64 (x / 281474976710656 % 65536), .int .i64 (0), .int .i64 (0), .int .i64 (0), .bool false]) (fun w => by kernel_rfl) ?_)
   refine stn (r_storeAll rfl rfl hc4 (by rfl) (by rfl) (by rfl) ?_)
   intro w24 hc25 u26
   replace G := G.upd u26 hge6
   clear u26 hc4
   refine WL_some (og rfl ?_)
   (first | refine r_assign_int rfl ?_ | refine r_assign rfl ?_)
   refine WL_nil ?_
   refine W_ret ?_
   refine ret2 (res_all rfl (by assumption) (by rfl)) (res_int rfl) ⟨?_, G⟩
   simp [decP, decE, Pt.v, Pt0, h0, h1]
  ·-- false
   first | (replace h1 := of_decide_eq_true h1) | (replace h1 := of_decide_eq_false h1) | skip
   refine W_seq (W_region rfl ?_)
   refine WL_some (og rfl ?_)
   (first | (refine r_eql_t rfl rfl ?_ ?_; (first | assumption | omega)) | (refine r_eql_f rfl rfl ?_ ?_; (first | assumption | omega)) | refine r_eql rfl rfl ?_)
   refine WL_some (og rfl ?_)
   (first | refine r_assign_bool rfl ?_ | refine r_assign rfl ?_)
   refine WL_nil ?_
   refine W_cond2 rfl (fun h2 => ?_) (fun h2 => ?_)
   ·-- true
    first | (replace h2 := of_decide_eq_true h2) | (replace h2 := of_decide_eq_false h2) | skip
    refine W_seq (W_region rfl ?_)
    refine WL_some (og rfl ?_)
    (first | refine r_move_int rfl ?_ | refine r_move rfl ?_)
    refine WL_some (og rfl ?_)
    (first | refine r_move_int rfl ?_ | refine r_move rfl ?_)
    refine stp (r_gives rfl (bits_32_3 _ _ (by omega) (by omega)) ?_)
    intro w27 g28
    replace hc4 := g28.heap hc4
    replace G := G.tr g28
    clear g28
    refine WL_some (og rfl ?_)
    (first | (refine r_conv rfl ?_ ?_; (constructor <;> omega)) | refine r_convw rfl ?_)
    refine WL_some (og rfl ?_)
    (first | refine r_move_int rfl ?_ | refine r_move rfl ?_)
    refine stp (r_gives rfl (bits_35_29 _ _ (by omega) (by omega)) ?_)
    intro w29 g30
    replace hc4 := g30.heap hc4
    replace G := G.tr g30
    clear g30
    refine WL_some (og rfl ?_)
    (first | (refine r_conv rfl ?_ ?_; (constructor <;> omega)) | refine r_convw rfl ?_)
    refine stp (r_build (v := .agg #[.int .i64 (2), .int .i64 (sgn30 (x / 4 % 1073741824)), .int .i64 (0), .int .i64 (0), .int .i64 (x / 4294967296 % 8), .int .i64 (x / 34359738368 % 536870912), .int .i64 (0), .bool false]) (fun w => by kernel_rfl) ?_)
    refine stn (r_storeAll rfl rfl hc4 (by rfl) (by rfl) (by rfl) ?_)
    intro w34 hc35 u36
    replace G := G.upd u36 hge6
    clear u36 hc4
    refine WL_some (og rfl ?_)
    (first | refine r_assign_int rfl ?_ | refine r_assign rfl ?_)
    refine WL_nil ?_
    refine W_ret ?_
    refine ret2 (res_all rfl (by assumption) (by rfl)) (res_int rfl) ⟨?_, G⟩
    simp [decP, decE, Pt.v, Pt0, h0, h1, h2]
   ·-- false
    first | (replace h2 := of_decide_eq_true h2) | (replace h2 := of_decide_eq_false h2) | skip
    refine W_seq (W_region rfl ?_)
    refine WL_some (og rfl ?_)
    (first | (refine r_eql_t rfl rfl ?_ ?_; (first | assumption | omega)) | (refine r_eql_f rfl rfl ?_ ?_; (first | assumption | omega)) | refine r_eql rfl rfl ?_)
    refine WL_some (og rfl ?_)
    (first | refine r_assign_bool rfl ?_ | refine r_assign rfl ?_)
    refine WL_nil ?_
    refine W_cond2 rfl (fun h3 => ?_) (fun h3 => ?_)
    ·-- true
     first | (replace h3 := of_decide_eq_true h3) | (replace h3 := of_decide_eq_false h3) | skip
     refine W_seq (W_region rfl ?_)
     refine WL_some (og rfl ?_)
     (first | refine r_move_int rfl ?_ | refine r_move rfl ?_)
     refine stp (r_gives rfl (bits_3_29 _ _ (by omega) (by omega)) ?_)
     intro w37 g38
     replace hc4 := g38.heap hc4
     replace G := G.tr g38
     clear g38
     refine WL_some (og rfl ?_)
     (first | (refine r_conv rfl ?_ ?_; (constructor <;> omega)) | refine r_convw rfl ?_)
     refine WL_some (og rfl ?_)
     (first | refine r_move_int rfl ?_ | refine r_move rfl ?_)
     refine stp (r_gives rfl (bits_32_32 _ _ (by omega) (by omega)) ?_)
     intro w39 g40
     replace hc4 := g40.heap hc4
     replace G := G.tr g40
     clear g40
     refine WL_some (og rfl ?_)
     (first | (refine r_conv rfl ?_ ?_; (constructor <;> omega)) | refine r_convw rfl ?_)
     refine WL_some (og rfl ?_)
     (first | refine r_move_int rfl ?_ | refine r_move rfl ?_)
     refine stp (r_gives rfl (bits_2_1 _ _ (by omega) (by omega)) ?_)
     intro w41 g42
     replace hc4 := g42.heap hc4
     replace G := G.tr g42
     clear g42
     refine stp (r_eql rfl rfl ?_)
     refine stp (r_build (v := .agg #[.int .i64 (3), .int .i64 (x / 8 % 536870912), .int .i64 (0), .int .i64 (0), .int .i64 (0), .int .i64 (0), .int .i64 (x / 4294967296 % 4294967296), .bool (decide (x / 4 % 2 = 1))]) (fun w => by kernel_rfl) ?_)
     refine stn (r_storeAll rfl rfl hc4 (by rfl) (by rfl) (by rfl) ?_)
     intro w46 hc47 u48
     replace G := G.upd u48 hge6
     clear u48 hc4
     refine WL_some (og rfl ?_)
     (first | refine r_assign_int rfl ?_ | refine r_assign rfl ?_)
     refine WL_nil ?_
     refine W_ret ?_
     refine ret2 (res_all rfl (by assumption) (by rfl)) (res_int rfl) ⟨?_, G⟩
     simp [decP, decE, Pt.v, Pt0, h0, h1, h2, h3]
    ·-- false
     first | (replace h3 := of_decide_eq_true h3) | (replace h3 := of_decide_eq_false h3) | skip
     have h4 : x % 4 = 3 := by omega
     refine W_skip ?_
     refine W_seq (W_region rfl ?_)
     refine stp (r_build (v := .agg #[.int .i64 (0), .int .i64 (0), .int .i64 (0), .int .i64 (0), .int .i64 (0), .int .i64 (0), .int .i64 (0), .bool false]) (fun w => by kernel_rfl) ?_)
     refine stn (r_storeAll rfl rfl hc4 (by rfl) (by rfl) (by rfl) ?_)
     intro w52 hc53 u54
     replace G := G.upd u54 hge6
     clear u54 hc4
     refine WL_some (og rfl ?_)
     (first | refine r_assign_int rfl ?_ | refine r_assign rfl ?_)
     refine WL_nil ?_
     refine W_ret ?_
     refine ret2 (res_all rfl (by assumption) (by rfl)) (res_int rfl) ⟨?_, G⟩
     simp [decP, decE, Pt.v, Pt0, h0, h1, h2, h3, h4]

set_option maxRecDepth 100000 in
theorem rencode_calls (w : World) (p : Pt) : Gives Try.prog 28 #[.agg #[.int .i64 (p.kind), .int .i64 (p.off), .int .i64 (p.data), .int .i64 (p.ptrs), .int .i64 (p.size), .int .i64 (p.count), .int .i64 (p.seg), .bool p.dbl]] w (.tuple #[.int .u64 (encR p), .int .i64 (encE p)]) := by
 have G := Grow.rfl' w
 refine gives_of Try.func28 Try.ntmps28 Try.results28 rfl rfl ?_
 refine W_seq (W_region rfl ?_)
 refine WL_some (og rfl ?_)
 (first | refine r_box_agg rfl ?_ | refine r_box_int rfl ?_ | refine r_box_slice rfl ?_ | refine r_box rfl rfl ?_)
 intro b1 w2 hb3 hc4 g5
 have hge6 := Nat.le_trans G.size hb3
 replace G := G.tr g5
 clear g5 hb3
 refine WL_some (og rfl ?_)
 (first | refine r_assign_int rfl ?_ | refine r_assign rfl ?_)
 refine WL_some (og rfl ?_)
 (first | refine r_assign_int rfl ?_ | refine r_assign rfl ?_)
 refine WL_nil ?_
 refine W_seq (W_region rfl ?_)
 refine WL_some (og rfl ?_)
 (first | refine r_assign_int rfl ?_ | refine r_assign rfl ?_)
 refine WL_nil ?_
 refine W_seq ?_
 refine W_seq (W_region rfl ?_)
 refine stp (r_fieldAddr rfl ?_)
 refine stp (r_load rfl (by assumption) (by rfl) ?_)
 refine WL_nil ?_
 refine W_block ?_
 refine W_seq (W_region rfl ?_)
 refine WL_some (og rfl ?_)
 (first | (refine r_eql_t rfl rfl ?_ ?_; (first | assumption | omega)) | (refine r_eql_f rfl rfl ?_ ?_; (first | assumption | omega)) | refine r_eql rfl rfl ?_)
 refine WL_some (og rfl ?_)
 (first | refine r_assign_bool rfl ?_ | refine r_assign rfl ?_)
 refine WL_nil ?_
 refine W_cond2 rfl (fun h1 => ?_) (fun h1 => ?_)
 ·-- true
  first | (replace h1 := of_decide_eq_true h1) | (replace h1 := of_decide_eq_false h1) | skip
  have hw : 4 * (p.off % 1073741824) + p.data % 65536 * 4294967296 + p.ptrs % 65536 * 281474976710656 = encW p := by unfold encW; rw [if_pos h1]; omega
  obtain ⟨hx0, hx1⟩ := encW_range p
  by_cases hd : decE (encW p) = 0
  ·
   refine W_any 15 [[], [0], [1, 0], [2, 1, 0], [], [0], [5, 4, 3, 1, 0], [6, 5, 4, 2, 1, 0], [7, 6, 5, 4, 3, 2, 1, 0], [], [0], [10, 9, 8, 6, 5, 4, 1, 0], [11, 10, 9, 7, 6, 5, 2, 1, 0], [12, 11, 10, 9, 8, 7, 6, 5, 4, 3, 2, 1, 0], [13, 12, 11, 10, 9, 8, 7, 6, 5, 4, 3, 2, 1, 0]] mixed (by kernel_rfl) (by kernel_rfl) (by kernel_rfl) ?_
   intro w7 g8
   replace hc4 := g8.heap hc4
   replace G := G.tr g8
   clear g8
   apply AO_ex
   ·intro w_ g_; refine og rfl ?_; refine r_fieldAddr rfl ?_; exact ⟨Grow.rfl' _, rfl⟩
   apply AO_ex
   ·intro w_ g_; refine og rfl ?_; refine r_load rfl (by exact Grow.heap g_ (by assumption)) (by rfl) ?_; exact ⟨Grow.rfl' _, rfl⟩
   apply AO_ex
   ·intro w_ g_; refine og rfl ?_; refine r_gives rfl (low_30 _ _) ?_; intro w2_ g2_; exact ⟨g2_, rfl⟩
   apply AO_ex
   ·intro w_ g_; refine og rfl ?_; (first | (refine r_mul rfl rfl ?_ ?_; (constructor <;> omega)) | refine r_mulw rfl rfl ?_); exact ⟨Grow.rfl' _, rfl⟩
   apply AO_ex
   ·intro w_ g_; refine og rfl ?_; refine r_fieldAddr rfl ?_; exact ⟨Grow.rfl' _, rfl⟩
   apply AO_ex
   ·intro w_ g_; refine og rfl ?_; refine r_load rfl (by exact Grow.heap g_ (by assumption)) (by rfl) ?_; exact ⟨Grow.rfl' _, rfl⟩
   apply AO_ex
   ·intro w_ g_; refine og rfl ?_; refine r_gives rfl (low_16 _ _) ?_; intro w2_ g2_; exact ⟨g2_, rfl⟩
   apply AO_ex
   ·intro w_ g_; refine og rfl ?_; (first | (refine r_shlc (m := 4294967296) rfl rfl (by decide) (by decide) ?_ ?_; (constructor <;> omega)) | refine r_shlcw (m := 4294967296) rfl rfl (by decide) (by decide) ?_); exact ⟨Grow.rfl' _, rfl⟩
   apply AO_ex
   ·intro w_ g_; refine og rfl ?_; (first | (refine r_add rfl rfl ?_ ?_; (constructor <;> omega)) | refine r_addw rfl rfl ?_); exact ⟨Grow.rfl' _, rfl⟩
   apply AO_ex
   ·intro w_ g_; refine og rfl ?_; refine r_fieldAddr rfl ?_; exact ⟨Grow.rfl' _, rfl⟩
   apply AO_ex
   ·intro w_ g_; refine og rfl ?_; refine r_load rfl (by exact Grow.heap g_ (by assumption)) (by rfl) ?_; exact ⟨Grow.rfl' _, rfl⟩
   apply AO_ex
   ·intro w_ g_; refine og rfl ?_; refine r_gives rfl (low_16 _ _) ?_; intro w2_ g2_; exact ⟨g2_, rfl⟩
   apply AO_ex
   ·intro w_ g_; refine og rfl ?_; (first | (refine r_shlc (m := 281474976710656) rfl rfl (by decide) (by decide) ?_ ?_; (constructor <;> omega)) | refine r_shlcw (m := 281474976710656) rfl rfl (by decide) (by decide) ?_); exact ⟨Grow.rfl' _, rfl⟩
   apply AO_ex
   ·intro w_ g_; refine og rfl ?_; (first | (refine r_add rfl rfl ?_ ?_; (constructor <;> omega)) | refine r_addw rfl rfl ?_); exact ⟨Grow.rfl' _, rfl⟩
   apply AO_ex
   ·intro w_ g_; refine og rfl ?_; (first | refine r_assign_int rfl ?_ | refine r_assign rfl ?_); exact ⟨Grow.rfl' _, rfl⟩
   refine AO_nil ?_
   intro w9 g10
   replace hc4 := g10.heap hc4
   replace G := G.tr g10
   clear g10
   refine WL_nil ?_
   refine W_seq (W_region rfl ?_)
   refine WL_some (og rfl ?_)
   (first | refine r_move_int rfl ?_ | refine r_move rfl ?_)
   refine stp (r_gives rfl (by (try rw [hw]); exact rdecode_calls _ _ hx0 hx1) ?_)
   intro w11 g12
   replace hc4 := g12.heap hc4
   replace G := G.tr g12
   clear g12
   refine WL_some (og rfl ?_)
   (first | refine r_move_tuple rfl ?_ | refine r_move rfl ?_)
   refine stp (r_extract rfl rfl ?_)
   refine stp (r_extract rfl rfl ?_)
   refine stp (r_alloc ?_)
   intro b13 w14 hb15 hc16 g17
   refine stn (r_storeAll rfl rfl hc16 (by rfl) (by rfl) (by rfl) ?_)
   intro w18 hc19 u20
   have g21 := g17.upd u20 hb15
   have hge22 := Nat.le_trans G.size hb15
   have ne23 := Nat.ne_of_lt (Nat.lt_of_lt_of_le (lt_of_heap hc4) hb15)
   replace hc4 := g21.heap hc4
   replace G := G.tr g21
   clear u20 g17 hb15 hc16
   refine WL_some (og rfl ?_)
   (first | refine r_assign_int rfl ?_ | refine r_assign rfl ?_)
   refine WL_nil ?_
   refine W_seq ?_
   refine W_seq (W_region rfl ?_)
   refine WL_some (og rfl ?_)
   (first | refine r_move_int rfl ?_ | refine r_move rfl ?_)
   refine WL_some (og rfl ?_)
   (first | (refine r_neq_t rfl rfl ?_ ?_; (first | assumption | omega)) | (refine r_neq_f rfl rfl ?_ ?_; (first | assumption | omega)) | refine r_neq rfl rfl ?_)
   refine WL_some (og rfl ?_)
   (first | refine r_move_bool rfl ?_ | refine r_move rfl ?_)
   refine WL_some (og rfl ?_)
   (first | refine r_loadAll rfl (by assumption) (by rfl) ?_ | refine r_loadN rfl (by assumption) (by rfl) (by rfl) ?_)
   refine WL_some (og rfl ?_)
   (first | refine r_loadAll rfl (by assumption) (by rfl) ?_ | refine r_loadN rfl (by assumption) (by rfl) (by rfl) ?_)
   refine stp (r_neqS rfl rfl (by rfl) ?_)
   refine WL_some (og rfl ?_)
   (first | (refine r_pick_t rfl ?_ rfl ?_; (first | rfl | assumption)) | (refine r_pick_f rfl ?_ rfl ?_; (first | rfl | assumption)))
   refine WL_nil ?_
   refine W_cond2 rfl (fun hc => ?_) (fun hc => ?_)
   ·-- true
    first | (replace hc := of_decide_eq_true hc) | (replace hc := of_decide_eq_false hc) | skip
    refine W_seq (W_region rfl ?_)
    refine WL_some (og rfl ?_)
    (first | refine r_assign_int rfl ?_ | refine r_assign rfl ?_)
    refine WL_some (og rfl ?_)
    (first | refine r_assign_int rfl ?_ | refine r_assign rfl ?_)
    refine WL_nil ?_
    refine W_ret ?_
    refine ret2 (res_int rfl) (res_int rfl) ⟨?_, G⟩
    have hq : ¬ decP (encW p) = p := by
     intro hq
     rw [hq] at hc
     simp at hc
    simp [encR, encE, encOk, hd, hq]
   ·-- false
    first | (replace hc := of_decide_eq_true hc) | (replace hc := of_decide_eq_false hc) | skip
    refine W_skip ?_
    refine W_seq (W_region rfl ?_)
    refine WL_some (og rfl ?_)
    (first | refine r_move_int rfl ?_ | refine r_move rfl ?_)
    refine WL_some (og rfl ?_)
    (first | refine r_assign_int rfl ?_ | refine r_assign rfl ?_)
    refine WL_some (og rfl ?_)
    (first | refine r_assign_int rfl ?_ | refine r_assign rfl ?_)
    refine WL_nil ?_
    refine W_ret ?_
    refine ret2 (res_int rfl) (res_int rfl) ⟨?_, G⟩
    have hq : decP (encW p) = p := by
     generalize decP (encW p) = q at hc ⊢
     cases q; cases p; simpa [and_assoc] using hc
    simp [encR, encE, encOk, hd, hq] <;> omega
  ·
   refine W_any 15 [[], [0], [1, 0], [2, 1, 0], [], [0], [5, 4, 3, 1, 0], [6, 5, 4, 2, 1, 0], [7, 6, 5, 4, 3, 2, 1, 0], [], [0], [10, 9, 8, 6, 5, 4, 1, 0], [11, 10, 9, 7, 6, 5, 2, 1, 0], [12, 11, 10, 9, 8, 7, 6, 5, 4, 3, 2, 1, 0], [13, 12, 11, 10, 9, 8, 7, 6, 5, 4, 3, 2, 1, 0]] mixed (by kernel_rfl) (by kernel_rfl) (by kernel_rfl) ?_
   intro w24 g25
   replace hc4 := g25.heap hc4
   replace G := G.tr g25
   clear g25
   apply AO_ex
   ·intro w_ g_; refine og rfl ?_; refine r_fieldAddr rfl ?_; exact ⟨Grow.rfl' _, rfl⟩
   apply AO_ex
   ·intro w_ g_; refine og rfl ?_; refine r_load rfl (by exact Grow.heap g_ (by assumption)) (by rfl) ?_; exact ⟨Grow.rfl' _, rfl⟩
   apply AO_ex
   ·intro w_ g_; refine og rfl ?_; refine r_gives rfl (low_30 _ _) ?_; intro w2_ g2_; exact ⟨g2_, rfl⟩
   apply AO_ex
   ·intro w_ g_; refine og rfl ?_; (first | (refine r_mul rfl rfl ?_ ?_; (constructor <;> omega)) | refine r_mulw rfl rfl ?_); exact ⟨Grow.rfl' _, rfl⟩
   apply AO_ex
   ·intro w_ g_; refine og rfl ?_; refine r_fieldAddr rfl ?_; exact ⟨Grow.rfl' _, rfl⟩
   apply AO_ex
   ·intro w_ g_; refine og rfl ?_; refine r_load rfl (by exact Grow.heap g_ (by assumption)) (by rfl) ?_; exact ⟨Grow.rfl' _, rfl⟩
   apply AO_ex
   ·intro w_ g_; refine og rfl ?_; refine r_gives rfl (low_16 _ _) ?_; intro w2_ g2_; exact ⟨g2_, rfl⟩
   apply AO_ex
   ·intro w_ g_; refine og rfl ?_; (first | (refine r_shlc (m := 4294967296) rfl rfl (by decide) (by decide) ?_ ?_; (constructor <;> omega)) | refine r_shlcw (m := 4294967296) rfl rfl (by decide) (by decide) ?_); exact ⟨Grow.rfl' _, rfl⟩
   apply AO_ex
   ·intro w_ g_; refine og rfl ?_; (first | (refine r_add rfl rfl ?_ ?_; (constructor <;> omega)) | refine r_addw rfl rfl ?_); exact ⟨Grow.rfl' _, rfl⟩
   apply AO_ex
   ·intro w_ g_; refine og rfl ?_; refine r_fieldAddr rfl ?_; exact ⟨Grow.rfl' _, rfl⟩
   apply AO_ex
   ·intro w_ g_; refine og rfl ?_; refine r_load rfl (by exact Grow.heap g_ (by assumption)) (by rfl) ?_; exact ⟨Grow.rfl' _, rfl⟩
   apply AO_ex
   ·intro w_ g_; refine og rfl ?_; refine r_gives rfl (low_16 _ _) ?_; intro w2_ g2_; exact ⟨g2_, rfl⟩
   apply AO_ex
   ·intro w_ g_; refine og rfl ?_; (first | (refine r_shlc (m := 281474976710656) rfl rfl (by decide) (by decide) ?_ ?_; (constructor <;> omega)) | refine r_shlcw (m := 281474976710656) rfl rfl (by decide) (by decide) ?_); exact ⟨Grow.rfl' _, rfl⟩
   apply AO_ex
   ·intro w_ g_; refine og rfl ?_; (first | (refine r_add rfl rfl ?_ ?_; (constructor <;> omega)) | refine r_addw rfl rfl ?_); exact ⟨Grow.rfl' _, rfl⟩
   apply AO_ex
   ·intro w_ g_; refine og rfl ?_; (first | refine r_assign_int rfl ?_ | refine r_assign rfl ?_); exact ⟨Grow.rfl' _, rfl⟩
   refine AO_nil ?_
   intro w26 g27
   replace hc4 := g27.heap hc4
   replace G := G.tr g27
   clear g27
   refine WL_nil ?_
   refine W_seq (W_region rfl ?_)
   refine WL_some (og rfl ?_)
   (first | refine r_move_int rfl ?_ | refine r_move rfl ?_)
   refine stp (r_gives rfl (by (try rw [hw]); exact rdecode_calls _ _ hx0 hx1) ?_)
   intro w28 g29
   replace hc4 := g29.heap hc4
   replace G := G.tr g29
   clear g29
   refine WL_some (og rfl ?_)
   (first | refine r_move_tuple rfl ?_ | refine r_move rfl ?_)
   refine stp (r_extract rfl rfl ?_)
   refine stp (r_extract rfl rfl ?_)
   refine stp (r_alloc ?_)
   intro b30 w31 hb32 hc33 g34
   refine stn (r_storeAll rfl rfl hc33 (by rfl) (by rfl) (by rfl) ?_)
   intro w35 hc36 u37
   have g38 := g34.upd u37 hb32
   have hge39 := Nat.le_trans G.size hb32
   have ne40 := Nat.ne_of_lt (Nat.lt_of_lt_of_le (lt_of_heap hc4) hb32)
   replace hc4 := g38.heap hc4
   replace G := G.tr g38
   clear u37 g34 hb32 hc33
   refine WL_some (og rfl ?_)
   (first | refine r_assign_int rfl ?_ | refine r_assign rfl ?_)
   refine WL_nil ?_
   refine W_seq ?_
   refine W_seq (W_region rfl ?_)
   refine WL_some (og rfl ?_)
   (first | refine r_move_int rfl ?_ | refine r_move rfl ?_)
   refine WL_some (og rfl ?_)
   (first | (refine r_neq_t rfl rfl ?_ ?_; (first | assumption | omega)) | (refine r_neq_f rfl rfl ?_ ?_; (first | assumption | omega)) | refine r_neq rfl rfl ?_)
   refine WL_some (og rfl ?_)
   (first | refine r_move_bool rfl ?_ | refine r_move rfl ?_)
   refine WL_some (og_no rfl ?_)
   refine WL_some (og_no rfl ?_)
   refine WL_some (og_no rfl ?_)
   refine WL_some (og rfl ?_)
   (first | (refine r_pick_t rfl ?_ rfl ?_; (first | rfl | assumption)) | (refine r_pick_f rfl ?_ rfl ?_; (first | rfl | assumption)))
   refine WL_nil ?_
   refine W_true rfl ?_
   refine W_seq (W_region rfl ?_)
   refine WL_some (og rfl ?_)
   (first | refine r_assign_int rfl ?_ | refine r_assign rfl ?_)
   refine WL_some (og rfl ?_)
   (first | refine r_assign_int rfl ?_ | refine r_assign rfl ?_)
   refine WL_nil ?_
   refine W_ret ?_
   refine ret2 (res_int rfl) (res_int rfl) ⟨?_, G⟩
   simp [encR, encE, encOk, hd]
 ·-- false
  first | (replace h1 := of_decide_eq_true h1) | (replace h1 := of_decide_eq_false h1) | skip
  refine W_seq (W_region rfl ?_)
  refine WL_some (og rfl ?_)
  (first | (refine r_eql_t rfl rfl ?_ ?_; (first | assumption | omega)) | (refine r_eql_f rfl rfl ?_ ?_; (first | assumption | omega)) | refine r_eql rfl rfl ?_)
  refine WL_some (og rfl ?_)
  (first | refine r_assign_bool rfl ?_ | refine r_assign rfl ?_)
  refine WL_nil ?_
  refine W_cond2 rfl (fun h2 => ?_) (fun h2 => ?_)
  ·-- true
   first | (replace h2 := of_decide_eq_true h2) | (replace h2 := of_decide_eq_false h2) | skip
   have hw : 1 + 4 * (p.off % 1073741824) + p.size % 8 * 4294967296 + p.count % 536870912 * 34359738368 = encW p := by unfold encW; rw [if_neg h1, if_pos h2]; omega
   obtain ⟨hx0, hx1⟩ := encW_range p
   by_cases hd : decE (encW p) = 0
   ·
    refine W_any 16 [[], [0], [1, 0], [2, 1, 0], [3, 2, 1, 0], [], [0], [6, 5, 4, 1, 0], [7, 6, 5, 2, 1, 0], [8, 7, 6, 5, 4, 3, 2, 1, 0], [], [0], [11, 10, 9, 6, 5, 4, 1, 0], [12, 11, 10, 7, 6, 5, 2, 1, 0], [13, 12, 11, 10, 9, 8, 7, 6, 5, 4, 3, 2, 1, 0], [14, 13, 12, 11, 10, 9, 8, 7, 6, 5, 4, 3, 2, 1, 0]] mixed (by kernel_rfl) (by kernel_rfl) (by kernel_rfl) ?_
    intro w41 g42
    replace hc4 := g42.heap hc4
    replace G := G.tr g42
    clear g42
    apply AO_ex
    ·intro w_ g_; refine og rfl ?_; refine r_fieldAddr rfl ?_; exact ⟨Grow.rfl' _, rfl⟩
    apply AO_ex
    ·intro w_ g_; refine og rfl ?_; refine r_load rfl (by exact Grow.heap g_ (by assumption)) (by rfl) ?_; exact ⟨Grow.rfl' _, rfl⟩
    apply AO_ex
    ·intro w_ g_; refine og rfl ?_; refine r_gives rfl (low_30 _ _) ?_; intro w2_ g2_; exact ⟨g2_, rfl⟩
    apply AO_ex
    ·intro w_ g_; refine og rfl ?_; (first | (refine r_mul rfl rfl ?_ ?_; (constructor <;> omega)) | refine r_mulw rfl rfl ?_); exact ⟨Grow.rfl' _, rfl⟩
    apply AO_ex
    ·intro w_ g_; refine og rfl ?_; (first | (refine r_add rfl rfl ?_ ?_; (constructor <;> omega)) | refine r_addw rfl rfl ?_); exact ⟨Grow.rfl' _, rfl⟩
    apply AO_ex
    ·intro w_ g_; refine og rfl ?_; refine r_fieldAddr rfl ?_; exact ⟨Grow.rfl' _, rfl⟩
    apply AO_ex
    ·intro w_ g_; refine og rfl ?_; refine r_load rfl (by exact Grow.heap g_ (by assumption)) (by rfl) ?_; exact ⟨Grow.rfl' _, rfl⟩
    apply AO_ex
    ·intro w_ g_; refine og rfl ?_; refine r_gives rfl (low_3 _ _) ?_; intro w2_ g2_; exact ⟨g2_, rfl⟩
    apply AO_ex
    ·intro w_ g_; refine og rfl ?_; (first | (refine r_shlc (m := 4294967296) rfl rfl (by decide) (by decide) ?_ ?_; (constructor <;> omega)) | refine r_shlcw (m := 4294967296) rfl rfl (by decide) (by decide) ?_); exact ⟨Grow.rfl' _, rfl⟩
    apply AO_ex
    ·intro w_ g_; refine og rfl ?_; (first | (refine r_add rfl rfl ?_ ?_; (constructor <;> omega)) | refine r_addw rfl rfl ?_); exact ⟨Grow.rfl' _, rfl⟩
    apply AO_ex
    ·intro w_ g_; refine og rfl ?_; refine r_fieldAddr rfl ?_; exact ⟨Grow.rfl' _, rfl⟩
    apply AO_ex
    ·intro w_ g_; refine og rfl ?_; refine r_load rfl (by exact Grow.heap g_ (by assumption)) (by rfl) ?_; exact ⟨Grow.rfl' _, rfl⟩
    apply AO_ex
    ·intro w_ g_; refine og rfl ?_; refine r_gives rfl (low_29 _ _) ?_; intro w2_ g2_; exact ⟨g2_, rfl⟩
    apply AO_ex
    ·intro w_ g_; refine og rfl ?_; (first | (refine r_shlc (m := 34359738368) rfl rfl (by decide) (by decide) ?_ ?_; (constructor <;> omega)) | refine r_shlcw (m := 34359738368) rfl rfl (by decide) (by decide) ?_); exact ⟨Grow.rfl' _, rfl⟩
    apply AO_ex
    ·intro w_ g_; refine og rfl ?_; (first | (refine r_add rfl rfl ?_ ?_; (constructor <;> omega)) | refine r_addw rfl rfl ?_); exact ⟨Grow.rfl' _, rfl⟩
    apply AO_ex
    ·intro w_ g_; refine og rfl ?_; (first | refine r_assign_int rfl ?_ | refine r_assign rfl ?_); exact ⟨Grow.rfl' _, rfl⟩
    refine AO_nil ?_
    intro w43 g44
    replace hc4 := g44.heap hc4
    replace G := G.tr g44
    clear g44
    refine WL_nil ?_
    refine W_seq (W_region rfl ?_)
    refine WL_some (og rfl ?_)
    (first | refine r_move_int rfl ?_ | refine r_move rfl ?_)
    refine stp (r_gives rfl (by (try rw [hw]); exact rdecode_calls _ _ hx0 hx1) ?_)
    intro w45 g46
    replace hc4 := g46.heap hc4
    replace G := G.tr g46
    clear g46
    refine WL_some (og rfl ?_)
    (first | refine r_move_tuple rfl ?_ | refine r_move rfl ?_)
    refine stp (r_extract rfl rfl ?_)
    refine stp (r_extract rfl rfl ?_)
    refine stp (r_alloc ?_)
    intro b47 w48 hb49 hc50 g51
    refine stn (r_storeAll rfl rfl hc50 (by rfl) (by rfl) (by rfl) ?_)
    intro w52 hc53 u54
    have g55 := g51.upd u54 hb49
    have hge56 := Nat.le_trans G.size hb49
    have ne57 := Nat.ne_of_lt (Nat.lt_of_lt_of_le (lt_of_heap hc4) hb49)
    replace hc4 := g55.heap hc4
    replace G := G.tr g55
    clear u54 g51 hb49 hc50
    refine WL_some (og rfl ?_)
    (first | refine r_assign_int rfl ?_ | refine r_assign rfl ?_)
    refine WL_nil ?_
    refine W_seq ?_
    refine W_seq (W_region rfl ?_)
    refine WL_some (og rfl ?_)
    (first | refine r_move_int rfl ?_ | refine r_move rfl ?_)
    refine WL_some (og rfl ?_)
    (first | (refine r_neq_t rfl rfl ?_ ?_; (first | assumption | omega)) | (refine r_neq_f rfl rfl ?_ ?_; (first | assumption | omega)) | refine r_neq rfl rfl ?_)
    refine WL_some (og rfl ?_)
    (first | refine r_move_bool rfl ?_ | refine r_move rfl ?_)
    refine WL_some (og rfl ?_)
    (first | refine r_loadAll rfl (by assumption) (by rfl) ?_ | refine r_loadN rfl (by assumption) (by rfl) (by rfl) ?_)
    refine WL_some (og rfl ?_)
    (first | refine r_loadAll rfl (by assumption) (by rfl) ?_ | refine r_loadN rfl (by assumption) (by rfl) (by rfl) ?_)
    refine stp (r_neqS rfl rfl (by rfl) ?_)
    refine WL_some (og rfl ?_)
    (first | (refine r_pick_t rfl ?_ rfl ?_; (first | rfl | assumption)) | (refine r_pick_f rfl ?_ rfl ?_; (first | rfl | assumption)))
    refine WL_nil ?_
    refine W_cond2 rfl (fun hc => ?_) (fun hc => ?_)
    ·-- true
     first | (replace hc := of_decide_eq_true hc) | (replace hc := of_decide_eq_false hc) | skip
     refine W_seq (W_region rfl ?_)
     refine WL_some (og rfl ?_)
     (first | refine r_assign_int rfl ?_ | refine r_assign rfl ?_)
     refine WL_some (og rfl ?_)
     (first | refine r_assign_int rfl ?_ | refine r_assign rfl ?_)
     refine WL_nil ?_
     refine W_ret ?_
     refine ret2 (res_int rfl) (res_int rfl) ⟨?_, G⟩
     have hq : ¬ decP (encW p) = p := by
      intro hq
      rw [hq] at hc
      simp at hc
     simp [encR, encE, encOk, hd, hq]
    ·-- false
     first | (replace hc := of_decide_eq_true hc) | (replace hc := of_decide_eq_false hc) | skip
     refine W_skip ?_
     refine W_seq (W_region rfl ?_)
     refine WL_some (og rfl ?_)
     (first | refine r_move_int rfl ?_ | refine r_move rfl ?_)
     refine WL_some (og rfl ?_)
     (first | refine r_assign_int rfl ?_ | refine r_assign rfl ?_)
     refine WL_some (og rfl ?_)
     (first | refine r_assign_int rfl ?_ | refine r_assign rfl ?_)
     refine WL_nil ?_
     refine W_ret ?_
     refine ret2 (res_int rfl) (res_int rfl) ⟨?_, G⟩
     have hq : decP (encW p) = p := by
      generalize decP (encW p) = q at hc ⊢
      cases q; cases p; simpa [and_assoc] using hc
     simp [encR, encE, encOk, hd, hq] <;> omega
   ·
    refine W_any 16 [[], [0], [1, 0], [2, 1, 0], [3, 2, 1, 0], [], [0], [6, 5, 4, 1, 0], [7, 6, 5, 2, 1, 0], [8, 7, 6, 5, 4, 3, 2, 1, 0], [], [0], [11, 10, 9, 6, 5, 4, 1, 0], [12, 11, 10, 7, 6, 5, 2, 1, 0], [13, 12, 11, 10, 9, 8, 7, 6, 5, 4, 3, 2, 1, 0], [14, 13, 12, 11, 10, 9, 8, 7, 6, 5, 4, 3, 2, 1, 0]] mixed (by kernel_rfl) (by kernel_rfl) (by kernel_rfl) ?_
    intro w58 g59
    replace hc4 := g59.heap hc4
    replace G := G.tr g59
    clear g59
    apply AO_ex
    ·intro w_ g_; refine og rfl ?_; refine r_fieldAddr rfl ?_; exact ⟨Grow.rfl' _, rfl⟩
    apply AO_ex
    ·intro w_ g_; refine og rfl ?_; refine r_load rfl (by exact Grow.heap g_ (by assumption)) (by rfl) ?_; exact ⟨Grow.rfl' _, rfl⟩
    apply AO_ex
    ·intro w_ g_; refine og rfl ?_; refine r_gives rfl (low_30 _ _) ?_; intro w2_ g2_; exact ⟨g2_, rfl⟩
    apply AO_ex
    ·intro w_ g_; refine og rfl ?_; (first | (refine r_mul rfl rfl ?_ ?_; (constructor <;> omega)) | refine r_mulw rfl rfl ?_); exact ⟨Grow.rfl' _, rfl⟩
    apply AO_ex
    ·intro w_ g_; refine og rfl ?_; (first | (refine r_add rfl rfl ?_ ?_; (constructor <;> omega)) | refine r_addw rfl rfl ?_); exact ⟨Grow.rfl' _, rfl⟩
    apply AO_ex
    ·intro w_ g_; refine og rfl ?_; refine r_fieldAddr rfl ?_; exact ⟨Grow.rfl' _, rfl⟩
    apply AO_ex
    ·intro w_ g_; refine og rfl ?_; refine r_load rfl (by exact Grow.heap g_ (by assumption)) (by rfl) ?_; exact ⟨Grow.rfl' _, rfl⟩
    apply AO_ex
    ·intro w_ g_; refine og rfl ?_; refine r_gives rfl (low_3 _ _) ?_; intro w2_ g2_; exact ⟨g2_, rfl⟩
    apply AO_ex
    ·intro w_ g_; refine og rfl ?_; (first | (refine r_shlc (m := 4294967296) rfl rfl (by decide) (by decide) ?_ ?_; (constructor <;> omega)) | refine r_shlcw (m := 4294967296) rfl rfl (by decide) (by decide) ?_); exact ⟨Grow.rfl' _, rfl⟩
    apply AO_ex
    ·intro w_ g_; refine og rfl ?_; (first | (refine r_add rfl rfl ?_ ?_; (constructor <;> omega)) | refine r_addw rfl rfl ?_); exact ⟨Grow.rfl' _, rfl⟩
    apply AO_ex
    ·intro w_ g_; refine og rfl ?_; refine r_fieldAddr rfl ?_; exact ⟨Grow.rfl' _, rfl⟩
    apply AO_ex
    ·intro w_ g_; refine og rfl ?_; refine r_load rfl (by exact Grow.heap g_ (by assumption)) (by rfl) ?_; exact ⟨Grow.rfl' _, rfl⟩
    apply AO_ex
    ·intro w_ g_; refine og rfl ?_; refine r_gives rfl (low_29 _ _) ?_; intro w2_ g2_; exact ⟨g2_, rfl⟩
    apply AO_ex
    ·intro w_ g_; refine og rfl ?_; (first | (refine r_shlc (m := 34359738368) rfl rfl (by decide) (by decide) ?_ ?_; (constructor <;> omega)) | refine r_shlcw (m := 34359738368) rfl rfl (by decide) (by decide) ?_); exact ⟨Grow.rfl' _, rfl⟩
    apply AO_ex
    ·intro w_ g_; refine og rfl ?_; (first | (refine r_add rfl rfl ?_ ?_; (constructor <;> omega)) | refine r_addw rfl rfl ?_); exact ⟨Grow.rfl' _, rfl⟩
    apply AO_ex
    ·intro w_ g_; refine og rfl ?_; (first | refine r_assign_int rfl ?_ | refine r_assign rfl ?_); exact ⟨Grow.rfl' _, rfl⟩
    refine AO_nil ?_
    intro w60 g61
    replace hc4 := g61.heap hc4
    replace G := G.tr g61
    clear g61
    refine WL_nil ?_
    refine W_seq (W_region rfl ?_)
    refine WL_some (og rfl ?_)
    (first | refine r_move_int rfl ?_ | refine r_move rfl ?_)
    refine stp (r_gives rfl (by (try rw [hw]); exact rdecode_calls _ _ hx0 hx1) ?_)
    intro w62 g63
    replace hc4 := g63.heap hc4
    replace G := G.tr g63
    clear g63
    refine WL_some (og rfl ?_)
    (first | refine r_move_tuple rfl ?_ | refine r_move rfl ?_)
    refine stp (r_extract rfl rfl ?_)
    refine stp (r_extract rfl rfl ?_)
    refine stp (r_alloc ?_)
    intro b64 w65 hb66 hc67 g68
    refine stn (r_storeAll rfl rfl hc67 (by rfl) (by rfl) (by rfl) ?_)
    intro w69 hc70 u71
    have g72 := g68.upd u71 hb66
    have hge73 := Nat.le_trans G.size hb66
    have ne74 := Nat.ne_of_lt (Nat.lt_of_lt_of_le (lt_of_heap hc4) hb66)
    replace hc4 := g72.heap hc4
    replace G := G.tr g72
    clear u71 g68 hb66 hc67
    refine WL_some (og rfl ?_)
    (first | refine r_assign_int rfl ?_ | refine r_assign rfl ?_)
    refine WL_nil ?_
    refine W_seq ?_
    refine W_seq (W_region rfl ?_)
    refine WL_some (og rfl ?_)
    (first | refine r_move_int rfl ?_ | refine r_move rfl ?_)
    refine WL_some (og rfl ?_)
    (first | (refine r_neq_t rfl rfl ?_ ?_; (first | assumption | omega)) | (refine r_neq_f rfl rfl ?_ ?_; (first | assumption | omega)) | refine r_neq rfl rfl ?_)
    refine WL_some (og rfl ?_)
    (first | refine r_move_bool rfl ?_ | refine r_move rfl ?_)
    refine WL_some (og_no rfl ?_)
    refine WL_some (og_no rfl ?_)
    refine WL_some (og_no rfl ?_)
    refine WL_some (og rfl ?_)
    (first | (refine r_pick_t rfl ?_ rfl ?_; (first | rfl | assumption)) | (refine r_pick_f rfl ?_ rfl ?_; (first | rfl | assumption)))
    refine WL_nil ?_
    refine W_true rfl ?_
    refine W_seq (W_region rfl ?_)
    refine WL_some (og rfl ?_)
    (first | refine r_assign_int rfl ?_ | refine r_assign rfl ?_)
    refine WL_some (og rfl ?_)
    (first | refine r_assign_int rfl ?_ | refine r_assign rfl ?_)
    refine WL_nil ?_
    refine W_ret ?_
    refine ret2 (res_int rfl) (res_int rfl) ⟨?_, G⟩
    simp [encR, encE, encOk, hd]
  ·-- false
   first | (replace h2 := of_decide_eq_true h2) | (replace h2 := of_decide_eq_false h2) | skip
   refine W_seq (W_region rfl ?_)
   refine WL_some (og rfl ?_)
   (first | (refine r_eql_t rfl rfl ?_ ?_; (first | assumption | omega)) | (refine r_eql_f rfl rfl ?_ ?_; (first | assumption | omega)) | refine r_eql rfl rfl ?_)
   refine WL_some (og rfl ?_)
   (first | refine r_assign_bool rfl ?_ | refine r_assign rfl ?_)
   refine WL_nil ?_
   refine W_cond2 rfl (fun h3 => ?_) (fun h3 => ?_)
   ·-- true
    first | (replace h3 := of_decide_eq_true h3) | (replace h3 := of_decide_eq_false h3) | skip
    refine W_seq ?_
    refine W_any 11 [[], [0], [1, 0], [2, 1, 0], [3, 2, 1, 0], [], [0], [6, 5, 4, 1, 0], [7, 6, 5, 2, 1, 0], [8, 7, 6, 5, 4, 3, 2, 1, 0], [9, 8, 7, 6, 5, 4, 3, 2, 1, 0]] mixed (by kernel_rfl) (by kernel_rfl) (by kernel_rfl) ?_
    intro w75 g76
    replace hc4 := g76.heap hc4
    replace G := G.tr g76
    clear g76
    apply AO_ex
    ·intro w_ g_; refine og rfl ?_; refine r_fieldAddr rfl ?_; exact ⟨Grow.rfl' _, rfl⟩
    apply AO_ex
    ·intro w_ g_; refine og rfl ?_; refine r_load rfl (by exact Grow.heap g_ (by assumption)) (by rfl) ?_; exact ⟨Grow.rfl' _, rfl⟩
    apply AO_ex
    ·intro w_ g_; refine og rfl ?_; refine r_gives rfl (low_29 _ _) ?_; intro w2_ g2_; exact ⟨g2_, rfl⟩
    apply AO_ex
    ·intro w_ g_; refine og rfl ?_; (first | (refine r_mul rfl rfl ?_ ?_; (constructor <;> omega)) | refine r_mulw rfl rfl ?_); exact ⟨Grow.rfl' _, rfl⟩
    apply AO_ex
    ·intro w_ g_; refine og rfl ?_; (first | (refine r_add rfl rfl ?_ ?_; (constructor <;> omega)) | refine r_addw rfl rfl ?_); exact ⟨Grow.rfl' _, rfl⟩
    apply AO_ex
    ·intro w_ g_; refine og rfl ?_; refine r_fieldAddr rfl ?_; exact ⟨Grow.rfl' _, rfl⟩
    apply AO_ex
    ·intro w_ g_; refine og rfl ?_; refine r_load rfl (by exact Grow.heap g_ (by assumption)) (by rfl) ?_; exact ⟨Grow.rfl' _, rfl⟩
    apply AO_ex
    ·intro w_ g_; refine og rfl ?_; refine r_gives rfl (low_32 _ _) ?_; intro w2_ g2_; exact ⟨g2_, rfl⟩
    apply AO_ex
    ·intro w_ g_; refine og rfl ?_; (first | (refine r_shlc (m := 4294967296) rfl rfl (by decide) (by decide) ?_ ?_; (constructor <;> omega)) | refine r_shlcw (m := 4294967296) rfl rfl (by decide) (by decide) ?_); exact ⟨Grow.rfl' _, rfl⟩
    apply AO_ex
    ·intro w_ g_; refine og rfl ?_; (first | (refine r_add rfl rfl ?_ ?_; (constructor <;> omega)) | refine r_addw rfl rfl ?_); exact ⟨Grow.rfl' _, rfl⟩
    apply AO_ex
    ·intro w_ g_; refine og rfl ?_; (first | refine r_assign_int rfl ?_ | refine r_assign rfl ?_); exact ⟨Grow.rfl' _, rfl⟩
    refine AO_nil ?_
    intro w77 g78
    replace hc4 := g78.heap hc4
    replace G := G.tr g78
    clear g78
    refine WL_nil ?_
    refine W_seq (W_region rfl ?_)
    refine stp (r_fieldAddr rfl ?_)
    refine stp (r_load rfl (by assumption) (by rfl) ?_)
    refine WL_nil ?_
    refine W_cond2 rfl (fun hd_ => ?_) (fun hd_ => ?_)
    ·-- true
     first | (replace hd_ := of_decide_eq_true hd_) | (replace hd_ := of_decide_eq_false hd_) | skip
     have hw : 2 + 8 * (p.off % 536870912) + p.seg % 4294967296 * 4294967296 + 4 = encW p := by unfold encW; rw [if_neg h1, if_neg h2, if_pos h3, hd_]; simp; omega
     obtain ⟨hx0, hx1⟩ := encW_range p
     by_cases hd : decE (encW p) = 0
     ·
      refine W_region rfl ?_
      refine WL_some (og rfl ?_)
      (first | refine r_move_int rfl ?_ | refine r_move rfl ?_)
      refine WL_some (og rfl ?_)
      (first | (refine r_add rfl rfl ?_ ?_; (constructor <;> omega)) | refine r_addw rfl rfl ?_)
      refine WL_some (og rfl ?_)
      (first | refine r_assign_int rfl ?_ | refine r_assign rfl ?_)
      refine WL_nil ?_
      refine W_seq (W_region rfl ?_)
      refine WL_some (og rfl ?_)
      (first | refine r_move_int rfl ?_ | refine r_move rfl ?_)
      refine stp (r_gives rfl (by (try rw [hw]); exact rdecode_calls _ _ hx0 hx1) ?_)
      intro w79 g80
      replace hc4 := g80.heap hc4
      replace G := G.tr g80
      clear g80
      refine WL_some (og rfl ?_)
      (first | refine r_move_tuple rfl ?_ | refine r_move rfl ?_)
      refine stp (r_extract rfl rfl ?_)
      refine stp (r_extract rfl rfl ?_)
      refine stp (r_alloc ?_)
      intro b81 w82 hb83 hc84 g85
      refine stn (r_storeAll rfl rfl hc84 (by rfl) (by rfl) (by rfl) ?_)
      intro w86 hc87 u88
      have g89 := g85.upd u88 hb83
      have hge90 := Nat.le_trans G.size hb83
      have ne91 := Nat.ne_of_lt (Nat.lt_of_lt_of_le (lt_of_heap hc4) hb83)
      replace hc4 := g89.heap hc4
      replace G := G.tr g89
      clear u88 g85 hb83 hc84
      refine WL_some (og rfl ?_)
      (first | refine r_assign_int rfl ?_ | refine r_assign rfl ?_)
      refine WL_nil ?_
      refine W_seq ?_
      refine W_seq (W_region rfl ?_)
      refine WL_some (og rfl ?_)
      (first | refine r_move_int rfl ?_ | refine r_move rfl ?_)
      refine WL_some (og rfl ?_)
      (first | (refine r_neq_t rfl rfl ?_ ?_; (first | assumption | omega)) | (refine r_neq_f rfl rfl ?_ ?_; (first | assumption | omega)) | refine r_neq rfl rfl ?_)
      refine WL_some (og rfl ?_)
      (first | refine r_move_bool rfl ?_ | refine r_move rfl ?_)
      refine WL_some (og rfl ?_)
      (first | refine r_loadAll rfl (by assumption) (by rfl) ?_ | refine r_loadN rfl (by assumption) (by rfl) (by rfl) ?_)
      refine WL_some (og rfl ?_)
      (first | refine r_loadAll rfl (by assumption) (by rfl) ?_ | refine r_loadN rfl (by assumption) (by rfl) (by rfl) ?_)
      refine stp (r_neqS rfl rfl (by rfl) ?_)
      refine WL_some (og rfl ?_)
      (first | (refine r_pick_t rfl ?_ rfl ?_; (first | rfl | assumption)) | (refine r_pick_f rfl ?_ rfl ?_; (first | rfl | assumption)))
      refine WL_nil ?_
      refine W_cond2 rfl (fun hc => ?_) (fun hc => ?_)
      ·-- true
       first | (replace hc := of_decide_eq_true hc) | (replace hc := of_decide_eq_false hc) | skip
       refine W_seq (W_region rfl ?_)
       refine WL_some (og rfl ?_)
       (first | refine r_assign_int rfl ?_ | refine r_assign rfl ?_)
       refine WL_some (og rfl ?_)
       (first | refine r_assign_int rfl ?_ | refine r_assign rfl ?_)
       refine WL_nil ?_
       refine W_ret ?_
       refine ret2 (res_int rfl) (res_int rfl) ⟨?_, G⟩
       have hq : ¬ decP (encW p) = p := by
        intro hq
        rw [hq] at hc
        simp at hc
       simp [encR, encE, encOk, hd, hq]
      ·-- false
       first | (replace hc := of_decide_eq_true hc) | (replace hc := of_decide_eq_false hc) | skip
       refine W_skip ?_
       refine W_seq (W_region rfl ?_)
       refine WL_some (og rfl ?_)
       (first | refine r_move_int rfl ?_ | refine r_move rfl ?_)
       refine WL_some (og rfl ?_)
       (first | refine r_assign_int rfl ?_ | refine r_assign rfl ?_)
       refine WL_some (og rfl ?_)
       (first | refine r_assign_int rfl ?_ | refine r_assign rfl ?_)
       refine WL_nil ?_
       refine W_ret ?_
       refine ret2 (res_int rfl) (res_int rfl) ⟨?_, G⟩
       have hq : decP (encW p) = p := by
        generalize decP (encW p) = q at hc ⊢
        cases q; cases p; simpa [and_assoc] using hc
       simp [encR, encE, encOk, hd, hq] <;> omega
     ·
      refine W_region rfl ?_
      refine WL_some (og rfl ?_)
      (first | refine r_move_int rfl ?_ | refine r_move rfl ?_)
      refine WL_some (og rfl ?_)
      (first | (refine r_add rfl rfl ?_ ?_; (constructor <;> omega)) | refine r_addw rfl rfl ?_)
      refine WL_some (og rfl ?_)
      (first | refine r_assign_int rfl ?_ | refine r_assign rfl ?_)
      refine WL_nil ?_
      refine W_seq (W_region rfl ?_)
      refine WL_some (og rfl ?_)
      (first | refine r_move_int rfl ?_ | refine r_move rfl ?_)
      refine stp (r_gives rfl (by (try rw [hw]); exact rdecode_calls _ _ hx0 hx1) ?_)
      intro w92 g93
      replace hc4 := g93.heap hc4
      replace G := G.tr g93
      clear g93
      refine WL_some (og rfl ?_)
      (first | refine r_move_tuple rfl ?_ | refine r_move rfl ?_)
      refine stp (r_extract rfl rfl ?_)
      refine stp (r_extract rfl rfl ?_)
      refine stp (r_alloc ?_)
      intro b94 w95 hb96 hc97 g98
      refine stn (r_storeAll rfl rfl hc97 (by rfl) (by rfl) (by rfl) ?_)
      intro w99 hc100 u101
      have g102 := g98.upd u101 hb96
      have hge103 := Nat.le_trans G.size hb96
      have ne104 := Nat.ne_of_lt (Nat.lt_of_lt_of_le (lt_of_heap hc4) hb96)
      replace hc4 := g102.heap hc4
      replace G := G.tr g102
      clear u101 g98 hb96 hc97
      refine WL_some (og rfl ?_)
      (first | refine r_assign_int rfl ?_ | refine r_assign rfl ?_)
      refine WL_nil ?_
      refine W_seq ?_
      refine W_seq (W_region rfl ?_)
      refine WL_some (og rfl ?_)
      (first | refine r_move_int rfl ?_ | refine r_move rfl ?_)
      refine WL_some (og rfl ?_)
      (first | (refine r_neq_t rfl rfl ?_ ?_; (first | assumption | omega)) | (refine r_neq_f rfl rfl ?_ ?_; (first | assumption | omega)) | refine r_neq rfl rfl ?_)
      refine WL_some (og rfl ?_)
      (first | refine r_move_bool rfl ?_ | refine r_move rfl ?_)
      refine WL_some (og_no rfl ?_)
      refine WL_some (og_no rfl ?_)
      refine WL_some (og_no rfl ?_)
      refine WL_some (og rfl ?_)
      (first | (refine r_pick_t rfl ?_ rfl ?_; (first | rfl | assumption)) | (refine r_pick_f rfl ?_ rfl ?_; (first | rfl | assumption)))
      refine WL_nil ?_
      refine W_true rfl ?_
      refine W_seq (W_region rfl ?_)
      refine WL_some (og rfl ?_)
      (first | refine r_assign_int rfl ?_ | refine r_assign rfl ?_)
      refine WL_some (og rfl ?_)
      (first | refine r_assign_int rfl ?_ | refine r_assign rfl ?_)
      refine WL_nil ?_
      refine W_ret ?_
      refine ret2 (res_int rfl) (res_int rfl) ⟨?_, G⟩
      simp [encR, encE, encOk, hd]
    ·-- false
     first | (replace hd_ := of_decide_eq_true hd_) | (replace hd_ := of_decide_eq_false hd_) | skip
     have hw : 2 + 8 * (p.off % 536870912) + p.seg % 4294967296 * 4294967296 = encW p := by unfold encW; rw [if_neg h1, if_neg h2, if_pos h3, hd_]; simp; omega
     obtain ⟨hx0, hx1⟩ := encW_range p
     by_cases hd : decE (encW p) = 0
     ·
      refine W_skip ?_
      refine W_seq (W_region rfl ?_)
      refine WL_some (og rfl ?_)
      (first | refine r_move_int rfl ?_ | refine r_move rfl ?_)
      refine stp (r_gives rfl (by (try rw [hw]); exact rdecode_calls _ _ hx0 hx1) ?_)
      intro w105 g106
      replace hc4 := g106.heap hc4
      replace G := G.tr g106
      clear g106
      refine WL_some (og rfl ?_)
      (first | refine r_move_tuple rfl ?_ | refine r_move rfl ?_)
      refine stp (r_extract rfl rfl ?_)
      refine stp (r_extract rfl rfl ?_)
      refine stp (r_alloc ?_)
      intro b107 w108 hb109 hc110 g111
      refine stn (r_storeAll rfl rfl hc110 (by rfl) (by rfl) (by rfl) ?_)
      intro w112 hc113 u114
      have g115 := g111.upd u114 hb109
      have hge116 := Nat.le_trans G.size hb109
      have ne117 := Nat.ne_of_lt (Nat.lt_of_lt_of_le (lt_of_heap hc4) hb109)
      replace hc4 := g115.heap hc4
      replace G := G.tr g115
      clear u114 g111 hb109 hc110
      refine WL_some (og rfl ?_)
      (first | refine r_assign_int rfl ?_ | refine r_assign rfl ?_)
      refine WL_nil ?_
      refine W_seq ?_
      refine W_seq (W_region rfl ?_)
      refine WL_some (og rfl ?_)
      (first | refine r_move_int rfl ?_ | refine r_move rfl ?_)
      refine WL_some (og rfl ?_)
      (first | (refine r_neq_t rfl rfl ?_ ?_; (first | assumption | omega)) | (refine r_neq_f rfl rfl ?_ ?_; (first | assumption | omega)) | refine r_neq rfl rfl ?_)
      refine WL_some (og rfl ?_)
      (first | refine r_move_bool rfl ?_ | refine r_move rfl ?_)
      refine WL_some (og rfl ?_)
      (first | refine r_loadAll rfl (by assumption) (by rfl) ?_ | refine r_loadN rfl (by assumption) (by rfl) (by rfl) ?_)
      refine WL_some (og rfl ?_)
      (first | refine r_loadAll rfl (by assumption) (by rfl) ?_ | refine r_loadN rfl (by assumption) (by rfl) (by rfl) ?_)
      refine stp (r_neqS rfl rfl (by rfl) ?_)
      refine WL_some (og rfl ?_)
      (first | (refine r_pick_t rfl ?_ rfl ?_; (first | rfl | assumption)) | (refine r_pick_f rfl ?_ rfl ?_; (first | rfl | assumption)))
      refine WL_nil ?_
      refine W_cond2 rfl (fun hc => ?_) (fun hc => ?_)
      ·-- true
       first | (replace hc := of_decide_eq_true hc) | (replace hc := of_decide_eq_false hc) | skip
       refine W_seq (W_region rfl ?_)
       refine WL_some (og rfl ?_)
       (first | refine r_assign_int rfl ?_ | refine r_assign rfl ?_)
       refine WL_some (og rfl ?_)
       (first | refine r_assign_int rfl ?_ | refine r_assign rfl ?_)
       refine WL_nil ?_
       refine W_ret ?_
       refine ret2 (res_int rfl) (res_int rfl) ⟨?_, G⟩
       have hq : ¬ decP (encW p) = p := by
        intro hq
        rw [hq] at hc
        simp at hc
       simp [encR, encE, encOk, hd, hq]
      ·-- false
       first | (replace hc := of_decide_eq_true hc) | (replace hc := of_decide_eq_false hc) | skip
       refine W_skip ?_
       refine W_seq (W_region rfl ?_)
       refine WL_some (og rfl ?_)
       (first | refine r_move_int rfl ?_ | refine r_move rfl ?_)
       refine WL_some (og rfl ?_)
       (first | refine r_assign_int rfl ?_ | refine r_assign rfl ?_)
       refine WL_some (og rfl ?_)
       (first | refine r_assign_int rfl ?_ | refine r_assign rfl ?_)
       refine WL_nil ?_
       refine W_ret ?_
       refine ret2 (res_int rfl) (res_int rfl) ⟨?_, G⟩
       have hq : decP (encW p) = p := by
        generalize decP (encW p) = q at hc ⊢
        cases q; cases p; simpa [and_assoc] using hc
       simp [encR, encE, encOk, hd, hq] <;> omega
     ·
      refine W_skip ?_
      refine W_seq (W_region rfl ?_)
      refine WL_some (og rfl ?_)
      (first | refine r_move_int rfl ?_ | refine r_move rfl ?_)
      refine stp (r_gives rfl (by (try rw [hw]); exact rdecode_calls _ _ hx0 hx1) ?_)
      intro w118 g119
      replace hc4 := g119.heap hc4
      replace G := G.tr g119
      clear g119
      refine WL_some (og rfl ?_)
      (first | refine r_move_tuple rfl ?_ | refine r_move rfl ?_)
      refine stp (r_extract rfl rfl ?_)
      refine stp (r_extract rfl rfl ?_)
      refine stp (r_alloc ?_)
      intro b120 w121 hb122 hc123 g124
      refine stn (r_storeAll rfl rfl hc123 (by rfl) (by rfl) (by rfl) ?_)
      intro w125 hc126 u127
      have g128 := g124.upd u127 hb122
      have hge129 := Nat.le_trans G.size hb122
      have ne130 := Nat.ne_of_lt (Nat.lt_of_lt_of_le (lt_of_heap hc4) hb122)
      replace hc4 := g128.heap hc4
      replace G := G.tr g128
      clear u127 g124 hb122 hc123
      refine WL_some (og rfl ?_)
      (first | refine r_assign_int rfl ?_ | refine r_assign rfl ?_)
      refine WL_nil ?_
      refine W_seq ?_
      refine W_seq (W_region rfl ?_)
      refine WL_some (og rfl ?_)
      (first | refine r_move_int rfl ?_ | refine r_move rfl ?_)
      refine WL_some (og rfl ?_)
      (first | (refine r_neq_t rfl rfl ?_ ?_; (first | assumption | omega)) | (refine r_neq_f rfl rfl ?_ ?_; (first | assumption | omega)) | refine r_neq rfl rfl ?_)
      refine WL_some (og rfl ?_)
      (first | refine r_move_bool rfl ?_ | refine r_move rfl ?_)
      refine WL_some (og_no rfl ?_)
      refine WL_some (og_no rfl ?_)
      refine WL_some (og_no rfl ?_)
      refine WL_some (og rfl ?_)
      (first | (refine r_pick_t rfl ?_ rfl ?_; (first | rfl | assumption)) | (refine r_pick_f rfl ?_ rfl ?_; (first | rfl | assumption)))
      refine WL_nil ?_
      refine W_true rfl ?_
      refine W_seq (W_region rfl ?_)
      refine WL_some (og rfl ?_)
      (first | refine r_assign_int rfl ?_ | refine r_assign rfl ?_)
      refine WL_some (og rfl ?_)
      (first | refine r_assign_int rfl ?_ | refine r_assign rfl ?_)
      refine WL_nil ?_
      refine W_ret ?_
      refine ret2 (res_int rfl) (res_int rfl) ⟨?_, G⟩
      simp [encR, encE, encOk, hd]
   ·-- false
    first | (replace h3 := of_decide_eq_true h3) | (replace h3 := of_decide_eq_false h3) | skip
    have hw : 0 = encW p := by unfold encW; rw [if_neg h1, if_neg h2, if_neg h3]
    obtain ⟨hx0, hx1⟩ := encW_range p
    by_cases hd : decE (encW p) = 0
    ·
     refine W_skip ?_
     refine W_seq (W_region rfl ?_)
     refine WL_some (og rfl ?_)
     (first | refine r_move_int rfl ?_ | refine r_move rfl ?_)
     refine stp (r_gives rfl (by (try rw [hw]); exact rdecode_calls _ _ hx0 hx1) ?_)
     intro w131 g132
     replace hc4 := g132.heap hc4
     replace G := G.tr g132
     clear g132
     refine WL_some (og rfl ?_)
     (first | refine r_move_tuple rfl ?_ | refine r_move rfl ?_)
     refine stp (r_extract rfl rfl ?_)
     refine stp (r_extract rfl rfl ?_)
     refine stp (r_alloc ?_)
     intro b133 w134 hb135 hc136 g137
     refine stn (r_storeAll rfl rfl hc136 (by rfl) (by rfl) (by rfl) ?_)
     intro w138 hc139 u140
     have g141 := g137.upd u140 hb135
     have hge142 := Nat.le_trans G.size hb135
     have ne143 := Nat.ne_of_lt (Nat.lt_of_lt_of_le (lt_of_heap hc4) hb135)
     replace hc4 := g141.heap hc4
     replace G := G.tr g141
     clear u140 g137 hb135 hc136
     refine WL_some (og rfl ?_)
     (first | refine r_assign_int rfl ?_ | refine r_assign rfl ?_)
     refine WL_nil ?_
     refine W_seq ?_
     refine W_seq (W_region rfl ?_)
     refine WL_some (og rfl ?_)
     (first | refine r_move_int rfl ?_ | refine r_move rfl ?_)
     refine WL_some (og rfl ?_)
     (first | (refine r_neq_t rfl rfl ?_ ?_; (first | assumption | omega)) | (refine r_neq_f rfl rfl ?_ ?_; (first | assumption | omega)) | refine r_neq rfl rfl ?_)
     refine WL_some (og rfl ?_)
     (first | refine r_move_bool rfl ?_ | refine r_move rfl ?_)
     refine WL_some (og rfl ?_)
     (first | refine r_loadAll rfl (by assumption) (by rfl) ?_ | refine r_loadN rfl (by assumption) (by rfl) (by rfl) ?_)
     refine WL_some (og rfl ?_)
     (first | refine r_loadAll rfl (by assumption) (by rfl) ?_ | refine r_loadN rfl (by assumption) (by rfl) (by rfl) ?_)
     refine stp (r_neqS rfl rfl (by rfl) ?_)
     refine WL_some (og rfl ?_)
     (first | (refine r_pick_t rfl ?_ rfl ?_; (first | rfl | assumption)) | (refine r_pick_f rfl ?_ rfl ?_; (first | rfl | assumption)))
     refine WL_nil ?_
     refine W_cond2 rfl (fun hc => ?_) (fun hc => ?_)
     ·-- true
      first | (replace hc := of_decide_eq_true hc) | (replace hc := of_decide_eq_false hc) | skip
      refine W_seq (W_region rfl ?_)
      refine WL_some (og rfl ?_)
      (first | refine r_assign_int rfl ?_ | refine r_assign rfl ?_)
      refine WL_some (og rfl ?_)
      (first | refine r_assign_int rfl ?_ | refine r_assign rfl ?_)
      refine WL_nil ?_
      refine W_ret ?_
      refine ret2 (res_int rfl) (res_int rfl) ⟨?_, G⟩
      have hq : ¬ decP (encW p) = p := by
       intro hq
       rw [hq] at hc
       simp at hc
      simp [encR, encE, encOk, hd, hq]
     ·-- false
      first | (replace hc := of_decide_eq_true hc) | (replace hc := of_decide_eq_false hc) | skip
      refine W_skip ?_
      refine W_seq (W_region rfl ?_)
      refine WL_some (og rfl ?_)
      (first | refine r_move_int rfl ?_ | refine r_move rfl ?_)
      refine WL_some (og rfl ?_)
      (first | refine r_assign_int rfl ?_ | refine r_assign rfl ?_)
      refine WL_some (og rfl ?_)
      (first | refine r_assign_int rfl ?_ | refine r_assign rfl ?_)
      refine WL_nil ?_
      refine W_ret ?_
      refine ret2 (res_int rfl) (res_int rfl) ⟨?_, G⟩
      have hq : decP (encW p) = p := by
       generalize decP (encW p) = q at hc ⊢
       cases q; cases p; simpa [and_assoc] using hc
      simp [encR, encE, encOk, hd, hq] <;> omega
    ·
     refine W_skip ?_
     refine W_seq (W_region rfl ?_)
     refine WL_some (og rfl ?_)
     (first | refine r_move_int rfl ?_ | refine r_move rfl ?_)
     refine stp (r_gives rfl (by (try rw [hw]); exact rdecode_calls _ _ hx0 hx1) ?_)
     intro w144 g145
     replace hc4 := g145.heap hc4
     replace G := G.tr g145
     clear g145
     refine WL_some (og rfl ?_)
     (first | refine r_move_tuple rfl ?_ | refine r_move rfl ?_)
     refine stp (r_extract rfl rfl ?_)
     refine stp (r_extract rfl rfl ?_)
     refine stp (r_alloc ?_)
     intro b146 w147 hb148 hc149 g150
     refine stn (r_storeAll rfl rfl hc149 (by rfl) (by rfl) (by rfl) ?_)
     intro w151 hc152 u153
     have g154 := g150.upd u153 hb148
     have hge155 := Nat.le_trans G.size hb148
     have ne156 := Nat.ne_of_lt (Nat.lt_of_lt_of_le (lt_of_heap hc4) hb148)
     replace hc4 := g154.heap hc4
     replace G := G.tr g154
     clear u153 g150 hb148 hc149
     refine WL_some (og rfl ?_)
     (first | refine r_assign_int rfl ?_ | refine r_assign rfl ?_)
     refine WL_nil ?_
     refine W_seq ?_
     refine W_seq (W_region rfl ?_)
     refine WL_some (og rfl ?_)
     (first | refine r_move_int rfl ?_ | refine r_move rfl ?_)
     refine WL_some (og rfl ?_)
     (first | (refine r_neq_t rfl rfl ?_ ?_; (first | assumption | omega)) | (refine r_neq_f rfl rfl ?_ ?_; (first | assumption | omega)) | refine r_neq rfl rfl ?_)
     refine WL_some (og rfl ?_)
     (first | refine r_move_bool rfl ?_ | refine r_move rfl ?_)
     refine WL_some (og_no rfl ?_)
     refine WL_some (og_no rfl ?_)
     refine WL_some (og_no rfl ?_)
     refine WL_some (og rfl ?_)
     (first | (refine r_pick_t rfl ?_ rfl ?_; (first | rfl | assumption)) | (refine r_pick_f rfl ?_ rfl ?_; (first | rfl | assumption)))
     refine WL_nil ?_
     refine W_true rfl ?_
     refine W_seq (W_region rfl ?_)
     refine WL_some (og rfl ?_)
     (first | refine r_assign_int rfl ?_ | refine r_assign rfl ?_)
     refine WL_some (og rfl ?_)
     (first | refine r_assign_int rfl ?_ | refine r_assign rfl ?_)
     refine WL_nil ?_
     refine W_ret ?_
     refine ret2 (res_int rfl) (res_int rfl) ⟨?_, G⟩
     simp [encR, encE, encOk, hd]

set_option maxRecDepth 100000 in
theorem rwords_calls (w : World) (p : Pt) : Gives Try.prog 99 #[.agg #[.int .i64 (p.kind), .int .i64 (p.off), .int .i64 (p.data), .int .i64 (p.ptrs), .int .i64 (p.size), .int .i64 (p.count), .int .i64 (p.seg), .bool p.dbl]] w (.tuple #[.int .i64 (wordsN p), .int .i64 (wordsE p)]) := by
 have G := Grow.rfl' w
 refine gives_of Try.func99 Try.ntmps99 Try.results99 rfl rfl ?_
 refine W_seq (W_region rfl ?_)
 refine WL_some (og rfl ?_)
 (first | refine r_box_agg rfl ?_ | refine r_box_int rfl ?_ | refine r_box_slice rfl ?_ | refine r_box rfl rfl ?_)
 intro b1 w2 hb3 hc4 g5
 have hge6 := Nat.le_trans G.size hb3
 replace G := G.tr g5
 clear g5 hb3
 refine WL_some (og rfl ?_)
 (first | refine r_assign_int rfl ?_ | refine r_assign rfl ?_)
 refine WL_some (og rfl ?_)
 (first | refine r_assign_int rfl ?_ | refine r_assign rfl ?_)
 refine WL_nil ?_
 refine W_seq ?_
 refine W_seq (W_region rfl ?_)
 refine stp (r_fieldAddr rfl ?_)
 refine stp (r_load rfl (by assumption) (by rfl) ?_)
 refine WL_nil ?_
 refine W_block ?_
 refine W_seq (W_region rfl ?_)
 refine WL_some (og rfl ?_)
 (first | (refine r_eql_t rfl rfl ?_ ?_; (first | assumption | omega)) | (refine r_eql_f rfl rfl ?_ ?_; (first | assumption | omega)) | refine r_eql rfl rfl ?_)
 refine WL_some (og rfl ?_)
 (first | refine r_assign_bool rfl ?_ | refine r_assign rfl ?_)
 refine WL_nil ?_
 refine W_cond2 rfl (fun h0 => ?_) (fun h0 => ?_)
 ·-- true
  first | (replace h0 := of_decide_eq_true h0) | (replace h0 := of_decide_eq_false h0) | skip
  refine W_seq (W_region rfl ?_)
  refine WL_some (og rfl ?_)
  (first | refine r_assign_int rfl ?_ | refine r_assign rfl ?_)
  refine WL_some (og rfl ?_)
  (first | refine r_assign_int rfl ?_ | refine r_assign rfl ?_)
  refine WL_nil ?_
  refine W_ret ?_
  refine ret2 (res_int rfl) (res_int rfl) ⟨?_, G⟩
  simp [wordsN, wordsE, wrap87, h0]
 ·-- false
  first | (replace h0 := of_decide_eq_true h0) | (replace h0 := of_decide_eq_false h0) | skip
  refine W_seq (W_region rfl ?_)
  refine WL_some (og rfl ?_)
  (first | (refine r_eql_t rfl rfl ?_ ?_; (first | assumption | omega)) | (refine r_eql_f rfl rfl ?_ ?_; (first | assumption | omega)) | refine r_eql rfl rfl ?_)
  refine WL_some (og rfl ?_)
  (first | refine r_assign_bool rfl ?_ | refine r_assign rfl ?_)
  refine WL_nil ?_
  refine W_cond2 rfl (fun h1 => ?_) (fun h1 => ?_)
  ·-- true
   first | (replace h1 := of_decide_eq_true h1) | (replace h1 := of_decide_eq_false h1) | skip
   refine W_seq (W_region rfl ?_)
   refine stp (r_fieldAddr rfl ?_)
   refine stp (r_load rfl (by assumption) (by rfl) ?_)
   refine stp (r_fieldAddr rfl ?_)
   refine stp (r_load rfl (by assumption) (by rfl) ?_)
   refine WL_some (og rfl ?_)
   (first | (refine r_add rfl rfl ?_ ?_; (constructor <;> omega)) | refine r_addw rfl rfl ?_)
   refine WL_some (og rfl ?_)
   (first | refine r_assign_int rfl ?_ | refine r_assign rfl ?_)
   refine WL_some (og rfl ?_)
   (first | refine r_assign_int rfl ?_ | refine r_assign rfl ?_)
   refine WL_nil ?_
   refine W_ret ?_
   refine ret2 (res_int rfl) (res_int rfl) ⟨?_, G⟩
   simp [wordsN, wordsE, wrap87, h0, h1]
  ·-- false
   first | (replace h1 := of_decide_eq_true h1) | (replace h1 := of_decide_eq_false h1) | skip
   refine W_seq (W_region rfl ?_)
   refine WL_some (og rfl ?_)
   (first | (refine r_eql_t rfl rfl ?_ ?_; (first | assumption | omega)) | (refine r_eql_f rfl rfl ?_ ?_; (first | assumption | omega)) | refine r_eql rfl rfl ?_)
   refine WL_some (og rfl ?_)
   (first | refine r_assign_bool rfl ?_ | refine r_assign rfl ?_)
   refine WL_nil ?_
   refine W_cond2 rfl (fun h2 => ?_) (fun h2 => ?_)
   ·-- true
    first | (replace h2 := of_decide_eq_true h2) | (replace h2 := of_decide_eq_false h2) | skip
    refine W_seq ?_
    refine W_seq (W_region rfl ?_)
    refine stp (r_fieldAddr rfl ?_)
    refine stp (r_load rfl (by assumption) (by rfl) ?_)
    refine WL_some (og rfl ?_)
    (first | (refine r_eql_t rfl rfl ?_ ?_; (first | assumption | omega)) | (refine r_eql_f rfl rfl ?_ ?_; (first | assumption | omega)) | refine r_eql rfl rfl ?_)
    refine WL_nil ?_
    refine W_cond2 rfl (fun s2 => ?_) (fun s2 => ?_)
    ·-- true
     first | (replace s2 := of_decide_eq_true s2) | (replace s2 := of_decide_eq_false s2) | skip
     refine W_seq (W_region rfl ?_)
     refine stp (r_fieldAddr rfl ?_)
     refine stp (r_load rfl (by assumption) (by rfl) ?_)
     refine WL_some (og rfl ?_)
     (first | (refine r_add rfl rfl ?_ ?_; (constructor <;> omega)) | refine r_addw rfl rfl ?_)
     refine WL_some (og rfl ?_)
     (first | (refine r_quo rfl rfl ?_ ?_ ?_ ?_; omega; omega; (constructor <;> omega)) | (refine r_quow rfl rfl ?_ ?_; omega))
     refine WL_some (og rfl ?_)
     (first | refine r_assign_int rfl ?_ | refine r_assign rfl ?_)
     refine WL_some (og rfl ?_)
     (first | refine r_assign_int rfl ?_ | refine r_assign rfl ?_)
     refine WL_nil ?_
     refine W_ret ?_
     refine ret2 (res_int rfl) (res_int rfl) ⟨?_, G⟩
     simp [wordsN, wordsE, wrap87, h0, h1, h2, s2]
    ·-- false
     first | (replace s2 := of_decide_eq_true s2) | (replace s2 := of_decide_eq_false s2) | skip
     by_cases s5 : p.size = 5
     ·
      refine W_skip ?_
      refine W_seq (W_region rfl ?_)
      refine stp (r_fieldAddr rfl ?_)
      refine stp (r_load rfl (by assumption) (by rfl) ?_)
      refine WL_some (og rfl ?_)
      (first | (refine r_eql_t rfl rfl ?_ ?_; (first | assumption | omega)) | (refine r_eql_f rfl rfl ?_ ?_; (first | assumption | omega)) | refine r_eql rfl rfl ?_)
      refine WL_some (og rfl ?_)
      (first | refine r_move_bool rfl ?_ | refine r_move rfl ?_)
      refine WL_some (og_no rfl ?_)
      refine WL_some (og_no rfl ?_)
      refine WL_some (og_no rfl ?_)
      refine WL_some (og rfl ?_)
      (first | (refine r_pick_t rfl ?_ rfl ?_; (first | rfl | assumption)) | (refine r_pick_f rfl ?_ rfl ?_; (first | rfl | assumption)))
      refine WL_nil ?_
      refine W_true rfl ?_
      refine W_seq (W_region rfl ?_)
      refine stp (r_fieldAddr rfl ?_)
      refine stp (r_load rfl (by assumption) (by rfl) ?_)
      refine WL_some (og rfl ?_)
      (first | refine r_assign_int rfl ?_ | refine r_assign rfl ?_)
      refine WL_some (og rfl ?_)
      (first | refine r_assign_int rfl ?_ | refine r_assign rfl ?_)
      refine WL_nil ?_
      refine W_ret ?_
      refine ret2 (res_int rfl) (res_int rfl) ⟨?_, G⟩
      simp [wordsN, wordsE, wrap87, h0, h1, h2, s2, s5]
     ·
      by_cases s6 : p.size = 6
      ·
       refine W_skip ?_
       refine W_seq (W_region rfl ?_)
       refine stp (r_fieldAddr rfl ?_)
       refine stp (r_load rfl (by assumption) (by rfl) ?_)
       refine WL_some (og rfl ?_)
       (first | (refine r_eql_t rfl rfl ?_ ?_; (first | assumption | omega)) | (refine r_eql_f rfl rfl ?_ ?_; (first | assumption | omega)) | refine r_eql rfl rfl ?_)
       refine WL_some (og rfl ?_)
       (first | refine r_move_bool rfl ?_ | refine r_move rfl ?_)
       refine stp (r_fieldAddr rfl ?_)
       refine stp (r_load rfl (by assumption) (by rfl) ?_)
       refine WL_some (og rfl ?_)
       (first | (refine r_eql_t rfl rfl ?_ ?_; (first | assumption | omega)) | (refine r_eql_f rfl rfl ?_ ?_; (first | assumption | omega)) | refine r_eql rfl rfl ?_)
       refine WL_some (og rfl ?_)
       (first | (refine r_pick_t rfl ?_ rfl ?_; (first | rfl | assumption)) | (refine r_pick_f rfl ?_ rfl ?_; (first | rfl | assumption)))
       refine WL_nil ?_
       refine W_true rfl ?_
       refine W_seq (W_region rfl ?_)
       refine stp (r_fieldAddr rfl ?_)
       refine stp (r_load rfl (by assumption) (by rfl) ?_)
       refine WL_some (og rfl ?_)
       (first | refine r_assign_int rfl ?_ | refine r_assign rfl ?_)
       refine WL_some (og rfl ?_)
       (first | refine r_assign_int rfl ?_ | refine r_assign rfl ?_)
       refine WL_nil ?_
       refine W_ret ?_
       refine ret2 (res_int rfl) (res_int rfl) ⟨?_, G⟩
       simp [wordsN, wordsE, wrap87, h0, h1, h2, s2, s5, s6]
      ·
       refine W_skip ?_
       refine W_seq (W_region rfl ?_)
       refine stp (r_fieldAddr rfl ?_)
       refine stp (r_load rfl (by assumption) (by rfl) ?_)
       refine WL_some (og rfl ?_)
       (first | (refine r_eql_t rfl rfl ?_ ?_; (first | assumption | omega)) | (refine r_eql_f rfl rfl ?_ ?_; (first | assumption | omega)) | refine r_eql rfl rfl ?_)
       refine WL_some (og rfl ?_)
       (first | refine r_move_bool rfl ?_ | refine r_move rfl ?_)
       refine stp (r_fieldAddr rfl ?_)
       refine stp (r_load rfl (by assumption) (by rfl) ?_)
       refine WL_some (og rfl ?_)
       (first | (refine r_eql_t rfl rfl ?_ ?_; (first | assumption | omega)) | (refine r_eql_f rfl rfl ?_ ?_; (first | assumption | omega)) | refine r_eql rfl rfl ?_)
       refine WL_some (og rfl ?_)
       (first | (refine r_pick_t rfl ?_ rfl ?_; (first | rfl | assumption)) | (refine r_pick_f rfl ?_ rfl ?_; (first | rfl | assumption)))
       refine WL_nil ?_
       refine W_false rfl ?_
       refine W_skip ?_
       refine W_seq (W_region rfl ?_)
       refine WL_some (og rfl ?_)
       (first | refine r_assign_int rfl ?_ | refine r_assign rfl ?_)
       refine WL_some (og rfl ?_)
       (first | refine r_assign_int rfl ?_ | refine r_assign rfl ?_)
       refine WL_nil ?_
       refine W_ret ?_
       refine ret2 (res_int rfl) (res_int rfl) ⟨?_, G⟩
       simp [wordsN, wordsE, wrap87, h0, h1, h2, s2, s5, s6]
   ·-- false
    first | (replace h2 := of_decide_eq_true h2) | (replace h2 := of_decide_eq_false h2) | skip
    refine W_seq (W_region rfl ?_)
    refine WL_some (og rfl ?_)
    (first | (refine r_eql_t rfl rfl ?_ ?_; (first | assumption | omega)) | (refine r_eql_f rfl rfl ?_ ?_; (first | assumption | omega)) | refine r_eql rfl rfl ?_)
    refine WL_some (og rfl ?_)
    (first | refine r_assign_bool rfl ?_ | refine r_assign rfl ?_)
    refine WL_nil ?_
    refine W_cond2 rfl (fun h3 => ?_) (fun h3 => ?_)
    ·-- true
     first | (replace h3 := of_decide_eq_true h3) | (replace h3 := of_decide_eq_false h3) | skip
     refine W_seq ?_
     refine W_seq (W_region rfl ?_)
     refine stp (r_fieldAddr rfl ?_)
     refine stp (r_load rfl (by assumption) (by rfl) ?_)
     refine WL_nil ?_
     refine W_cond2 rfl (fun hd_ => ?_) (fun hd_ => ?_)
     ·-- true
      first | (replace hd_ := of_decide_eq_true hd_) | (replace hd_ := of_decide_eq_false hd_) | skip
      refine W_seq (W_region rfl ?_)
      refine WL_some (og rfl ?_)
      (first | refine r_assign_int rfl ?_ | refine r_assign rfl ?_)
      refine WL_some (og rfl ?_)
      (first | refine r_assign_int rfl ?_ | refine r_assign rfl ?_)
      refine WL_nil ?_
      refine W_ret ?_
      refine ret2 (res_int rfl) (res_int rfl) ⟨?_, G⟩
      simp [wordsN, wordsE, wrap87, h0, h1, h2, h3, hd_]
     ·-- false
      first | (replace hd_ := of_decide_eq_true hd_) | (replace hd_ := of_decide_eq_false hd_) | skip
      refine W_skip ?_
      refine W_seq (W_region rfl ?_)
      refine WL_some (og rfl ?_)
      (first | refine r_assign_int rfl ?_ | refine r_assign rfl ?_)
      refine WL_some (og rfl ?_)
      (first | refine r_assign_int rfl ?_ | refine r_assign rfl ?_)
      refine WL_nil ?_
      refine W_ret ?_
      refine ret2 (res_int rfl) (res_int rfl) ⟨?_, G⟩
      simp [wordsN, wordsE, wrap87, h0, h1, h2, h3, hd_]
    ·-- false
     first | (replace h3 := of_decide_eq_true h3) | (replace h3 := of_decide_eq_false h3) | skip
     refine W_skip ?_
     refine W_seq (W_region rfl ?_)
     refine WL_some (og rfl ?_)
     (first | refine r_assign_int rfl ?_ | refine r_assign rfl ?_)
     refine WL_some (og rfl ?_)
     (first | refine r_assign_int rfl ?_ | refine r_assign rfl ?_)
     refine WL_nil ?_
     refine W_ret ?_
     refine ret2 (res_int rfl) (res_int rfl) ⟨?_, G⟩
     simp [wordsN, wordsE, wrap87, h0, h1, h2, h3]
end Go.Proofs.Ytfhfecepcnapfaa.K
