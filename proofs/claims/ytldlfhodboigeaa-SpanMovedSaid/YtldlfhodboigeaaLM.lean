/- the statements of chapter 04 (printed by lw04.py). -/
import Derived.Test.YtldlfhodboigeaaLA
set_option linter.unusedVariables false
set_option linter.unusedSimpArgs false
namespace Go.Proofs.Ytldlfhodboigeaa.K
open Go Go.RowKit Go.Proofs
attribute [local irreducible] Run1 OpG WL W AO Gives
set_option maxRecDepth 100000 in
theorem SpanMoved_calls (w : World) {ad0 : Option Addr} {c0 n0 : Nat} {xs0 : List Int} (hx0 : ∀ x ∈ xs0, 0 ≤ x ∧ x < 256) (hcc0 : n0 ≤ c0) (hm0 : c0 ≤ maxLen) (R0 : RowAt w 1 ad0 n0 (xs0.map (.int .u8))) {a1 : Int} (p1 : -2147483648 ≤ a1) (q1 : a1 ≤ 2147483647) : Gives Try.prog 3 #[.slice ad0 n0 c0, .int .i32 a1] w (.bool true) := by
 have G := Grow.rfl' w
 refine gives_of Try.func3 Try.ntmps3 Try.results3 rfl rfl ?_
 have hlA := rowS_len xs0
 have hrA := rowS_rng xs0
 have hn0 := nrm_len (rowS xs0)
 have hrN := nrm_rng (L := rowS xs0) (lo := 0) (hi := 75) (fun s hs => by have := hrA s hs; omega)
 have hrtN := (nrm_of (rowS xs0)).right
 have hml := mov_len a1 (nrm (rowS xs0))
 refine W_seq (W_region rfl ?_)
 refine stp (r_assign (v := .bool false) rfl ?_)
 refine WL_nil ?_
 refine W_seq (W_region rfl ?_)
 refine stp (r_move_slice rfl ?_)
 refine WL_some (og rfl ?_)
 refine r_call rfl (rowc_calls _ hx0 hcc0 hm0 (R0.grow G)) ?_
 rintro v1 w1 ⟨own1, g1⟩
 replace G := G.tr g1
 clear g1
 obtain ⟨adM1, cM1, rfl, hcM1, hmM1, RM1⟩ := own_row own1 (by omega)
 refine stp (r_assign_slice rfl ?_)
 refine WL_nil ?_
 refine W_seq (W_region rfl ?_)
 refine stp (r_assign_slice rfl ?_)
 refine WL_nil ?_
 have ownO : w1.ownsRow w1.heap.size 26 2 (.slice none 0 0) 0 (encL []) := World.ownsRow_nil _ _ _ _
 have hB1 := Nat.le_refl w1.heap.size
 have hBw := G.size
 have RA0 := RM1
 have GN := Grow.rfl' w1
 refine W_seq ?_
 refine W_seq (W_region rfl ?_)
 refine stp (r_assign_int rfl ?_)
 refine WL_nil ?_
 refine W_block ?_
 refine W_loop (fun m_ e_ w_ => ∃ (k : Nat) (ado : Option Addr) (co : Nat), m_ = (rowS xs0).length - k ∧ Fr [(1, .int .i32 a1), (4, .bool false), (5, .slice adM1 ((rowS xs0).length) cM1), (7, .int .i64 (k : Int)), (6, .slice ado ((movS a1 ((rowS xs0).take k)).length) co)] e_ ∧ (k ≤ (rowS xs0).length) ∧ (w1.heap.size ≤ w_.heap.size) ∧ (Grow w1 w_) ∧ (w_.ownsRow w1.heap.size 26 2 (.slice ado (movS a1 ((rowS xs0).take k)).length co) (movS a1 ((rowS xs0).take k)).length (encL (movS a1 ((rowS xs0).take k)))) ∧ Grow w w_) _ ⟨0, _, _, rfl, fr_of ⟨rfl, rfl, rfl, rfl, rfl, trivial⟩, by omega, hB1, GN, ownO, G⟩ ?_
 clear ownO hB1 GN
 clear G
 rintro m_ e_ w2 ⟨k, ado, co, rfl, ⟨e3, rfl⟩, hk, hB1, GN, ownO, G⟩
 refine W_seq ?_
 refine W_seq (W_region rfl ?_)
 refine stp (r_move_int rfl ?_)
 refine stp (r_move_slice rfl ?_)
 refine stp (r_len rfl rfl rfl ?_)
 refine stp (r_lss rfl rfl ?_)
 refine WL_nil ?_
 refine W_cond2 (b := (decide ((k : Int) < ((rowS xs0).length : Int)))) rfl (fun hlt => ?_) (fun hlt => ?_)
 ·-- true
  replace hlt := of_decide_eq_true hlt
  have hkA : k < (rowS xs0).length := by omega
  have hk1 := hrA (gS (rowS xs0) k) (by rw [gS_get hkA]; exact List.getElem_mem hkA)
  have hst := mov_snoc (d := a1) hkA
  have hkl : (movS a1 ((rowS xs0).take k)).length = k := by rw [mov_len, List.length_take]; omega
  refine W_skip ?_
  refine W_seq ?_
  refine W_block ?_
  refine W_any 19 [[], [], [], [1, 0], [2, 1, 0], [3, 2, 1, 0], [], [0], [6, 5, 4, 3, 2, 1, 0], [], [], [1, 0], [2, 1, 0], [3, 2, 1, 0], [], [0], [6, 5, 4, 3, 2, 1, 0], [15, 14, 13, 12, 11, 10, 9, 8, 7, 6, 5, 4, 3, 2, 1, 0], [16, 15, 14, 13, 12, 11, 10, 9, 8, 7, 6, 5, 4, 3, 2, 1, 0]] mixed (by kernel_rfl) (by kernel_rfl) (by kernel_rfl) ?_
  intro w4 g5
  replace hB1 := Nat.le_trans hB1 g5.size
  replace GN := GN.tr g5
  replace ownO := own_grow ownO g5
  replace G := G.tr g5
  clear g5
  apply AO_ex
  ·intro w_ g_; refine og rfl ?_; refine r_move_slice rfl ?_; exact ⟨Grow.rfl' _, rfl⟩
  apply AO_ex
  ·intro w_ g_; refine og rfl ?_; refine r_move_slice rfl ?_; exact ⟨Grow.rfl' _, rfl⟩
  apply AO_ex
  ·intro w_ g_; refine og rfl ?_; refine r_move_int rfl ?_; exact ⟨Grow.rfl' _, rfl⟩
  apply AO_ex
  ·intro w_ g_; refine og rfl ?_; refine r_indexN ((RA0.grow GN).grow g_) rfl rfl ?_ ?_; omega; exact ⟨Grow.rfl' _, rfl⟩
  apply AO_ex
  ·intro w_ g_; refine og rfl ?_; refine r_fieldE rfl ?_; exact ⟨Grow.rfl' _, rfl⟩
  apply AO_ex
  ·intro w_ g_; refine og rfl ?_; refine r_loadR (v := .int .i64 ((gS (rowS xs0) k).1)) (m := 0) ((RA0.grow GN).grow g_) rfl (row_gS0 RA0 (by omega)) ?_; exact ⟨Grow.rfl' _, rfl⟩
  apply AO_ex
  ·intro w_ g_; refine og rfl ?_; refine r_move_int rfl ?_; exact ⟨Grow.rfl' _, rfl⟩
  apply AO_ex
  ·intro w_ g_; refine og rfl ?_; refine r_conv rfl ?_ ?_; constructor <;> omega; exact ⟨Grow.rfl' _, rfl⟩
  apply AO_ex
  ·intro w_ g_; refine og rfl ?_; refine r_add rfl rfl ?_ ?_; constructor <;> omega; exact ⟨Grow.rfl' _, rfl⟩
  apply AO_ex
  ·intro w_ g_; refine og rfl ?_; refine r_move_slice rfl ?_; exact ⟨Grow.rfl' _, rfl⟩
  apply AO_ex
  ·intro w_ g_; refine og rfl ?_; refine r_move_int rfl ?_; exact ⟨Grow.rfl' _, rfl⟩
  apply AO_ex
  ·intro w_ g_; refine og rfl ?_; refine r_indexN ((RA0.grow GN).grow g_) rfl rfl ?_ ?_; omega; exact ⟨Grow.rfl' _, rfl⟩
  apply AO_ex
  ·intro w_ g_; refine og rfl ?_; refine r_fieldE rfl ?_; exact ⟨Grow.rfl' _, rfl⟩
  apply AO_ex
  ·intro w_ g_; refine og rfl ?_; refine r_loadR (v := .int .i64 ((gS (rowS xs0) k).2)) (m := 0) ((RA0.grow GN).grow g_) rfl (row_gS1 RA0 (by omega)) ?_; exact ⟨Grow.rfl' _, rfl⟩
  apply AO_ex
  ·intro w_ g_; refine og rfl ?_; refine r_move_int rfl ?_; exact ⟨Grow.rfl' _, rfl⟩
  apply AO_ex
  ·intro w_ g_; refine og rfl ?_; refine r_conv rfl ?_ ?_; constructor <;> omega; exact ⟨Grow.rfl' _, rfl⟩
  apply AO_ex
  ·intro w_ g_; refine og rfl ?_; refine r_add rfl rfl ?_ ?_; constructor <;> omega; exact ⟨Grow.rfl' _, rfl⟩
  apply AO_ex
  ·intro w_ g_; refine og rfl ?_; refine r_build (v := .agg #[.int .i64 ((gS (rowS xs0) k).1 + a1), .int .i64 ((gS (rowS xs0) k).2 + a1)]) (fun w => by kernel_rfl) ?_; exact ⟨Grow.rfl' _, rfl⟩
  refine AO_so (fun w_ v_ => ∃ b_, v_ = .slice (some ⟨b_, 0, none⟩) 1 1 ∧ w_.heap[b_]? = some (.cells #[.int .i64 ((gS (rowS xs0) k).1 + a1), .int .i64 ((gS (rowS xs0) k).2 + a1)] 26 (0, 0))) (fun _ _ _ g_ ⟨b_, h1_, h2_⟩ => ⟨b_, h1_, g_.heap h2_⟩) ?_ ?_
  ·intro w_ g_
   refine og rfl ?_
   refine r_buildSlice (cs := #[.int .i64 ((gS (rowS xs0) k).1 + a1), .int .i64 ((gS (rowS xs0) k).2 + a1)]) (el := 26) (fun w => by kernel_rfl) ?_
   intro b_ w2_ hb_ hc_ g2_
   exact ⟨g2_, b_, rfl, hc_⟩
  refine AO_nil ?_
  intro w6 g7
  replace hB1 := Nat.le_trans hB1 g7.size
  replace GN := GN.tr g7
  replace ownO := own_grow ownO g7
  replace G := G.tr g7
  clear g7
  intro v_l hv_l
  refine WL_some (og rfl ?_)
  obtain ⟨bl, rfl, hbl⟩ := hv_l
  refine r_append rfl rfl rfl rfl ownO (Row.of_block (n := 1) hbl rfl rfl (by omega)) (fun q_ hq_ => by simp at hq_; rcases hq_ with rfl | rfl <;> rfl) (by simp only [maxLen]; omega) (by omega) hB1 ?_
  intro v8 w8 own8 gr8
  have own8' := own_snoc (s := ((gS (rowS xs0) k).1 + a1, (gS (rowS xs0) k).2 + a1)) own8
  obtain ⟨ad8, n8, c8, rfl⟩ := own_slice own8'
  have hn8 := own_lenS own8'
  subst hn8
  have hl8 : (movS a1 ((rowS xs0).take k) ++ [((gS (rowS xs0) k).1 + a1, (gS (rowS xs0) k).2 + a1)]).length = (movS a1 ((rowS xs0).take k)).length + 1 := by simp
  replace G := G.grown gr8 (fun k_ hk_ => Nat.le_trans hBw (own_ge ownO k_ hk_))
  replace hB1 := Nat.le_trans hB1 gr8.size
  replace GN := GN.grown gr8 (own_ge ownO)
  refine stp (r_assign_slice rfl ?_)
  refine WL_nil ?_
  refine W_region rfl ?_
  refine stp (r_move_int rfl ?_)
  refine stp (r_add rfl rfl ?_ ?_); constructor <;> omega
  refine stp (r_assign_int rfl ?_)
  refine WL_nil ?_
  refine ⟨_, ?_, k + 1, _, _, rfl, fr_of ⟨rfl, rfl, rfl, congrArg (Value.int .i64) (by omega), by rw [hst]; rfl, trivial⟩, by omega, hB1, GN, (by rw [hst]; exact own8'), G⟩
  omega
 ·-- false
  replace hlt := of_decide_eq_false hlt
  have hk9 : (rowS xs0).take k = rowS xs0 := List.take_of_length_le (by omega)
  rw [hk9] at ownO
  have hml0 := mov_len a1 (rowS xs0)
  obtain ⟨ad9, c9, he9, hc9, hc92, R9⟩ := own_row ownO (by omega)
  simp only [Value.slice.injEq, true_and] at he9
  obtain ⟨rfl, rfl⟩ := he9
  refine W_exit ?_
  refine W_seq (W_region rfl ?_)
  refine stp (r_move_slice rfl ?_)
  refine WL_some (og rfl ?_)
  refine r_call rfl (norm_calls _ hcM1 hmM1 (RA0.grow GN) (by omega)) ?_
  rintro v9 w9 ⟨own9, g9⟩
  replace hB1 := Nat.le_trans hB1 g9.size
  replace GN := GN.tr g9
  replace R9 := R9.grow g9
  replace G := G.tr g9
  clear g9
  obtain ⟨adM9, cM9, rfl, hcM9, hmM9, RM9⟩ := own_row own9 (by omega)
  refine stp (r_assign_slice rfl ?_)
  refine WL_nil ?_
  refine W_seq (W_region rfl ?_)
  refine stp (r_move (v := .slice ado (movS a1 (rowS xs0)).length co) (congrArg (fun q_ => Value.slice ado (movS a1 q_).length co) hk9) ?_)
  refine WL_some (og rfl ?_)
  refine r_call rfl ((by have h_ := norm_calls w9 hc9 hc92 R9 (by omega); rw [mov_nrm] at h_; exact h_)) ?_
  rintro v10 w10 ⟨own10, g10⟩
  replace hB1 := Nat.le_trans hB1 g10.size
  replace GN := GN.tr g10
  replace R9 := R9.grow g10
  replace RM9 := RM9.grow g10
  replace G := G.tr g10
  clear g10
  obtain ⟨adM10, cM10, rfl, hcM10, hmM10, RM10⟩ := own_row own10 (by omega)
  refine stp (r_assign_slice rfl ?_)
  refine WL_nil ?_
  refine W_seq ?_
  refine W_seq (W_region rfl ?_)
  refine stp (r_move_slice rfl ?_)
  refine stp (r_len rfl rfl rfl ?_)
  refine stp (r_move_slice rfl ?_)
  refine stp (r_len rfl rfl rfl ?_)
  refine stp (r_neq_f rfl rfl (by omega) ?_)
  refine WL_nil ?_
  refine W_false rfl ?_
  refine W_skip ?_
  refine W_seq ?_
  refine W_seq (W_region rfl ?_)
  refine stp (r_assign_int rfl ?_)
  refine WL_nil ?_
  refine W_block ?_
  refine W_loop (fun m_ e_ w_ => ∃ (j : Nat), m_ = (nrm (rowS xs0)).length - j ∧ Fr [(1, .int .i32 a1), (8, .slice adM9 ((nrm (rowS xs0)).length) cM9), (9, .slice adM10 ((movS a1 (nrm (rowS xs0))).length) cM10), (10, .int .i64 (j : Int))] e_ ∧ (j ≤ (nrm (rowS xs0)).length) ∧ (RowAt w_ 2 adM9 (nrm (rowS xs0)).length (encL (nrm (rowS xs0)))) ∧ (RowAt w_ 2 adM10 (movS a1 (nrm (rowS xs0))).length (encL (movS a1 (nrm (rowS xs0))))) ∧ Grow w w_) _ ⟨0, rfl, fr_of ⟨rfl, rfl, rfl, rfl, trivial⟩, by omega, RM9, RM10, G⟩ ?_
  clear hB1 GN R9 RM9 RM10
  clear G
  rintro m_ e_ w11 ⟨j, rfl, ⟨e12, rfl⟩, hj, RM9, RM10, G⟩
  refine W_seq ?_
  refine W_seq (W_region rfl ?_)
  refine stp (r_move_int rfl ?_)
  refine stp (r_move_slice rfl ?_)
  refine stp (r_len rfl rfl rfl ?_)
  refine stp (r_lss rfl rfl ?_)
  refine WL_nil ?_
  refine W_cond2 (b := (decide ((j : Int) < ((nrm (rowS xs0)).length : Int)))) rfl (fun hlt2 => ?_) (fun hlt2 => ?_)
  ·-- true
   replace hlt2 := of_decide_eq_true hlt2
   have hkN : j < (nrm (rowS xs0)).length := by omega
   have hk1 := hrN (gS (nrm (rowS xs0)) j) (by rw [gS_get hkN]; exact List.getElem_mem hkN)
   have hk2 := hrtN.mem (gS (nrm (rowS xs0)) j) (by rw [gS_get hkN]; exact List.getElem_mem hkN)
   have hmg := mov_get (d := a1) hkN
   have hm1 : (gS (movS a1 (nrm (rowS xs0))) j).1 = (gS (nrm (rowS xs0)) j).1 + a1 := by rw [hmg]
   have hm2 : (gS (movS a1 (nrm (rowS xs0))) j).2 = (gS (nrm (rowS xs0)) j).2 + a1 := by rw [hmg]
   refine W_skip ?_
   refine W_seq ?_
   refine W_block ?_
   refine W_seq ?_
   refine W_any 30 [[], [], [1, 0], [2, 1, 0], [3, 2, 1, 0], [], [0], [6, 5, 4, 3, 2, 1, 0], [], [], [1, 0], [2, 1, 0], [3, 2, 1, 0], [12, 11, 10, 9, 8, 7, 6, 5, 4, 3, 2, 1, 0], [13, 12, 11, 10, 9, 8, 7, 6, 5, 4, 3, 2, 1, 0], [14, 13, 12, 11, 10, 9, 8, 7, 6, 5, 4, 3, 2, 1, 0], [15, 14, 13, 12, 11, 10, 9, 8, 7, 6, 5, 4, 3, 2, 1], [16, 15, 14, 13, 12, 11, 10, 9, 8, 7, 6, 5, 4, 3, 2, 1, 0], [17, 16, 15, 14, 13, 12, 11, 10, 9, 8, 7, 6, 5, 4, 3, 2, 1, 0], [18, 17, 16, 15, 14, 13, 12, 11, 10, 9, 8, 7, 6, 5, 4, 3, 2, 1, 0], [19, 18, 17, 16, 15, 14, 13, 12, 11, 10, 9, 8, 7, 6, 5], [20, 19, 18, 17, 16, 15, 14, 13, 12, 11, 10, 9, 8, 7, 6, 0], [21, 20, 19, 18, 17, 16, 15, 14, 13, 12, 11, 10, 9, 8, 7, 6, 5, 4, 3, 2, 1, 0], [22, 21, 20, 19, 18, 17, 16, 15, 14, 13, 12, 11, 10, 9, 8], [23, 22, 21, 20, 19, 18, 17, 16, 15, 14, 13, 12, 11, 10, 9], [24, 23, 22, 21, 20, 19, 18, 17, 16, 15, 14, 13, 12, 11, 10, 1, 0], [25, 24, 23, 22, 21, 20, 19, 18, 17, 16, 15, 14, 13, 12, 11, 2, 1, 0], [26, 25, 24, 23, 22, 21, 20, 19, 18, 17, 16, 15, 14, 13, 12, 3, 2, 1, 0], [27, 26, 25, 24, 23, 22, 21, 20, 19, 18, 17, 16, 15, 14, 13, 12, 11, 10, 9, 8, 7, 6, 5, 4, 3, 2, 1, 0], [28, 27, 26, 25, 24, 23, 22, 21, 20, 19, 18, 17, 16, 15, 14, 13, 12, 11, 10, 9, 8, 7, 6, 5, 4, 3, 2, 1, 0]] mixed (by kernel_rfl) (by kernel_rfl) (by kernel_rfl) ?_
   intro w13 g14
   replace RM9 := RM9.grow g14
   replace RM10 := RM10.grow g14
   replace G := G.tr g14
   clear g14
   apply AO_ex
   ·intro w_ g_; refine og rfl ?_; refine r_move_slice rfl ?_; exact ⟨Grow.rfl' _, rfl⟩
   apply AO_ex
   ·intro w_ g_; refine og rfl ?_; refine r_move_int rfl ?_; exact ⟨Grow.rfl' _, rfl⟩
   apply AO_ex
   ·intro w_ g_; refine og rfl ?_; refine r_indexN (RM9.grow g_) rfl rfl ?_ ?_; omega; exact ⟨Grow.rfl' _, rfl⟩
   apply AO_ex
   ·intro w_ g_; refine og rfl ?_; refine r_fieldE rfl ?_; exact ⟨Grow.rfl' _, rfl⟩
   apply AO_ex
   ·intro w_ g_; refine og rfl ?_; refine r_loadR (v := .int .i64 ((gS (nrm (rowS xs0)) j).1)) (m := 0) (RM9.grow g_) rfl (row_gS0 RM9 (by omega)) ?_; exact ⟨Grow.rfl' _, rfl⟩
   apply AO_ex
   ·intro w_ g_; refine og rfl ?_; refine r_move_int rfl ?_; exact ⟨Grow.rfl' _, rfl⟩
   apply AO_ex
   ·intro w_ g_; refine og rfl ?_; refine r_conv rfl ?_ ?_; constructor <;> omega; exact ⟨Grow.rfl' _, rfl⟩
   apply AO_ex
   ·intro w_ g_; refine og rfl ?_; refine r_add rfl rfl ?_ ?_; constructor <;> omega; exact ⟨Grow.rfl' _, rfl⟩
   apply AO_ex
   ·intro w_ g_; refine og rfl ?_; refine r_move_slice rfl ?_; exact ⟨Grow.rfl' _, rfl⟩
   apply AO_ex
   ·intro w_ g_; refine og rfl ?_; refine r_move_int rfl ?_; exact ⟨Grow.rfl' _, rfl⟩
   apply AO_ex
   ·intro w_ g_; refine og rfl ?_; refine r_indexN (RM10.grow g_) rfl rfl ?_ ?_; omega; exact ⟨Grow.rfl' _, rfl⟩
   apply AO_ex
   ·intro w_ g_; refine og rfl ?_; refine r_fieldE rfl ?_; exact ⟨Grow.rfl' _, rfl⟩
   apply AO_ex
   ·intro w_ g_; refine og rfl ?_; refine r_loadR (v := .int .i64 ((gS (movS a1 (nrm (rowS xs0))) j).1)) (m := 0) (RM10.grow g_) rfl (row_gS0 RM10 (by omega)) ?_; exact ⟨Grow.rfl' _, rfl⟩
   apply AO_ex
   ·intro w_ g_; refine og rfl ?_; refine r_neq_f rfl rfl (by omega) ?_; exact ⟨Grow.rfl' _, rfl⟩
   apply AO_ex
   ·intro w_ g_; refine og rfl ?_; refine r_move (v := .bool false) rfl ?_; exact ⟨Grow.rfl' _, rfl⟩
   apply AO_ex
   ·intro w_ g_; refine og rfl ?_; refine r_move_slice rfl ?_; exact ⟨Grow.rfl' _, rfl⟩
   apply AO_ex
   ·intro w_ g_; refine og rfl ?_; refine r_move_int rfl ?_; exact ⟨Grow.rfl' _, rfl⟩
   apply AO_ex
   ·intro w_ g_; refine og rfl ?_; refine r_indexN (RM9.grow g_) rfl rfl ?_ ?_; omega; exact ⟨Grow.rfl' _, rfl⟩
   apply AO_ex
   ·intro w_ g_; refine og rfl ?_; refine r_fieldE rfl ?_; exact ⟨Grow.rfl' _, rfl⟩
   apply AO_ex
   ·intro w_ g_; refine og rfl ?_; refine r_loadR (v := .int .i64 ((gS (nrm (rowS xs0)) j).2)) (m := 0) (RM9.grow g_) rfl (row_gS1 RM9 (by omega)) ?_; exact ⟨Grow.rfl' _, rfl⟩
   apply AO_ex
   ·intro w_ g_; refine og rfl ?_; refine r_move_int rfl ?_; exact ⟨Grow.rfl' _, rfl⟩
   apply AO_ex
   ·intro w_ g_; refine og rfl ?_; refine r_conv rfl ?_ ?_; constructor <;> omega; exact ⟨Grow.rfl' _, rfl⟩
   apply AO_ex
   ·intro w_ g_; refine og rfl ?_; refine r_add rfl rfl ?_ ?_; constructor <;> omega; exact ⟨Grow.rfl' _, rfl⟩
   apply AO_ex
   ·intro w_ g_; refine og rfl ?_; refine r_move_slice rfl ?_; exact ⟨Grow.rfl' _, rfl⟩
   apply AO_ex
   ·intro w_ g_; refine og rfl ?_; refine r_move_int rfl ?_; exact ⟨Grow.rfl' _, rfl⟩
   apply AO_ex
   ·intro w_ g_; refine og rfl ?_; refine r_indexN (RM10.grow g_) rfl rfl ?_ ?_; omega; exact ⟨Grow.rfl' _, rfl⟩
   apply AO_ex
   ·intro w_ g_; refine og rfl ?_; refine r_fieldE rfl ?_; exact ⟨Grow.rfl' _, rfl⟩
   apply AO_ex
   ·intro w_ g_; refine og rfl ?_; refine r_loadR (v := .int .i64 ((gS (movS a1 (nrm (rowS xs0))) j).2)) (m := 0) (RM10.grow g_) rfl (row_gS1 RM10 (by omega)) ?_; exact ⟨Grow.rfl' _, rfl⟩
   apply AO_ex
   ·intro w_ g_; refine og rfl ?_; refine r_neq_f rfl rfl (by omega) ?_; exact ⟨Grow.rfl' _, rfl⟩
   apply AO_ex
   ·intro w_ g_; refine og rfl ?_; refine r_pick_f (v := .bool false) rfl rfl rfl ?_; exact ⟨Grow.rfl' _, rfl⟩
   refine AO_nil ?_
   intro w15 g16
   replace RM9 := RM9.grow g16
   replace RM10 := RM10.grow g16
   replace G := G.tr g16
   clear g16
   refine WL_nil ?_
   refine W_false rfl ?_
   refine W_skip ?_
   refine W_region rfl ?_
   refine stp (r_move_int rfl ?_)
   refine stp (r_add rfl rfl ?_ ?_); constructor <;> omega
   refine stp (r_assign_int rfl ?_)
   refine WL_nil ?_
   refine ⟨_, ?_, j + 1, rfl, fr_of ⟨rfl, rfl, rfl, rfl, trivial⟩, by omega, RM9, RM10, G⟩
   omega
  ·-- false
   replace hlt2 := of_decide_eq_false hlt2
   have hlr := longS_rng (nrm (rowS xs0)) hrtN
   have hle : longS (nrm (nrm (rowS xs0))) = longS (nrm (rowS xs0)) := by rw [nrm_nrm]
   have hle2 : longS (nrm (movS a1 (nrm (rowS xs0)))) = longS (nrm (rowS xs0)) := by rw [mov_nrm, nrm_nrm]; unfold longS; rw [mov_sum]
   refine W_exit ?_
   refine W_seq (W_region rfl ?_)
   refine stp (r_gives (v := .bool true) rfl (known_calls _) ?_)
   intro w17 g18
   replace RM9 := RM9.grow g18
   replace RM10 := RM10.grow g18
   replace G := G.tr g18
   clear g18
   refine stp (r_move (v := .bool true) rfl ?_)
   refine stp (r_move_slice rfl ?_)
   refine stp (r_gives (v := .int .i64 (longS (nrm (nrm (rowS xs0))))) rfl (long_calls _ hcM9 hmM9 RM9 (by omega) (fun s hs => by have := hrN s hs; omega)) ?_)
   intro w19 g20
   replace RM9 := RM9.grow g20
   replace RM10 := RM10.grow g20
   replace G := G.tr g20
   clear g20
   refine stp (r_move_slice rfl ?_)
   refine stp (r_gives (v := .int .i64 (longS (nrm (movS a1 (nrm (rowS xs0)))))) rfl (long_calls _ hcM10 hmM10 RM10 (by omega) (fun s hs => by obtain ⟨t, ht, rfl⟩ := List.mem_map.1 hs; have := hrN t ht; simp only []; omega)) ?_)
   intro w21 g22
   replace RM9 := RM9.grow g22
   replace RM10 := RM10.grow g22
   replace G := G.tr g22
   clear g22
   refine stp (r_eql_t rfl rfl (by rw [hle, hle2]) ?_)
   refine stp (r_pick_t (v := .bool true) rfl rfl rfl ?_)
   refine stp (r_assign (v := .bool true) rfl ?_)
   refine WL_nil ?_
   refine W_ret ?_
   refine ret1 (res_tmp (v := .bool true) rfl) ⟨?_, G⟩
   rfl
end Go.Proofs.Ytldlfhodboigeaa.K
