/- The walks of chapter 06's statements (printed by law06.py). -/
import Derived.Test.YtepcfoofdbdioaaPtr
set_option linter.unusedVariables false
set_option linter.unusedSimpArgs false
namespace Go.Proofs.Ytepcfoofdbdioaa.K
open Go Go.RowKit Go.Proofs
attribute [local irreducible] Run1 OpG WL W AO Gives
set_option maxRecDepth 100000 in
theorem known_calls (w : World)  : Gives Try.prog 11 #[] w (.bool true) := by
  have G := Grow.rfl' w
  refine gives_of Try.func11 Try.ntmps11 Try.results11 rfl rfl ?_
  have k1 : decE 281479271677948 = 0 := by decide
  have k2 : decE 3 = 23 := by decide
  have k3 : encE (decP 281479271677948) = 0 := by decide
  have k4 : encR (decP 281479271677948) = 281479271677948 := by decide
  refine W_seq ?_
  refine W_region rfl ?_   -- region 0
  refine WL_some (og rfl ?_)
  (first | refine r_assign_bool rfl ?_ | refine r_assign rfl ?_)
  refine WL_nil ?_
  refine W_seq ?_
  refine W_region rfl ?_   -- region 1
  refine WL_some (og rfl ?_)
  refine r_gives rfl (decode_calls _ 281479271677948 (by decide) (by decide)) ?_
  intro w1 g2
  replace G := G.tr g2
  clear g2
  refine WL_some (og rfl ?_)
  (first | refine r_move_tuple rfl ?_ | refine r_move rfl ?_)
  refine WL_some (og rfl ?_)
  refine r_extract rfl rfl ?_
  refine WL_some (og rfl ?_)
  refine r_extract rfl rfl ?_
  refine WL_some (og rfl ?_)
  refine r_alloc ?_
  intro b3 w4 hb5 hc6 g7
  refine WL_none (og rfl ?_)
  refine r_storeAll rfl rfl hc6 (by rfl) (by rfl) (by rfl) ?_
  intro w8 hc9 u10
  have g11 := g7.upd u10 hb5
  have hge12 := Nat.le_trans G.size hb5
  replace G := G.tr g11
  clear u10 g7 hb5 hc6
  refine WL_some (og rfl ?_)
  (first | refine r_assign_int rfl ?_ | refine r_assign rfl ?_)
  refine WL_nil ?_
  refine W_seq ?_
  refine W_region rfl ?_   -- region 2
  refine WL_some (og rfl ?_)
  refine r_gives rfl (decode_calls _ 3 (by decide) (by decide)) ?_
  intro w13 g14
  replace hc9 := g14.heap hc9
  replace G := G.tr g14
  clear g14
  refine WL_some (og rfl ?_)
  (first | refine r_move_tuple rfl ?_ | refine r_move rfl ?_)
  refine WL_some (og rfl ?_)
  refine r_extract rfl rfl ?_
  refine WL_some (og rfl ?_)
  refine r_extract rfl rfl ?_
  refine WL_some (og rfl ?_)
  refine r_alloc ?_
  intro b15 w16 hb17 hc18 g19
  refine WL_none (og rfl ?_)
  refine r_storeAll rfl rfl hc18 (by rfl) (by rfl) (by rfl) ?_
  intro w20 hc21 u22
  have g23 := g19.upd u22 hb17
  have hge24 := Nat.le_trans G.size hb17
  have ne25 := Nat.ne_of_lt (Nat.lt_of_lt_of_le (lt_of_heap hc9) hb17)
  replace hc9 := g23.heap hc9
  replace G := G.tr g23
  clear u22 g19 hb17 hc18
  refine WL_some (og rfl ?_)
  (first | refine r_assign_int rfl ?_ | refine r_assign rfl ?_)
  refine WL_nil ?_
  refine W_seq ?_
  refine W_region rfl ?_   -- region 3
  refine WL_some (og rfl ?_)
  (first | refine r_loadAll rfl (by assumption) (by rfl) ?_ | refine r_loadN rfl (by assumption) (by rfl) (by rfl) ?_)
  refine WL_some (og rfl ?_)
  refine r_gives rfl (encode_calls _ _) ?_
  intro w26 g27
  replace hc9 := g27.heap hc9
  replace hc21 := g27.heap hc21
  replace G := G.tr g27
  clear g27
  refine WL_some (og rfl ?_)
  (first | refine r_move_tuple rfl ?_ | refine r_move rfl ?_)
  refine WL_some (og rfl ?_)
  refine r_extract rfl rfl ?_
  refine WL_some (og rfl ?_)
  refine r_extract rfl rfl ?_
  refine WL_some (og rfl ?_)
  (first | refine r_assign_int rfl ?_ | refine r_assign rfl ?_)
  refine WL_some (og rfl ?_)
  (first | refine r_assign_int rfl ?_ | refine r_assign rfl ?_)
  refine WL_nil ?_
  refine W_seq ?_
  refine W_region rfl ?_   -- region 4
  refine WL_some (og rfl ?_)
  (first | refine r_move_int rfl ?_ | refine r_move rfl ?_)
  refine WL_some (og rfl ?_)
  (first | (refine r_eql_t rfl rfl ?_ ?_; (first | assumption | omega)) | (refine r_eql_f rfl rfl ?_ ?_; (first | assumption | omega)) | refine r_eql rfl rfl ?_)
  refine WL_some (og rfl ?_)
  (first | refine r_move_bool rfl ?_ | refine r_move rfl ?_)
  refine WL_some (og rfl ?_)
  (first | refine r_loadAll rfl (by assumption) (by rfl) ?_ | refine r_loadN rfl (by assumption) (by rfl) (by rfl) ?_)
  refine WL_some (og rfl ?_)
  refine r_build (v := .agg #[.int .i64 (1), .int .i64 (-1), .int .i64 (0), .int .i64 (1), .int .i64 (0), .int .i64 (0), .int .i64 (0), .bool false]) (fun w => by kernel_rfl) ?_
  refine WL_some (og rfl ?_)
  refine r_eqlS' (r' := true) rfl rfl (by rfl) (by decide) ?_
  refine WL_some (og rfl ?_)
  (first | (refine r_pick_t rfl ?_ rfl ?_; (first | rfl | assumption)) | (refine r_pick_f rfl ?_ rfl ?_; (first | rfl | assumption)))
  refine WL_some (og rfl ?_)
  (first | refine r_move_bool rfl ?_ | refine r_move rfl ?_)
  refine WL_some (og rfl ?_)
  (first | refine r_move_int rfl ?_ | refine r_move rfl ?_)
  refine WL_some (og rfl ?_)
  (first | (refine r_eql_t rfl rfl ?_ ?_; (first | assumption | omega)) | (refine r_eql_f rfl rfl ?_ ?_; (first | assumption | omega)) | refine r_eql rfl rfl ?_)
  refine WL_some (og rfl ?_)
  (first | (refine r_pick_t rfl ?_ rfl ?_; (first | rfl | assumption)) | (refine r_pick_f rfl ?_ rfl ?_; (first | rfl | assumption)))
  refine WL_some (og rfl ?_)
  (first | refine r_move_bool rfl ?_ | refine r_move rfl ?_)
  refine WL_some (og rfl ?_)
  (first | refine r_move_int rfl ?_ | refine r_move rfl ?_)
  refine WL_some (og rfl ?_)
  (first | (refine r_eql_t rfl rfl ?_ ?_; (first | assumption | omega)) | (refine r_eql_f rfl rfl ?_ ?_; (first | assumption | omega)) | refine r_eql rfl rfl ?_)
  refine WL_some (og rfl ?_)
  (first | (refine r_pick_t rfl ?_ rfl ?_; (first | rfl | assumption)) | (refine r_pick_f rfl ?_ rfl ?_; (first | rfl | assumption)))
  refine WL_some (og rfl ?_)
  (first | refine r_move_bool rfl ?_ | refine r_move rfl ?_)
  refine WL_some (og rfl ?_)
  (first | refine r_move_int rfl ?_ | refine r_move rfl ?_)
  refine WL_some (og rfl ?_)
  (first | (refine r_eql_t rfl rfl ?_ ?_; (first | assumption | omega)) | (refine r_eql_f rfl rfl ?_ ?_; (first | assumption | omega)) | refine r_eql rfl rfl ?_)
  refine WL_some (og rfl ?_)
  (first | (refine r_pick_t rfl ?_ rfl ?_; (first | rfl | assumption)) | (refine r_pick_f rfl ?_ rfl ?_; (first | rfl | assumption)))
  refine WL_some (og rfl ?_)
  (first | refine r_assign_bool rfl ?_ | refine r_assign rfl ?_)
  refine WL_nil ?_
  refine W_ret ?_
  exact ret1 (res_bool rfl) ⟨rfl, G⟩

set_option maxRecDepth 100000 in
theorem PtrBack_calls (w : World) (x y : Int) (hx0 : 0 ≤ x) (hx1 : x ≤ 18446744073709551615) (hy0 : 0 ≤ y) (hy1 : y ≤ 18446744073709551615) : Gives Try.prog 3 #[.int .u64 x, .int .u64 y] w (.bool true) := by
  have G := Grow.rfl' w
  refine gives_of Try.func3 Try.ntmps3 Try.results3 rfl rfl ?_
  by_cases hE : decE x = 0
  ·
    obtain ⟨he1, he2⟩ := encOk_dec x hx0 hx1 hE
    by_cases hF : decE y = 0
    ·
      have hi := dec_inj x y hx0 hx1 hy0 hy1 hE hF
      refine W_seq ?_
      refine W_region rfl ?_   -- region 0
      refine WL_some (og rfl ?_)
      (first | refine r_assign_bool rfl ?_ | refine r_assign rfl ?_)
      refine WL_nil ?_
      refine W_seq ?_
      refine W_region rfl ?_   -- region 1
      refine WL_some (og rfl ?_)
      (first | refine r_move_int rfl ?_ | refine r_move rfl ?_)
      refine WL_some (og rfl ?_)
      refine r_gives rfl (decode_calls _ _ hx0 hx1) ?_
      intro w1 g2
      replace G := G.tr g2
      clear g2
      refine WL_some (og rfl ?_)
      (first | refine r_move_tuple rfl ?_ | refine r_move rfl ?_)
      refine WL_some (og rfl ?_)
      refine r_extract rfl rfl ?_
      refine WL_some (og rfl ?_)
      refine r_extract rfl rfl ?_
      refine WL_some (og rfl ?_)
      refine r_alloc ?_
      intro b3 w4 hb5 hc6 g7
      refine WL_none (og rfl ?_)
      refine r_storeAll rfl rfl hc6 (by rfl) (by rfl) (by rfl) ?_
      intro w8 hc9 u10
      have g11 := g7.upd u10 hb5
      have hge12 := Nat.le_trans G.size hb5
      replace G := G.tr g11
      clear u10 g7 hb5 hc6
      refine WL_some (og rfl ?_)
      (first | refine r_assign_int rfl ?_ | refine r_assign rfl ?_)
      refine WL_nil ?_
      refine W_seq ?_
      refine W_region rfl ?_   -- region 2
      refine WL_some (og rfl ?_)
      (first | refine r_move_int rfl ?_ | refine r_move rfl ?_)
      refine WL_some (og rfl ?_)
      refine r_gives rfl (decode_calls _ _ hy0 hy1) ?_
      intro w13 g14
      replace hc9 := g14.heap hc9
      replace G := G.tr g14
      clear g14
      refine WL_some (og rfl ?_)
      (first | refine r_move_tuple rfl ?_ | refine r_move rfl ?_)
      refine WL_some (og rfl ?_)
      refine r_extract rfl rfl ?_
      refine WL_some (og rfl ?_)
      refine r_extract rfl rfl ?_
      refine WL_some (og rfl ?_)
      refine r_alloc ?_
      intro b15 w16 hb17 hc18 g19
      refine WL_none (og rfl ?_)
      refine r_storeAll rfl rfl hc18 (by rfl) (by rfl) (by rfl) ?_
      intro w20 hc21 u22
      have g23 := g19.upd u22 hb17
      have hge24 := Nat.le_trans G.size hb17
      have ne25 := Nat.ne_of_lt (Nat.lt_of_lt_of_le (lt_of_heap hc9) hb17)
      replace hc9 := g23.heap hc9
      replace G := G.tr g23
      clear u22 g19 hb17 hc18
      refine WL_some (og rfl ?_)
      (first | refine r_assign_int rfl ?_ | refine r_assign rfl ?_)
      refine WL_nil ?_
      refine W_seq ?_
      refine W_region rfl ?_   -- region 3
      refine WL_some (og rfl ?_)
      (first | refine r_loadAll rfl (by assumption) (by rfl) ?_ | refine r_loadN rfl (by assumption) (by rfl) (by rfl) ?_)
      refine WL_some (og rfl ?_)
      refine r_gives rfl (encode_calls _ _) ?_
      intro w26 g27
      replace hc9 := g27.heap hc9
      replace hc21 := g27.heap hc21
      replace G := G.tr g27
      clear g27
      refine WL_some (og rfl ?_)
      (first | refine r_move_tuple rfl ?_ | refine r_move rfl ?_)
      refine WL_some (og rfl ?_)
      refine r_extract rfl rfl ?_
      refine WL_some (og rfl ?_)
      refine r_extract rfl rfl ?_
      refine WL_some (og rfl ?_)
      (first | refine r_assign_int rfl ?_ | refine r_assign rfl ?_)
      refine WL_some (og rfl ?_)
      (first | refine r_assign_int rfl ?_ | refine r_assign rfl ?_)
      refine WL_nil ?_
      refine W_seq ?_
      refine W_seq ?_
      refine W_region rfl ?_   -- region 4
      refine WL_some (og rfl ?_)
      (first | refine r_move_int rfl ?_ | refine r_move rfl ?_)
      refine WL_some (og rfl ?_)
      (first | (refine r_neq_t rfl rfl ?_ ?_; (first | assumption | omega)) | (refine r_neq_f rfl rfl ?_ ?_; (first | assumption | omega)) | refine r_neq rfl rfl ?_)
      refine WL_nil ?_
      refine W_false rfl ?_
      refine W_skip ?_
      refine W_seq ?_
      refine W_region rfl ?_   -- region 6
      refine WL_some (og rfl ?_)
      refine r_gives rfl (known_calls _) ?_
      intro w28 g29
      replace hc9 := g29.heap hc9
      replace hc21 := g29.heap hc21
      replace G := G.tr g29
      clear g29
      refine WL_some (og rfl ?_)
      (first | refine r_move_bool rfl ?_ | refine r_move rfl ?_)
      refine WL_some (og rfl ?_)
      (first | refine r_move_int rfl ?_ | refine r_move rfl ?_)
      refine WL_some (og rfl ?_)
      (first | (refine r_eql_t rfl rfl ?_ ?_; (first | assumption | omega)) | (refine r_eql_f rfl rfl ?_ ?_; (first | assumption | omega)) | refine r_eql rfl rfl ?_)
      refine WL_some (og rfl ?_)
      (first | (refine r_pick_t rfl ?_ rfl ?_; (first | rfl | assumption)) | (refine r_pick_f rfl ?_ rfl ?_; (first | rfl | assumption)))
      refine WL_some (og rfl ?_)
      (first | refine r_move_bool rfl ?_ | refine r_move rfl ?_)
      refine WL_some (og rfl ?_)
      (first | refine r_move_int rfl ?_ | refine r_move rfl ?_)
      refine WL_some (og rfl ?_)
      (first | refine r_move_int rfl ?_ | refine r_move rfl ?_)
      refine WL_some (og rfl ?_)
      (first | (refine r_eql_t rfl rfl ?_ ?_; (first | assumption | omega)) | (refine r_eql_f rfl rfl ?_ ?_; (first | assumption | omega)) | refine r_eql rfl rfl ?_)
      refine WL_some (og rfl ?_)
      (first | (refine r_pick_t rfl ?_ rfl ?_; (first | rfl | assumption)) | (refine r_pick_f rfl ?_ rfl ?_; (first | rfl | assumption)))
      refine WL_some (og rfl ?_)
      (first | refine r_move_bool rfl ?_ | refine r_move rfl ?_)
      refine WL_some (og rfl ?_)
      (first | refine r_move_int rfl ?_ | refine r_move rfl ?_)
      refine WL_some (og rfl ?_)
      (first | (refine r_neq_t rfl rfl ?_ ?_; (first | assumption | omega)) | (refine r_neq_f rfl rfl ?_ ?_; (first | assumption | omega)) | refine r_neq rfl rfl ?_)
      refine WL_some (og rfl ?_)
      (first | refine r_move_bool rfl ?_ | refine r_move rfl ?_)
      refine WL_some (og rfl ?_)
      (first | refine r_loadAll rfl (by assumption) (by rfl) ?_ | refine r_loadN rfl (by assumption) (by rfl) (by rfl) ?_)
      refine WL_some (og rfl ?_)
      (first | refine r_loadAll rfl (by assumption) (by rfl) ?_ | refine r_loadN rfl (by assumption) (by rfl) (by rfl) ?_)
      refine WL_some (og rfl ?_)
      refine r_eqlS' (r' := decide (decP x = decP y)) rfl rfl (by rfl) (by generalize decP x = p; generalize decP y = q; cases p; cases q; simp [Bool.beq_eq_decide_eq]) ?_
      refine WL_some (og rfl ?_)
      (first | refine r_move_int rfl ?_ | refine r_move rfl ?_)
      refine WL_some (og rfl ?_)
      (first | refine r_move_int rfl ?_ | refine r_move rfl ?_)
      refine WL_some (og rfl ?_)
      refine r_eql rfl rfl ?_
      refine WL_some (og rfl ?_)
      refine r_beq' (r := true) rfl rfl (by simp [hi]) ?_
      refine WL_some (og rfl ?_)
      (first | (refine r_pick_t rfl ?_ rfl ?_; (first | rfl | assumption)) | (refine r_pick_f rfl ?_ rfl ?_; (first | rfl | assumption)))
      refine WL_some (og rfl ?_)
      (first | (refine r_pick_t rfl ?_ rfl ?_; (first | rfl | assumption)) | (refine r_pick_f rfl ?_ rfl ?_; (first | rfl | assumption)))
      refine WL_some (og rfl ?_)
      (first | refine r_assign_bool rfl ?_ | refine r_assign rfl ?_)
      refine WL_nil ?_
      refine W_ret ?_
      exact ret1 (res_bool rfl) ⟨rfl, G⟩
    ·
      refine W_seq ?_
      refine W_region rfl ?_   -- region 0
      refine WL_some (og rfl ?_)
      (first | refine r_assign_bool rfl ?_ | refine r_assign rfl ?_)
      refine WL_nil ?_
      refine W_seq ?_
      refine W_region rfl ?_   -- region 1
      refine WL_some (og rfl ?_)
      (first | refine r_move_int rfl ?_ | refine r_move rfl ?_)
      refine WL_some (og rfl ?_)
      refine r_gives rfl (decode_calls _ _ hx0 hx1) ?_
      intro w30 g31
      replace G := G.tr g31
      clear g31
      refine WL_some (og rfl ?_)
      (first | refine r_move_tuple rfl ?_ | refine r_move rfl ?_)
      refine WL_some (og rfl ?_)
      refine r_extract rfl rfl ?_
      refine WL_some (og rfl ?_)
      refine r_extract rfl rfl ?_
      refine WL_some (og rfl ?_)
      refine r_alloc ?_
      intro b32 w33 hb34 hc35 g36
      refine WL_none (og rfl ?_)
      refine r_storeAll rfl rfl hc35 (by rfl) (by rfl) (by rfl) ?_
      intro w37 hc38 u39
      have g40 := g36.upd u39 hb34
      have hge41 := Nat.le_trans G.size hb34
      replace G := G.tr g40
      clear u39 g36 hb34 hc35
      refine WL_some (og rfl ?_)
      (first | refine r_assign_int rfl ?_ | refine r_assign rfl ?_)
      refine WL_nil ?_
      refine W_seq ?_
      refine W_region rfl ?_   -- region 2
      refine WL_some (og rfl ?_)
      (first | refine r_move_int rfl ?_ | refine r_move rfl ?_)
      refine WL_some (og rfl ?_)
      refine r_gives rfl (decode_calls _ _ hy0 hy1) ?_
      intro w42 g43
      replace hc38 := g43.heap hc38
      replace G := G.tr g43
      clear g43
      refine WL_some (og rfl ?_)
      (first | refine r_move_tuple rfl ?_ | refine r_move rfl ?_)
      refine WL_some (og rfl ?_)
      refine r_extract rfl rfl ?_
      refine WL_some (og rfl ?_)
      refine r_extract rfl rfl ?_
      refine WL_some (og rfl ?_)
      refine r_alloc ?_
      intro b44 w45 hb46 hc47 g48
      refine WL_none (og rfl ?_)
      refine r_storeAll rfl rfl hc47 (by rfl) (by rfl) (by rfl) ?_
      intro w49 hc50 u51
      have g52 := g48.upd u51 hb46
      have hge53 := Nat.le_trans G.size hb46
      have ne54 := Nat.ne_of_lt (Nat.lt_of_lt_of_le (lt_of_heap hc38) hb46)
      replace hc38 := g52.heap hc38
      replace G := G.tr g52
      clear u51 g48 hb46 hc47
      refine WL_some (og rfl ?_)
      (first | refine r_assign_int rfl ?_ | refine r_assign rfl ?_)
      refine WL_nil ?_
      refine W_seq ?_
      refine W_region rfl ?_   -- region 3
      refine WL_some (og rfl ?_)
      (first | refine r_loadAll rfl (by assumption) (by rfl) ?_ | refine r_loadN rfl (by assumption) (by rfl) (by rfl) ?_)
      refine WL_some (og rfl ?_)
      refine r_gives rfl (encode_calls _ _) ?_
      intro w55 g56
      replace hc38 := g56.heap hc38
      replace hc50 := g56.heap hc50
      replace G := G.tr g56
      clear g56
      refine WL_some (og rfl ?_)
      (first | refine r_move_tuple rfl ?_ | refine r_move rfl ?_)
      refine WL_some (og rfl ?_)
      refine r_extract rfl rfl ?_
      refine WL_some (og rfl ?_)
      refine r_extract rfl rfl ?_
      refine WL_some (og rfl ?_)
      (first | refine r_assign_int rfl ?_ | refine r_assign rfl ?_)
      refine WL_some (og rfl ?_)
      (first | refine r_assign_int rfl ?_ | refine r_assign rfl ?_)
      refine WL_nil ?_
      refine W_seq ?_
      refine W_seq ?_
      refine W_region rfl ?_   -- region 4
      refine WL_some (og rfl ?_)
      (first | refine r_move_int rfl ?_ | refine r_move rfl ?_)
      refine WL_some (og rfl ?_)
      (first | (refine r_neq_t rfl rfl ?_ ?_; (first | assumption | omega)) | (refine r_neq_f rfl rfl ?_ ?_; (first | assumption | omega)) | refine r_neq rfl rfl ?_)
      refine WL_nil ?_
      refine W_false rfl ?_
      refine W_skip ?_
      refine W_seq ?_
      refine W_region rfl ?_   -- region 6
      refine WL_some (og rfl ?_)
      refine r_gives rfl (known_calls _) ?_
      intro w57 g58
      replace hc38 := g58.heap hc38
      replace hc50 := g58.heap hc50
      replace G := G.tr g58
      clear g58
      refine WL_some (og rfl ?_)
      (first | refine r_move_bool rfl ?_ | refine r_move rfl ?_)
      refine WL_some (og rfl ?_)
      (first | refine r_move_int rfl ?_ | refine r_move rfl ?_)
      refine WL_some (og rfl ?_)
      (first | (refine r_eql_t rfl rfl ?_ ?_; (first | assumption | omega)) | (refine r_eql_f rfl rfl ?_ ?_; (first | assumption | omega)) | refine r_eql rfl rfl ?_)
      refine WL_some (og rfl ?_)
      (first | (refine r_pick_t rfl ?_ rfl ?_; (first | rfl | assumption)) | (refine r_pick_f rfl ?_ rfl ?_; (first | rfl | assumption)))
      refine WL_some (og rfl ?_)
      (first | refine r_move_bool rfl ?_ | refine r_move rfl ?_)
      refine WL_some (og rfl ?_)
      (first | refine r_move_int rfl ?_ | refine r_move rfl ?_)
      refine WL_some (og rfl ?_)
      (first | refine r_move_int rfl ?_ | refine r_move rfl ?_)
      refine WL_some (og rfl ?_)
      (first | (refine r_eql_t rfl rfl ?_ ?_; (first | assumption | omega)) | (refine r_eql_f rfl rfl ?_ ?_; (first | assumption | omega)) | refine r_eql rfl rfl ?_)
      refine WL_some (og rfl ?_)
      (first | (refine r_pick_t rfl ?_ rfl ?_; (first | rfl | assumption)) | (refine r_pick_f rfl ?_ rfl ?_; (first | rfl | assumption)))
      refine WL_some (og rfl ?_)
      (first | refine r_move_bool rfl ?_ | refine r_move rfl ?_)
      refine WL_some (og rfl ?_)
      (first | refine r_move_int rfl ?_ | refine r_move rfl ?_)
      refine WL_some (og rfl ?_)
      (first | (refine r_neq_t rfl rfl ?_ ?_; (first | assumption | omega)) | (refine r_neq_f rfl rfl ?_ ?_; (first | assumption | omega)) | refine r_neq rfl rfl ?_)
      refine WL_some (og rfl ?_)
      (first | refine r_move_bool rfl ?_ | refine r_move rfl ?_)
      refine WL_some (og_no rfl ?_)
      refine WL_some (og_no rfl ?_)
      refine WL_some (og_no rfl ?_)
      refine WL_some (og_no rfl ?_)
      refine WL_some (og_no rfl ?_)
      refine WL_some (og_no rfl ?_)
      refine WL_some (og_no rfl ?_)
      refine WL_some (og rfl ?_)
      (first | (refine r_pick_t rfl ?_ rfl ?_; (first | rfl | assumption)) | (refine r_pick_f rfl ?_ rfl ?_; (first | rfl | assumption)))
      refine WL_some (og rfl ?_)
      (first | (refine r_pick_t rfl ?_ rfl ?_; (first | rfl | assumption)) | (refine r_pick_f rfl ?_ rfl ?_; (first | rfl | assumption)))
      refine WL_some (og rfl ?_)
      (first | refine r_assign_bool rfl ?_ | refine r_assign rfl ?_)
      refine WL_nil ?_
      refine W_ret ?_
      exact ret1 (res_bool rfl) ⟨rfl, G⟩
  ·
    have h3 : x % 4 = 3 := by by_cases h : x % 4 = 3; exact h; exact absurd (decN x h) hE
    obtain ⟨hz, _⟩ := dec3 x h3
    refine W_seq ?_
    refine W_region rfl ?_   -- region 0
    refine WL_some (og rfl ?_)
    (first | refine r_assign_bool rfl ?_ | refine r_assign rfl ?_)
    refine WL_nil ?_
    refine W_seq ?_
    refine W_region rfl ?_   -- region 1
    refine WL_some (og rfl ?_)
    (first | refine r_move_int rfl ?_ | refine r_move rfl ?_)
    refine WL_some (og rfl ?_)
    refine r_gives rfl (decode_calls _ _ hx0 hx1) ?_
    intro w59 g60
    replace G := G.tr g60
    clear g60
    refine WL_some (og rfl ?_)
    (first | refine r_move_tuple rfl ?_ | refine r_move rfl ?_)
    refine WL_some (og rfl ?_)
    refine r_extract rfl rfl ?_
    refine WL_some (og rfl ?_)
    refine r_extract rfl rfl ?_
    refine WL_some (og rfl ?_)
    refine r_alloc ?_
    intro b61 w62 hb63 hc64 g65
    refine WL_none (og rfl ?_)
    refine r_storeAll rfl rfl hc64 (by rfl) (by rfl) (by rfl) ?_
    intro w66 hc67 u68
    have g69 := g65.upd u68 hb63
    have hge70 := Nat.le_trans G.size hb63
    replace G := G.tr g69
    clear u68 g65 hb63 hc64
    refine WL_some (og rfl ?_)
    (first | refine r_assign_int rfl ?_ | refine r_assign rfl ?_)
    refine WL_nil ?_
    refine W_seq ?_
    refine W_region rfl ?_   -- region 2
    refine WL_some (og rfl ?_)
    (first | refine r_move_int rfl ?_ | refine r_move rfl ?_)
    refine WL_some (og rfl ?_)
    refine r_gives rfl (decode_calls _ _ hy0 hy1) ?_
    intro w71 g72
    replace hc67 := g72.heap hc67
    replace G := G.tr g72
    clear g72
    refine WL_some (og rfl ?_)
    (first | refine r_move_tuple rfl ?_ | refine r_move rfl ?_)
    refine WL_some (og rfl ?_)
    refine r_extract rfl rfl ?_
    refine WL_some (og rfl ?_)
    refine r_extract rfl rfl ?_
    refine WL_some (og rfl ?_)
    refine r_alloc ?_
    intro b73 w74 hb75 hc76 g77
    refine WL_none (og rfl ?_)
    refine r_storeAll rfl rfl hc76 (by rfl) (by rfl) (by rfl) ?_
    intro w78 hc79 u80
    have g81 := g77.upd u80 hb75
    have hge82 := Nat.le_trans G.size hb75
    have ne83 := Nat.ne_of_lt (Nat.lt_of_lt_of_le (lt_of_heap hc67) hb75)
    replace hc67 := g81.heap hc67
    replace G := G.tr g81
    clear u80 g77 hb75 hc76
    refine WL_some (og rfl ?_)
    (first | refine r_assign_int rfl ?_ | refine r_assign rfl ?_)
    refine WL_nil ?_
    refine W_seq ?_
    refine W_region rfl ?_   -- region 3
    refine WL_some (og rfl ?_)
    (first | refine r_loadAll rfl (by assumption) (by rfl) ?_ | refine r_loadN rfl (by assumption) (by rfl) (by rfl) ?_)
    refine WL_some (og rfl ?_)
    refine r_gives rfl (encode_calls _ _) ?_
    intro w84 g85
    replace hc67 := g85.heap hc67
    replace hc79 := g85.heap hc79
    replace G := G.tr g85
    clear g85
    refine WL_some (og rfl ?_)
    (first | refine r_move_tuple rfl ?_ | refine r_move rfl ?_)
    refine WL_some (og rfl ?_)
    refine r_extract rfl rfl ?_
    refine WL_some (og rfl ?_)
    refine r_extract rfl rfl ?_
    refine WL_some (og rfl ?_)
    (first | refine r_assign_int rfl ?_ | refine r_assign rfl ?_)
    refine WL_some (og rfl ?_)
    (first | refine r_assign_int rfl ?_ | refine r_assign rfl ?_)
    refine WL_nil ?_
    refine W_seq ?_
    refine W_seq ?_
    refine W_region rfl ?_   -- region 4
    refine WL_some (og rfl ?_)
    (first | refine r_move_int rfl ?_ | refine r_move rfl ?_)
    refine WL_some (og rfl ?_)
    (first | (refine r_neq_t rfl rfl ?_ ?_; (first | assumption | omega)) | (refine r_neq_f rfl rfl ?_ ?_; (first | assumption | omega)) | refine r_neq rfl rfl ?_)
    refine WL_nil ?_
    refine W_true rfl ?_
    refine W_seq ?_
    refine W_region rfl ?_   -- region 5
    refine WL_some (og rfl ?_)
    refine r_gives rfl (known_calls _) ?_
    intro w86 g87
    replace hc67 := g87.heap hc67
    replace hc79 := g87.heap hc79
    replace G := G.tr g87
    clear g87
    refine WL_some (og rfl ?_)
    (first | refine r_move_bool rfl ?_ | refine r_move rfl ?_)
    refine WL_some (og rfl ?_)
    (first | refine r_move_int rfl ?_ | refine r_move rfl ?_)
    refine WL_some (og rfl ?_)
    (first | (refine r_rem rfl rfl ?_ ?_ ?_; omega; omega) | (refine r_remw rfl rfl ?_ ?_; omega))
    refine WL_some (og rfl ?_)
    (first | (refine r_eql_t rfl rfl ?_ ?_; (first | assumption | omega)) | (refine r_eql_f rfl rfl ?_ ?_; (first | assumption | omega)) | refine r_eql rfl rfl ?_)
    refine WL_some (og rfl ?_)
    (first | (refine r_pick_t rfl ?_ rfl ?_; (first | rfl | assumption)) | (refine r_pick_f rfl ?_ rfl ?_; (first | rfl | assumption)))
    refine WL_some (og rfl ?_)
    (first | refine r_move_bool rfl ?_ | refine r_move rfl ?_)
    refine WL_some (og rfl ?_)
    (first | refine r_loadAll rfl (by assumption) (by rfl) ?_ | refine r_loadN rfl (by assumption) (by rfl) (by rfl) ?_)
    refine WL_some (og rfl ?_)
    refine r_build (v := .agg #[.int .i64 (0), .int .i64 (0), .int .i64 (0), .int .i64 (0), .int .i64 (0), .int .i64 (0), .int .i64 (0), .bool false]) (fun w => by kernel_rfl) ?_
    refine WL_some (og rfl ?_)
    refine r_eqlS' (r' := true) rfl rfl (by rfl) (by rw [hz]; rfl) ?_
    refine WL_some (og rfl ?_)
    (first | (refine r_pick_t rfl ?_ rfl ?_; (first | rfl | assumption)) | (refine r_pick_f rfl ?_ rfl ?_; (first | rfl | assumption)))
    refine WL_some (og rfl ?_)
    (first | refine r_assign_bool rfl ?_ | refine r_assign rfl ?_)
    refine WL_nil ?_
    refine W_ret ?_
    exact ret1 (res_bool rfl) ⟨rfl, G⟩

set_option maxRecDepth 100000 in
theorem PtrKinds_calls (w : World) (x : Int) (hx0 : 0 ≤ x) (hx1 : x ≤ 18446744073709551615) : Gives Try.prog 5 #[.int .u64 x] w (.bool true) := by
  have G := Grow.rfl' w
  refine gives_of Try.func5 Try.ntmps5 Try.results5 rfl rfl ?_
  obtain ⟨n1, n2, n3, n4, n5⟩ := dec_nonneg x hx0 hx1
  by_cases h0 : x = 0
  ·
    subst h0
    have k1 : decE 0 = 0 := rfl
    have k2 : (decP 0).kind = 0 := rfl
    refine W_seq ?_
    refine W_region rfl ?_   -- region 0
    refine WL_some (og rfl ?_)
    (first | refine r_assign_bool rfl ?_ | refine r_assign rfl ?_)
    refine WL_nil ?_
    refine W_seq ?_
    refine W_region rfl ?_   -- region 1
    refine WL_some (og rfl ?_)
    (first | refine r_move_int rfl ?_ | refine r_move rfl ?_)
    refine WL_some (og rfl ?_)
    refine r_gives rfl (decode_calls _ _ hx0 hx1) ?_
    intro w1 g2
    replace G := G.tr g2
    clear g2
    refine WL_some (og rfl ?_)
    (first | refine r_move_tuple rfl ?_ | refine r_move rfl ?_)
    refine WL_some (og rfl ?_)
    refine r_extract rfl rfl ?_
    refine WL_some (og rfl ?_)
    refine r_extract rfl rfl ?_
    refine WL_some (og rfl ?_)
    refine r_alloc ?_
    intro b3 w4 hb5 hc6 g7
    refine WL_none (og rfl ?_)
    refine r_storeAll rfl rfl hc6 (by rfl) (by rfl) (by rfl) ?_
    intro w8 hc9 u10
    have g11 := g7.upd u10 hb5
    have hge12 := Nat.le_trans G.size hb5
    replace G := G.tr g11
    clear u10 g7 hb5 hc6
    refine WL_some (og rfl ?_)
    (first | refine r_assign_int rfl ?_ | refine r_assign rfl ?_)
    refine WL_nil ?_
    refine W_seq ?_
    refine W_seq ?_
    refine W_region rfl ?_   -- region 2
    refine WL_some (og rfl ?_)
    (first | refine r_move_int rfl ?_ | refine r_move rfl ?_)
    refine WL_some (og rfl ?_)
    (first | (refine r_eql_t rfl rfl ?_ ?_; (first | assumption | omega)) | (refine r_eql_f rfl rfl ?_ ?_; (first | assumption | omega)) | refine r_eql rfl rfl ?_)
    refine WL_nil ?_
    refine W_true rfl ?_
    refine W_seq ?_
    refine W_region rfl ?_   -- region 3
    refine WL_some (og rfl ?_)
    refine r_gives rfl (known_calls _) ?_
    intro w13 g14
    replace hc9 := g14.heap hc9
    replace G := G.tr g14
    clear g14
    refine WL_some (og rfl ?_)
    (first | refine r_move_bool rfl ?_ | refine r_move rfl ?_)
    refine WL_some (og rfl ?_)
    refine r_fieldAddr rfl ?_
    refine WL_some (og rfl ?_)
    refine r_load rfl (by assumption) (by rfl) ?_
    refine WL_some (og rfl ?_)
    (first | (refine r_eql_t rfl rfl ?_ ?_; (first | assumption | omega)) | (refine r_eql_f rfl rfl ?_ ?_; (first | assumption | omega)) | refine r_eql rfl rfl ?_)
    refine WL_some (og rfl ?_)
    (first | (refine r_pick_t rfl ?_ rfl ?_; (first | rfl | assumption)) | (refine r_pick_f rfl ?_ rfl ?_; (first | rfl | assumption)))
    refine WL_some (og rfl ?_)
    (first | refine r_move_bool rfl ?_ | refine r_move rfl ?_)
    refine WL_some (og rfl ?_)
    (first | refine r_move_int rfl ?_ | refine r_move rfl ?_)
    refine WL_some (og rfl ?_)
    (first | (refine r_eql_t rfl rfl ?_ ?_; (first | assumption | omega)) | (refine r_eql_f rfl rfl ?_ ?_; (first | assumption | omega)) | refine r_eql rfl rfl ?_)
    refine WL_some (og rfl ?_)
    (first | (refine r_pick_t rfl ?_ rfl ?_; (first | rfl | assumption)) | (refine r_pick_f rfl ?_ rfl ?_; (first | rfl | assumption)))
    refine WL_some (og rfl ?_)
    (first | refine r_assign_bool rfl ?_ | refine r_assign rfl ?_)
    refine WL_nil ?_
    refine W_ret ?_
    exact ret1 (res_bool rfl) ⟨rfl, G⟩
  ·
    by_cases h3 : x % 4 = 3
    ·
      obtain ⟨hz, hE⟩ := dec3 x h3
      have k1 : (decP x).kind = 0 := by rw [hz]; rfl
      refine W_seq ?_
      refine W_region rfl ?_   -- region 0
      refine WL_some (og rfl ?_)
      (first | refine r_assign_bool rfl ?_ | refine r_assign rfl ?_)
      refine WL_nil ?_
      refine W_seq ?_
      refine W_region rfl ?_   -- region 1
      refine WL_some (og rfl ?_)
      (first | refine r_move_int rfl ?_ | refine r_move rfl ?_)
      refine WL_some (og rfl ?_)
      refine r_gives rfl (decode_calls _ _ hx0 hx1) ?_
      intro w15 g16
      replace G := G.tr g16
      clear g16
      refine WL_some (og rfl ?_)
      (first | refine r_move_tuple rfl ?_ | refine r_move rfl ?_)
      refine WL_some (og rfl ?_)
      refine r_extract rfl rfl ?_
      refine WL_some (og rfl ?_)
      refine r_extract rfl rfl ?_
      refine WL_some (og rfl ?_)
      refine r_alloc ?_
      intro b17 w18 hb19 hc20 g21
      refine WL_none (og rfl ?_)
      refine r_storeAll rfl rfl hc20 (by rfl) (by rfl) (by rfl) ?_
      intro w22 hc23 u24
      have g25 := g21.upd u24 hb19
      have hge26 := Nat.le_trans G.size hb19
      replace G := G.tr g25
      clear u24 g21 hb19 hc20
      refine WL_some (og rfl ?_)
      (first | refine r_assign_int rfl ?_ | refine r_assign rfl ?_)
      refine WL_nil ?_
      refine W_seq ?_
      refine W_seq ?_
      refine W_region rfl ?_   -- region 2
      refine WL_some (og rfl ?_)
      (first | refine r_move_int rfl ?_ | refine r_move rfl ?_)
      refine WL_some (og rfl ?_)
      (first | (refine r_eql_t rfl rfl ?_ ?_; (first | assumption | omega)) | (refine r_eql_f rfl rfl ?_ ?_; (first | assumption | omega)) | refine r_eql rfl rfl ?_)
      refine WL_nil ?_
      refine W_false rfl ?_
      refine W_skip ?_
      refine W_seq ?_
      refine W_region rfl ?_   -- region 4
      refine WL_some (og rfl ?_)
      refine r_gives rfl (known_calls _) ?_
      intro w27 g28
      replace hc23 := g28.heap hc23
      replace G := G.tr g28
      clear g28
      refine WL_some (og rfl ?_)
      (first | refine r_move_bool rfl ?_ | refine r_move rfl ?_)
      refine WL_some (og rfl ?_)
      (first | refine r_move_int rfl ?_ | refine r_move rfl ?_)
      refine WL_some (og rfl ?_)
      (first | (refine r_eql_t rfl rfl ?_ ?_; (first | assumption | omega)) | (refine r_eql_f rfl rfl ?_ ?_; (first | assumption | omega)) | refine r_eql rfl rfl ?_)
      refine WL_some (og rfl ?_)
      (first | refine r_move_int rfl ?_ | refine r_move rfl ?_)
      refine WL_some (og rfl ?_)
      (first | (refine r_rem rfl rfl ?_ ?_ ?_; omega; omega) | (refine r_remw rfl rfl ?_ ?_; omega))
      refine WL_some (og rfl ?_)
      (first | (refine r_neq_t rfl rfl ?_ ?_; (first | assumption | omega)) | (refine r_neq_f rfl rfl ?_ ?_; (first | assumption | omega)) | refine r_neq rfl rfl ?_)
      refine WL_some (og rfl ?_)
      refine r_beq' (r := true) rfl rfl rfl ?_
      refine WL_some (og rfl ?_)
      (first | (refine r_pick_t rfl ?_ rfl ?_; (first | rfl | assumption)) | (refine r_pick_f rfl ?_ rfl ?_; (first | rfl | assumption)))
      refine WL_some (og rfl ?_)
      (first | refine r_move_bool rfl ?_ | refine r_move rfl ?_)
      refine WL_some (og rfl ?_)
      (first | refine r_move_int rfl ?_ | refine r_move rfl ?_)
      refine WL_some (og rfl ?_)
      (first | (refine r_rem rfl rfl ?_ ?_ ?_; omega; omega) | (refine r_remw rfl rfl ?_ ?_; omega))
      refine WL_some (og rfl ?_)
      (first | (refine r_eql_t rfl rfl ?_ ?_; (first | assumption | omega)) | (refine r_eql_f rfl rfl ?_ ?_; (first | assumption | omega)) | refine r_eql rfl rfl ?_)
      refine WL_some (og rfl ?_)
      (first | refine r_move_bool rfl ?_ | refine r_move rfl ?_)
      refine WL_some (og_no rfl ?_)
      refine WL_some (og_no rfl ?_)
      refine WL_some (og_no rfl ?_)
      refine WL_some (og_no rfl ?_)
      refine WL_some (og_no rfl ?_)
      refine WL_some (og_no rfl ?_)
      refine WL_some (og_no rfl ?_)
      refine WL_some (og rfl ?_)
      (first | (refine r_pick_t rfl ?_ rfl ?_; (first | rfl | assumption)) | (refine r_pick_f rfl ?_ rfl ?_; (first | rfl | assumption)))
      refine WL_some (og rfl ?_)
      (first | (refine r_pick_t rfl ?_ rfl ?_; (first | rfl | assumption)) | (refine r_pick_f rfl ?_ rfl ?_; (first | rfl | assumption)))
      refine WL_some (og rfl ?_)
      (first | refine r_move_bool rfl ?_ | refine r_move rfl ?_)
      refine WL_some (og rfl ?_)
      refine r_fieldAddr rfl ?_
      refine WL_some (og rfl ?_)
      refine r_load rfl (by assumption) (by rfl) ?_
      refine WL_some (og rfl ?_)
      (first | (refine r_neq_t rfl rfl ?_ ?_; (first | assumption | omega)) | (refine r_neq_f rfl rfl ?_ ?_; (first | assumption | omega)) | refine r_neq rfl rfl ?_)
      refine WL_some (og rfl ?_)
      (first | refine r_move_bool rfl ?_ | refine r_move rfl ?_)
      refine WL_some (og_no rfl ?_)
      refine WL_some (og_no rfl ?_)
      refine WL_some (og_no rfl ?_)
      refine WL_some (og_no rfl ?_)
      refine WL_some (og_no rfl ?_)
      refine WL_some (og_no rfl ?_)
      refine WL_some (og_no rfl ?_)
      refine WL_some (og_no rfl ?_)
      refine WL_some (og rfl ?_)
      (first | (refine r_pick_t rfl ?_ rfl ?_; (first | rfl | assumption)) | (refine r_pick_f rfl ?_ rfl ?_; (first | rfl | assumption)))
      refine WL_some (og rfl ?_)
      (first | (refine r_pick_t rfl ?_ rfl ?_; (first | rfl | assumption)) | (refine r_pick_f rfl ?_ rfl ?_; (first | rfl | assumption)))
      refine WL_some (og rfl ?_)
      (first | refine r_move_bool rfl ?_ | refine r_move rfl ?_)
      refine WL_some (og rfl ?_)
      refine r_fieldAddr rfl ?_
      refine WL_some (og rfl ?_)
      refine r_load rfl (by assumption) (by rfl) ?_
      refine WL_some (og rfl ?_)
      (first | (refine r_geq_t rfl rfl ?_ ?_; (first | assumption | omega)) | (refine r_geq_f rfl rfl ?_ ?_; (first | assumption | omega)) | refine r_geq rfl rfl ?_)
      refine WL_some (og rfl ?_)
      (first | (refine r_pick_t rfl ?_ rfl ?_; (first | rfl | assumption)) | (refine r_pick_f rfl ?_ rfl ?_; (first | rfl | assumption)))
      refine WL_some (og rfl ?_)
      (first | refine r_move_bool rfl ?_ | refine r_move rfl ?_)
      refine WL_some (og rfl ?_)
      refine r_fieldAddr rfl ?_
      refine WL_some (og rfl ?_)
      refine r_load rfl (by assumption) (by rfl) ?_
      refine WL_some (og rfl ?_)
      (first | (refine r_geq_t rfl rfl ?_ ?_; (first | assumption | omega)) | (refine r_geq_f rfl rfl ?_ ?_; (first | assumption | omega)) | refine r_geq rfl rfl ?_)
      refine WL_some (og rfl ?_)
      (first | (refine r_pick_t rfl ?_ rfl ?_; (first | rfl | assumption)) | (refine r_pick_f rfl ?_ rfl ?_; (first | rfl | assumption)))
      refine WL_some (og rfl ?_)
      (first | refine r_move_bool rfl ?_ | refine r_move rfl ?_)
      refine WL_some (og rfl ?_)
      refine r_fieldAddr rfl ?_
      refine WL_some (og rfl ?_)
      refine r_load rfl (by assumption) (by rfl) ?_
      refine WL_some (og rfl ?_)
      (first | (refine r_geq_t rfl rfl ?_ ?_; (first | assumption | omega)) | (refine r_geq_f rfl rfl ?_ ?_; (first | assumption | omega)) | refine r_geq rfl rfl ?_)
      refine WL_some (og rfl ?_)
      (first | (refine r_pick_t rfl ?_ rfl ?_; (first | rfl | assumption)) | (refine r_pick_f rfl ?_ rfl ?_; (first | rfl | assumption)))
      refine WL_some (og rfl ?_)
      (first | refine r_assign_bool rfl ?_ | refine r_assign rfl ?_)
      refine WL_nil ?_
      refine W_ret ?_
      exact ret1 (res_bool rfl) ⟨rfl, G⟩
    ·
      have hE := decN x h3
      have k1 := n5 h0 h3
      by_cases k3 : (decP x).kind = 3
      ·
        obtain ⟨n6, n7⟩ := n4 k3
        refine W_seq ?_
        refine W_region rfl ?_   -- region 0
        refine WL_some (og rfl ?_)
        (first | refine r_assign_bool rfl ?_ | refine r_assign rfl ?_)
        refine WL_nil ?_
        refine W_seq ?_
        refine W_region rfl ?_   -- region 1
        refine WL_some (og rfl ?_)
        (first | refine r_move_int rfl ?_ | refine r_move rfl ?_)
        refine WL_some (og rfl ?_)
        refine r_gives rfl (decode_calls _ _ hx0 hx1) ?_
        intro w29 g30
        replace G := G.tr g30
        clear g30
        refine WL_some (og rfl ?_)
        (first | refine r_move_tuple rfl ?_ | refine r_move rfl ?_)
        refine WL_some (og rfl ?_)
        refine r_extract rfl rfl ?_
        refine WL_some (og rfl ?_)
        refine r_extract rfl rfl ?_
        refine WL_some (og rfl ?_)
        refine r_alloc ?_
        intro b31 w32 hb33 hc34 g35
        refine WL_none (og rfl ?_)
        refine r_storeAll rfl rfl hc34 (by rfl) (by rfl) (by rfl) ?_
        intro w36 hc37 u38
        have g39 := g35.upd u38 hb33
        have hge40 := Nat.le_trans G.size hb33
        replace G := G.tr g39
        clear u38 g35 hb33 hc34
        refine WL_some (og rfl ?_)
        (first | refine r_assign_int rfl ?_ | refine r_assign rfl ?_)
        refine WL_nil ?_
        refine W_seq ?_
        refine W_seq ?_
        refine W_region rfl ?_   -- region 2
        refine WL_some (og rfl ?_)
        (first | refine r_move_int rfl ?_ | refine r_move rfl ?_)
        refine WL_some (og rfl ?_)
        (first | (refine r_eql_t rfl rfl ?_ ?_; (first | assumption | omega)) | (refine r_eql_f rfl rfl ?_ ?_; (first | assumption | omega)) | refine r_eql rfl rfl ?_)
        refine WL_nil ?_
        refine W_false rfl ?_
        refine W_skip ?_
        refine W_seq ?_
        refine W_region rfl ?_   -- region 4
        refine WL_some (og rfl ?_)
        refine r_gives rfl (known_calls _) ?_
        intro w41 g42
        replace hc37 := g42.heap hc37
        replace G := G.tr g42
        clear g42
        refine WL_some (og rfl ?_)
        (first | refine r_move_bool rfl ?_ | refine r_move rfl ?_)
        refine WL_some (og rfl ?_)
        (first | refine r_move_int rfl ?_ | refine r_move rfl ?_)
        refine WL_some (og rfl ?_)
        (first | (refine r_eql_t rfl rfl ?_ ?_; (first | assumption | omega)) | (refine r_eql_f rfl rfl ?_ ?_; (first | assumption | omega)) | refine r_eql rfl rfl ?_)
        refine WL_some (og rfl ?_)
        (first | refine r_move_int rfl ?_ | refine r_move rfl ?_)
        refine WL_some (og rfl ?_)
        (first | (refine r_rem rfl rfl ?_ ?_ ?_; omega; omega) | (refine r_remw rfl rfl ?_ ?_; omega))
        refine WL_some (og rfl ?_)
        (first | (refine r_neq_t rfl rfl ?_ ?_; (first | assumption | omega)) | (refine r_neq_f rfl rfl ?_ ?_; (first | assumption | omega)) | refine r_neq rfl rfl ?_)
        refine WL_some (og rfl ?_)
        refine r_beq' (r := true) rfl rfl rfl ?_
        refine WL_some (og rfl ?_)
        (first | (refine r_pick_t rfl ?_ rfl ?_; (first | rfl | assumption)) | (refine r_pick_f rfl ?_ rfl ?_; (first | rfl | assumption)))
        refine WL_some (og rfl ?_)
        (first | refine r_move_bool rfl ?_ | refine r_move rfl ?_)
        refine WL_some (og rfl ?_)
        (first | refine r_move_int rfl ?_ | refine r_move rfl ?_)
        refine WL_some (og rfl ?_)
        (first | (refine r_rem rfl rfl ?_ ?_ ?_; omega; omega) | (refine r_remw rfl rfl ?_ ?_; omega))
        refine WL_some (og rfl ?_)
        (first | (refine r_eql_t rfl rfl ?_ ?_; (first | assumption | omega)) | (refine r_eql_f rfl rfl ?_ ?_; (first | assumption | omega)) | refine r_eql rfl rfl ?_)
        refine WL_some (og rfl ?_)
        (first | refine r_move_bool rfl ?_ | refine r_move rfl ?_)
        refine WL_some (og rfl ?_)
        refine r_fieldAddr rfl ?_
        refine WL_some (og rfl ?_)
        refine r_load rfl (by assumption) (by rfl) ?_
        refine WL_some (og rfl ?_)
        (first | refine r_move_int rfl ?_ | refine r_move rfl ?_)
        refine WL_some (og rfl ?_)
        (first | (refine r_rem rfl rfl ?_ ?_ ?_; omega; omega) | (refine r_remw rfl rfl ?_ ?_; omega))
        refine WL_some (og rfl ?_)
        (first | (refine r_conv rfl ?_ ?_; (constructor <;> omega)) | refine r_convw rfl ?_)
        refine WL_some (og rfl ?_)
        (first | (refine r_add rfl rfl ?_ ?_; (constructor <;> omega)) | refine r_addw rfl rfl ?_)
        refine WL_some (og rfl ?_)
        (first | (refine r_eql_t rfl rfl ?_ ?_; (first | assumption | omega)) | (refine r_eql_f rfl rfl ?_ ?_; (first | assumption | omega)) | refine r_eql rfl rfl ?_)
        refine WL_some (og rfl ?_)
        (first | (refine r_pick_t rfl ?_ rfl ?_; (first | rfl | assumption)) | (refine r_pick_f rfl ?_ rfl ?_; (first | rfl | assumption)))
        refine WL_some (og rfl ?_)
        (first | (refine r_pick_t rfl ?_ rfl ?_; (first | rfl | assumption)) | (refine r_pick_f rfl ?_ rfl ?_; (first | rfl | assumption)))
        refine WL_some (og rfl ?_)
        (first | refine r_move_bool rfl ?_ | refine r_move rfl ?_)
        refine WL_some (og rfl ?_)
        refine r_fieldAddr rfl ?_
        refine WL_some (og rfl ?_)
        refine r_load rfl (by assumption) (by rfl) ?_
        refine WL_some (og rfl ?_)
        (first | (refine r_neq_t rfl rfl ?_ ?_; (first | assumption | omega)) | (refine r_neq_f rfl rfl ?_ ?_; (first | assumption | omega)) | refine r_neq rfl rfl ?_)
        refine WL_some (og rfl ?_)
        (first | refine r_move_bool rfl ?_ | refine r_move rfl ?_)
        refine WL_some (og rfl ?_)
        refine r_fieldAddr rfl ?_
        refine WL_some (og rfl ?_)
        refine r_load rfl (by assumption) (by rfl) ?_
        refine WL_some (og rfl ?_)
        (first | (refine r_geq_t rfl rfl ?_ ?_; (first | assumption | omega)) | (refine r_geq_f rfl rfl ?_ ?_; (first | assumption | omega)) | refine r_geq rfl rfl ?_)
        refine WL_some (og rfl ?_)
        (first | refine r_move_bool rfl ?_ | refine r_move rfl ?_)
        refine WL_some (og rfl ?_)
        refine r_fieldAddr rfl ?_
        refine WL_some (og rfl ?_)
        refine r_load rfl (by assumption) (by rfl) ?_
        refine WL_some (og rfl ?_)
        (first | (refine r_geq_t rfl rfl ?_ ?_; (first | assumption | omega)) | (refine r_geq_f rfl rfl ?_ ?_; (first | assumption | omega)) | refine r_geq rfl rfl ?_)
        refine WL_some (og rfl ?_)
        (first | (refine r_pick_t rfl ?_ rfl ?_; (first | rfl | assumption)) | (refine r_pick_f rfl ?_ rfl ?_; (first | rfl | assumption)))
        refine WL_some (og rfl ?_)
        (first | (refine r_pick_t rfl ?_ rfl ?_; (first | rfl | assumption)) | (refine r_pick_f rfl ?_ rfl ?_; (first | rfl | assumption)))
        refine WL_some (og rfl ?_)
        (first | (refine r_pick_t rfl ?_ rfl ?_; (first | rfl | assumption)) | (refine r_pick_f rfl ?_ rfl ?_; (first | rfl | assumption)))
        refine WL_some (og rfl ?_)
        (first | refine r_move_bool rfl ?_ | refine r_move rfl ?_)
        refine WL_some (og rfl ?_)
        refine r_fieldAddr rfl ?_
        refine WL_some (og rfl ?_)
        refine r_load rfl (by assumption) (by rfl) ?_
        refine WL_some (og rfl ?_)
        (first | (refine r_geq_t rfl rfl ?_ ?_; (first | assumption | omega)) | (refine r_geq_f rfl rfl ?_ ?_; (first | assumption | omega)) | refine r_geq rfl rfl ?_)
        refine WL_some (og rfl ?_)
        (first | (refine r_pick_t rfl ?_ rfl ?_; (first | rfl | assumption)) | (refine r_pick_f rfl ?_ rfl ?_; (first | rfl | assumption)))
        refine WL_some (og rfl ?_)
        (first | refine r_move_bool rfl ?_ | refine r_move rfl ?_)
        refine WL_some (og rfl ?_)
        refine r_fieldAddr rfl ?_
        refine WL_some (og rfl ?_)
        refine r_load rfl (by assumption) (by rfl) ?_
        refine WL_some (og rfl ?_)
        (first | (refine r_geq_t rfl rfl ?_ ?_; (first | assumption | omega)) | (refine r_geq_f rfl rfl ?_ ?_; (first | assumption | omega)) | refine r_geq rfl rfl ?_)
        refine WL_some (og rfl ?_)
        (first | (refine r_pick_t rfl ?_ rfl ?_; (first | rfl | assumption)) | (refine r_pick_f rfl ?_ rfl ?_; (first | rfl | assumption)))
        refine WL_some (og rfl ?_)
        (first | refine r_move_bool rfl ?_ | refine r_move rfl ?_)
        refine WL_some (og rfl ?_)
        refine r_fieldAddr rfl ?_
        refine WL_some (og rfl ?_)
        refine r_load rfl (by assumption) (by rfl) ?_
        refine WL_some (og rfl ?_)
        (first | (refine r_geq_t rfl rfl ?_ ?_; (first | assumption | omega)) | (refine r_geq_f rfl rfl ?_ ?_; (first | assumption | omega)) | refine r_geq rfl rfl ?_)
        refine WL_some (og rfl ?_)
        (first | (refine r_pick_t rfl ?_ rfl ?_; (first | rfl | assumption)) | (refine r_pick_f rfl ?_ rfl ?_; (first | rfl | assumption)))
        refine WL_some (og rfl ?_)
        (first | refine r_assign_bool rfl ?_ | refine r_assign rfl ?_)
        refine WL_nil ?_
        refine W_ret ?_
        exact ret1 (res_bool rfl) ⟨rfl, G⟩
      ·
        refine W_seq ?_
        refine W_region rfl ?_   -- region 0
        refine WL_some (og rfl ?_)
        (first | refine r_assign_bool rfl ?_ | refine r_assign rfl ?_)
        refine WL_nil ?_
        refine W_seq ?_
        refine W_region rfl ?_   -- region 1
        refine WL_some (og rfl ?_)
        (first | refine r_move_int rfl ?_ | refine r_move rfl ?_)
        refine WL_some (og rfl ?_)
        refine r_gives rfl (decode_calls _ _ hx0 hx1) ?_
        intro w43 g44
        replace G := G.tr g44
        clear g44
        refine WL_some (og rfl ?_)
        (first | refine r_move_tuple rfl ?_ | refine r_move rfl ?_)
        refine WL_some (og rfl ?_)
        refine r_extract rfl rfl ?_
        refine WL_some (og rfl ?_)
        refine r_extract rfl rfl ?_
        refine WL_some (og rfl ?_)
        refine r_alloc ?_
        intro b45 w46 hb47 hc48 g49
        refine WL_none (og rfl ?_)
        refine r_storeAll rfl rfl hc48 (by rfl) (by rfl) (by rfl) ?_
        intro w50 hc51 u52
        have g53 := g49.upd u52 hb47
        have hge54 := Nat.le_trans G.size hb47
        replace G := G.tr g53
        clear u52 g49 hb47 hc48
        refine WL_some (og rfl ?_)
        (first | refine r_assign_int rfl ?_ | refine r_assign rfl ?_)
        refine WL_nil ?_
        refine W_seq ?_
        refine W_seq ?_
        refine W_region rfl ?_   -- region 2
        refine WL_some (og rfl ?_)
        (first | refine r_move_int rfl ?_ | refine r_move rfl ?_)
        refine WL_some (og rfl ?_)
        (first | (refine r_eql_t rfl rfl ?_ ?_; (first | assumption | omega)) | (refine r_eql_f rfl rfl ?_ ?_; (first | assumption | omega)) | refine r_eql rfl rfl ?_)
        refine WL_nil ?_
        refine W_false rfl ?_
        refine W_skip ?_
        refine W_seq ?_
        refine W_region rfl ?_   -- region 4
        refine WL_some (og rfl ?_)
        refine r_gives rfl (known_calls _) ?_
        intro w55 g56
        replace hc51 := g56.heap hc51
        replace G := G.tr g56
        clear g56
        refine WL_some (og rfl ?_)
        (first | refine r_move_bool rfl ?_ | refine r_move rfl ?_)
        refine WL_some (og rfl ?_)
        (first | refine r_move_int rfl ?_ | refine r_move rfl ?_)
        refine WL_some (og rfl ?_)
        (first | (refine r_eql_t rfl rfl ?_ ?_; (first | assumption | omega)) | (refine r_eql_f rfl rfl ?_ ?_; (first | assumption | omega)) | refine r_eql rfl rfl ?_)
        refine WL_some (og rfl ?_)
        (first | refine r_move_int rfl ?_ | refine r_move rfl ?_)
        refine WL_some (og rfl ?_)
        (first | (refine r_rem rfl rfl ?_ ?_ ?_; omega; omega) | (refine r_remw rfl rfl ?_ ?_; omega))
        refine WL_some (og rfl ?_)
        (first | (refine r_neq_t rfl rfl ?_ ?_; (first | assumption | omega)) | (refine r_neq_f rfl rfl ?_ ?_; (first | assumption | omega)) | refine r_neq rfl rfl ?_)
        refine WL_some (og rfl ?_)
        refine r_beq' (r := true) rfl rfl rfl ?_
        refine WL_some (og rfl ?_)
        (first | (refine r_pick_t rfl ?_ rfl ?_; (first | rfl | assumption)) | (refine r_pick_f rfl ?_ rfl ?_; (first | rfl | assumption)))
        refine WL_some (og rfl ?_)
        (first | refine r_move_bool rfl ?_ | refine r_move rfl ?_)
        refine WL_some (og rfl ?_)
        (first | refine r_move_int rfl ?_ | refine r_move rfl ?_)
        refine WL_some (og rfl ?_)
        (first | (refine r_rem rfl rfl ?_ ?_ ?_; omega; omega) | (refine r_remw rfl rfl ?_ ?_; omega))
        refine WL_some (og rfl ?_)
        (first | (refine r_eql_t rfl rfl ?_ ?_; (first | assumption | omega)) | (refine r_eql_f rfl rfl ?_ ?_; (first | assumption | omega)) | refine r_eql rfl rfl ?_)
        refine WL_some (og rfl ?_)
        (first | refine r_move_bool rfl ?_ | refine r_move rfl ?_)
        refine WL_some (og rfl ?_)
        refine r_fieldAddr rfl ?_
        refine WL_some (og rfl ?_)
        refine r_load rfl (by assumption) (by rfl) ?_
        refine WL_some (og rfl ?_)
        (first | refine r_move_int rfl ?_ | refine r_move rfl ?_)
        refine WL_some (og rfl ?_)
        (first | (refine r_rem rfl rfl ?_ ?_ ?_; omega; omega) | (refine r_remw rfl rfl ?_ ?_; omega))
        refine WL_some (og rfl ?_)
        (first | (refine r_conv rfl ?_ ?_; (constructor <;> omega)) | refine r_convw rfl ?_)
        refine WL_some (og rfl ?_)
        (first | (refine r_add rfl rfl ?_ ?_; (constructor <;> omega)) | refine r_addw rfl rfl ?_)
        refine WL_some (og rfl ?_)
        (first | (refine r_eql_t rfl rfl ?_ ?_; (first | assumption | omega)) | (refine r_eql_f rfl rfl ?_ ?_; (first | assumption | omega)) | refine r_eql rfl rfl ?_)
        refine WL_some (og rfl ?_)
        (first | (refine r_pick_t rfl ?_ rfl ?_; (first | rfl | assumption)) | (refine r_pick_f rfl ?_ rfl ?_; (first | rfl | assumption)))
        refine WL_some (og rfl ?_)
        (first | (refine r_pick_t rfl ?_ rfl ?_; (first | rfl | assumption)) | (refine r_pick_f rfl ?_ rfl ?_; (first | rfl | assumption)))
        refine WL_some (og rfl ?_)
        (first | refine r_move_bool rfl ?_ | refine r_move rfl ?_)
        refine WL_some (og rfl ?_)
        refine r_fieldAddr rfl ?_
        refine WL_some (og rfl ?_)
        refine r_load rfl (by assumption) (by rfl) ?_
        refine WL_some (og rfl ?_)
        (first | (refine r_neq_t rfl rfl ?_ ?_; (first | assumption | omega)) | (refine r_neq_f rfl rfl ?_ ?_; (first | assumption | omega)) | refine r_neq rfl rfl ?_)
        refine WL_some (og rfl ?_)
        (first | refine r_move_bool rfl ?_ | refine r_move rfl ?_)
        refine WL_some (og_no rfl ?_)
        refine WL_some (og_no rfl ?_)
        refine WL_some (og_no rfl ?_)
        refine WL_some (og_no rfl ?_)
        refine WL_some (og_no rfl ?_)
        refine WL_some (og_no rfl ?_)
        refine WL_some (og_no rfl ?_)
        refine WL_some (og_no rfl ?_)
        refine WL_some (og rfl ?_)
        (first | (refine r_pick_t rfl ?_ rfl ?_; (first | rfl | assumption)) | (refine r_pick_f rfl ?_ rfl ?_; (first | rfl | assumption)))
        refine WL_some (og rfl ?_)
        (first | (refine r_pick_t rfl ?_ rfl ?_; (first | rfl | assumption)) | (refine r_pick_f rfl ?_ rfl ?_; (first | rfl | assumption)))
        refine WL_some (og rfl ?_)
        (first | refine r_move_bool rfl ?_ | refine r_move rfl ?_)
        refine WL_some (og rfl ?_)
        refine r_fieldAddr rfl ?_
        refine WL_some (og rfl ?_)
        refine r_load rfl (by assumption) (by rfl) ?_
        refine WL_some (og rfl ?_)
        (first | (refine r_geq_t rfl rfl ?_ ?_; (first | assumption | omega)) | (refine r_geq_f rfl rfl ?_ ?_; (first | assumption | omega)) | refine r_geq rfl rfl ?_)
        refine WL_some (og rfl ?_)
        (first | (refine r_pick_t rfl ?_ rfl ?_; (first | rfl | assumption)) | (refine r_pick_f rfl ?_ rfl ?_; (first | rfl | assumption)))
        refine WL_some (og rfl ?_)
        (first | refine r_move_bool rfl ?_ | refine r_move rfl ?_)
        refine WL_some (og rfl ?_)
        refine r_fieldAddr rfl ?_
        refine WL_some (og rfl ?_)
        refine r_load rfl (by assumption) (by rfl) ?_
        refine WL_some (og rfl ?_)
        (first | (refine r_geq_t rfl rfl ?_ ?_; (first | assumption | omega)) | (refine r_geq_f rfl rfl ?_ ?_; (first | assumption | omega)) | refine r_geq rfl rfl ?_)
        refine WL_some (og rfl ?_)
        (first | (refine r_pick_t rfl ?_ rfl ?_; (first | rfl | assumption)) | (refine r_pick_f rfl ?_ rfl ?_; (first | rfl | assumption)))
        refine WL_some (og rfl ?_)
        (first | refine r_move_bool rfl ?_ | refine r_move rfl ?_)
        refine WL_some (og rfl ?_)
        refine r_fieldAddr rfl ?_
        refine WL_some (og rfl ?_)
        refine r_load rfl (by assumption) (by rfl) ?_
        refine WL_some (og rfl ?_)
        (first | (refine r_geq_t rfl rfl ?_ ?_; (first | assumption | omega)) | (refine r_geq_f rfl rfl ?_ ?_; (first | assumption | omega)) | refine r_geq rfl rfl ?_)
        refine WL_some (og rfl ?_)
        (first | (refine r_pick_t rfl ?_ rfl ?_; (first | rfl | assumption)) | (refine r_pick_f rfl ?_ rfl ?_; (first | rfl | assumption)))
        refine WL_some (og rfl ?_)
        (first | refine r_assign_bool rfl ?_ | refine r_assign rfl ?_)
        refine WL_nil ?_
        refine W_ret ?_
        exact ret1 (res_bool rfl) ⟨rfl, G⟩
end Go.Proofs.Ytepcfoofdbdioaa.K
