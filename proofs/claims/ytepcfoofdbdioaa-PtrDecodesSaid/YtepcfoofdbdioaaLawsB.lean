/- The walks of chapter 06's statements (printed by law06.py). -/
import Derived.Test.YtepcfoofdbdioaaPtr
set_option linter.unusedVariables false
set_option linter.unusedSimpArgs false
namespace Go.Proofs.Ytepcfoofdbdioaa.K
open Go Go.RowKit Go.Proofs
attribute [local irreducible] Run1 OpG WL W AO Gives
set_option maxRecDepth 100000 in
theorem known_calls (w : World)  : Gives Try.prog 11 #[] w (.bool true) := by
  have G := Grow.rfl' w
  refine gives_of Try.func11 Try.ntmps11 Try.results11 rfl rfl ?_
  have k1 : decE 281479271677948 = 0 := by decide
  have k2 : decE 3 = 23 := by decide
  have k3 : encE (decP 281479271677948) = 0 := by decide
  have k4 : encR (decP 281479271677948) = 281479271677948 := by decide
  refine W_seq ?_
  refine W_region rfl ?_   -- region 0
  refine WL_some (og rfl ?_)
  (first | refine r_assign_bool rfl ?_ | refine r_assign rfl ?_)
  refine WL_nil ?_
  refine W_seq ?_
  refine W_region rfl ?_   -- region 1
  refine WL_some (og rfl ?_)
  refine r_gives rfl (decode_calls _ 281479271677948 (by decide) (by decide)) ?_
  intro w1 g2
  replace G := G.tr g2
  clear g2
  refine WL_some (og rfl ?_)
  (first | refine r_move_tuple rfl ?_ | refine r_move rfl ?_)
  refine WL_some (og rfl ?_)
  refine r_extract rfl rfl ?_
  refine WL_some (og rfl ?_)
  refine r_extract rfl rfl ?_
  refine WL_some (og rfl ?_)
  refine r_alloc ?_
  intro b3 w4 hb5 hc6 g7
  refine WL_none (og rfl ?_)
  refine r_storeAll rfl rfl hc6 (by rfl) (by rfl) (by rfl) ?_
  intro w8 hc9 u10
  have g11 := g7.upd u10 hb5
  have hge12 := Nat.le_trans G.size hb5
  replace G := G.tr g11
  clear u10 g7 hb5 hc6
  refine WL_some (og rfl ?_)
  (first | refine r_assign_int rfl ?_ | refine r_assign rfl ?_)
  refine WL_nil ?_
  refine W_seq ?_
  refine W_region rfl ?_   -- region 2
  refine WL_some (og rfl ?_)
  refine r_gives rfl (decode_calls _ 3 (by decide) (by decide)) ?_
  intro w13 g14
  replace hc9 := g14.heap hc9
  replace G := G.tr g14
  clear g14
  refine WL_some (og rfl ?_)
  (first | refine r_move_tuple rfl ?_ | refine r_move rfl ?_)
  refine WL_some (og rfl ?_)
  refine r_extract rfl rfl ?_
  refine WL_some (og rfl ?_)
  refine r_extract rfl rfl ?_
  refine WL_some (og rfl ?_)
  refine r_alloc ?_
  intro b15 w16 hb17 hc18 g19
  refine WL_none (og rfl ?_)
  refine r_storeAll rfl rfl hc18 (by rfl) (by rfl) (by rfl) ?_
  intro w20 hc21 u22
  have g23 := g19.upd u22 hb17
  have hge24 := Nat.le_trans G.size hb17
  have ne25 := Nat.ne_of_lt (Nat.lt_of_lt_of_le (lt_of_heap hc9) hb17)
  replace hc9 := g23.heap hc9
  replace G := G.tr g23
  clear u22 g19 hb17 hc18
  refine WL_some (og rfl ?_)
  (first | refine r_assign_int rfl ?_ | refine r_assign rfl ?_)
  refine WL_nil ?_
  refine W_seq ?_
  refine W_region rfl ?_   -- region 3
  refine WL_some (og rfl ?_)
  (first | refine r_loadAll rfl (by assumption) (by rfl) ?_ | refine r_loadN rfl (by assumption) (by rfl) (by rfl) ?_)
  refine WL_some (og rfl ?_)
  refine r_gives rfl (encode_calls _ _) ?_
  intro w26 g27
  replace hc9 := g27.heap hc9
  replace hc21 := g27.heap hc21
  replace G := G.tr g27
  clear g27
  refine WL_some (og rfl ?_)
  (first | refine r_move_tuple rfl ?_ | refine r_move rfl ?_)
  refine WL_some (og rfl ?_)
  refine r_extract rfl rfl ?_
  refine WL_some (og rfl ?_)
  refine r_extract rfl rfl ?_
  refine WL_some (og rfl ?_)
  (first | refine r_assign_int rfl ?_ | refine r_assign rfl ?_)
  refine WL_some (og rfl ?_)
  (first | refine r_assign_int rfl ?_ | refine r_assign rfl ?_)
  refine WL_nil ?_
  refine W_seq ?_
  refine W_region rfl ?_   -- region 4
  refine WL_some (og rfl ?_)
  (first | refine r_move_int rfl ?_ | refine r_move rfl ?_)
  refine WL_some (og rfl ?_)
  (first | (refine r_eql_t rfl rfl ?_ ?_; (first | assumption | omega)) | (refine r_eql_f rfl rfl ?_ ?_; (first | assumption | omega)) | refine r_eql rfl rfl ?_)
  refine WL_some (og rfl ?_)
  (first | refine r_move_bool rfl ?_ | refine r_move rfl ?_)
  refine WL_some (og rfl ?_)
  (first | refine r_loadAll rfl (by assumption) (by rfl) ?_ | refine r_loadN rfl (by assumption) (by rfl) (by rfl) ?_)
  refine WL_some (og rfl ?_)
  refine r_build (v := .agg #[.int .i64 (1), .int .i64 (-1), .int .i64 (0), .int .i64 (1), .int .i64 (0), .int .i64 (0), .int .i64 (0), .bool false]) (fun w => by kernel_rfl) ?_
  refine WL_some (og rfl ?_)
  refine r_eqlS' (r' := true) rfl rfl (by rfl) (by decide) ?_
  refine WL_some (og rfl ?_)
  (first | (refine r_pick_t rfl ?_ rfl ?_; (first | rfl | assumption)) | (refine r_pick_f rfl ?_ rfl ?_; (first | rfl | assumption)))
  refine WL_some (og rfl ?_)
  (first | refine r_move_bool rfl ?_ | refine r_move rfl ?_)
  refine WL_some (og rfl ?_)
  (first | refine r_move_int rfl ?_ | refine r_move rfl ?_)
  refine WL_some (og rfl ?_)
  (first | (refine r_eql_t rfl rfl ?_ ?_; (first | assumption | omega)) | (refine r_eql_f rfl rfl ?_ ?_; (first | assumption | omega)) | refine r_eql rfl rfl ?_)
  refine WL_some (og rfl ?_)
  (first | (refine r_pick_t rfl ?_ rfl ?_; (first | rfl | assumption)) | (refine r_pick_f rfl ?_ rfl ?_; (first | rfl | assumption)))
  refine WL_some (og rfl ?_)
  (first | refine r_move_bool rfl ?_ | refine r_move rfl ?_)
  refine WL_some (og rfl ?_)
  (first | refine r_move_int rfl ?_ | refine r_move rfl ?_)
  refine WL_some (og rfl ?_)
  (first | (refine r_eql_t rfl rfl ?_ ?_; (first | assumption | omega)) | (refine r_eql_f rfl rfl ?_ ?_; (first | assumption | omega)) | refine r_eql rfl rfl ?_)
  refine WL_some (og rfl ?_)
  (first | (refine r_pick_t rfl ?_ rfl ?_; (first | rfl | assumption)) | (refine r_pick_f rfl ?_ rfl ?_; (first | rfl | assumption)))
  refine WL_some (og rfl ?_)
  (first | refine r_move_bool rfl ?_ | refine r_move rfl ?_)
  refine WL_some (og rfl ?_)
  (first | refine r_move_int rfl ?_ | refine r_move rfl ?_)
  refine WL_some (og rfl ?_)
  (first | (refine r_eql_t rfl rfl ?_ ?_; (first | assumption | omega)) | (refine r_eql_f rfl rfl ?_ ?_; (first | assumption | omega)) | refine r_eql rfl rfl ?_)
  refine WL_some (og rfl ?_)
  (first | (refine r_pick_t rfl ?_ rfl ?_; (first | rfl | assumption)) | (refine r_pick_f rfl ?_ rfl ?_; (first | rfl | assumption)))
  refine WL_some (og rfl ?_)
  (first | refine r_assign_bool rfl ?_ | refine r_assign rfl ?_)
  refine WL_nil ?_
  refine W_ret ?_
  exact ret1 (res_bool rfl) ⟨rfl, G⟩

set_option maxRecDepth 100000 in
theorem PtrWords_calls (w : World) (n g : Int) (b : Bool) (h0 : 0 ≤ n) (h1 : n ≤ 65535) (g0 : 0 ≤ g) (g1 : g ≤ 255) : Gives Try.prog 8 #[.int .u16 n, .int .u8 g, .bool b] w (.bool true) := by
  have G := Grow.rfl' w
  refine gives_of Try.func8 Try.ntmps8 Try.results8 rfl rfl ?_
  cases b
  ·
    refine W_seq ?_
    refine W_region rfl ?_   -- region 0
    refine WL_some (og rfl ?_)
    (first | refine r_assign_bool rfl ?_ | refine r_assign rfl ?_)
    refine WL_nil ?_
    refine W_seq ?_
    refine W_region rfl ?_   -- region 1
    refine WL_some (og rfl ?_)
    (first | refine r_move_int rfl ?_ | refine r_move rfl ?_)
    refine WL_some (og rfl ?_)
    (first | (refine r_conv rfl ?_ ?_; (constructor <;> omega)) | refine r_convw rfl ?_)
    refine WL_some (og rfl ?_)
    refine r_build (v := .agg #[.int .i64 (2), .int .i64 (0), .int .i64 (0), .int .i64 (0), .int .i64 (2), .int .i64 (n), .int .i64 (0), .bool false]) (fun w => by kernel_rfl) ?_
    refine WL_some (og rfl ?_)
    refine r_gives rfl (gives_eq (words_calls _ ⟨2, 0, 0, 0, 2, n, 0, false⟩) (y := .tuple #[.int .i64 ((n + 7) / 8), .int .u16 0]) (by rw [words_bytes n h0 h1]; rfl)) ?_
    intro w1 g2
    replace G := G.tr g2
    clear g2
    refine WL_some (og rfl ?_)
    (first | refine r_move_tuple rfl ?_ | refine r_move rfl ?_)
    refine WL_some (og rfl ?_)
    refine r_extract rfl rfl ?_
    refine WL_some (og rfl ?_)
    refine r_extract rfl rfl ?_
    refine WL_some (og rfl ?_)
    (first | refine r_assign_int rfl ?_ | refine r_assign rfl ?_)
    refine WL_some (og rfl ?_)
    (first | refine r_assign_int rfl ?_ | refine r_assign rfl ?_)
    refine WL_nil ?_
    refine W_seq ?_
    refine W_region rfl ?_   -- region 2
    refine WL_some (og rfl ?_)
    (first | refine r_move_int rfl ?_ | refine r_move rfl ?_)
    refine WL_some (og rfl ?_)
    refine r_build (v := .agg #[.int .i64 (2), .int .i64 (0), .int .i64 (0), .int .i64 (0), .int .i64 (5), .int .i64 ((n + 7) / 8), .int .i64 (0), .bool false]) (fun w => by kernel_rfl) ?_
    refine WL_some (og rfl ?_)
    refine r_gives rfl (gives_eq (words_calls _ ⟨2, 0, 0, 0, 5, (n + 7) / 8, 0, false⟩) (y := .tuple #[.int .i64 ((n + 7) / 8), .int .u16 0]) rfl) ?_
    intro w3 g4
    replace G := G.tr g4
    clear g4
    refine WL_some (og rfl ?_)
    (first | refine r_move_tuple rfl ?_ | refine r_move rfl ?_)
    refine WL_some (og rfl ?_)
    refine r_extract rfl rfl ?_
    refine WL_some (og rfl ?_)
    refine r_extract rfl rfl ?_
    refine WL_some (og rfl ?_)
    (first | refine r_assign_int rfl ?_ | refine r_assign rfl ?_)
    refine WL_some (og rfl ?_)
    (first | refine r_assign_int rfl ?_ | refine r_assign rfl ?_)
    refine WL_nil ?_
    refine W_seq ?_
    refine W_region rfl ?_   -- region 3
    refine WL_some (og rfl ?_)
    (first | refine r_move_int rfl ?_ | refine r_move rfl ?_)
    refine WL_some (og rfl ?_)
    (first | (refine r_conv rfl ?_ ?_; (constructor <;> omega)) | refine r_convw rfl ?_)
    refine WL_some (og rfl ?_)
    (first | refine r_move_bool rfl ?_ | refine r_move rfl ?_)
    refine WL_some (og rfl ?_)
    refine r_build (v := .agg #[.int .i64 (3), .int .i64 (0), .int .i64 (0), .int .i64 (0), .int .i64 (0), .int .i64 (0), .int .i64 (g), .bool false]) (fun w => by kernel_rfl) ?_
    refine WL_some (og rfl ?_)
    refine r_gives rfl (gives_eq (words_calls _ ⟨3, 0, 0, 0, 0, 0, g, false⟩) (y := .tuple #[.int .i64 1, .int .u16 0]) rfl) ?_
    intro w5 g6
    replace G := G.tr g6
    clear g6
    refine WL_some (og rfl ?_)
    (first | refine r_move_tuple rfl ?_ | refine r_move rfl ?_)
    refine WL_some (og rfl ?_)
    refine r_extract rfl rfl ?_
    refine WL_some (og rfl ?_)
    refine r_extract rfl rfl ?_
    refine WL_some (og rfl ?_)
    (first | refine r_assign_int rfl ?_ | refine r_assign rfl ?_)
    refine WL_some (og rfl ?_)
    (first | refine r_assign_int rfl ?_ | refine r_assign rfl ?_)
    refine WL_nil ?_
    refine W_seq ?_
    refine W_region rfl ?_   -- region 4
    refine WL_some (og rfl ?_)
    (first | refine r_move_int rfl ?_ | refine r_move rfl ?_)
    refine WL_some (og rfl ?_)
    (first | (refine r_conv rfl ?_ ?_; (constructor <;> omega)) | refine r_convw rfl ?_)
    refine WL_some (og rfl ?_)
    refine r_build (v := .agg #[.int .i64 (2), .int .i64 (0), .int .i64 (0), .int .i64 (0), .int .i64 (3), .int .i64 (n), .int .i64 (0), .bool false]) (fun w => by kernel_rfl) ?_
    refine WL_some (og rfl ?_)
    refine r_gives rfl (gives_eq (words_calls _ ⟨2, 0, 0, 0, 3, n, 0, false⟩) (y := .tuple #[.int .i64 0, .int .u16 23]) rfl) ?_
    intro w7 g8
    replace G := G.tr g8
    clear g8
    refine WL_some (og rfl ?_)
    (first | refine r_move_tuple rfl ?_ | refine r_move rfl ?_)
    refine WL_some (og rfl ?_)
    refine r_extract rfl rfl ?_
    refine WL_some (og rfl ?_)
    refine r_extract rfl rfl ?_
    refine WL_some (og rfl ?_)
    (first | refine r_assign_int rfl ?_ | refine r_assign rfl ?_)
    refine WL_some (og rfl ?_)
    (first | refine r_assign_int rfl ?_ | refine r_assign rfl ?_)
    refine WL_nil ?_
    refine W_seq ?_
    refine W_region rfl ?_   -- region 5
    refine WL_some (og rfl ?_)
    (first | refine r_assign_int rfl ?_ | refine r_assign rfl ?_)
    refine WL_nil ?_
    refine W_seq ?_
    refine W_seq ?_
    refine W_region rfl ?_   -- region 6
    refine WL_some (og rfl ?_)
    (first | refine r_move_bool rfl ?_ | refine r_move rfl ?_)
    refine WL_nil ?_
    refine W_false rfl ?_
    refine W_skip ?_
    refine W_seq ?_
    refine W_region rfl ?_   -- region 8
    refine WL_some (og rfl ?_)
    refine r_gives rfl (known_calls _) ?_
    intro w9 g10
    replace G := G.tr g10
    clear g10
    refine WL_some (og rfl ?_)
    (first | refine r_move_bool rfl ?_ | refine r_move rfl ?_)
    refine WL_some (og rfl ?_)
    (first | refine r_move_int rfl ?_ | refine r_move rfl ?_)
    refine WL_some (og rfl ?_)
    (first | (refine r_eql_t rfl rfl ?_ ?_; (first | assumption | omega)) | (refine r_eql_f rfl rfl ?_ ?_; (first | assumption | omega)) | refine r_eql rfl rfl ?_)
    refine WL_some (og rfl ?_)
    (first | (refine r_pick_t rfl ?_ rfl ?_; (first | rfl | assumption)) | (refine r_pick_f rfl ?_ rfl ?_; (first | rfl | assumption)))
    refine WL_some (og rfl ?_)
    (first | refine r_move_bool rfl ?_ | refine r_move rfl ?_)
    refine WL_some (og rfl ?_)
    (first | refine r_move_int rfl ?_ | refine r_move rfl ?_)
    refine WL_some (og rfl ?_)
    (first | (refine r_eql_t rfl rfl ?_ ?_; (first | assumption | omega)) | (refine r_eql_f rfl rfl ?_ ?_; (first | assumption | omega)) | refine r_eql rfl rfl ?_)
    refine WL_some (og rfl ?_)
    (first | (refine r_pick_t rfl ?_ rfl ?_; (first | rfl | assumption)) | (refine r_pick_f rfl ?_ rfl ?_; (first | rfl | assumption)))
    refine WL_some (og rfl ?_)
    (first | refine r_move_bool rfl ?_ | refine r_move rfl ?_)
    refine WL_some (og rfl ?_)
    (first | refine r_move_int rfl ?_ | refine r_move rfl ?_)
    refine WL_some (og rfl ?_)
    (first | (refine r_eql_t rfl rfl ?_ ?_; (first | assumption | omega)) | (refine r_eql_f rfl rfl ?_ ?_; (first | assumption | omega)) | refine r_eql rfl rfl ?_)
    refine WL_some (og rfl ?_)
    (first | (refine r_pick_t rfl ?_ rfl ?_; (first | rfl | assumption)) | (refine r_pick_f rfl ?_ rfl ?_; (first | rfl | assumption)))
    refine WL_some (og rfl ?_)
    (first | refine r_move_bool rfl ?_ | refine r_move rfl ?_)
    refine WL_some (og rfl ?_)
    (first | refine r_move_int rfl ?_ | refine r_move rfl ?_)
    refine WL_some (og rfl ?_)
    (first | (refine r_eql_t rfl rfl ?_ ?_; (first | assumption | omega)) | (refine r_eql_f rfl rfl ?_ ?_; (first | assumption | omega)) | refine r_eql rfl rfl ?_)
    refine WL_some (og rfl ?_)
    (first | (refine r_pick_t rfl ?_ rfl ?_; (first | rfl | assumption)) | (refine r_pick_f rfl ?_ rfl ?_; (first | rfl | assumption)))
    refine WL_some (og rfl ?_)
    (first | refine r_move_bool rfl ?_ | refine r_move rfl ?_)
    refine WL_some (og rfl ?_)
    (first | refine r_move_int rfl ?_ | refine r_move rfl ?_)
    refine WL_some (og rfl ?_)
    (first | refine r_move_int rfl ?_ | refine r_move rfl ?_)
    refine WL_some (og rfl ?_)
    (first | (refine r_eql_t rfl rfl ?_ ?_; (first | assumption | omega)) | (refine r_eql_f rfl rfl ?_ ?_; (first | assumption | omega)) | refine r_eql rfl rfl ?_)
    refine WL_some (og rfl ?_)
    (first | (refine r_pick_t rfl ?_ rfl ?_; (first | rfl | assumption)) | (refine r_pick_f rfl ?_ rfl ?_; (first | rfl | assumption)))
    refine WL_some (og rfl ?_)
    (first | refine r_move_bool rfl ?_ | refine r_move rfl ?_)
    refine WL_some (og rfl ?_)
    (first | refine r_move_int rfl ?_ | refine r_move rfl ?_)
    refine WL_some (og rfl ?_)
    (first | (refine r_mul rfl rfl ?_ ?_; (constructor <;> omega)) | refine r_mulw rfl rfl ?_)
    refine WL_some (og rfl ?_)
    (first | refine r_move_int rfl ?_ | refine r_move rfl ?_)
    refine WL_some (og rfl ?_)
    (first | (refine r_conv rfl ?_ ?_; (constructor <;> omega)) | refine r_convw rfl ?_)
    refine WL_some (og rfl ?_)
    (first | (refine r_geq_t rfl rfl ?_ ?_; (first | assumption | omega)) | (refine r_geq_f rfl rfl ?_ ?_; (first | assumption | omega)) | refine r_geq rfl rfl ?_)
    refine WL_some (og rfl ?_)
    (first | (refine r_pick_t rfl ?_ rfl ?_; (first | rfl | assumption)) | (refine r_pick_f rfl ?_ rfl ?_; (first | rfl | assumption)))
    refine WL_some (og rfl ?_)
    (first | refine r_move_bool rfl ?_ | refine r_move rfl ?_)
    refine WL_some (og rfl ?_)
    (first | refine r_move_int rfl ?_ | refine r_move rfl ?_)
    refine WL_some (og rfl ?_)
    (first | (refine r_mul rfl rfl ?_ ?_; (constructor <;> omega)) | refine r_mulw rfl rfl ?_)
    refine WL_some (og rfl ?_)
    (first | refine r_move_int rfl ?_ | refine r_move rfl ?_)
    refine WL_some (og rfl ?_)
    (first | (refine r_conv rfl ?_ ?_; (constructor <;> omega)) | refine r_convw rfl ?_)
    refine WL_some (og rfl ?_)
    (first | (refine r_add rfl rfl ?_ ?_; (constructor <;> omega)) | refine r_addw rfl rfl ?_)
    refine WL_some (og rfl ?_)
    (first | (refine r_lss_t rfl rfl ?_ ?_; (first | assumption | omega)) | (refine r_lss_f rfl rfl ?_ ?_; (first | assumption | omega)) | refine r_lss rfl rfl ?_)
    refine WL_some (og rfl ?_)
    (first | (refine r_pick_t rfl ?_ rfl ?_; (first | rfl | assumption)) | (refine r_pick_f rfl ?_ rfl ?_; (first | rfl | assumption)))
    refine WL_some (og rfl ?_)
    (first | refine r_move_bool rfl ?_ | refine r_move rfl ?_)
    refine WL_some (og rfl ?_)
    (first | refine r_move_int rfl ?_ | refine r_move rfl ?_)
    refine WL_some (og rfl ?_)
    (first | refine r_move_int rfl ?_ | refine r_move rfl ?_)
    refine WL_some (og rfl ?_)
    refine r_eql_t rfl rfl (by rfl) ?_
    refine WL_some (og rfl ?_)
    (first | (refine r_pick_t rfl ?_ rfl ?_; (first | rfl | assumption)) | (refine r_pick_f rfl ?_ rfl ?_; (first | rfl | assumption)))
    refine WL_some (og rfl ?_)
    (first | refine r_assign_bool rfl ?_ | refine r_assign rfl ?_)
    refine WL_nil ?_
    refine W_ret ?_
    exact ret1 (res_bool rfl) ⟨rfl, G⟩
  ·
    refine W_seq ?_
    refine W_region rfl ?_   -- region 0
    refine WL_some (og rfl ?_)
    (first | refine r_assign_bool rfl ?_ | refine r_assign rfl ?_)
    refine WL_nil ?_
    refine W_seq ?_
    refine W_region rfl ?_   -- region 1
    refine WL_some (og rfl ?_)
    (first | refine r_move_int rfl ?_ | refine r_move rfl ?_)
    refine WL_some (og rfl ?_)
    (first | (refine r_conv rfl ?_ ?_; (constructor <;> omega)) | refine r_convw rfl ?_)
    refine WL_some (og rfl ?_)
    refine r_build (v := .agg #[.int .i64 (2), .int .i64 (0), .int .i64 (0), .int .i64 (0), .int .i64 (2), .int .i64 (n), .int .i64 (0), .bool false]) (fun w => by kernel_rfl) ?_
    refine WL_some (og rfl ?_)
    refine r_gives rfl (gives_eq (words_calls _ ⟨2, 0, 0, 0, 2, n, 0, false⟩) (y := .tuple #[.int .i64 ((n + 7) / 8), .int .u16 0]) (by rw [words_bytes n h0 h1]; rfl)) ?_
    intro w11 g12
    replace G := G.tr g12
    clear g12
    refine WL_some (og rfl ?_)
    (first | refine r_move_tuple rfl ?_ | refine r_move rfl ?_)
    refine WL_some (og rfl ?_)
    refine r_extract rfl rfl ?_
    refine WL_some (og rfl ?_)
    refine r_extract rfl rfl ?_
    refine WL_some (og rfl ?_)
    (first | refine r_assign_int rfl ?_ | refine r_assign rfl ?_)
    refine WL_some (og rfl ?_)
    (first | refine r_assign_int rfl ?_ | refine r_assign rfl ?_)
    refine WL_nil ?_
    refine W_seq ?_
    refine W_region rfl ?_   -- region 2
    refine WL_some (og rfl ?_)
    (first | refine r_move_int rfl ?_ | refine r_move rfl ?_)
    refine WL_some (og rfl ?_)
    refine r_build (v := .agg #[.int .i64 (2), .int .i64 (0), .int .i64 (0), .int .i64 (0), .int .i64 (5), .int .i64 ((n + 7) / 8), .int .i64 (0), .bool false]) (fun w => by kernel_rfl) ?_
    refine WL_some (og rfl ?_)
    refine r_gives rfl (gives_eq (words_calls _ ⟨2, 0, 0, 0, 5, (n + 7) / 8, 0, false⟩) (y := .tuple #[.int .i64 ((n + 7) / 8), .int .u16 0]) rfl) ?_
    intro w13 g14
    replace G := G.tr g14
    clear g14
    refine WL_some (og rfl ?_)
    (first | refine r_move_tuple rfl ?_ | refine r_move rfl ?_)
    refine WL_some (og rfl ?_)
    refine r_extract rfl rfl ?_
    refine WL_some (og rfl ?_)
    refine r_extract rfl rfl ?_
    refine WL_some (og rfl ?_)
    (first | refine r_assign_int rfl ?_ | refine r_assign rfl ?_)
    refine WL_some (og rfl ?_)
    (first | refine r_assign_int rfl ?_ | refine r_assign rfl ?_)
    refine WL_nil ?_
    refine W_seq ?_
    refine W_region rfl ?_   -- region 3
    refine WL_some (og rfl ?_)
    (first | refine r_move_int rfl ?_ | refine r_move rfl ?_)
    refine WL_some (og rfl ?_)
    (first | (refine r_conv rfl ?_ ?_; (constructor <;> omega)) | refine r_convw rfl ?_)
    refine WL_some (og rfl ?_)
    (first | refine r_move_bool rfl ?_ | refine r_move rfl ?_)
    refine WL_some (og rfl ?_)
    refine r_build (v := .agg #[.int .i64 (3), .int .i64 (0), .int .i64 (0), .int .i64 (0), .int .i64 (0), .int .i64 (0), .int .i64 (g), .bool true]) (fun w => by kernel_rfl) ?_
    refine WL_some (og rfl ?_)
    refine r_gives rfl (gives_eq (words_calls _ ⟨3, 0, 0, 0, 0, 0, g, true⟩) (y := .tuple #[.int .i64 2, .int .u16 0]) rfl) ?_
    intro w15 g16
    replace G := G.tr g16
    clear g16
    refine WL_some (og rfl ?_)
    (first | refine r_move_tuple rfl ?_ | refine r_move rfl ?_)
    refine WL_some (og rfl ?_)
    refine r_extract rfl rfl ?_
    refine WL_some (og rfl ?_)
    refine r_extract rfl rfl ?_
    refine WL_some (og rfl ?_)
    (first | refine r_assign_int rfl ?_ | refine r_assign rfl ?_)
    refine WL_some (og rfl ?_)
    (first | refine r_assign_int rfl ?_ | refine r_assign rfl ?_)
    refine WL_nil ?_
    refine W_seq ?_
    refine W_region rfl ?_   -- region 4
    refine WL_some (og rfl ?_)
    (first | refine r_move_int rfl ?_ | refine r_move rfl ?_)
    refine WL_some (og rfl ?_)
    (first | (refine r_conv rfl ?_ ?_; (constructor <;> omega)) | refine r_convw rfl ?_)
    refine WL_some (og rfl ?_)
    refine r_build (v := .agg #[.int .i64 (2), .int .i64 (0), .int .i64 (0), .int .i64 (0), .int .i64 (3), .int .i64 (n), .int .i64 (0), .bool false]) (fun w => by kernel_rfl) ?_
    refine WL_some (og rfl ?_)
    refine r_gives rfl (gives_eq (words_calls _ ⟨2, 0, 0, 0, 3, n, 0, false⟩) (y := .tuple #[.int .i64 0, .int .u16 23]) rfl) ?_
    intro w17 g18
    replace G := G.tr g18
    clear g18
    refine WL_some (og rfl ?_)
    (first | refine r_move_tuple rfl ?_ | refine r_move rfl ?_)
    refine WL_some (og rfl ?_)
    refine r_extract rfl rfl ?_
    refine WL_some (og rfl ?_)
    refine r_extract rfl rfl ?_
    refine WL_some (og rfl ?_)
    (first | refine r_assign_int rfl ?_ | refine r_assign rfl ?_)
    refine WL_some (og rfl ?_)
    (first | refine r_assign_int rfl ?_ | refine r_assign rfl ?_)
    refine WL_nil ?_
    refine W_seq ?_
    refine W_region rfl ?_   -- region 5
    refine WL_some (og rfl ?_)
    (first | refine r_assign_int rfl ?_ | refine r_assign rfl ?_)
    refine WL_nil ?_
    refine W_seq ?_
    refine W_seq ?_
    refine W_region rfl ?_   -- region 6
    refine WL_some (og rfl ?_)
    (first | refine r_move_bool rfl ?_ | refine r_move rfl ?_)
    refine WL_nil ?_
    refine W_true rfl ?_
    refine W_region rfl ?_   -- region 7
    refine WL_some (og rfl ?_)
    (first | refine r_assign_int rfl ?_ | refine r_assign rfl ?_)
    refine WL_nil ?_
    refine W_seq ?_
    refine W_region rfl ?_   -- region 8
    refine WL_some (og rfl ?_)
    refine r_gives rfl (known_calls _) ?_
    intro w19 g20
    replace G := G.tr g20
    clear g20
    refine WL_some (og rfl ?_)
    (first | refine r_move_bool rfl ?_ | refine r_move rfl ?_)
    refine WL_some (og rfl ?_)
    (first | refine r_move_int rfl ?_ | refine r_move rfl ?_)
    refine WL_some (og rfl ?_)
    (first | (refine r_eql_t rfl rfl ?_ ?_; (first | assumption | omega)) | (refine r_eql_f rfl rfl ?_ ?_; (first | assumption | omega)) | refine r_eql rfl rfl ?_)
    refine WL_some (og rfl ?_)
    (first | (refine r_pick_t rfl ?_ rfl ?_; (first | rfl | assumption)) | (refine r_pick_f rfl ?_ rfl ?_; (first | rfl | assumption)))
    refine WL_some (og rfl ?_)
    (first | refine r_move_bool rfl ?_ | refine r_move rfl ?_)
    refine WL_some (og rfl ?_)
    (first | refine r_move_int rfl ?_ | refine r_move rfl ?_)
    refine WL_some (og rfl ?_)
    (first | (refine r_eql_t rfl rfl ?_ ?_; (first | assumption | omega)) | (refine r_eql_f rfl rfl ?_ ?_; (first | assumption | omega)) | refine r_eql rfl rfl ?_)
    refine WL_some (og rfl ?_)
    (first | (refine r_pick_t rfl ?_ rfl ?_; (first | rfl | assumption)) | (refine r_pick_f rfl ?_ rfl ?_; (first | rfl | assumption)))
    refine WL_some (og rfl ?_)
    (first | refine r_move_bool rfl ?_ | refine r_move rfl ?_)
    refine WL_some (og rfl ?_)
    (first | refine r_move_int rfl ?_ | refine r_move rfl ?_)
    refine WL_some (og rfl ?_)
    (first | (refine r_eql_t rfl rfl ?_ ?_; (first | assumption | omega)) | (refine r_eql_f rfl rfl ?_ ?_; (first | assumption | omega)) | refine r_eql rfl rfl ?_)
    refine WL_some (og rfl ?_)
    (first | (refine r_pick_t rfl ?_ rfl ?_; (first | rfl | assumption)) | (refine r_pick_f rfl ?_ rfl ?_; (first | rfl | assumption)))
    refine WL_some (og rfl ?_)
    (first | refine r_move_bool rfl ?_ | refine r_move rfl ?_)
    refine WL_some (og rfl ?_)
    (first | refine r_move_int rfl ?_ | refine r_move rfl ?_)
    refine WL_some (og rfl ?_)
    (first | (refine r_eql_t rfl rfl ?_ ?_; (first | assumption | omega)) | (refine r_eql_f rfl rfl ?_ ?_; (first | assumption | omega)) | refine r_eql rfl rfl ?_)
    refine WL_some (og rfl ?_)
    (first | (refine r_pick_t rfl ?_ rfl ?_; (first | rfl | assumption)) | (refine r_pick_f rfl ?_ rfl ?_; (first | rfl | assumption)))
    refine WL_some (og rfl ?_)
    (first | refine r_move_bool rfl ?_ | refine r_move rfl ?_)
    refine WL_some (og rfl ?_)
    (first | refine r_move_int rfl ?_ | refine r_move rfl ?_)
    refine WL_some (og rfl ?_)
    (first | refine r_move_int rfl ?_ | refine r_move rfl ?_)
    refine WL_some (og rfl ?_)
    (first | (refine r_eql_t rfl rfl ?_ ?_; (first | assumption | omega)) | (refine r_eql_f rfl rfl ?_ ?_; (first | assumption | omega)) | refine r_eql rfl rfl ?_)
    refine WL_some (og rfl ?_)
    (first | (refine r_pick_t rfl ?_ rfl ?_; (first | rfl | assumption)) | (refine r_pick_f rfl ?_ rfl ?_; (first | rfl | assumption)))
    refine WL_some (og rfl ?_)
    (first | refine r_move_bool rfl ?_ | refine r_move rfl ?_)
    refine WL_some (og rfl ?_)
    (first | refine r_move_int rfl ?_ | refine r_move rfl ?_)
    refine WL_some (og rfl ?_)
    (first | (refine r_mul rfl rfl ?_ ?_; (constructor <;> omega)) | refine r_mulw rfl rfl ?_)
    refine WL_some (og rfl ?_)
    (first | refine r_move_int rfl ?_ | refine r_move rfl ?_)
    refine WL_some (og rfl ?_)
    (first | (refine r_conv rfl ?_ ?_; (constructor <;> omega)) | refine r_convw rfl ?_)
    refine WL_some (og rfl ?_)
    (first | (refine r_geq_t rfl rfl ?_ ?_; (first | assumption | omega)) | (refine r_geq_f rfl rfl ?_ ?_; (first | assumption | omega)) | refine r_geq rfl rfl ?_)
    refine WL_some (og rfl ?_)
    (first | (refine r_pick_t rfl ?_ rfl ?_; (first | rfl | assumption)) | (refine r_pick_f rfl ?_ rfl ?_; (first | rfl | assumption)))
    refine WL_some (og rfl ?_)
    (first | refine r_move_bool rfl ?_ | refine r_move rfl ?_)
    refine WL_some (og rfl ?_)
    (first | refine r_move_int rfl ?_ | refine r_move rfl ?_)
    refine WL_some (og rfl ?_)
    (first | (refine r_mul rfl rfl ?_ ?_; (constructor <;> omega)) | refine r_mulw rfl rfl ?_)
    refine WL_some (og rfl ?_)
    (first | refine r_move_int rfl ?_ | refine r_move rfl ?_)
    refine WL_some (og rfl ?_)
    (first | (refine r_conv rfl ?_ ?_; (constructor <;> omega)) | refine r_convw rfl ?_)
    refine WL_some (og rfl ?_)
    (first | (refine r_add rfl rfl ?_ ?_; (constructor <;> omega)) | refine r_addw rfl rfl ?_)
    refine WL_some (og rfl ?_)
    (first | (refine r_lss_t rfl rfl ?_ ?_; (first | assumption | omega)) | (refine r_lss_f rfl rfl ?_ ?_; (first | assumption | omega)) | refine r_lss rfl rfl ?_)
    refine WL_some (og rfl ?_)
    (first | (refine r_pick_t rfl ?_ rfl ?_; (first | rfl | assumption)) | (refine r_pick_f rfl ?_ rfl ?_; (first | rfl | assumption)))
    refine WL_some (og rfl ?_)
    (first | refine r_move_bool rfl ?_ | refine r_move rfl ?_)
    refine WL_some (og rfl ?_)
    (first | refine r_move_int rfl ?_ | refine r_move rfl ?_)
    refine WL_some (og rfl ?_)
    (first | refine r_move_int rfl ?_ | refine r_move rfl ?_)
    refine WL_some (og rfl ?_)
    refine r_eql_t rfl rfl (by rfl) ?_
    refine WL_some (og rfl ?_)
    (first | (refine r_pick_t rfl ?_ rfl ?_; (first | rfl | assumption)) | (refine r_pick_f rfl ?_ rfl ?_; (first | rfl | assumption)))
    refine WL_some (og rfl ?_)
    (first | refine r_assign_bool rfl ?_ | refine r_assign rfl ?_)
    refine WL_nil ?_
    refine W_ret ?_
    exact ret1 (res_bool rfl) ⟨rfl, G⟩

set_option maxRecDepth 100000 in
theorem PtrOffs_calls (w : World) (o d q : Int) (d0 : 0 ≤ d) (d1 : d ≤ 65535) (q0 : 0 ≤ q) (q1 : q ≤ 65535) : Gives Try.prog 6 #[.int .i32 o, .int .u16 d, .int .u16 q] w (.bool true) := by
  have G := Grow.rfl' w
  refine gives_of Try.func6 Try.ntmps6 Try.results6 rfl rfl ?_
  obtain ⟨m1, m2⟩ := tmod_range o
  generalize hm : o.tmod 268435456 = m at m1 m2
  by_cases z0 : m + 1 = 0
  ·
    by_cases zd : d = 0
    ·
      by_cases zq : q = 0
      ·
        refine W_seq ?_
        refine W_region rfl ?_   -- region 0
        refine WL_some (og rfl ?_)
        (first | refine r_assign_bool rfl ?_ | refine r_assign rfl ?_)
        refine WL_nil ?_
        refine W_seq ?_
        refine W_region rfl ?_   -- region 1
        refine WL_some (og rfl ?_)
        (first | refine r_move_int rfl ?_ | refine r_move rfl ?_)
        refine WL_some (og rfl ?_)
        refine r_remw rfl rfl (by decide) ?_
        rw [hm]
        refine WL_some (og rfl ?_)
        (first | (refine r_conv rfl ?_ ?_; (constructor <;> omega)) | refine r_convw rfl ?_)
        refine WL_some (og rfl ?_)
        (first | (refine r_add rfl rfl ?_ ?_; (constructor <;> omega)) | refine r_addw rfl rfl ?_)
        refine WL_some (og rfl ?_)
        (first | refine r_assign_int rfl ?_ | refine r_assign rfl ?_)
        refine WL_nil ?_
        refine W_seq ?_
        refine W_region rfl ?_   -- region 2
        refine WL_some (og rfl ?_)
        (first | refine r_move_int rfl ?_ | refine r_move rfl ?_)
        refine WL_some (og rfl ?_)
        (first | refine r_move_int rfl ?_ | refine r_move rfl ?_)
        refine WL_some (og rfl ?_)
        (first | (refine r_conv rfl ?_ ?_; (constructor <;> omega)) | refine r_convw rfl ?_)
        refine WL_some (og rfl ?_)
        (first | refine r_move_int rfl ?_ | refine r_move rfl ?_)
        refine WL_some (og rfl ?_)
        (first | (refine r_conv rfl ?_ ?_; (constructor <;> omega)) | refine r_convw rfl ?_)
        refine WL_some (og rfl ?_)
        refine r_build (v := .agg #[.int .i64 (1), .int .i64 ((m + 1)), .int .i64 (d), .int .i64 (q), .int .i64 (0), .int .i64 (0), .int .i64 (0), .bool false]) (fun w => by kernel_rfl) ?_
        refine WL_some (og rfl ?_)
        refine r_gives rfl (encode_calls _ ⟨1, (m + 1), d, q, 0, 0, 0, false⟩) ?_
        intro w1 g2
        replace G := G.tr g2
        clear g2
        refine WL_some (og rfl ?_)
        (first | refine r_move_tuple rfl ?_ | refine r_move rfl ?_)
        refine WL_some (og rfl ?_)
        refine r_extract rfl rfl ?_
        refine WL_some (og rfl ?_)
        refine r_extract rfl rfl ?_
        refine WL_some (og rfl ?_)
        (first | refine r_assign_int rfl ?_ | refine r_assign rfl ?_)
        refine WL_some (og rfl ?_)
        (first | refine r_assign_int rfl ?_ | refine r_assign rfl ?_)
        refine WL_nil ?_
        refine W_seq ?_
        refine W_region rfl ?_   -- region 3
        refine WL_some (og rfl ?_)
        (first | refine r_move_int rfl ?_ | refine r_move rfl ?_)
        refine WL_some (og rfl ?_)
        (first | (refine r_add rfl rfl ?_ ?_; (constructor <;> omega)) | refine r_addw rfl rfl ?_)
        refine WL_some (og rfl ?_)
        (first | refine r_move_int rfl ?_ | refine r_move rfl ?_)
        refine WL_some (og rfl ?_)
        (first | (refine r_conv rfl ?_ ?_; (constructor <;> omega)) | refine r_convw rfl ?_)
        refine WL_some (og rfl ?_)
        (first | refine r_move_int rfl ?_ | refine r_move rfl ?_)
        refine WL_some (og rfl ?_)
        (first | (refine r_conv rfl ?_ ?_; (constructor <;> omega)) | refine r_convw rfl ?_)
        refine WL_some (og rfl ?_)
        refine r_build (v := .agg #[.int .i64 (1), .int .i64 ((m + 1) + 1), .int .i64 (d), .int .i64 (q), .int .i64 (0), .int .i64 (0), .int .i64 (0), .bool false]) (fun w => by kernel_rfl) ?_
        refine WL_some (og rfl ?_)
        refine r_gives rfl (encode_calls _ ⟨1, (m + 1) + 1, d, q, 0, 0, 0, false⟩) ?_
        intro w3 g4
        replace G := G.tr g4
        clear g4
        refine WL_some (og rfl ?_)
        (first | refine r_move_tuple rfl ?_ | refine r_move rfl ?_)
        refine WL_some (og rfl ?_)
        refine r_extract rfl rfl ?_
        refine WL_some (og rfl ?_)
        refine r_extract rfl rfl ?_
        refine WL_some (og rfl ?_)
        (first | refine r_assign_int rfl ?_ | refine r_assign rfl ?_)
        refine WL_some (og rfl ?_)
        (first | refine r_assign_int rfl ?_ | refine r_assign rfl ?_)
        refine WL_nil ?_
        refine W_seq ?_
        refine W_seq ?_
        refine W_region rfl ?_   -- region 4
        refine WL_some (og rfl ?_)
        (first | refine r_move_int rfl ?_ | refine r_move rfl ?_)
        refine WL_some (og rfl ?_)
        (first | (refine r_eql_t rfl rfl ?_ ?_; (first | assumption | omega)) | (refine r_eql_f rfl rfl ?_ ?_; (first | assumption | omega)) | refine r_eql rfl rfl ?_)
        refine WL_some (og rfl ?_)
        (first | refine r_move_bool rfl ?_ | refine r_move rfl ?_)
        refine WL_some (og rfl ?_)
        (first | refine r_move_int rfl ?_ | refine r_move rfl ?_)
        refine WL_some (og rfl ?_)
        (first | (refine r_eql_t rfl rfl ?_ ?_; (first | assumption | omega)) | (refine r_eql_f rfl rfl ?_ ?_; (first | assumption | omega)) | refine r_eql rfl rfl ?_)
        refine WL_some (og rfl ?_)
        (first | (refine r_pick_t rfl ?_ rfl ?_; (first | rfl | assumption)) | (refine r_pick_f rfl ?_ rfl ?_; (first | rfl | assumption)))
        refine WL_some (og rfl ?_)
        (first | refine r_move_bool rfl ?_ | refine r_move rfl ?_)
        refine WL_some (og rfl ?_)
        (first | refine r_move_int rfl ?_ | refine r_move rfl ?_)
        refine WL_some (og rfl ?_)
        (first | (refine r_eql_t rfl rfl ?_ ?_; (first | assumption | omega)) | (refine r_eql_f rfl rfl ?_ ?_; (first | assumption | omega)) | refine r_eql rfl rfl ?_)
        refine WL_some (og rfl ?_)
        (first | (refine r_pick_t rfl ?_ rfl ?_; (first | rfl | assumption)) | (refine r_pick_f rfl ?_ rfl ?_; (first | rfl | assumption)))
        refine WL_some (og rfl ?_)
        (first | refine r_move_bool rfl ?_ | refine r_move rfl ?_)
        refine WL_some (og_no rfl ?_)
        refine WL_some (og_no rfl ?_)
        refine WL_some (og_no rfl ?_)
        refine WL_some (og_no rfl ?_)
        refine WL_some (og_no rfl ?_)
        refine WL_some (og_no rfl ?_)
        refine WL_some (og_no rfl ?_)
        refine WL_some (og_no rfl ?_)
        refine WL_some (og_no rfl ?_)
        refine WL_some (og_no rfl ?_)
        refine WL_some (og rfl ?_)
        (first | (refine r_pick_t rfl ?_ rfl ?_; (first | rfl | assumption)) | (refine r_pick_f rfl ?_ rfl ?_; (first | rfl | assumption)))
        refine WL_nil ?_
        refine W_true rfl ?_
        refine W_seq ?_
        refine W_region rfl ?_   -- region 5
        refine WL_some (og rfl ?_)
        refine r_gives rfl (known_calls _) ?_
        intro w5 g6
        replace G := G.tr g6
        clear g6
        refine WL_some (og rfl ?_)
        (first | refine r_assign_bool rfl ?_ | refine r_assign rfl ?_)
        refine WL_nil ?_
        refine W_ret ?_
        exact ret1 (res_bool rfl) ⟨rfl, G⟩
      ·
        obtain ⟨ea, ra⟩ := encR_offs (m + 1) d q (by omega) (by omega) ⟨d0, d1⟩ ⟨q0, q1⟩ (by omega)
        obtain ⟨eb, rb⟩ := encR_offs (m + 1 + 1) d q (by omega) (by omega) ⟨d0, d1⟩ ⟨q0, q1⟩ (by omega)
        have hs : encR ⟨1, (m + 1), d, q, 0, 0, 0, false⟩ / 4294967296 = encR ⟨1, (m + 1) + 1, d, q, 0, 0, 0, false⟩ / 4294967296 := by rw [ra, rb]; omega
        have hq : IntKind.u32.wrap (IntKind.u32.wrap (encR ⟨1, (m + 1) + 1, d, q, 0, 0, 0, false⟩) - IntKind.u32.wrap (encR ⟨1, (m + 1), d, q, 0, 0, 0, false⟩)) = 4 := by rw [ra, rb]; simp only [IntKind.wrap_u32]; omega
        refine W_seq ?_
        refine W_region rfl ?_   -- region 0
        refine WL_some (og rfl ?_)
        (first | refine r_assign_bool rfl ?_ | refine r_assign rfl ?_)
        refine WL_nil ?_
        refine W_seq ?_
        refine W_region rfl ?_   -- region 1
        refine WL_some (og rfl ?_)
        (first | refine r_move_int rfl ?_ | refine r_move rfl ?_)
        refine WL_some (og rfl ?_)
        refine r_remw rfl rfl (by decide) ?_
        rw [hm]
        refine WL_some (og rfl ?_)
        (first | (refine r_conv rfl ?_ ?_; (constructor <;> omega)) | refine r_convw rfl ?_)
        refine WL_some (og rfl ?_)
        (first | (refine r_add rfl rfl ?_ ?_; (constructor <;> omega)) | refine r_addw rfl rfl ?_)
        refine WL_some (og rfl ?_)
        (first | refine r_assign_int rfl ?_ | refine r_assign rfl ?_)
        refine WL_nil ?_
        refine W_seq ?_
        refine W_region rfl ?_   -- region 2
        refine WL_some (og rfl ?_)
        (first | refine r_move_int rfl ?_ | refine r_move rfl ?_)
        refine WL_some (og rfl ?_)
        (first | refine r_move_int rfl ?_ | refine r_move rfl ?_)
        refine WL_some (og rfl ?_)
        (first | (refine r_conv rfl ?_ ?_; (constructor <;> omega)) | refine r_convw rfl ?_)
        refine WL_some (og rfl ?_)
        (first | refine r_move_int rfl ?_ | refine r_move rfl ?_)
        refine WL_some (og rfl ?_)
        (first | (refine r_conv rfl ?_ ?_; (constructor <;> omega)) | refine r_convw rfl ?_)
        refine WL_some (og rfl ?_)
        refine r_build (v := .agg #[.int .i64 (1), .int .i64 ((m + 1)), .int .i64 (d), .int .i64 (q), .int .i64 (0), .int .i64 (0), .int .i64 (0), .bool false]) (fun w => by kernel_rfl) ?_
        refine WL_some (og rfl ?_)
        refine r_gives rfl (encode_calls _ ⟨1, (m + 1), d, q, 0, 0, 0, false⟩) ?_
        intro w7 g8
        replace G := G.tr g8
        clear g8
        refine WL_some (og rfl ?_)
        (first | refine r_move_tuple rfl ?_ | refine r_move rfl ?_)
        refine WL_some (og rfl ?_)
        refine r_extract rfl rfl ?_
        refine WL_some (og rfl ?_)
        refine r_extract rfl rfl ?_
        refine WL_some (og rfl ?_)
        (first | refine r_assign_int rfl ?_ | refine r_assign rfl ?_)
        refine WL_some (og rfl ?_)
        (first | refine r_assign_int rfl ?_ | refine r_assign rfl ?_)
        refine WL_nil ?_
        refine W_seq ?_
        refine W_region rfl ?_   -- region 3
        refine WL_some (og rfl ?_)
        (first | refine r_move_int rfl ?_ | refine r_move rfl ?_)
        refine WL_some (og rfl ?_)
        (first | (refine r_add rfl rfl ?_ ?_; (constructor <;> omega)) | refine r_addw rfl rfl ?_)
        refine WL_some (og rfl ?_)
        (first | refine r_move_int rfl ?_ | refine r_move rfl ?_)
        refine WL_some (og rfl ?_)
        (first | (refine r_conv rfl ?_ ?_; (constructor <;> omega)) | refine r_convw rfl ?_)
        refine WL_some (og rfl ?_)
        (first | refine r_move_int rfl ?_ | refine r_move rfl ?_)
        refine WL_some (og rfl ?_)
        (first | (refine r_conv rfl ?_ ?_; (constructor <;> omega)) | refine r_convw rfl ?_)
        refine WL_some (og rfl ?_)
        refine r_build (v := .agg #[.int .i64 (1), .int .i64 ((m + 1) + 1), .int .i64 (d), .int .i64 (q), .int .i64 (0), .int .i64 (0), .int .i64 (0), .bool false]) (fun w => by kernel_rfl) ?_
        refine WL_some (og rfl ?_)
        refine r_gives rfl (encode_calls _ ⟨1, (m + 1) + 1, d, q, 0, 0, 0, false⟩) ?_
        intro w9 g10
        replace G := G.tr g10
        clear g10
        refine WL_some (og rfl ?_)
        (first | refine r_move_tuple rfl ?_ | refine r_move rfl ?_)
        refine WL_some (og rfl ?_)
        refine r_extract rfl rfl ?_
        refine WL_some (og rfl ?_)
        refine r_extract rfl rfl ?_
        refine WL_some (og rfl ?_)
        (first | refine r_assign_int rfl ?_ | refine r_assign rfl ?_)
        refine WL_some (og rfl ?_)
        (first | refine r_assign_int rfl ?_ | refine r_assign rfl ?_)
        refine WL_nil ?_
        refine W_seq ?_
        refine W_seq ?_
        refine W_region rfl ?_   -- region 4
        refine WL_some (og rfl ?_)
        (first | refine r_move_int rfl ?_ | refine r_move rfl ?_)
        refine WL_some (og rfl ?_)
        (first | (refine r_eql_t rfl rfl ?_ ?_; (first | assumption | omega)) | (refine r_eql_f rfl rfl ?_ ?_; (first | assumption | omega)) | refine r_eql rfl rfl ?_)
        refine WL_some (og rfl ?_)
        (first | refine r_move_bool rfl ?_ | refine r_move rfl ?_)
        refine WL_some (og rfl ?_)
        (first | refine r_move_int rfl ?_ | refine r_move rfl ?_)
        refine WL_some (og rfl ?_)
        (first | (refine r_eql_t rfl rfl ?_ ?_; (first | assumption | omega)) | (refine r_eql_f rfl rfl ?_ ?_; (first | assumption | omega)) | refine r_eql rfl rfl ?_)
        refine WL_some (og rfl ?_)
        (first | (refine r_pick_t rfl ?_ rfl ?_; (first | rfl | assumption)) | (refine r_pick_f rfl ?_ rfl ?_; (first | rfl | assumption)))
        refine WL_some (og rfl ?_)
        (first | refine r_move_bool rfl ?_ | refine r_move rfl ?_)
        refine WL_some (og rfl ?_)
        (first | refine r_move_int rfl ?_ | refine r_move rfl ?_)
        refine WL_some (og rfl ?_)
        (first | (refine r_eql_t rfl rfl ?_ ?_; (first | assumption | omega)) | (refine r_eql_f rfl rfl ?_ ?_; (first | assumption | omega)) | refine r_eql rfl rfl ?_)
        refine WL_some (og rfl ?_)
        (first | (refine r_pick_t rfl ?_ rfl ?_; (first | rfl | assumption)) | (refine r_pick_f rfl ?_ rfl ?_; (first | rfl | assumption)))
        refine WL_some (og rfl ?_)
        (first | refine r_move_bool rfl ?_ | refine r_move rfl ?_)
        refine WL_some (og rfl ?_)
        (first | refine r_move_int rfl ?_ | refine r_move rfl ?_)
        refine WL_some (og rfl ?_)
        (first | (refine r_eql_t rfl rfl ?_ ?_; (first | assumption | omega)) | (refine r_eql_f rfl rfl ?_ ?_; (first | assumption | omega)) | refine r_eql rfl rfl ?_)
        refine WL_some (og rfl ?_)
        (first | refine r_move_bool rfl ?_ | refine r_move rfl ?_)
        refine WL_some (og_no rfl ?_)
        refine WL_some (og_no rfl ?_)
        refine WL_some (og rfl ?_)
        (first | (refine r_pick_t rfl ?_ rfl ?_; (first | rfl | assumption)) | (refine r_pick_f rfl ?_ rfl ?_; (first | rfl | assumption)))
        refine WL_some (og rfl ?_)
        (first | refine r_move_bool rfl ?_ | refine r_move rfl ?_)
        refine WL_some (og_no rfl ?_)
        refine WL_some (og_no rfl ?_)
        refine WL_some (og rfl ?_)
        (first | (refine r_pick_t rfl ?_ rfl ?_; (first | rfl | assumption)) | (refine r_pick_f rfl ?_ rfl ?_; (first | rfl | assumption)))
        refine WL_some (og rfl ?_)
        (first | (refine r_pick_t rfl ?_ rfl ?_; (first | rfl | assumption)) | (refine r_pick_f rfl ?_ rfl ?_; (first | rfl | assumption)))
        refine WL_nil ?_
        refine W_false rfl ?_
        refine W_skip ?_
        refine W_seq ?_
        refine W_region rfl ?_   -- region 6
        refine WL_some (og rfl ?_)
        refine r_gives rfl (known_calls _) ?_
        intro w11 g12
        replace G := G.tr g12
        clear g12
        refine WL_some (og rfl ?_)
        (first | refine r_move_bool rfl ?_ | refine r_move rfl ?_)
        refine WL_some (og rfl ?_)
        (first | refine r_move_int rfl ?_ | refine r_move rfl ?_)
        refine WL_some (og rfl ?_)
        (first | (refine r_eql_t rfl rfl ?_ ?_; (first | assumption | omega)) | (refine r_eql_f rfl rfl ?_ ?_; (first | assumption | omega)) | refine r_eql rfl rfl ?_)
        refine WL_some (og rfl ?_)
        (first | (refine r_pick_t rfl ?_ rfl ?_; (first | rfl | assumption)) | (refine r_pick_f rfl ?_ rfl ?_; (first | rfl | assumption)))
        refine WL_some (og rfl ?_)
        (first | refine r_move_bool rfl ?_ | refine r_move rfl ?_)
        refine WL_some (og rfl ?_)
        (first | refine r_move_int rfl ?_ | refine r_move rfl ?_)
        refine WL_some (og rfl ?_)
        (first | (refine r_eql_t rfl rfl ?_ ?_; (first | assumption | omega)) | (refine r_eql_f rfl rfl ?_ ?_; (first | assumption | omega)) | refine r_eql rfl rfl ?_)
        refine WL_some (og rfl ?_)
        (first | (refine r_pick_t rfl ?_ rfl ?_; (first | rfl | assumption)) | (refine r_pick_f rfl ?_ rfl ?_; (first | rfl | assumption)))
        refine WL_some (og rfl ?_)
        (first | refine r_move_bool rfl ?_ | refine r_move rfl ?_)
        refine WL_some (og rfl ?_)
        (first | refine r_move_int rfl ?_ | refine r_move rfl ?_)
        refine WL_some (og rfl ?_)
        refine r_shrc (m := 4294967296) rfl rfl (by decide) (by decide) ?_
        refine WL_some (og rfl ?_)
        (first | refine r_move_int rfl ?_ | refine r_move rfl ?_)
        refine WL_some (og rfl ?_)
        refine r_shrc (m := 4294967296) rfl rfl (by decide) (by decide) ?_
        refine WL_some (og rfl ?_)
        refine r_eql_t rfl rfl hs ?_
        refine WL_some (og rfl ?_)
        (first | (refine r_pick_t rfl ?_ rfl ?_; (first | rfl | assumption)) | (refine r_pick_f rfl ?_ rfl ?_; (first | rfl | assumption)))
        refine WL_some (og rfl ?_)
        (first | refine r_move_bool rfl ?_ | refine r_move rfl ?_)
        refine WL_some (og rfl ?_)
        (first | refine r_move_int rfl ?_ | refine r_move rfl ?_)
        refine WL_some (og rfl ?_)
        refine r_convw rfl ?_
        refine WL_some (og rfl ?_)
        (first | refine r_move_int rfl ?_ | refine r_move rfl ?_)
        refine WL_some (og rfl ?_)
        refine r_convw rfl ?_
        refine WL_some (og rfl ?_)
        refine r_subw rfl rfl ?_
        refine WL_some (og rfl ?_)
        refine r_eql_t rfl rfl hq ?_
        refine WL_some (og rfl ?_)
        (first | (refine r_pick_t rfl ?_ rfl ?_; (first | rfl | assumption)) | (refine r_pick_f rfl ?_ rfl ?_; (first | rfl | assumption)))
        refine WL_some (og rfl ?_)
        (first | refine r_assign_bool rfl ?_ | refine r_assign rfl ?_)
        refine WL_nil ?_
        refine W_ret ?_
        exact ret1 (res_bool rfl) ⟨rfl, G⟩
    ·
      obtain ⟨ea, ra⟩ := encR_offs (m + 1) d q (by omega) (by omega) ⟨d0, d1⟩ ⟨q0, q1⟩ (by omega)
      obtain ⟨eb, rb⟩ := encR_offs (m + 1 + 1) d q (by omega) (by omega) ⟨d0, d1⟩ ⟨q0, q1⟩ (by omega)
      have hs : encR ⟨1, (m + 1), d, q, 0, 0, 0, false⟩ / 4294967296 = encR ⟨1, (m + 1) + 1, d, q, 0, 0, 0, false⟩ / 4294967296 := by rw [ra, rb]; omega
      have hq : IntKind.u32.wrap (IntKind.u32.wrap (encR ⟨1, (m + 1) + 1, d, q, 0, 0, 0, false⟩) - IntKind.u32.wrap (encR ⟨1, (m + 1), d, q, 0, 0, 0, false⟩)) = 4 := by rw [ra, rb]; simp only [IntKind.wrap_u32]; omega
      refine W_seq ?_
      refine W_region rfl ?_   -- region 0
      refine WL_some (og rfl ?_)
      (first | refine r_assign_bool rfl ?_ | refine r_assign rfl ?_)
      refine WL_nil ?_
      refine W_seq ?_
      refine W_region rfl ?_   -- region 1
      refine WL_some (og rfl ?_)
      (first | refine r_move_int rfl ?_ | refine r_move rfl ?_)
      refine WL_some (og rfl ?_)
      refine r_remw rfl rfl (by decide) ?_
      rw [hm]
      refine WL_some (og rfl ?_)
      (first | (refine r_conv rfl ?_ ?_; (constructor <;> omega)) | refine r_convw rfl ?_)
      refine WL_some (og rfl ?_)
      (first | (refine r_add rfl rfl ?_ ?_; (constructor <;> omega)) | refine r_addw rfl rfl ?_)
      refine WL_some (og rfl ?_)
      (first | refine r_assign_int rfl ?_ | refine r_assign rfl ?_)
      refine WL_nil ?_
      refine W_seq ?_
      refine W_region rfl ?_   -- region 2
      refine WL_some (og rfl ?_)
      (first | refine r_move_int rfl ?_ | refine r_move rfl ?_)
      refine WL_some (og rfl ?_)
      (first | refine r_move_int rfl ?_ | refine r_move rfl ?_)
      refine WL_some (og rfl ?_)
      (first | (refine r_conv rfl ?_ ?_; (constructor <;> omega)) | refine r_convw rfl ?_)
      refine WL_some (og rfl ?_)
      (first | refine r_move_int rfl ?_ | refine r_move rfl ?_)
      refine WL_some (og rfl ?_)
      (first | (refine r_conv rfl ?_ ?_; (constructor <;> omega)) | refine r_convw rfl ?_)
      refine WL_some (og rfl ?_)
      refine r_build (v := .agg #[.int .i64 (1), .int .i64 ((m + 1)), .int .i64 (d), .int .i64 (q), .int .i64 (0), .int .i64 (0), .int .i64 (0), .bool false]) (fun w => by kernel_rfl) ?_
      refine WL_some (og rfl ?_)
      refine r_gives rfl (encode_calls _ ⟨1, (m + 1), d, q, 0, 0, 0, false⟩) ?_
      intro w13 g14
      replace G := G.tr g14
      clear g14
      refine WL_some (og rfl ?_)
      (first | refine r_move_tuple rfl ?_ | refine r_move rfl ?_)
      refine WL_some (og rfl ?_)
      refine r_extract rfl rfl ?_
      refine WL_some (og rfl ?_)
      refine r_extract rfl rfl ?_
      refine WL_some (og rfl ?_)
      (first | refine r_assign_int rfl ?_ | refine r_assign rfl ?_)
      refine WL_some (og rfl ?_)
      (first | refine r_assign_int rfl ?_ | refine r_assign rfl ?_)
      refine WL_nil ?_
      refine W_seq ?_
      refine W_region rfl ?_   -- region 3
      refine WL_some (og rfl ?_)
      (first | refine r_move_int rfl ?_ | refine r_move rfl ?_)
      refine WL_some (og rfl ?_)
      (first | (refine r_add rfl rfl ?_ ?_; (constructor <;> omega)) | refine r_addw rfl rfl ?_)
      refine WL_some (og rfl ?_)
      (first | refine r_move_int rfl ?_ | refine r_move rfl ?_)
      refine WL_some (og rfl ?_)
      (first | (refine r_conv rfl ?_ ?_; (constructor <;> omega)) | refine r_convw rfl ?_)
      refine WL_some (og rfl ?_)
      (first | refine r_move_int rfl ?_ | refine r_move rfl ?_)
      refine WL_some (og rfl ?_)
      (first | (refine r_conv rfl ?_ ?_; (constructor <;> omega)) | refine r_convw rfl ?_)
      refine WL_some (og rfl ?_)
      refine r_build (v := .agg #[.int .i64 (1), .int .i64 ((m + 1) + 1), .int .i64 (d), .int .i64 (q), .int .i64 (0), .int .i64 (0), .int .i64 (0), .bool false]) (fun w => by kernel_rfl) ?_
      refine WL_some (og rfl ?_)
      refine r_gives rfl (encode_calls _ ⟨1, (m + 1) + 1, d, q, 0, 0, 0, false⟩) ?_
      intro w15 g16
      replace G := G.tr g16
      clear g16
      refine WL_some (og rfl ?_)
      (first | refine r_move_tuple rfl ?_ | refine r_move rfl ?_)
      refine WL_some (og rfl ?_)
      refine r_extract rfl rfl ?_
      refine WL_some (og rfl ?_)
      refine r_extract rfl rfl ?_
      refine WL_some (og rfl ?_)
      (first | refine r_assign_int rfl ?_ | refine r_assign rfl ?_)
      refine WL_some (og rfl ?_)
      (first | refine r_assign_int rfl ?_ | refine r_assign rfl ?_)
      refine WL_nil ?_
      refine W_seq ?_
      refine W_seq ?_
      refine W_region rfl ?_   -- region 4
      refine WL_some (og rfl ?_)
      (first | refine r_move_int rfl ?_ | refine r_move rfl ?_)
      refine WL_some (og rfl ?_)
      (first | (refine r_eql_t rfl rfl ?_ ?_; (first | assumption | omega)) | (refine r_eql_f rfl rfl ?_ ?_; (first | assumption | omega)) | refine r_eql rfl rfl ?_)
      refine WL_some (og rfl ?_)
      (first | refine r_move_bool rfl ?_ | refine r_move rfl ?_)
      refine WL_some (og rfl ?_)
      (first | refine r_move_int rfl ?_ | refine r_move rfl ?_)
      refine WL_some (og rfl ?_)
      (first | (refine r_eql_t rfl rfl ?_ ?_; (first | assumption | omega)) | (refine r_eql_f rfl rfl ?_ ?_; (first | assumption | omega)) | refine r_eql rfl rfl ?_)
      refine WL_some (og rfl ?_)
      (first | (refine r_pick_t rfl ?_ rfl ?_; (first | rfl | assumption)) | (refine r_pick_f rfl ?_ rfl ?_; (first | rfl | assumption)))
      refine WL_some (og rfl ?_)
      (first | refine r_move_bool rfl ?_ | refine r_move rfl ?_)
      refine WL_some (og_no rfl ?_)
      refine WL_some (og_no rfl ?_)
      refine WL_some (og rfl ?_)
      (first | (refine r_pick_t rfl ?_ rfl ?_; (first | rfl | assumption)) | (refine r_pick_f rfl ?_ rfl ?_; (first | rfl | assumption)))
      refine WL_some (og rfl ?_)
      (first | refine r_move_bool rfl ?_ | refine r_move rfl ?_)
      refine WL_some (og rfl ?_)
      (first | refine r_move_int rfl ?_ | refine r_move rfl ?_)
      refine WL_some (og rfl ?_)
      (first | (refine r_eql_t rfl rfl ?_ ?_; (first | assumption | omega)) | (refine r_eql_f rfl rfl ?_ ?_; (first | assumption | omega)) | refine r_eql rfl rfl ?_)
      refine WL_some (og rfl ?_)
      (first | refine r_move_bool rfl ?_ | refine r_move rfl ?_)
      refine WL_some (og_no rfl ?_)
      refine WL_some (og_no rfl ?_)
      refine WL_some (og rfl ?_)
      (first | (refine r_pick_t rfl ?_ rfl ?_; (first | rfl | assumption)) | (refine r_pick_f rfl ?_ rfl ?_; (first | rfl | assumption)))
      refine WL_some (og rfl ?_)
      (first | refine r_move_bool rfl ?_ | refine r_move rfl ?_)
      refine WL_some (og_no rfl ?_)
      refine WL_some (og_no rfl ?_)
      refine WL_some (og rfl ?_)
      (first | (refine r_pick_t rfl ?_ rfl ?_; (first | rfl | assumption)) | (refine r_pick_f rfl ?_ rfl ?_; (first | rfl | assumption)))
      refine WL_some (og rfl ?_)
      (first | (refine r_pick_t rfl ?_ rfl ?_; (first | rfl | assumption)) | (refine r_pick_f rfl ?_ rfl ?_; (first | rfl | assumption)))
      refine WL_nil ?_
      refine W_false rfl ?_
      refine W_skip ?_
      refine W_seq ?_
      refine W_region rfl ?_   -- region 6
      refine WL_some (og rfl ?_)
      refine r_gives rfl (known_calls _) ?_
      intro w17 g18
      replace G := G.tr g18
      clear g18
      refine WL_some (og rfl ?_)
      (first | refine r_move_bool rfl ?_ | refine r_move rfl ?_)
      refine WL_some (og rfl ?_)
      (first | refine r_move_int rfl ?_ | refine r_move rfl ?_)
      refine WL_some (og rfl ?_)
      (first | (refine r_eql_t rfl rfl ?_ ?_; (first | assumption | omega)) | (refine r_eql_f rfl rfl ?_ ?_; (first | assumption | omega)) | refine r_eql rfl rfl ?_)
      refine WL_some (og rfl ?_)
      (first | (refine r_pick_t rfl ?_ rfl ?_; (first | rfl | assumption)) | (refine r_pick_f rfl ?_ rfl ?_; (first | rfl | assumption)))
      refine WL_some (og rfl ?_)
      (first | refine r_move_bool rfl ?_ | refine r_move rfl ?_)
      refine WL_some (og rfl ?_)
      (first | refine r_move_int rfl ?_ | refine r_move rfl ?_)
      refine WL_some (og rfl ?_)
      (first | (refine r_eql_t rfl rfl ?_ ?_; (first | assumption | omega)) | (refine r_eql_f rfl rfl ?_ ?_; (first | assumption | omega)) | refine r_eql rfl rfl ?_)
      refine WL_some (og rfl ?_)
      (first | (refine r_pick_t rfl ?_ rfl ?_; (first | rfl | assumption)) | (refine r_pick_f rfl ?_ rfl ?_; (first | rfl | assumption)))
      refine WL_some (og rfl ?_)
      (first | refine r_move_bool rfl ?_ | refine r_move rfl ?_)
      refine WL_some (og rfl ?_)
      (first | refine r_move_int rfl ?_ | refine r_move rfl ?_)
      refine WL_some (og rfl ?_)
      refine r_shrc (m := 4294967296) rfl rfl (by decide) (by decide) ?_
      refine WL_some (og rfl ?_)
      (first | refine r_move_int rfl ?_ | refine r_move rfl ?_)
      refine WL_some (og rfl ?_)
      refine r_shrc (m := 4294967296) rfl rfl (by decide) (by decide) ?_
      refine WL_some (og rfl ?_)
      refine r_eql_t rfl rfl hs ?_
      refine WL_some (og rfl ?_)
      (first | (refine r_pick_t rfl ?_ rfl ?_; (first | rfl | assumption)) | (refine r_pick_f rfl ?_ rfl ?_; (first | rfl | assumption)))
      refine WL_some (og rfl ?_)
      (first | refine r_move_bool rfl ?_ | refine r_move rfl ?_)
      refine WL_some (og rfl ?_)
      (first | refine r_move_int rfl ?_ | refine r_move rfl ?_)
      refine WL_some (og rfl ?_)
      refine r_convw rfl ?_
      refine WL_some (og rfl ?_)
      (first | refine r_move_int rfl ?_ | refine r_move rfl ?_)
      refine WL_some (og rfl ?_)
      refine r_convw rfl ?_
      refine WL_some (og rfl ?_)
      refine r_subw rfl rfl ?_
      refine WL_some (og rfl ?_)
      refine r_eql_t rfl rfl hq ?_
      refine WL_some (og rfl ?_)
      (first | (refine r_pick_t rfl ?_ rfl ?_; (first | rfl | assumption)) | (refine r_pick_f rfl ?_ rfl ?_; (first | rfl | assumption)))
      refine WL_some (og rfl ?_)
      (first | refine r_assign_bool rfl ?_ | refine r_assign rfl ?_)
      refine WL_nil ?_
      refine W_ret ?_
      exact ret1 (res_bool rfl) ⟨rfl, G⟩
  ·
    by_cases z1 : m + 1 = -1
    ·
      by_cases zd : d = 0
      ·
        by_cases zq : q = 0
        ·
          refine W_seq ?_
          refine W_region rfl ?_   -- region 0
          refine WL_some (og rfl ?_)
          (first | refine r_assign_bool rfl ?_ | refine r_assign rfl ?_)
          refine WL_nil ?_
          refine W_seq ?_
          refine W_region rfl ?_   -- region 1
          refine WL_some (og rfl ?_)
          (first | refine r_move_int rfl ?_ | refine r_move rfl ?_)
          refine WL_some (og rfl ?_)
          refine r_remw rfl rfl (by decide) ?_
          rw [hm]
          refine WL_some (og rfl ?_)
          (first | (refine r_conv rfl ?_ ?_; (constructor <;> omega)) | refine r_convw rfl ?_)
          refine WL_some (og rfl ?_)
          (first | (refine r_add rfl rfl ?_ ?_; (constructor <;> omega)) | refine r_addw rfl rfl ?_)
          refine WL_some (og rfl ?_)
          (first | refine r_assign_int rfl ?_ | refine r_assign rfl ?_)
          refine WL_nil ?_
          refine W_seq ?_
          refine W_region rfl ?_   -- region 2
          refine WL_some (og rfl ?_)
          (first | refine r_move_int rfl ?_ | refine r_move rfl ?_)
          refine WL_some (og rfl ?_)
          (first | refine r_move_int rfl ?_ | refine r_move rfl ?_)
          refine WL_some (og rfl ?_)
          (first | (refine r_conv rfl ?_ ?_; (constructor <;> omega)) | refine r_convw rfl ?_)
          refine WL_some (og rfl ?_)
          (first | refine r_move_int rfl ?_ | refine r_move rfl ?_)
          refine WL_some (og rfl ?_)
          (first | (refine r_conv rfl ?_ ?_; (constructor <;> omega)) | refine r_convw rfl ?_)
          refine WL_some (og rfl ?_)
          refine r_build (v := .agg #[.int .i64 (1), .int .i64 ((m + 1)), .int .i64 (d), .int .i64 (q), .int .i64 (0), .int .i64 (0), .int .i64 (0), .bool false]) (fun w => by kernel_rfl) ?_
          refine WL_some (og rfl ?_)
          refine r_gives rfl (encode_calls _ ⟨1, (m + 1), d, q, 0, 0, 0, false⟩) ?_
          intro w19 g20
          replace G := G.tr g20
          clear g20
          refine WL_some (og rfl ?_)
          (first | refine r_move_tuple rfl ?_ | refine r_move rfl ?_)
          refine WL_some (og rfl ?_)
          refine r_extract rfl rfl ?_
          refine WL_some (og rfl ?_)
          refine r_extract rfl rfl ?_
          refine WL_some (og rfl ?_)
          (first | refine r_assign_int rfl ?_ | refine r_assign rfl ?_)
          refine WL_some (og rfl ?_)
          (first | refine r_assign_int rfl ?_ | refine r_assign rfl ?_)
          refine WL_nil ?_
          refine W_seq ?_
          refine W_region rfl ?_   -- region 3
          refine WL_some (og rfl ?_)
          (first | refine r_move_int rfl ?_ | refine r_move rfl ?_)
          refine WL_some (og rfl ?_)
          (first | (refine r_add rfl rfl ?_ ?_; (constructor <;> omega)) | refine r_addw rfl rfl ?_)
          refine WL_some (og rfl ?_)
          (first | refine r_move_int rfl ?_ | refine r_move rfl ?_)
          refine WL_some (og rfl ?_)
          (first | (refine r_conv rfl ?_ ?_; (constructor <;> omega)) | refine r_convw rfl ?_)
          refine WL_some (og rfl ?_)
          (first | refine r_move_int rfl ?_ | refine r_move rfl ?_)
          refine WL_some (og rfl ?_)
          (first | (refine r_conv rfl ?_ ?_; (constructor <;> omega)) | refine r_convw rfl ?_)
          refine WL_some (og rfl ?_)
          refine r_build (v := .agg #[.int .i64 (1), .int .i64 ((m + 1) + 1), .int .i64 (d), .int .i64 (q), .int .i64 (0), .int .i64 (0), .int .i64 (0), .bool false]) (fun w => by kernel_rfl) ?_
          refine WL_some (og rfl ?_)
          refine r_gives rfl (encode_calls _ ⟨1, (m + 1) + 1, d, q, 0, 0, 0, false⟩) ?_
          intro w21 g22
          replace G := G.tr g22
          clear g22
          refine WL_some (og rfl ?_)
          (first | refine r_move_tuple rfl ?_ | refine r_move rfl ?_)
          refine WL_some (og rfl ?_)
          refine r_extract rfl rfl ?_
          refine WL_some (og rfl ?_)
          refine r_extract rfl rfl ?_
          refine WL_some (og rfl ?_)
          (first | refine r_assign_int rfl ?_ | refine r_assign rfl ?_)
          refine WL_some (og rfl ?_)
          (first | refine r_assign_int rfl ?_ | refine r_assign rfl ?_)
          refine WL_nil ?_
          refine W_seq ?_
          refine W_seq ?_
          refine W_region rfl ?_   -- region 4
          refine WL_some (og rfl ?_)
          (first | refine r_move_int rfl ?_ | refine r_move rfl ?_)
          refine WL_some (og rfl ?_)
          (first | (refine r_eql_t rfl rfl ?_ ?_; (first | assumption | omega)) | (refine r_eql_f rfl rfl ?_ ?_; (first | assumption | omega)) | refine r_eql rfl rfl ?_)
          refine WL_some (og rfl ?_)
          (first | refine r_move_bool rfl ?_ | refine r_move rfl ?_)
          refine WL_some (og_no rfl ?_)
          refine WL_some (og_no rfl ?_)
          refine WL_some (og rfl ?_)
          (first | (refine r_pick_t rfl ?_ rfl ?_; (first | rfl | assumption)) | (refine r_pick_f rfl ?_ rfl ?_; (first | rfl | assumption)))
          refine WL_some (og rfl ?_)
          (first | refine r_move_bool rfl ?_ | refine r_move rfl ?_)
          refine WL_some (og_no rfl ?_)
          refine WL_some (og_no rfl ?_)
          refine WL_some (og rfl ?_)
          (first | (refine r_pick_t rfl ?_ rfl ?_; (first | rfl | assumption)) | (refine r_pick_f rfl ?_ rfl ?_; (first | rfl | assumption)))
          refine WL_some (og rfl ?_)
          (first | refine r_move_bool rfl ?_ | refine r_move rfl ?_)
          refine WL_some (og rfl ?_)
          (first | refine r_move_int rfl ?_ | refine r_move rfl ?_)
          refine WL_some (og rfl ?_)
          (first | (refine r_eql_t rfl rfl ?_ ?_; (first | assumption | omega)) | (refine r_eql_f rfl rfl ?_ ?_; (first | assumption | omega)) | refine r_eql rfl rfl ?_)
          refine WL_some (og rfl ?_)
          (first | refine r_move_bool rfl ?_ | refine r_move rfl ?_)
          refine WL_some (og rfl ?_)
          (first | refine r_move_int rfl ?_ | refine r_move rfl ?_)
          refine WL_some (og rfl ?_)
          (first | (refine r_eql_t rfl rfl ?_ ?_; (first | assumption | omega)) | (refine r_eql_f rfl rfl ?_ ?_; (first | assumption | omega)) | refine r_eql rfl rfl ?_)
          refine WL_some (og rfl ?_)
          (first | (refine r_pick_t rfl ?_ rfl ?_; (first | rfl | assumption)) | (refine r_pick_f rfl ?_ rfl ?_; (first | rfl | assumption)))
          refine WL_some (og rfl ?_)
          (first | refine r_move_bool rfl ?_ | refine r_move rfl ?_)
          refine WL_some (og rfl ?_)
          (first | refine r_move_int rfl ?_ | refine r_move rfl ?_)
          refine WL_some (og rfl ?_)
          (first | (refine r_eql_t rfl rfl ?_ ?_; (first | assumption | omega)) | (refine r_eql_f rfl rfl ?_ ?_; (first | assumption | omega)) | refine r_eql rfl rfl ?_)
          refine WL_some (og rfl ?_)
          (first | (refine r_pick_t rfl ?_ rfl ?_; (first | rfl | assumption)) | (refine r_pick_f rfl ?_ rfl ?_; (first | rfl | assumption)))
          refine WL_some (og rfl ?_)
          (first | (refine r_pick_t rfl ?_ rfl ?_; (first | rfl | assumption)) | (refine r_pick_f rfl ?_ rfl ?_; (first | rfl | assumption)))
          refine WL_nil ?_
          refine W_true rfl ?_
          refine W_seq ?_
          refine W_region rfl ?_   -- region 5
          refine WL_some (og rfl ?_)
          refine r_gives rfl (known_calls _) ?_
          intro w23 g24
          replace G := G.tr g24
          clear g24
          refine WL_some (og rfl ?_)
          (first | refine r_assign_bool rfl ?_ | refine r_assign rfl ?_)
          refine WL_nil ?_
          refine W_ret ?_
          exact ret1 (res_bool rfl) ⟨rfl, G⟩
        ·
          obtain ⟨ea, ra⟩ := encR_offs (m + 1) d q (by omega) (by omega) ⟨d0, d1⟩ ⟨q0, q1⟩ (by omega)
          obtain ⟨eb, rb⟩ := encR_offs (m + 1 + 1) d q (by omega) (by omega) ⟨d0, d1⟩ ⟨q0, q1⟩ (by omega)
          have hs : encR ⟨1, (m + 1), d, q, 0, 0, 0, false⟩ / 4294967296 = encR ⟨1, (m + 1) + 1, d, q, 0, 0, 0, false⟩ / 4294967296 := by rw [ra, rb]; omega
          have hq : IntKind.u32.wrap (IntKind.u32.wrap (encR ⟨1, (m + 1) + 1, d, q, 0, 0, 0, false⟩) - IntKind.u32.wrap (encR ⟨1, (m + 1), d, q, 0, 0, 0, false⟩)) = 4 := by rw [ra, rb]; simp only [IntKind.wrap_u32]; omega
          refine W_seq ?_
          refine W_region rfl ?_   -- region 0
          refine WL_some (og rfl ?_)
          (first | refine r_assign_bool rfl ?_ | refine r_assign rfl ?_)
          refine WL_nil ?_
          refine W_seq ?_
          refine W_region rfl ?_   -- region 1
          refine WL_some (og rfl ?_)
          (first | refine r_move_int rfl ?_ | refine r_move rfl ?_)
          refine WL_some (og rfl ?_)
          refine r_remw rfl rfl (by decide) ?_
          rw [hm]
          refine WL_some (og rfl ?_)
          (first | (refine r_conv rfl ?_ ?_; (constructor <;> omega)) | refine r_convw rfl ?_)
          refine WL_some (og rfl ?_)
          (first | (refine r_add rfl rfl ?_ ?_; (constructor <;> omega)) | refine r_addw rfl rfl ?_)
          refine WL_some (og rfl ?_)
          (first | refine r_assign_int rfl ?_ | refine r_assign rfl ?_)
          refine WL_nil ?_
          refine W_seq ?_
          refine W_region rfl ?_   -- region 2
          refine WL_some (og rfl ?_)
          (first | refine r_move_int rfl ?_ | refine r_move rfl ?_)
          refine WL_some (og rfl ?_)
          (first | refine r_move_int rfl ?_ | refine r_move rfl ?_)
          refine WL_some (og rfl ?_)
          (first | (refine r_conv rfl ?_ ?_; (constructor <;> omega)) | refine r_convw rfl ?_)
          refine WL_some (og rfl ?_)
          (first | refine r_move_int rfl ?_ | refine r_move rfl ?_)
          refine WL_some (og rfl ?_)
          (first | (refine r_conv rfl ?_ ?_; (constructor <;> omega)) | refine r_convw rfl ?_)
          refine WL_some (og rfl ?_)
          refine r_build (v := .agg #[.int .i64 (1), .int .i64 ((m + 1)), .int .i64 (d), .int .i64 (q), .int .i64 (0), .int .i64 (0), .int .i64 (0), .bool false]) (fun w => by kernel_rfl) ?_
          refine WL_some (og rfl ?_)
          refine r_gives rfl (encode_calls _ ⟨1, (m + 1), d, q, 0, 0, 0, false⟩) ?_
          intro w25 g26
          replace G := G.tr g26
          clear g26
          refine WL_some (og rfl ?_)
          (first | refine r_move_tuple rfl ?_ | refine r_move rfl ?_)
          refine WL_some (og rfl ?_)
          refine r_extract rfl rfl ?_
          refine WL_some (og rfl ?_)
          refine r_extract rfl rfl ?_
          refine WL_some (og rfl ?_)
          (first | refine r_assign_int rfl ?_ | refine r_assign rfl ?_)
          refine WL_some (og rfl ?_)
          (first | refine r_assign_int rfl ?_ | refine r_assign rfl ?_)
          refine WL_nil ?_
          refine W_seq ?_
          refine W_region rfl ?_   -- region 3
          refine WL_some (og rfl ?_)
          (first | refine r_move_int rfl ?_ | refine r_move rfl ?_)
          refine WL_some (og rfl ?_)
          (first | (refine r_add rfl rfl ?_ ?_; (constructor <;> omega)) | refine r_addw rfl rfl ?_)
          refine WL_some (og rfl ?_)
          (first | refine r_move_int rfl ?_ | refine r_move rfl ?_)
          refine WL_some (og rfl ?_)
          (first | (refine r_conv rfl ?_ ?_; (constructor <;> omega)) | refine r_convw rfl ?_)
          refine WL_some (og rfl ?_)
          (first | refine r_move_int rfl ?_ | refine r_move rfl ?_)
          refine WL_some (og rfl ?_)
          (first | (refine r_conv rfl ?_ ?_; (constructor <;> omega)) | refine r_convw rfl ?_)
          refine WL_some (og rfl ?_)
          refine r_build (v := .agg #[.int .i64 (1), .int .i64 ((m + 1) + 1), .int .i64 (d), .int .i64 (q), .int .i64 (0), .int .i64 (0), .int .i64 (0), .bool false]) (fun w => by kernel_rfl) ?_
          refine WL_some (og rfl ?_)
          refine r_gives rfl (encode_calls _ ⟨1, (m + 1) + 1, d, q, 0, 0, 0, false⟩) ?_
          intro w27 g28
          replace G := G.tr g28
          clear g28
          refine WL_some (og rfl ?_)
          (first | refine r_move_tuple rfl ?_ | refine r_move rfl ?_)
          refine WL_some (og rfl ?_)
          refine r_extract rfl rfl ?_
          refine WL_some (og rfl ?_)
          refine r_extract rfl rfl ?_
          refine WL_some (og rfl ?_)
          (first | refine r_assign_int rfl ?_ | refine r_assign rfl ?_)
          refine WL_some (og rfl ?_)
          (first | refine r_assign_int rfl ?_ | refine r_assign rfl ?_)
          refine WL_nil ?_
          refine W_seq ?_
          refine W_seq ?_
          refine W_region rfl ?_   -- region 4
          refine WL_some (og rfl ?_)
          (first | refine r_move_int rfl ?_ | refine r_move rfl ?_)
          refine WL_some (og rfl ?_)
          (first | (refine r_eql_t rfl rfl ?_ ?_; (first | assumption | omega)) | (refine r_eql_f rfl rfl ?_ ?_; (first | assumption | omega)) | refine r_eql rfl rfl ?_)
          refine WL_some (og rfl ?_)
          (first | refine r_move_bool rfl ?_ | refine r_move rfl ?_)
          refine WL_some (og_no rfl ?_)
          refine WL_some (og_no rfl ?_)
          refine WL_some (og rfl ?_)
          (first | (refine r_pick_t rfl ?_ rfl ?_; (first | rfl | assumption)) | (refine r_pick_f rfl ?_ rfl ?_; (first | rfl | assumption)))
          refine WL_some (og rfl ?_)
          (first | refine r_move_bool rfl ?_ | refine r_move rfl ?_)
          refine WL_some (og_no rfl ?_)
          refine WL_some (og_no rfl ?_)
          refine WL_some (og rfl ?_)
          (first | (refine r_pick_t rfl ?_ rfl ?_; (first | rfl | assumption)) | (refine r_pick_f rfl ?_ rfl ?_; (first | rfl | assumption)))
          refine WL_some (og rfl ?_)
          (first | refine r_move_bool rfl ?_ | refine r_move rfl ?_)
          refine WL_some (og rfl ?_)
          (first | refine r_move_int rfl ?_ | refine r_move rfl ?_)
          refine WL_some (og rfl ?_)
          (first | (refine r_eql_t rfl rfl ?_ ?_; (first | assumption | omega)) | (refine r_eql_f rfl rfl ?_ ?_; (first | assumption | omega)) | refine r_eql rfl rfl ?_)
          refine WL_some (og rfl ?_)
          (first | refine r_move_bool rfl ?_ | refine r_move rfl ?_)
          refine WL_some (og rfl ?_)
          (first | refine r_move_int rfl ?_ | refine r_move rfl ?_)
          refine WL_some (og rfl ?_)
          (first | (refine r_eql_t rfl rfl ?_ ?_; (first | assumption | omega)) | (refine r_eql_f rfl rfl ?_ ?_; (first | assumption | omega)) | refine r_eql rfl rfl ?_)
          refine WL_some (og rfl ?_)
          (first | (refine r_pick_t rfl ?_ rfl ?_; (first | rfl | assumption)) | (refine r_pick_f rfl ?_ rfl ?_; (first | rfl | assumption)))
          refine WL_some (og rfl ?_)
          (first | refine r_move_bool rfl ?_ | refine r_move rfl ?_)
          refine WL_some (og rfl ?_)
          (first | refine r_move_int rfl ?_ | refine r_move rfl ?_)
          refine WL_some (og rfl ?_)
          (first | (refine r_eql_t rfl rfl ?_ ?_; (first | assumption | omega)) | (refine r_eql_f rfl rfl ?_ ?_; (first | assumption | omega)) | refine r_eql rfl rfl ?_)
          refine WL_some (og rfl ?_)
          (first | (refine r_pick_t rfl ?_ rfl ?_; (first | rfl | assumption)) | (refine r_pick_f rfl ?_ rfl ?_; (first | rfl | assumption)))
          refine WL_some (og rfl ?_)
          (first | (refine r_pick_t rfl ?_ rfl ?_; (first | rfl | assumption)) | (refine r_pick_f rfl ?_ rfl ?_; (first | rfl | assumption)))
          refine WL_nil ?_
          refine W_false rfl ?_
          refine W_skip ?_
          refine W_seq ?_
          refine W_region rfl ?_   -- region 6
          refine WL_some (og rfl ?_)
          refine r_gives rfl (known_calls _) ?_
          intro w29 g30
          replace G := G.tr g30
          clear g30
          refine WL_some (og rfl ?_)
          (first | refine r_move_bool rfl ?_ | refine r_move rfl ?_)
          refine WL_some (og rfl ?_)
          (first | refine r_move_int rfl ?_ | refine r_move rfl ?_)
          refine WL_some (og rfl ?_)
          (first | (refine r_eql_t rfl rfl ?_ ?_; (first | assumption | omega)) | (refine r_eql_f rfl rfl ?_ ?_; (first | assumption | omega)) | refine r_eql rfl rfl ?_)
          refine WL_some (og rfl ?_)
          (first | (refine r_pick_t rfl ?_ rfl ?_; (first | rfl | assumption)) | (refine r_pick_f rfl ?_ rfl ?_; (first | rfl | assumption)))
          refine WL_some (og rfl ?_)
          (first | refine r_move_bool rfl ?_ | refine r_move rfl ?_)
          refine WL_some (og rfl ?_)
          (first | refine r_move_int rfl ?_ | refine r_move rfl ?_)
          refine WL_some (og rfl ?_)
          (first | (refine r_eql_t rfl rfl ?_ ?_; (first | assumption | omega)) | (refine r_eql_f rfl rfl ?_ ?_; (first | assumption | omega)) | refine r_eql rfl rfl ?_)
          refine WL_some (og rfl ?_)
          (first | (refine r_pick_t rfl ?_ rfl ?_; (first | rfl | assumption)) | (refine r_pick_f rfl ?_ rfl ?_; (first | rfl | assumption)))
          refine WL_some (og rfl ?_)
          (first | refine r_move_bool rfl ?_ | refine r_move rfl ?_)
          refine WL_some (og rfl ?_)
          (first | refine r_move_int rfl ?_ | refine r_move rfl ?_)
          refine WL_some (og rfl ?_)
          refine r_shrc (m := 4294967296) rfl rfl (by decide) (by decide) ?_
          refine WL_some (og rfl ?_)
          (first | refine r_move_int rfl ?_ | refine r_move rfl ?_)
          refine WL_some (og rfl ?_)
          refine r_shrc (m := 4294967296) rfl rfl (by decide) (by decide) ?_
          refine WL_some (og rfl ?_)
          refine r_eql_t rfl rfl hs ?_
          refine WL_some (og rfl ?_)
          (first | (refine r_pick_t rfl ?_ rfl ?_; (first | rfl | assumption)) | (refine r_pick_f rfl ?_ rfl ?_; (first | rfl | assumption)))
          refine WL_some (og rfl ?_)
          (first | refine r_move_bool rfl ?_ | refine r_move rfl ?_)
          refine WL_some (og rfl ?_)
          (first | refine r_move_int rfl ?_ | refine r_move rfl ?_)
          refine WL_some (og rfl ?_)
          refine r_convw rfl ?_
          refine WL_some (og rfl ?_)
          (first | refine r_move_int rfl ?_ | refine r_move rfl ?_)
          refine WL_some (og rfl ?_)
          refine r_convw rfl ?_
          refine WL_some (og rfl ?_)
          refine r_subw rfl rfl ?_
          refine WL_some (og rfl ?_)
          refine r_eql_t rfl rfl hq ?_
          refine WL_some (og rfl ?_)
          (first | (refine r_pick_t rfl ?_ rfl ?_; (first | rfl | assumption)) | (refine r_pick_f rfl ?_ rfl ?_; (first | rfl | assumption)))
          refine WL_some (og rfl ?_)
          (first | refine r_assign_bool rfl ?_ | refine r_assign rfl ?_)
          refine WL_nil ?_
          refine W_ret ?_
          exact ret1 (res_bool rfl) ⟨rfl, G⟩
      ·
        obtain ⟨ea, ra⟩ := encR_offs (m + 1) d q (by omega) (by omega) ⟨d0, d1⟩ ⟨q0, q1⟩ (by omega)
        obtain ⟨eb, rb⟩ := encR_offs (m + 1 + 1) d q (by omega) (by omega) ⟨d0, d1⟩ ⟨q0, q1⟩ (by omega)
        have hs : encR ⟨1, (m + 1), d, q, 0, 0, 0, false⟩ / 4294967296 = encR ⟨1, (m + 1) + 1, d, q, 0, 0, 0, false⟩ / 4294967296 := by rw [ra, rb]; omega
        have hq : IntKind.u32.wrap (IntKind.u32.wrap (encR ⟨1, (m + 1) + 1, d, q, 0, 0, 0, false⟩) - IntKind.u32.wrap (encR ⟨1, (m + 1), d, q, 0, 0, 0, false⟩)) = 4 := by rw [ra, rb]; simp only [IntKind.wrap_u32]; omega
        refine W_seq ?_
        refine W_region rfl ?_   -- region 0
        refine WL_some (og rfl ?_)
        (first | refine r_assign_bool rfl ?_ | refine r_assign rfl ?_)
        refine WL_nil ?_
        refine W_seq ?_
        refine W_region rfl ?_   -- region 1
        refine WL_some (og rfl ?_)
        (first | refine r_move_int rfl ?_ | refine r_move rfl ?_)
        refine WL_some (og rfl ?_)
        refine r_remw rfl rfl (by decide) ?_
        rw [hm]
        refine WL_some (og rfl ?_)
        (first | (refine r_conv rfl ?_ ?_; (constructor <;> omega)) | refine r_convw rfl ?_)
        refine WL_some (og rfl ?_)
        (first | (refine r_add rfl rfl ?_ ?_; (constructor <;> omega)) | refine r_addw rfl rfl ?_)
        refine WL_some (og rfl ?_)
        (first | refine r_assign_int rfl ?_ | refine r_assign rfl ?_)
        refine WL_nil ?_
        refine W_seq ?_
        refine W_region rfl ?_   -- region 2
        refine WL_some (og rfl ?_)
        (first | refine r_move_int rfl ?_ | refine r_move rfl ?_)
        refine WL_some (og rfl ?_)
        (first | refine r_move_int rfl ?_ | refine r_move rfl ?_)
        refine WL_some (og rfl ?_)
        (first | (refine r_conv rfl ?_ ?_; (constructor <;> omega)) | refine r_convw rfl ?_)
        refine WL_some (og rfl ?_)
        (first | refine r_move_int rfl ?_ | refine r_move rfl ?_)
        refine WL_some (og rfl ?_)
        (first | (refine r_conv rfl ?_ ?_; (constructor <;> omega)) | refine r_convw rfl ?_)
        refine WL_some (og rfl ?_)
        refine r_build (v := .agg #[.int .i64 (1), .int .i64 ((m + 1)), .int .i64 (d), .int .i64 (q), .int .i64 (0), .int .i64 (0), .int .i64 (0), .bool false]) (fun w => by kernel_rfl) ?_
        refine WL_some (og rfl ?_)
        refine r_gives rfl (encode_calls _ ⟨1, (m + 1), d, q, 0, 0, 0, false⟩) ?_
        intro w31 g32
        replace G := G.tr g32
        clear g32
        refine WL_some (og rfl ?_)
        (first | refine r_move_tuple rfl ?_ | refine r_move rfl ?_)
        refine WL_some (og rfl ?_)
        refine r_extract rfl rfl ?_
        refine WL_some (og rfl ?_)
        refine r_extract rfl rfl ?_
        refine WL_some (og rfl ?_)
        (first | refine r_assign_int rfl ?_ | refine r_assign rfl ?_)
        refine WL_some (og rfl ?_)
        (first | refine r_assign_int rfl ?_ | refine r_assign rfl ?_)
        refine WL_nil ?_
        refine W_seq ?_
        refine W_region rfl ?_   -- region 3
        refine WL_some (og rfl ?_)
        (first | refine r_move_int rfl ?_ | refine r_move rfl ?_)
        refine WL_some (og rfl ?_)
        (first | (refine r_add rfl rfl ?_ ?_; (constructor <;> omega)) | refine r_addw rfl rfl ?_)
        refine WL_some (og rfl ?_)
        (first | refine r_move_int rfl ?_ | refine r_move rfl ?_)
        refine WL_some (og rfl ?_)
        (first | (refine r_conv rfl ?_ ?_; (constructor <;> omega)) | refine r_convw rfl ?_)
        refine WL_some (og rfl ?_)
        (first | refine r_move_int rfl ?_ | refine r_move rfl ?_)
        refine WL_some (og rfl ?_)
        (first | (refine r_conv rfl ?_ ?_; (constructor <;> omega)) | refine r_convw rfl ?_)
        refine WL_some (og rfl ?_)
        refine r_build (v := .agg #[.int .i64 (1), .int .i64 ((m + 1) + 1), .int .i64 (d), .int .i64 (q), .int .i64 (0), .int .i64 (0), .int .i64 (0), .bool false]) (fun w => by kernel_rfl) ?_
        refine WL_some (og rfl ?_)
        refine r_gives rfl (encode_calls _ ⟨1, (m + 1) + 1, d, q, 0, 0, 0, false⟩) ?_
        intro w33 g34
        replace G := G.tr g34
        clear g34
        refine WL_some (og rfl ?_)
        (first | refine r_move_tuple rfl ?_ | refine r_move rfl ?_)
        refine WL_some (og rfl ?_)
        refine r_extract rfl rfl ?_
        refine WL_some (og rfl ?_)
        refine r_extract rfl rfl ?_
        refine WL_some (og rfl ?_)
        (first | refine r_assign_int rfl ?_ | refine r_assign rfl ?_)
        refine WL_some (og rfl ?_)
        (first | refine r_assign_int rfl ?_ | refine r_assign rfl ?_)
        refine WL_nil ?_
        refine W_seq ?_
        refine W_seq ?_
        refine W_region rfl ?_   -- region 4
        refine WL_some (og rfl ?_)
        (first | refine r_move_int rfl ?_ | refine r_move rfl ?_)
        refine WL_some (og rfl ?_)
        (first | (refine r_eql_t rfl rfl ?_ ?_; (first | assumption | omega)) | (refine r_eql_f rfl rfl ?_ ?_; (first | assumption | omega)) | refine r_eql rfl rfl ?_)
        refine WL_some (og rfl ?_)
        (first | refine r_move_bool rfl ?_ | refine r_move rfl ?_)
        refine WL_some (og_no rfl ?_)
        refine WL_some (og_no rfl ?_)
        refine WL_some (og rfl ?_)
        (first | (refine r_pick_t rfl ?_ rfl ?_; (first | rfl | assumption)) | (refine r_pick_f rfl ?_ rfl ?_; (first | rfl | assumption)))
        refine WL_some (og rfl ?_)
        (first | refine r_move_bool rfl ?_ | refine r_move rfl ?_)
        refine WL_some (og_no rfl ?_)
        refine WL_some (og_no rfl ?_)
        refine WL_some (og rfl ?_)
        (first | (refine r_pick_t rfl ?_ rfl ?_; (first | rfl | assumption)) | (refine r_pick_f rfl ?_ rfl ?_; (first | rfl | assumption)))
        refine WL_some (og rfl ?_)
        (first | refine r_move_bool rfl ?_ | refine r_move rfl ?_)
        refine WL_some (og rfl ?_)
        (first | refine r_move_int rfl ?_ | refine r_move rfl ?_)
        refine WL_some (og rfl ?_)
        (first | (refine r_eql_t rfl rfl ?_ ?_; (first | assumption | omega)) | (refine r_eql_f rfl rfl ?_ ?_; (first | assumption | omega)) | refine r_eql rfl rfl ?_)
        refine WL_some (og rfl ?_)
        (first | refine r_move_bool rfl ?_ | refine r_move rfl ?_)
        refine WL_some (og rfl ?_)
        (first | refine r_move_int rfl ?_ | refine r_move rfl ?_)
        refine WL_some (og rfl ?_)
        (first | (refine r_eql_t rfl rfl ?_ ?_; (first | assumption | omega)) | (refine r_eql_f rfl rfl ?_ ?_; (first | assumption | omega)) | refine r_eql rfl rfl ?_)
        refine WL_some (og rfl ?_)
        (first | (refine r_pick_t rfl ?_ rfl ?_; (first | rfl | assumption)) | (refine r_pick_f rfl ?_ rfl ?_; (first | rfl | assumption)))
        refine WL_some (og rfl ?_)
        (first | refine r_move_bool rfl ?_ | refine r_move rfl ?_)
        refine WL_some (og_no rfl ?_)
        refine WL_some (og_no rfl ?_)
        refine WL_some (og rfl ?_)
        (first | (refine r_pick_t rfl ?_ rfl ?_; (first | rfl | assumption)) | (refine r_pick_f rfl ?_ rfl ?_; (first | rfl | assumption)))
        refine WL_some (og rfl ?_)
        (first | (refine r_pick_t rfl ?_ rfl ?_; (first | rfl | assumption)) | (refine r_pick_f rfl ?_ rfl ?_; (first | rfl | assumption)))
        refine WL_nil ?_
        refine W_false rfl ?_
        refine W_skip ?_
        refine W_seq ?_
        refine W_region rfl ?_   -- region 6
        refine WL_some (og rfl ?_)
        refine r_gives rfl (known_calls _) ?_
        intro w35 g36
        replace G := G.tr g36
        clear g36
        refine WL_some (og rfl ?_)
        (first | refine r_move_bool rfl ?_ | refine r_move rfl ?_)
        refine WL_some (og rfl ?_)
        (first | refine r_move_int rfl ?_ | refine r_move rfl ?_)
        refine WL_some (og rfl ?_)
        (first | (refine r_eql_t rfl rfl ?_ ?_; (first | assumption | omega)) | (refine r_eql_f rfl rfl ?_ ?_; (first | assumption | omega)) | refine r_eql rfl rfl ?_)
        refine WL_some (og rfl ?_)
        (first | (refine r_pick_t rfl ?_ rfl ?_; (first | rfl | assumption)) | (refine r_pick_f rfl ?_ rfl ?_; (first | rfl | assumption)))
        refine WL_some (og rfl ?_)
        (first | refine r_move_bool rfl ?_ | refine r_move rfl ?_)
        refine WL_some (og rfl ?_)
        (first | refine r_move_int rfl ?_ | refine r_move rfl ?_)
        refine WL_some (og rfl ?_)
        (first | (refine r_eql_t rfl rfl ?_ ?_; (first | assumption | omega)) | (refine r_eql_f rfl rfl ?_ ?_; (first | assumption | omega)) | refine r_eql rfl rfl ?_)
        refine WL_some (og rfl ?_)
        (first | (refine r_pick_t rfl ?_ rfl ?_; (first | rfl | assumption)) | (refine r_pick_f rfl ?_ rfl ?_; (first | rfl | assumption)))
        refine WL_some (og rfl ?_)
        (first | refine r_move_bool rfl ?_ | refine r_move rfl ?_)
        refine WL_some (og rfl ?_)
        (first | refine r_move_int rfl ?_ | refine r_move rfl ?_)
        refine WL_some (og rfl ?_)
        refine r_shrc (m := 4294967296) rfl rfl (by decide) (by decide) ?_
        refine WL_some (og rfl ?_)
        (first | refine r_move_int rfl ?_ | refine r_move rfl ?_)
        refine WL_some (og rfl ?_)
        refine r_shrc (m := 4294967296) rfl rfl (by decide) (by decide) ?_
        refine WL_some (og rfl ?_)
        refine r_eql_t rfl rfl hs ?_
        refine WL_some (og rfl ?_)
        (first | (refine r_pick_t rfl ?_ rfl ?_; (first | rfl | assumption)) | (refine r_pick_f rfl ?_ rfl ?_; (first | rfl | assumption)))
        refine WL_some (og rfl ?_)
        (first | refine r_move_bool rfl ?_ | refine r_move rfl ?_)
        refine WL_some (og rfl ?_)
        (first | refine r_move_int rfl ?_ | refine r_move rfl ?_)
        refine WL_some (og rfl ?_)
        refine r_convw rfl ?_
        refine WL_some (og rfl ?_)
        (first | refine r_move_int rfl ?_ | refine r_move rfl ?_)
        refine WL_some (og rfl ?_)
        refine r_convw rfl ?_
        refine WL_some (og rfl ?_)
        refine r_subw rfl rfl ?_
        refine WL_some (og rfl ?_)
        refine r_eql_t rfl rfl hq ?_
        refine WL_some (og rfl ?_)
        (first | (refine r_pick_t rfl ?_ rfl ?_; (first | rfl | assumption)) | (refine r_pick_f rfl ?_ rfl ?_; (first | rfl | assumption)))
        refine WL_some (og rfl ?_)
        (first | refine r_assign_bool rfl ?_ | refine r_assign rfl ?_)
        refine WL_nil ?_
        refine W_ret ?_
        exact ret1 (res_bool rfl) ⟨rfl, G⟩
    ·
      obtain ⟨ea, ra⟩ := encR_offs (m + 1) d q (by omega) (by omega) ⟨d0, d1⟩ ⟨q0, q1⟩ (by omega)
      obtain ⟨eb, rb⟩ := encR_offs (m + 1 + 1) d q (by omega) (by omega) ⟨d0, d1⟩ ⟨q0, q1⟩ (by omega)
      have hs : encR ⟨1, (m + 1), d, q, 0, 0, 0, false⟩ / 4294967296 = encR ⟨1, (m + 1) + 1, d, q, 0, 0, 0, false⟩ / 4294967296 := by rw [ra, rb]; omega
      have hq : IntKind.u32.wrap (IntKind.u32.wrap (encR ⟨1, (m + 1) + 1, d, q, 0, 0, 0, false⟩) - IntKind.u32.wrap (encR ⟨1, (m + 1), d, q, 0, 0, 0, false⟩)) = 4 := by rw [ra, rb]; simp only [IntKind.wrap_u32]; omega
      refine W_seq ?_
      refine W_region rfl ?_   -- region 0
      refine WL_some (og rfl ?_)
      (first | refine r_assign_bool rfl ?_ | refine r_assign rfl ?_)
      refine WL_nil ?_
      refine W_seq ?_
      refine W_region rfl ?_   -- region 1
      refine WL_some (og rfl ?_)
      (first | refine r_move_int rfl ?_ | refine r_move rfl ?_)
      refine WL_some (og rfl ?_)
      refine r_remw rfl rfl (by decide) ?_
      rw [hm]
      refine WL_some (og rfl ?_)
      (first | (refine r_conv rfl ?_ ?_; (constructor <;> omega)) | refine r_convw rfl ?_)
      refine WL_some (og rfl ?_)
      (first | (refine r_add rfl rfl ?_ ?_; (constructor <;> omega)) | refine r_addw rfl rfl ?_)
      refine WL_some (og rfl ?_)
      (first | refine r_assign_int rfl ?_ | refine r_assign rfl ?_)
      refine WL_nil ?_
      refine W_seq ?_
      refine W_region rfl ?_   -- region 2
      refine WL_some (og rfl ?_)
      (first | refine r_move_int rfl ?_ | refine r_move rfl ?_)
      refine WL_some (og rfl ?_)
      (first | refine r_move_int rfl ?_ | refine r_move rfl ?_)
      refine WL_some (og rfl ?_)
      (first | (refine r_conv rfl ?_ ?_; (constructor <;> omega)) | refine r_convw rfl ?_)
      refine WL_some (og rfl ?_)
      (first | refine r_move_int rfl ?_ | refine r_move rfl ?_)
      refine WL_some (og rfl ?_)
      (first | (refine r_conv rfl ?_ ?_; (constructor <;> omega)) | refine r_convw rfl ?_)
      refine WL_some (og rfl ?_)
      refine r_build (v := .agg #[.int .i64 (1), .int .i64 ((m + 1)), .int .i64 (d), .int .i64 (q), .int .i64 (0), .int .i64 (0), .int .i64 (0), .bool false]) (fun w => by kernel_rfl) ?_
      refine WL_some (og rfl ?_)
      refine r_gives rfl (encode_calls _ ⟨1, (m + 1), d, q, 0, 0, 0, false⟩) ?_
      intro w37 g38
      replace G := G.tr g38
      clear g38
      refine WL_some (og rfl ?_)
      (first | refine r_move_tuple rfl ?_ | refine r_move rfl ?_)
      refine WL_some (og rfl ?_)
      refine r_extract rfl rfl ?_
      refine WL_some (og rfl ?_)
      refine r_extract rfl rfl ?_
      refine WL_some (og rfl ?_)
      (first | refine r_assign_int rfl ?_ | refine r_assign rfl ?_)
      refine WL_some (og rfl ?_)
      (first | refine r_assign_int rfl ?_ | refine r_assign rfl ?_)
      refine WL_nil ?_
      refine W_seq ?_
      refine W_region rfl ?_   -- region 3
      refine WL_some (og rfl ?_)
      (first | refine r_move_int rfl ?_ | refine r_move rfl ?_)
      refine WL_some (og rfl ?_)
      (first | (refine r_add rfl rfl ?_ ?_; (constructor <;> omega)) | refine r_addw rfl rfl ?_)
      refine WL_some (og rfl ?_)
      (first | refine r_move_int rfl ?_ | refine r_move rfl ?_)
      refine WL_some (og rfl ?_)
      (first | (refine r_conv rfl ?_ ?_; (constructor <;> omega)) | refine r_convw rfl ?_)
      refine WL_some (og rfl ?_)
      (first | refine r_move_int rfl ?_ | refine r_move rfl ?_)
      refine WL_some (og rfl ?_)
      (first | (refine r_conv rfl ?_ ?_; (constructor <;> omega)) | refine r_convw rfl ?_)
      refine WL_some (og rfl ?_)
      refine r_build (v := .agg #[.int .i64 (1), .int .i64 ((m + 1) + 1), .int .i64 (d), .int .i64 (q), .int .i64 (0), .int .i64 (0), .int .i64 (0), .bool false]) (fun w => by kernel_rfl) ?_
      refine WL_some (og rfl ?_)
      refine r_gives rfl (encode_calls _ ⟨1, (m + 1) + 1, d, q, 0, 0, 0, false⟩) ?_
      intro w39 g40
      replace G := G.tr g40
      clear g40
      refine WL_some (og rfl ?_)
      (first | refine r_move_tuple rfl ?_ | refine r_move rfl ?_)
      refine WL_some (og rfl ?_)
      refine r_extract rfl rfl ?_
      refine WL_some (og rfl ?_)
      refine r_extract rfl rfl ?_
      refine WL_some (og rfl ?_)
      (first | refine r_assign_int rfl ?_ | refine r_assign rfl ?_)
      refine WL_some (og rfl ?_)
      (first | refine r_assign_int rfl ?_ | refine r_assign rfl ?_)
      refine WL_nil ?_
      refine W_seq ?_
      refine W_seq ?_
      refine W_region rfl ?_   -- region 4
      refine WL_some (og rfl ?_)
      (first | refine r_move_int rfl ?_ | refine r_move rfl ?_)
      refine WL_some (og rfl ?_)
      (first | (refine r_eql_t rfl rfl ?_ ?_; (first | assumption | omega)) | (refine r_eql_f rfl rfl ?_ ?_; (first | assumption | omega)) | refine r_eql rfl rfl ?_)
      refine WL_some (og rfl ?_)
      (first | refine r_move_bool rfl ?_ | refine r_move rfl ?_)
      refine WL_some (og_no rfl ?_)
      refine WL_some (og_no rfl ?_)
      refine WL_some (og rfl ?_)
      (first | (refine r_pick_t rfl ?_ rfl ?_; (first | rfl | assumption)) | (refine r_pick_f rfl ?_ rfl ?_; (first | rfl | assumption)))
      refine WL_some (og rfl ?_)
      (first | refine r_move_bool rfl ?_ | refine r_move rfl ?_)
      refine WL_some (og_no rfl ?_)
      refine WL_some (og_no rfl ?_)
      refine WL_some (og rfl ?_)
      (first | (refine r_pick_t rfl ?_ rfl ?_; (first | rfl | assumption)) | (refine r_pick_f rfl ?_ rfl ?_; (first | rfl | assumption)))
      refine WL_some (og rfl ?_)
      (first | refine r_move_bool rfl ?_ | refine r_move rfl ?_)
      refine WL_some (og rfl ?_)
      (first | refine r_move_int rfl ?_ | refine r_move rfl ?_)
      refine WL_some (og rfl ?_)
      (first | (refine r_eql_t rfl rfl ?_ ?_; (first | assumption | omega)) | (refine r_eql_f rfl rfl ?_ ?_; (first | assumption | omega)) | refine r_eql rfl rfl ?_)
      refine WL_some (og rfl ?_)
      (first | refine r_move_bool rfl ?_ | refine r_move rfl ?_)
      refine WL_some (og_no rfl ?_)
      refine WL_some (og_no rfl ?_)
      refine WL_some (og rfl ?_)
      (first | (refine r_pick_t rfl ?_ rfl ?_; (first | rfl | assumption)) | (refine r_pick_f rfl ?_ rfl ?_; (first | rfl | assumption)))
      refine WL_some (og rfl ?_)
      (first | refine r_move_bool rfl ?_ | refine r_move rfl ?_)
      refine WL_some (og_no rfl ?_)
      refine WL_some (og_no rfl ?_)
      refine WL_some (og rfl ?_)
      (first | (refine r_pick_t rfl ?_ rfl ?_; (first | rfl | assumption)) | (refine r_pick_f rfl ?_ rfl ?_; (first | rfl | assumption)))
      refine WL_some (og rfl ?_)
      (first | (refine r_pick_t rfl ?_ rfl ?_; (first | rfl | assumption)) | (refine r_pick_f rfl ?_ rfl ?_; (first | rfl | assumption)))
      refine WL_nil ?_
      refine W_false rfl ?_
      refine W_skip ?_
      refine W_seq ?_
      refine W_region rfl ?_   -- region 6
      refine WL_some (og rfl ?_)
      refine r_gives rfl (known_calls _) ?_
      intro w41 g42
      replace G := G.tr g42
      clear g42
      refine WL_some (og rfl ?_)
      (first | refine r_move_bool rfl ?_ | refine r_move rfl ?_)
      refine WL_some (og rfl ?_)
      (first | refine r_move_int rfl ?_ | refine r_move rfl ?_)
      refine WL_some (og rfl ?_)
      (first | (refine r_eql_t rfl rfl ?_ ?_; (first | assumption | omega)) | (refine r_eql_f rfl rfl ?_ ?_; (first | assumption | omega)) | refine r_eql rfl rfl ?_)
      refine WL_some (og rfl ?_)
      (first | (refine r_pick_t rfl ?_ rfl ?_; (first | rfl | assumption)) | (refine r_pick_f rfl ?_ rfl ?_; (first | rfl | assumption)))
      refine WL_some (og rfl ?_)
      (first | refine r_move_bool rfl ?_ | refine r_move rfl ?_)
      refine WL_some (og rfl ?_)
      (first | refine r_move_int rfl ?_ | refine r_move rfl ?_)
      refine WL_some (og rfl ?_)
      (first | (refine r_eql_t rfl rfl ?_ ?_; (first | assumption | omega)) | (refine r_eql_f rfl rfl ?_ ?_; (first | assumption | omega)) | refine r_eql rfl rfl ?_)
      refine WL_some (og rfl ?_)
      (first | (refine r_pick_t rfl ?_ rfl ?_; (first | rfl | assumption)) | (refine r_pick_f rfl ?_ rfl ?_; (first | rfl | assumption)))
      refine WL_some (og rfl ?_)
      (first | refine r_move_bool rfl ?_ | refine r_move rfl ?_)
      refine WL_some (og rfl ?_)
      (first | refine r_move_int rfl ?_ | refine r_move rfl ?_)
      refine WL_some (og rfl ?_)
      refine r_shrc (m := 4294967296) rfl rfl (by decide) (by decide) ?_
      refine WL_some (og rfl ?_)
      (first | refine r_move_int rfl ?_ | refine r_move rfl ?_)
      refine WL_some (og rfl ?_)
      refine r_shrc (m := 4294967296) rfl rfl (by decide) (by decide) ?_
      refine WL_some (og rfl ?_)
      refine r_eql_t rfl rfl hs ?_
      refine WL_some (og rfl ?_)
      (first | (refine r_pick_t rfl ?_ rfl ?_; (first | rfl | assumption)) | (refine r_pick_f rfl ?_ rfl ?_; (first | rfl | assumption)))
      refine WL_some (og rfl ?_)
      (first | refine r_move_bool rfl ?_ | refine r_move rfl ?_)
      refine WL_some (og rfl ?_)
      (first | refine r_move_int rfl ?_ | refine r_move rfl ?_)
      refine WL_some (og rfl ?_)
      refine r_convw rfl ?_
      refine WL_some (og rfl ?_)
      (first | refine r_move_int rfl ?_ | refine r_move rfl ?_)
      refine WL_some (og rfl ?_)
      refine r_convw rfl ?_
      refine WL_some (og rfl ?_)
      refine r_subw rfl rfl ?_
      refine WL_some (og rfl ?_)
      refine r_eql_t rfl rfl hq ?_
      refine WL_some (og rfl ?_)
      (first | (refine r_pick_t rfl ?_ rfl ?_; (first | rfl | assumption)) | (refine r_pick_f rfl ?_ rfl ?_; (first | rfl | assumption)))
      refine WL_some (og rfl ?_)
      (first | refine r_assign_bool rfl ?_ | refine r_assign rfl ?_)
      refine WL_nil ?_
      refine W_ret ?_
      exact ret1 (res_bool rfl) ⟨rfl, G⟩

set_option maxRecDepth 100000 in
theorem Ptr_calls (w : World) (a b c k : Int) (ha : 0 ≤ a ∧ a ≤ 4294967295) (hb : 0 ≤ b ∧ b ≤ 4294967295) (hc : 0 ≤ c ∧ c ≤ 4294967295) (hk : 0 ≤ k ∧ k ≤ 255) : Gives Try.prog 12 #[.int .u32 a, .int .u32 b, .int .u32 c, .int .u8 k] w (.agg #[.int .i64 ((ptrF a b c k).kind), .int .i64 ((ptrF a b c k).off), .int .i64 ((ptrF a b c k).data), .int .i64 ((ptrF a b c k).ptrs), .int .i64 ((ptrF a b c k).size), .int .i64 ((ptrF a b c k).count), .int .i64 ((ptrF a b c k).seg), .bool (ptrF a b c k).dbl]) := by
  have G := Grow.rfl' w
  refine gives_of Try.func12 Try.ntmps12 Try.results12 rfl rfl ?_
  refine W_seq ?_
  refine W_region rfl ?_   -- region 0
  refine WL_some (og rfl ?_)
  refine r_alloc ?_
  intro b1 w2 hb3 hc4 g5
  refine WL_nil ?_
  refine W_seq ?_
  refine W_region rfl ?_   -- region 1
  refine WL_some (og rfl ?_)
  (first | refine r_move_int rfl ?_ | refine r_move rfl ?_)
  refine WL_some (og rfl ?_)
  (first | (refine r_rem rfl rfl ?_ ?_ ?_; omega; omega) | (refine r_remw rfl rfl ?_ ?_; omega))
  refine WL_some (og rfl ?_)
  (first | (refine r_conv rfl ?_ ?_; (constructor <;> omega)) | refine r_convw rfl ?_)
  refine WL_some (og rfl ?_)
  refine r_build (v := .agg #[.int .i64 (k % 4), .int .i64 (0), .int .i64 (0), .int .i64 (0), .int .i64 (0), .int .i64 (0), .int .i64 (0), .bool false]) (fun w => by kernel_rfl) ?_
  have hge6 := Nat.le_trans G.size hb3
  replace G := G.tr g5
  clear g5 hb3
  refine WL_some (og rfl ?_)
  refine r_alloc ?_
  intro b7 w8 hb9 hc10 g11
  refine WL_none (og rfl ?_)
  refine r_storeAll rfl rfl hc10 (by rfl) (by rfl) (by rfl) ?_
  intro w12 hc13 u14
  have g15 := g11.upd u14 hb9
  have hge16 := Nat.le_trans G.size hb9
  have ne17 := Nat.ne_of_lt (Nat.lt_of_lt_of_le (lt_of_heap hc4) hb9)
  replace hc4 := g15.heap hc4
  replace G := G.tr g15
  clear u14 g11 hb9 hc10
  refine WL_nil ?_
  refine W_seq ?_
  refine W_seq ?_
  refine W_region rfl ?_   -- region 2
  refine WL_some (og rfl ?_)
  refine r_fieldAddr rfl ?_
  refine WL_some (og rfl ?_)
  refine r_load rfl (by assumption) (by rfl) ?_
  refine WL_nil ?_
  refine W_block ?_
  refine W_seq ?_
  refine W_region rfl ?_   -- region 3
  refine WL_some (og rfl ?_)
  (first | (refine r_eql_t rfl rfl ?_ ?_; (first | assumption | omega)) | (refine r_eql_f rfl rfl ?_ ?_; (first | assumption | omega)) | refine r_eql rfl rfl ?_)
  refine WL_some (og rfl ?_)
  (first | refine r_assign_bool rfl ?_ | refine r_assign rfl ?_)
  refine WL_nil ?_
  refine W_cond2 rfl (fun h1 => ?_) (fun h1 => ?_)
  ·  -- true
    first | (replace h1 := of_decide_eq_true h1) | (replace h1 := of_decide_eq_false h1) | skip
    refine W_seq ?_
    refine W_region rfl ?_   -- region 4
    refine WL_some (og rfl ?_)
    (first | refine r_move_int rfl ?_ | refine r_move rfl ?_)
    refine WL_some (og rfl ?_)
    (first | (refine r_rem rfl rfl ?_ ?_ ?_; omega; omega) | (refine r_remw rfl rfl ?_ ?_; omega))
    refine WL_some (og rfl ?_)
    (first | (refine r_conv rfl ?_ ?_; (constructor <;> omega)) | refine r_convw rfl ?_)
    refine WL_some (og rfl ?_)
    (first | (refine r_sub rfl rfl ?_ ?_; (constructor <;> omega)) | refine r_subw rfl rfl ?_)
    refine WL_some (og rfl ?_)
    refine r_fieldAddr rfl ?_
    refine WL_none (og rfl ?_)
    refine r_store1 (v := .int _ _) rfl rfl (by rfl) hc13 (by rfl) (by rfl) ?_
    intro w21 hc22 u23
    replace hc4 := u23.heap hc4 ne17
    replace G := G.upd u23 hge16
    clear u23 hc13
    refine WL_nil ?_
    refine W_seq ?_
    refine W_region rfl ?_   -- region 5
    refine WL_some (og rfl ?_)
    (first | refine r_move_int rfl ?_ | refine r_move rfl ?_)
    refine WL_some (og rfl ?_)
    (first | (refine r_rem rfl rfl ?_ ?_ ?_; omega; omega) | (refine r_remw rfl rfl ?_ ?_; omega))
    refine WL_some (og rfl ?_)
    (first | (refine r_conv rfl ?_ ?_; (constructor <;> omega)) | refine r_convw rfl ?_)
    refine WL_some (og rfl ?_)
    refine r_fieldAddr rfl ?_
    refine WL_none (og rfl ?_)
    refine r_store1 (v := .int _ _) rfl rfl (by rfl) hc22 (by rfl) (by rfl) ?_
    intro w27 hc28 u29
    replace hc4 := u29.heap hc4 ne17
    replace G := G.upd u29 hge16
    clear u29 hc22
    refine WL_nil ?_
    refine W_region rfl ?_   -- region 6
    refine WL_some (og rfl ?_)
    (first | refine r_move_int rfl ?_ | refine r_move rfl ?_)
    refine WL_some (og rfl ?_)
    (first | (refine r_rem rfl rfl ?_ ?_ ?_; omega; omega) | (refine r_remw rfl rfl ?_ ?_; omega))
    refine WL_some (og rfl ?_)
    (first | (refine r_conv rfl ?_ ?_; (constructor <;> omega)) | refine r_convw rfl ?_)
    refine WL_some (og rfl ?_)
    refine r_fieldAddr rfl ?_
    refine WL_none (og rfl ?_)
    refine r_store1 (v := .int _ _) rfl rfl (by rfl) hc28 (by rfl) (by rfl) ?_
    intro w33 hc34 u35
    replace hc4 := u35.heap hc4 ne17
    replace G := G.upd u35 hge16
    clear u35 hc28
    refine WL_nil ?_
    refine W_seq ?_
    refine W_seq ?_
    refine W_region rfl ?_   -- region 15
    refine WL_some (og rfl ?_)
    (first | refine r_move_int rfl ?_ | refine r_move rfl ?_)
    refine WL_some (og rfl ?_)
    (first | (refine r_gtr_t rfl rfl ?_ ?_; (first | assumption | omega)) | (refine r_gtr_f rfl rfl ?_ ?_; (first | assumption | omega)) | refine r_gtr rfl rfl ?_)
    refine WL_nil ?_
    refine W_cond2 rfl (fun hg => ?_) (fun hg => ?_)
    ·  -- true
      first | (replace hg := of_decide_eq_true hg) | (replace hg := of_decide_eq_false hg) | skip
      refine W_seq ?_
      refine W_region rfl ?_   -- region 16
      refine WL_some (og rfl ?_)
      (first | refine r_move_int rfl ?_ | refine r_move rfl ?_)
      refine WL_some (og rfl ?_)
      (first | (refine r_conv rfl ?_ ?_; (constructor <;> omega)) | refine r_convw rfl ?_)
      refine WL_some (og rfl ?_)
      refine r_fieldAddr rfl ?_
      refine WL_none (og rfl ?_)
      refine r_store1 (v := .int _ _) rfl rfl (by rfl) hc34 (by rfl) (by rfl) ?_
      intro w39 hc40 u41
      replace hc4 := u41.heap hc4 ne17
      replace G := G.upd u41 hge16
      clear u41 hc34
      refine WL_nil ?_
      refine W_seq ?_
      refine W_region rfl ?_   -- region 17
      refine WL_some (og rfl ?_)
      (first | refine r_move_int rfl ?_ | refine r_move rfl ?_)
      refine WL_some (og rfl ?_)
      (first | (refine r_rem rfl rfl ?_ ?_ ?_; omega; omega) | (refine r_remw rfl rfl ?_ ?_; omega))
      refine WL_some (og rfl ?_)
      (first | (refine r_conv rfl ?_ ?_; (constructor <;> omega)) | refine r_convw rfl ?_)
      refine WL_some (og rfl ?_)
      refine r_fieldAddr rfl ?_
      refine WL_none (og rfl ?_)
      refine r_store1 (v := .int _ _) rfl rfl (by rfl) hc40 (by rfl) (by rfl) ?_
      intro w45 hc46 u47
      replace hc4 := u47.heap hc4 ne17
      replace G := G.upd u47 hge16
      clear u47 hc40
      refine WL_nil ?_
      refine W_region rfl ?_   -- region 18
      refine WL_some (og rfl ?_)
      refine r_fieldAddr rfl ?_
      refine WL_some (og rfl ?_)
      refine r_load rfl (by assumption) (by rfl) ?_
      refine WL_some (og rfl ?_)
      (first | refine r_move_int rfl ?_ | refine r_move rfl ?_)
      refine WL_some (og rfl ?_)
      (first | (refine r_rem rfl rfl ?_ ?_ ?_; omega; omega) | (refine r_remw rfl rfl ?_ ?_; omega))
      refine WL_some (og rfl ?_)
      (first | (refine r_conv rfl ?_ ?_; (constructor <;> omega)) | refine r_convw rfl ?_)
      refine WL_some (og rfl ?_)
      (first | (refine r_add rfl rfl ?_ ?_; (constructor <;> omega)) | refine r_addw rfl rfl ?_)
      refine WL_some (og rfl ?_)
      refine r_fieldAddr rfl ?_
      refine WL_none (og rfl ?_)
      refine r_store1 (v := .int _ _) rfl rfl (by rfl) hc46 (by rfl) (by rfl) ?_
      intro w51 hc52 u53
      replace hc4 := u53.heap hc4 ne17
      replace G := G.upd u53 hge16
      clear u53 hc46
      refine WL_nil ?_
      refine W_seq ?_
      refine W_region rfl ?_   -- region 19
      refine WL_some (og rfl ?_)
      (first | refine r_loadAll rfl (by assumption) (by rfl) ?_ | refine r_loadN rfl (by assumption) (by rfl) (by rfl) ?_)
      refine WL_none (og rfl ?_)
      refine r_storeAll rfl rfl hc4 (by rfl) (by rfl) (by rfl) ?_
      intro w57 hc58 u59
      replace hc52 := u59.heap hc52 ne17.symm
      replace G := G.upd u59 hge6
      clear u59 hc4
      refine WL_nil ?_
      refine W_ret ?_
      refine ret1 (res_all rfl (by assumption) (by rfl)) ⟨?_, G⟩
      simp [ptrF, ptrF0, Pt0, h1, hg]
    ·  -- false
      first | (replace hg := of_decide_eq_true hg) | (replace hg := of_decide_eq_false hg) | skip
      refine W_skip ?_
      refine W_seq ?_
      refine W_region rfl ?_   -- region 19
      refine WL_some (og rfl ?_)
      (first | refine r_loadAll rfl (by assumption) (by rfl) ?_ | refine r_loadN rfl (by assumption) (by rfl) (by rfl) ?_)
      refine WL_none (og rfl ?_)
      refine r_storeAll rfl rfl hc4 (by rfl) (by rfl) (by rfl) ?_
      intro w63 hc64 u65
      replace hc34 := u65.heap hc34 ne17.symm
      replace G := G.upd u65 hge6
      clear u65 hc4
      refine WL_nil ?_
      refine W_ret ?_
      refine ret1 (res_all rfl (by assumption) (by rfl)) ⟨?_, G⟩
      simp [ptrF, ptrF0, Pt0, h1, hg]
  ·  -- false
    first | (replace h1 := of_decide_eq_true h1) | (replace h1 := of_decide_eq_false h1) | skip
    refine W_seq ?_
    refine W_region rfl ?_   -- region 7
    refine WL_some (og rfl ?_)
    (first | (refine r_eql_t rfl rfl ?_ ?_; (first | assumption | omega)) | (refine r_eql_f rfl rfl ?_ ?_; (first | assumption | omega)) | refine r_eql rfl rfl ?_)
    refine WL_some (og rfl ?_)
    (first | refine r_assign_bool rfl ?_ | refine r_assign rfl ?_)
    refine WL_nil ?_
    refine W_cond2 rfl (fun h2 => ?_) (fun h2 => ?_)
    ·  -- true
      first | (replace h2 := of_decide_eq_true h2) | (replace h2 := of_decide_eq_false h2) | skip
      refine W_seq ?_
      refine W_region rfl ?_   -- region 8
      refine WL_some (og rfl ?_)
      (first | refine r_move_int rfl ?_ | refine r_move rfl ?_)
      refine WL_some (og rfl ?_)
      (first | (refine r_rem rfl rfl ?_ ?_ ?_; omega; omega) | (refine r_remw rfl rfl ?_ ?_; omega))
      refine WL_some (og rfl ?_)
      (first | (refine r_conv rfl ?_ ?_; (constructor <;> omega)) | refine r_convw rfl ?_)
      refine WL_some (og rfl ?_)
      (first | (refine r_sub rfl rfl ?_ ?_; (constructor <;> omega)) | refine r_subw rfl rfl ?_)
      refine WL_some (og rfl ?_)
      refine r_fieldAddr rfl ?_
      refine WL_none (og rfl ?_)
      refine r_store1 (v := .int _ _) rfl rfl (by rfl) hc13 (by rfl) (by rfl) ?_
      intro w69 hc70 u71
      replace hc4 := u71.heap hc4 ne17
      replace G := G.upd u71 hge16
      clear u71 hc13
      refine WL_nil ?_
      refine W_seq ?_
      refine W_region rfl ?_   -- region 9
      refine WL_some (og rfl ?_)
      (first | refine r_move_int rfl ?_ | refine r_move rfl ?_)
      refine WL_some (og rfl ?_)
      (first | (refine r_rem rfl rfl ?_ ?_ ?_; omega; omega) | (refine r_remw rfl rfl ?_ ?_; omega))
      refine WL_some (og rfl ?_)
      (first | (refine r_conv rfl ?_ ?_; (constructor <;> omega)) | refine r_convw rfl ?_)
      refine WL_some (og rfl ?_)
      refine r_fieldAddr rfl ?_
      refine WL_none (og rfl ?_)
      refine r_store1 (v := .int _ _) rfl rfl (by rfl) hc70 (by rfl) (by rfl) ?_
      intro w75 hc76 u77
      replace hc4 := u77.heap hc4 ne17
      replace G := G.upd u77 hge16
      clear u77 hc70
      refine WL_nil ?_
      refine W_region rfl ?_   -- region 10
      refine WL_some (og rfl ?_)
      (first | refine r_move_int rfl ?_ | refine r_move rfl ?_)
      refine WL_some (og rfl ?_)
      (first | (refine r_rem rfl rfl ?_ ?_ ?_; omega; omega) | (refine r_remw rfl rfl ?_ ?_; omega))
      refine WL_some (og rfl ?_)
      (first | (refine r_conv rfl ?_ ?_; (constructor <;> omega)) | refine r_convw rfl ?_)
      refine WL_some (og rfl ?_)
      refine r_fieldAddr rfl ?_
      refine WL_none (og rfl ?_)
      refine r_store1 (v := .int _ _) rfl rfl (by rfl) hc76 (by rfl) (by rfl) ?_
      intro w81 hc82 u83
      replace hc4 := u83.heap hc4 ne17
      replace G := G.upd u83 hge16
      clear u83 hc76
      refine WL_nil ?_
      refine W_seq ?_
      refine W_seq ?_
      refine W_region rfl ?_   -- region 15
      refine WL_some (og rfl ?_)
      (first | refine r_move_int rfl ?_ | refine r_move rfl ?_)
      refine WL_some (og rfl ?_)
      (first | (refine r_gtr_t rfl rfl ?_ ?_; (first | assumption | omega)) | (refine r_gtr_f rfl rfl ?_ ?_; (first | assumption | omega)) | refine r_gtr rfl rfl ?_)
      refine WL_nil ?_
      refine W_cond2 rfl (fun hg => ?_) (fun hg => ?_)
      ·  -- true
        first | (replace hg := of_decide_eq_true hg) | (replace hg := of_decide_eq_false hg) | skip
        refine W_seq ?_
        refine W_region rfl ?_   -- region 16
        refine WL_some (og rfl ?_)
        (first | refine r_move_int rfl ?_ | refine r_move rfl ?_)
        refine WL_some (og rfl ?_)
        (first | (refine r_conv rfl ?_ ?_; (constructor <;> omega)) | refine r_convw rfl ?_)
        refine WL_some (og rfl ?_)
        refine r_fieldAddr rfl ?_
        refine WL_none (og rfl ?_)
        refine r_store1 (v := .int _ _) rfl rfl (by rfl) hc82 (by rfl) (by rfl) ?_
        intro w87 hc88 u89
        replace hc4 := u89.heap hc4 ne17
        replace G := G.upd u89 hge16
        clear u89 hc82
        refine WL_nil ?_
        refine W_seq ?_
        refine W_region rfl ?_   -- region 17
        refine WL_some (og rfl ?_)
        (first | refine r_move_int rfl ?_ | refine r_move rfl ?_)
        refine WL_some (og rfl ?_)
        (first | (refine r_rem rfl rfl ?_ ?_ ?_; omega; omega) | (refine r_remw rfl rfl ?_ ?_; omega))
        refine WL_some (og rfl ?_)
        (first | (refine r_conv rfl ?_ ?_; (constructor <;> omega)) | refine r_convw rfl ?_)
        refine WL_some (og rfl ?_)
        refine r_fieldAddr rfl ?_
        refine WL_none (og rfl ?_)
        refine r_store1 (v := .int _ _) rfl rfl (by rfl) hc88 (by rfl) (by rfl) ?_
        intro w93 hc94 u95
        replace hc4 := u95.heap hc4 ne17
        replace G := G.upd u95 hge16
        clear u95 hc88
        refine WL_nil ?_
        refine W_region rfl ?_   -- region 18
        refine WL_some (og rfl ?_)
        refine r_fieldAddr rfl ?_
        refine WL_some (og rfl ?_)
        refine r_load rfl (by assumption) (by rfl) ?_
        refine WL_some (og rfl ?_)
        (first | refine r_move_int rfl ?_ | refine r_move rfl ?_)
        refine WL_some (og rfl ?_)
        (first | (refine r_rem rfl rfl ?_ ?_ ?_; omega; omega) | (refine r_remw rfl rfl ?_ ?_; omega))
        refine WL_some (og rfl ?_)
        (first | (refine r_conv rfl ?_ ?_; (constructor <;> omega)) | refine r_convw rfl ?_)
        refine WL_some (og rfl ?_)
        (first | (refine r_add rfl rfl ?_ ?_; (constructor <;> omega)) | refine r_addw rfl rfl ?_)
        refine WL_some (og rfl ?_)
        refine r_fieldAddr rfl ?_
        refine WL_none (og rfl ?_)
        refine r_store1 (v := .int _ _) rfl rfl (by rfl) hc94 (by rfl) (by rfl) ?_
        intro w99 hc100 u101
        replace hc4 := u101.heap hc4 ne17
        replace G := G.upd u101 hge16
        clear u101 hc94
        refine WL_nil ?_
        refine W_seq ?_
        refine W_region rfl ?_   -- region 19
        refine WL_some (og rfl ?_)
        (first | refine r_loadAll rfl (by assumption) (by rfl) ?_ | refine r_loadN rfl (by assumption) (by rfl) (by rfl) ?_)
        refine WL_none (og rfl ?_)
        refine r_storeAll rfl rfl hc4 (by rfl) (by rfl) (by rfl) ?_
        intro w105 hc106 u107
        replace hc100 := u107.heap hc100 ne17.symm
        replace G := G.upd u107 hge6
        clear u107 hc4
        refine WL_nil ?_
        refine W_ret ?_
        refine ret1 (res_all rfl (by assumption) (by rfl)) ⟨?_, G⟩
        simp [ptrF, ptrF0, Pt0, h1, h2, hg]
      ·  -- false
        first | (replace hg := of_decide_eq_true hg) | (replace hg := of_decide_eq_false hg) | skip
        refine W_skip ?_
        refine W_seq ?_
        refine W_region rfl ?_   -- region 19
        refine WL_some (og rfl ?_)
        (first | refine r_loadAll rfl (by assumption) (by rfl) ?_ | refine r_loadN rfl (by assumption) (by rfl) (by rfl) ?_)
        refine WL_none (og rfl ?_)
        refine r_storeAll rfl rfl hc4 (by rfl) (by rfl) (by rfl) ?_
        intro w111 hc112 u113
        replace hc82 := u113.heap hc82 ne17.symm
        replace G := G.upd u113 hge6
        clear u113 hc4
        refine WL_nil ?_
        refine W_ret ?_
        refine ret1 (res_all rfl (by assumption) (by rfl)) ⟨?_, G⟩
        simp [ptrF, ptrF0, Pt0, h1, h2, hg]
    ·  -- false
      first | (replace h2 := of_decide_eq_true h2) | (replace h2 := of_decide_eq_false h2) | skip
      refine W_seq ?_
      refine W_region rfl ?_   -- region 11
      refine WL_some (og rfl ?_)
      (first | (refine r_eql_t rfl rfl ?_ ?_; (first | assumption | omega)) | (refine r_eql_f rfl rfl ?_ ?_; (first | assumption | omega)) | refine r_eql rfl rfl ?_)
      refine WL_some (og rfl ?_)
      (first | refine r_assign_bool rfl ?_ | refine r_assign rfl ?_)
      refine WL_nil ?_
      refine W_cond2 rfl (fun h3 => ?_) (fun h3 => ?_)
      ·  -- true
        first | (replace h3 := of_decide_eq_true h3) | (replace h3 := of_decide_eq_false h3) | skip
        refine W_seq ?_
        refine W_region rfl ?_   -- region 12
        refine WL_some (og rfl ?_)
        (first | refine r_move_int rfl ?_ | refine r_move rfl ?_)
        refine WL_some (og rfl ?_)
        (first | (refine r_rem rfl rfl ?_ ?_ ?_; omega; omega) | (refine r_remw rfl rfl ?_ ?_; omega))
        refine WL_some (og rfl ?_)
        (first | (refine r_conv rfl ?_ ?_; (constructor <;> omega)) | refine r_convw rfl ?_)
        refine WL_some (og rfl ?_)
        refine r_fieldAddr rfl ?_
        refine WL_none (og rfl ?_)
        refine r_store1 (v := .int _ _) rfl rfl (by rfl) hc13 (by rfl) (by rfl) ?_
        intro w117 hc118 u119
        replace hc4 := u119.heap hc4 ne17
        replace G := G.upd u119 hge16
        clear u119 hc13
        refine WL_nil ?_
        refine W_seq ?_
        refine W_region rfl ?_   -- region 13
        refine WL_some (og rfl ?_)
        (first | refine r_move_int rfl ?_ | refine r_move rfl ?_)
        refine WL_some (og rfl ?_)
        (first | (refine r_conv rfl ?_ ?_; (constructor <;> omega)) | refine r_convw rfl ?_)
        refine WL_some (og rfl ?_)
        refine r_fieldAddr rfl ?_
        refine WL_none (og rfl ?_)
        refine r_store1 (v := .int _ _) rfl rfl (by rfl) hc118 (by rfl) (by rfl) ?_
        intro w123 hc124 u125
        replace hc4 := u125.heap hc4 ne17
        replace G := G.upd u125 hge16
        clear u125 hc118
        refine WL_nil ?_
        refine W_region rfl ?_   -- region 14
        refine WL_some (og rfl ?_)
        (first | refine r_move_int rfl ?_ | refine r_move rfl ?_)
        refine WL_some (og rfl ?_)
        (first | (refine r_rem rfl rfl ?_ ?_ ?_; omega; omega) | (refine r_remw rfl rfl ?_ ?_; omega))
        refine WL_some (og rfl ?_)
        refine r_eql rfl rfl ?_
        refine WL_some (og rfl ?_)
        refine r_fieldAddr rfl ?_
        refine WL_none (og rfl ?_)
        refine r_store1 (v := .bool _) rfl rfl (by rfl) hc124 (by rfl) (by rfl) ?_
        intro w129 hc130 u131
        replace hc4 := u131.heap hc4 ne17
        replace G := G.upd u131 hge16
        clear u131 hc124
        refine WL_nil ?_
        refine W_seq ?_
        refine W_seq ?_
        refine W_region rfl ?_   -- region 15
        refine WL_some (og rfl ?_)
        (first | refine r_move_int rfl ?_ | refine r_move rfl ?_)
        refine WL_some (og rfl ?_)
        (first | (refine r_gtr_t rfl rfl ?_ ?_; (first | assumption | omega)) | (refine r_gtr_f rfl rfl ?_ ?_; (first | assumption | omega)) | refine r_gtr rfl rfl ?_)
        refine WL_nil ?_
        refine W_cond2 rfl (fun hg => ?_) (fun hg => ?_)
        ·  -- true
          first | (replace hg := of_decide_eq_true hg) | (replace hg := of_decide_eq_false hg) | skip
          refine W_seq ?_
          refine W_region rfl ?_   -- region 16
          refine WL_some (og rfl ?_)
          (first | refine r_move_int rfl ?_ | refine r_move rfl ?_)
          refine WL_some (og rfl ?_)
          (first | (refine r_conv rfl ?_ ?_; (constructor <;> omega)) | refine r_convw rfl ?_)
          refine WL_some (og rfl ?_)
          refine r_fieldAddr rfl ?_
          refine WL_none (og rfl ?_)
          refine r_store1 (v := .int _ _) rfl rfl (by rfl) hc130 (by rfl) (by rfl) ?_
          intro w135 hc136 u137
          replace hc4 := u137.heap hc4 ne17
          replace G := G.upd u137 hge16
          clear u137 hc130
          refine WL_nil ?_
          refine W_seq ?_
          refine W_region rfl ?_   -- region 17
          refine WL_some (og rfl ?_)
          (first | refine r_move_int rfl ?_ | refine r_move rfl ?_)
          refine WL_some (og rfl ?_)
          (first | (refine r_rem rfl rfl ?_ ?_ ?_; omega; omega) | (refine r_remw rfl rfl ?_ ?_; omega))
          refine WL_some (og rfl ?_)
          (first | (refine r_conv rfl ?_ ?_; (constructor <;> omega)) | refine r_convw rfl ?_)
          refine WL_some (og rfl ?_)
          refine r_fieldAddr rfl ?_
          refine WL_none (og rfl ?_)
          refine r_store1 (v := .int _ _) rfl rfl (by rfl) hc136 (by rfl) (by rfl) ?_
          intro w141 hc142 u143
          replace hc4 := u143.heap hc4 ne17
          replace G := G.upd u143 hge16
          clear u143 hc136
          refine WL_nil ?_
          refine W_region rfl ?_   -- region 18
          refine WL_some (og rfl ?_)
          refine r_fieldAddr rfl ?_
          refine WL_some (og rfl ?_)
          refine r_load rfl (by assumption) (by rfl) ?_
          refine WL_some (og rfl ?_)
          (first | refine r_move_int rfl ?_ | refine r_move rfl ?_)
          refine WL_some (og rfl ?_)
          (first | (refine r_rem rfl rfl ?_ ?_ ?_; omega; omega) | (refine r_remw rfl rfl ?_ ?_; omega))
          refine WL_some (og rfl ?_)
          (first | (refine r_conv rfl ?_ ?_; (constructor <;> omega)) | refine r_convw rfl ?_)
          refine WL_some (og rfl ?_)
          (first | (refine r_add rfl rfl ?_ ?_; (constructor <;> omega)) | refine r_addw rfl rfl ?_)
          refine WL_some (og rfl ?_)
          refine r_fieldAddr rfl ?_
          refine WL_none (og rfl ?_)
          refine r_store1 (v := .int _ _) rfl rfl (by rfl) hc142 (by rfl) (by rfl) ?_
          intro w147 hc148 u149
          replace hc4 := u149.heap hc4 ne17
          replace G := G.upd u149 hge16
          clear u149 hc142
          refine WL_nil ?_
          refine W_seq ?_
          refine W_region rfl ?_   -- region 19
          refine WL_some (og rfl ?_)
          (first | refine r_loadAll rfl (by assumption) (by rfl) ?_ | refine r_loadN rfl (by assumption) (by rfl) (by rfl) ?_)
          refine WL_none (og rfl ?_)
          refine r_storeAll rfl rfl hc4 (by rfl) (by rfl) (by rfl) ?_
          intro w153 hc154 u155
          replace hc148 := u155.heap hc148 ne17.symm
          replace G := G.upd u155 hge6
          clear u155 hc4
          refine WL_nil ?_
          refine W_ret ?_
          refine ret1 (res_all rfl (by assumption) (by rfl)) ⟨?_, G⟩
          simp [ptrF, ptrF0, Pt0, h1, h2, h3, hg]
        ·  -- false
          first | (replace hg := of_decide_eq_true hg) | (replace hg := of_decide_eq_false hg) | skip
          refine W_skip ?_
          refine W_seq ?_
          refine W_region rfl ?_   -- region 19
          refine WL_some (og rfl ?_)
          (first | refine r_loadAll rfl (by assumption) (by rfl) ?_ | refine r_loadN rfl (by assumption) (by rfl) (by rfl) ?_)
          refine WL_none (og rfl ?_)
          refine r_storeAll rfl rfl hc4 (by rfl) (by rfl) (by rfl) ?_
          intro w159 hc160 u161
          replace hc130 := u161.heap hc130 ne17.symm
          replace G := G.upd u161 hge6
          clear u161 hc4
          refine WL_nil ?_
          refine W_ret ?_
          refine ret1 (res_all rfl (by assumption) (by rfl)) ⟨?_, G⟩
          simp [ptrF, ptrF0, Pt0, h1, h2, h3, hg]
      ·  -- false
        first | (replace h3 := of_decide_eq_true h3) | (replace h3 := of_decide_eq_false h3) | skip
        have h4 : k % 4 = 0 := by omega
        refine W_skip ?_
        refine W_seq ?_
        refine W_seq ?_
        refine W_region rfl ?_   -- region 15
        refine WL_some (og rfl ?_)
        (first | refine r_move_int rfl ?_ | refine r_move rfl ?_)
        refine WL_some (og rfl ?_)
        (first | (refine r_gtr_t rfl rfl ?_ ?_; (first | assumption | omega)) | (refine r_gtr_f rfl rfl ?_ ?_; (first | assumption | omega)) | refine r_gtr rfl rfl ?_)
        refine WL_nil ?_
        refine W_cond2 rfl (fun hg => ?_) (fun hg => ?_)
        ·  -- true
          first | (replace hg := of_decide_eq_true hg) | (replace hg := of_decide_eq_false hg) | skip
          refine W_seq ?_
          refine W_region rfl ?_   -- region 16
          refine WL_some (og rfl ?_)
          (first | refine r_move_int rfl ?_ | refine r_move rfl ?_)
          refine WL_some (og rfl ?_)
          (first | (refine r_conv rfl ?_ ?_; (constructor <;> omega)) | refine r_convw rfl ?_)
          refine WL_some (og rfl ?_)
          refine r_fieldAddr rfl ?_
          refine WL_none (og rfl ?_)
          refine r_store1 (v := .int _ _) rfl rfl (by rfl) hc13 (by rfl) (by rfl) ?_
          intro w165 hc166 u167
          replace hc4 := u167.heap hc4 ne17
          replace G := G.upd u167 hge16
          clear u167 hc13
          refine WL_nil ?_
          refine W_seq ?_
          refine W_region rfl ?_   -- region 17
          refine WL_some (og rfl ?_)
          (first | refine r_move_int rfl ?_ | refine r_move rfl ?_)
          refine WL_some (og rfl ?_)
          (first | (refine r_rem rfl rfl ?_ ?_ ?_; omega; omega) | (refine r_remw rfl rfl ?_ ?_; omega))
          refine WL_some (og rfl ?_)
          (first | (refine r_conv rfl ?_ ?_; (constructor <;> omega)) | refine r_convw rfl ?_)
          refine WL_some (og rfl ?_)
          refine r_fieldAddr rfl ?_
          refine WL_none (og rfl ?_)
          refine r_store1 (v := .int _ _) rfl rfl (by rfl) hc166 (by rfl) (by rfl) ?_
          intro w171 hc172 u173
          replace hc4 := u173.heap hc4 ne17
          replace G := G.upd u173 hge16
          clear u173 hc166
          refine WL_nil ?_
          refine W_region rfl ?_   -- region 18
          refine WL_some (og rfl ?_)
          refine r_fieldAddr rfl ?_
          refine WL_some (og rfl ?_)
          refine r_load rfl (by assumption) (by rfl) ?_
          refine WL_some (og rfl ?_)
          (first | refine r_move_int rfl ?_ | refine r_move rfl ?_)
          refine WL_some (og rfl ?_)
          (first | (refine r_rem rfl rfl ?_ ?_ ?_; omega; omega) | (refine r_remw rfl rfl ?_ ?_; omega))
          refine WL_some (og rfl ?_)
          (first | (refine r_conv rfl ?_ ?_; (constructor <;> omega)) | refine r_convw rfl ?_)
          refine WL_some (og rfl ?_)
          (first | (refine r_add rfl rfl ?_ ?_; (constructor <;> omega)) | refine r_addw rfl rfl ?_)
          refine WL_some (og rfl ?_)
          refine r_fieldAddr rfl ?_
          refine WL_none (og rfl ?_)
          refine r_store1 (v := .int _ _) rfl rfl (by rfl) hc172 (by rfl) (by rfl) ?_
          intro w177 hc178 u179
          replace hc4 := u179.heap hc4 ne17
          replace G := G.upd u179 hge16
          clear u179 hc172
          refine WL_nil ?_
          refine W_seq ?_
          refine W_region rfl ?_   -- region 19
          refine WL_some (og rfl ?_)
          (first | refine r_loadAll rfl (by assumption) (by rfl) ?_ | refine r_loadN rfl (by assumption) (by rfl) (by rfl) ?_)
          refine WL_none (og rfl ?_)
          refine r_storeAll rfl rfl hc4 (by rfl) (by rfl) (by rfl) ?_
          intro w183 hc184 u185
          replace hc178 := u185.heap hc178 ne17.symm
          replace G := G.upd u185 hge6
          clear u185 hc4
          refine WL_nil ?_
          refine W_ret ?_
          refine ret1 (res_all rfl (by assumption) (by rfl)) ⟨?_, G⟩
          simp [ptrF, ptrF0, Pt0, h1, h2, h3, h4, hg]
        ·  -- false
          first | (replace hg := of_decide_eq_true hg) | (replace hg := of_decide_eq_false hg) | skip
          refine W_skip ?_
          refine W_seq ?_
          refine W_region rfl ?_   -- region 19
          refine WL_some (og rfl ?_)
          (first | refine r_loadAll rfl (by assumption) (by rfl) ?_ | refine r_loadN rfl (by assumption) (by rfl) (by rfl) ?_)
          refine WL_none (og rfl ?_)
          refine r_storeAll rfl rfl hc4 (by rfl) (by rfl) (by rfl) ?_
          intro w189 hc190 u191
          replace hc13 := u191.heap hc13 ne17.symm
          replace G := G.upd u191 hge6
          clear u191 hc4
          refine WL_nil ?_
          refine W_ret ?_
          refine ret1 (res_all rfl (by assumption) (by rfl)) ⟨?_, G⟩
          simp [ptrF, ptrF0, Pt0, h1, h2, h3, h4, hg]

set_option maxRecDepth 100000 in
theorem PtrFields_calls (w : World) (a b c k v : Int) (ha : 0 ≤ a ∧ a ≤ 4294967295) (hb : 0 ≤ b ∧ b ≤ 4294967295) (hc : 0 ≤ c ∧ c ≤ 4294967295) (hk : 0 ≤ k ∧ k ≤ 255) (hv : 0 ≤ v ∧ v ≤ 255) : Gives Try.prog 4 #[.int .u32 a, .int .u32 b, .int .u32 c, .int .u8 k, .int .u8 v] w (.bool true) := by
  have G := Grow.rfl' w
  refine gives_of Try.func4 Try.ntmps4 Try.results4 rfl rfl ?_
  have hok := ptrF_ok a b c (1 + k % 3) ha hb hc (by omega)
  obtain ⟨p, hp⟩ : ∃ p, p = ptrF a b c (1 + k % 3) := ⟨_, rfl⟩
  rw [← hp] at hok
  by_cases hz : p = ⟨1, 0, 0, 0, 0, 0, 0, false⟩
  ·
    refine W_seq ?_
    refine W_region rfl ?_   -- region 0
    refine WL_some (og rfl ?_)
    (first | refine r_assign_bool rfl ?_ | refine r_assign rfl ?_)
    refine WL_nil ?_
    refine W_seq ?_
    refine W_region rfl ?_   -- region 1
    refine WL_some (og rfl ?_)
    (first | refine r_move_int rfl ?_ | refine r_move rfl ?_)
    refine WL_some (og rfl ?_)
    (first | refine r_move_int rfl ?_ | refine r_move rfl ?_)
    refine WL_some (og rfl ?_)
    (first | refine r_move_int rfl ?_ | refine r_move rfl ?_)
    refine WL_some (og rfl ?_)
    (first | refine r_move_int rfl ?_ | refine r_move rfl ?_)
    refine WL_some (og rfl ?_)
    (first | (refine r_rem rfl rfl ?_ ?_ ?_; omega; omega) | (refine r_remw rfl rfl ?_ ?_; omega))
    refine WL_some (og rfl ?_)
    (first | (refine r_add rfl rfl ?_ ?_; (constructor <;> omega)) | refine r_addw rfl rfl ?_)
    refine WL_some (og rfl ?_)
    refine r_gives rfl (gives_eq (Ptr_calls _ a b c (1 + k % 3) ha hb hc (by omega)) (y := .agg #[.int .i64 (p.kind), .int .i64 (p.off), .int .i64 (p.data), .int .i64 (p.ptrs), .int .i64 (p.size), .int .i64 (p.count), .int .i64 (p.seg), .bool p.dbl]) (by rw [hp])) ?_
    intro w1 g2
    replace G := G.tr g2
    clear g2
    refine WL_some (og rfl ?_)
    refine r_alloc ?_
    intro b3 w4 hb5 hc6 g7
    refine WL_none (og rfl ?_)
    refine r_storeAll rfl rfl hc6 (by rfl) (by rfl) (by rfl) ?_
    intro w8 hc9 u10
    have g11 := g7.upd u10 hb5
    have hge12 := Nat.le_trans G.size hb5
    replace G := G.tr g11
    clear u10 g7 hb5 hc6
    refine WL_nil ?_
    refine W_seq ?_
    refine W_seq ?_
    refine W_region rfl ?_   -- region 2
    refine WL_some (og rfl ?_)
    (first | refine r_loadAll rfl (by assumption) (by rfl) ?_ | refine r_loadN rfl (by assumption) (by rfl) (by rfl) ?_)
    refine WL_some (og rfl ?_)
    refine r_build (v := .agg #[.int .i64 (1), .int .i64 (0), .int .i64 (0), .int .i64 (0), .int .i64 (0), .int .i64 (0), .int .i64 (0), .bool false]) (fun w => by kernel_rfl) ?_
    refine WL_some (og rfl ?_)
    refine r_eqlS' (r' := true) rfl rfl (by rfl) (by rw [hz]; rfl) ?_
    refine WL_nil ?_
    refine W_true rfl ?_
    refine W_seq ?_
    refine W_region rfl ?_   -- region 3
    refine WL_some (og rfl ?_)
    refine r_gives rfl (known_calls _) ?_
    intro w13 g14
    replace hc9 := g14.heap hc9
    replace G := G.tr g14
    clear g14
    refine WL_some (og rfl ?_)
    (first | refine r_assign_bool rfl ?_ | refine r_assign rfl ?_)
    refine WL_nil ?_
    refine W_ret ?_
    exact ret1 (res_bool rfl) ⟨rfl, G⟩
  ·
    have hok2 := hok.resolve_right hz
    obtain ⟨ep, _⟩ := encE_ok p hok2
    refine W_seq ?_
    refine W_region rfl ?_   -- region 0
    refine WL_some (og rfl ?_)
    (first | refine r_assign_bool rfl ?_ | refine r_assign rfl ?_)
    refine WL_nil ?_
    refine W_seq ?_
    refine W_region rfl ?_   -- region 1
    refine WL_some (og rfl ?_)
    (first | refine r_move_int rfl ?_ | refine r_move rfl ?_)
    refine WL_some (og rfl ?_)
    (first | refine r_move_int rfl ?_ | refine r_move rfl ?_)
    refine WL_some (og rfl ?_)
    (first | refine r_move_int rfl ?_ | refine r_move rfl ?_)
    refine WL_some (og rfl ?_)
    (first | refine r_move_int rfl ?_ | refine r_move rfl ?_)
    refine WL_some (og rfl ?_)
    (first | (refine r_rem rfl rfl ?_ ?_ ?_; omega; omega) | (refine r_remw rfl rfl ?_ ?_; omega))
    refine WL_some (og rfl ?_)
    (first | (refine r_add rfl rfl ?_ ?_; (constructor <;> omega)) | refine r_addw rfl rfl ?_)
    refine WL_some (og rfl ?_)
    refine r_gives rfl (gives_eq (Ptr_calls _ a b c (1 + k % 3) ha hb hc (by omega)) (y := .agg #[.int .i64 (p.kind), .int .i64 (p.off), .int .i64 (p.data), .int .i64 (p.ptrs), .int .i64 (p.size), .int .i64 (p.count), .int .i64 (p.seg), .bool p.dbl]) (by rw [hp])) ?_
    intro w15 g16
    replace G := G.tr g16
    clear g16
    refine WL_some (og rfl ?_)
    refine r_alloc ?_
    intro b17 w18 hb19 hc20 g21
    refine WL_none (og rfl ?_)
    refine r_storeAll rfl rfl hc20 (by rfl) (by rfl) (by rfl) ?_
    intro w22 hc23 u24
    have g25 := g21.upd u24 hb19
    have hge26 := Nat.le_trans G.size hb19
    replace G := G.tr g25
    clear u24 g21 hb19 hc20
    refine WL_nil ?_
    refine W_seq ?_
    refine W_seq ?_
    refine W_region rfl ?_   -- region 2
    refine WL_some (og rfl ?_)
    (first | refine r_loadAll rfl (by assumption) (by rfl) ?_ | refine r_loadN rfl (by assumption) (by rfl) (by rfl) ?_)
    refine WL_some (og rfl ?_)
    refine r_build (v := .agg #[.int .i64 (1), .int .i64 (0), .int .i64 (0), .int .i64 (0), .int .i64 (0), .int .i64 (0), .int .i64 (0), .bool false]) (fun w => by kernel_rfl) ?_
    refine WL_some (og rfl ?_)
    refine r_eqlS' (r' := false) rfl rfl (by rfl) (by cases hb2 : (decide (p.kind = 1) && (decide (p.off = 0) && (decide (p.data = 0) && (decide (p.ptrs = 0) && (decide (p.size = 0) && (decide (p.count = 0) && (decide (p.seg = 0) && ((p.dbl == false) && true)))))))) with | false => rfl | true => exact absurd (by obtain ⟨_, _, _, _, _, _, _, _⟩ := p; simpa [and_assoc] using hb2) hz) ?_
    refine WL_nil ?_
    refine W_false rfl ?_
    refine W_skip ?_
    refine W_seq ?_
    refine W_region rfl ?_   -- region 4
    refine WL_some (og rfl ?_)
    (first | refine r_loadAll rfl (by assumption) (by rfl) ?_ | refine r_loadN rfl (by assumption) (by rfl) (by rfl) ?_)
    refine WL_some (og rfl ?_)
    refine r_alloc ?_
    intro b27 w28 hb29 hc30 g31
    refine WL_none (og rfl ?_)
    refine r_storeAll rfl rfl hc30 (by rfl) (by rfl) (by rfl) ?_
    intro w32 hc33 u34
    have g35 := g31.upd u34 hb29
    have hge36 := Nat.le_trans G.size hb29
    have ne37 := Nat.ne_of_lt (Nat.lt_of_lt_of_le (lt_of_heap hc23) hb29)
    replace hc23 := g35.heap hc23
    replace G := G.tr g35
    clear u34 g31 hb29 hc30
    refine WL_nil ?_
    refine W_seq ?_
    refine W_seq ?_
    refine W_region rfl ?_   -- region 5
    refine WL_some (og rfl ?_)
    (first | refine r_move_int rfl ?_ | refine r_move rfl ?_)
    refine WL_some (og rfl ?_)
    (first | (refine r_rem rfl rfl ?_ ?_ ?_; omega; omega) | (refine r_remw rfl rfl ?_ ?_; omega))
    refine WL_nil ?_
    refine W_block ?_
    refine W_seq ?_
    refine W_region rfl ?_   -- region 7
    refine WL_some (og rfl ?_)
    (first | (refine r_eql_t rfl rfl ?_ ?_; (first | assumption | omega)) | (refine r_eql_f rfl rfl ?_ ?_; (first | assumption | omega)) | refine r_eql rfl rfl ?_)
    refine WL_some (og rfl ?_)
    (first | refine r_assign_bool rfl ?_ | refine r_assign rfl ?_)
    refine WL_nil ?_
    refine W_cond2 rfl (fun v0 => ?_) (fun v0 => ?_)
    ·  -- true
      first | (replace v0 := of_decide_eq_true v0) | (replace v0 := of_decide_eq_false v0) | skip
      refine W_seq ?_
      refine W_region rfl ?_   -- region 8
      refine WL_some (og rfl ?_)
      refine r_fieldAddr rfl ?_
      refine WL_none (og rfl ?_)
      refine r_store1 (v := .int _ _) rfl rfl (by rfl) hc33 (by rfl) (by rfl) ?_
      intro w41 hc42 u43
      replace hc23 := u43.heap hc23 ne37
      replace G := G.upd u43 hge36
      clear u43 hc33
      refine WL_nil ?_
      refine W_seq ?_
      refine W_region rfl ?_   -- region 9
      refine WL_some (og rfl ?_)
      refine r_fieldAddr rfl ?_
      refine WL_some (og rfl ?_)
      refine r_load rfl (by assumption) (by rfl) ?_
      refine WL_some (og rfl ?_)
      (first | (refine r_eql_t rfl rfl ?_ ?_; (first | assumption | omega)) | (refine r_eql_f rfl rfl ?_ ?_; (first | assumption | omega)) | refine r_eql rfl rfl ?_)
      refine WL_nil ?_
      refine W_cond2 rfl (fun hk3 => ?_) (fun hk3 => ?_)
      ·  -- true
        first | (replace hk3 := of_decide_eq_true hk3) | (replace hk3 := of_decide_eq_false hk3) | skip
        obtain ⟨eq, _⟩ := encE_bad ⟨p.kind, -1, p.data, p.ptrs, p.size, p.count, p.seg, p.dbl⟩ (fun h => by have := okP_range _ h; simp only at this; omega)
        refine W_region rfl ?_   -- region 10
        refine WL_some (og rfl ?_)
        refine r_fieldAddr rfl ?_
        refine WL_none (og rfl ?_)
        refine r_store1 (v := .int _ _) rfl rfl (by rfl) hc42 (by rfl) (by rfl) ?_
        intro w47 hc48 u49
        replace hc23 := u49.heap hc23 ne37
        replace G := G.upd u49 hge36
        clear u49 hc42
        refine WL_nil ?_
        refine W_seq ?_
        refine W_region rfl ?_   -- region 19
        refine WL_some (og rfl ?_)
        (first | refine r_loadAll rfl (by assumption) (by rfl) ?_ | refine r_loadN rfl (by assumption) (by rfl) (by rfl) ?_)
        refine WL_some (og rfl ?_)
        refine r_gives rfl (encode_calls _ p) ?_
        intro w50 g51
        replace hc23 := g51.heap hc23
        replace hc48 := g51.heap hc48
        replace G := G.tr g51
        clear g51
        refine WL_some (og rfl ?_)
        (first | refine r_move_tuple rfl ?_ | refine r_move rfl ?_)
        refine WL_some (og rfl ?_)
        refine r_extract rfl rfl ?_
        refine WL_some (og rfl ?_)
        refine r_extract rfl rfl ?_
        refine WL_some (og rfl ?_)
        (first | refine r_assign_int rfl ?_ | refine r_assign rfl ?_)
        refine WL_some (og rfl ?_)
        (first | refine r_assign_int rfl ?_ | refine r_assign rfl ?_)
        refine WL_nil ?_
        refine W_seq ?_
        refine W_region rfl ?_   -- region 20
        refine WL_some (og rfl ?_)
        (first | refine r_loadAll rfl (by assumption) (by rfl) ?_ | refine r_loadN rfl (by assumption) (by rfl) (by rfl) ?_)
        refine WL_some (og rfl ?_)
        refine r_gives rfl (encode_calls _ ⟨p.kind, -1, p.data, p.ptrs, p.size, p.count, p.seg, p.dbl⟩) ?_
        intro w52 g53
        replace hc23 := g53.heap hc23
        replace hc48 := g53.heap hc48
        replace G := G.tr g53
        clear g53
        refine WL_some (og rfl ?_)
        (first | refine r_move_tuple rfl ?_ | refine r_move rfl ?_)
        refine WL_some (og rfl ?_)
        refine r_extract rfl rfl ?_
        refine WL_some (og rfl ?_)
        refine r_extract rfl rfl ?_
        refine WL_some (og rfl ?_)
        (first | refine r_assign_int rfl ?_ | refine r_assign rfl ?_)
        refine WL_some (og rfl ?_)
        (first | refine r_assign_int rfl ?_ | refine r_assign rfl ?_)
        refine WL_nil ?_
        refine W_seq ?_
        refine W_region rfl ?_   -- region 21
        refine WL_some (og rfl ?_)
        refine r_gives rfl (known_calls _) ?_
        intro w54 g55
        replace hc23 := g55.heap hc23
        replace hc48 := g55.heap hc48
        replace G := G.tr g55
        clear g55
        refine WL_some (og rfl ?_)
        (first | refine r_move_bool rfl ?_ | refine r_move rfl ?_)
        refine WL_some (og rfl ?_)
        (first | refine r_move_int rfl ?_ | refine r_move rfl ?_)
        refine WL_some (og rfl ?_)
        (first | (refine r_eql_t rfl rfl ?_ ?_; (first | assumption | omega)) | (refine r_eql_f rfl rfl ?_ ?_; (first | assumption | omega)) | refine r_eql rfl rfl ?_)
        refine WL_some (og rfl ?_)
        (first | (refine r_pick_t rfl ?_ rfl ?_; (first | rfl | assumption)) | (refine r_pick_f rfl ?_ rfl ?_; (first | rfl | assumption)))
        refine WL_some (og rfl ?_)
        (first | refine r_move_bool rfl ?_ | refine r_move rfl ?_)
        refine WL_some (og rfl ?_)
        (first | refine r_move_int rfl ?_ | refine r_move rfl ?_)
        refine WL_some (og rfl ?_)
        (first | (refine r_eql_t rfl rfl ?_ ?_; (first | assumption | omega)) | (refine r_eql_f rfl rfl ?_ ?_; (first | assumption | omega)) | refine r_eql rfl rfl ?_)
        refine WL_some (og rfl ?_)
        (first | (refine r_pick_t rfl ?_ rfl ?_; (first | rfl | assumption)) | (refine r_pick_f rfl ?_ rfl ?_; (first | rfl | assumption)))
        refine WL_some (og rfl ?_)
        (first | refine r_assign_bool rfl ?_ | refine r_assign rfl ?_)
        refine WL_nil ?_
        refine W_ret ?_
        exact ret1 (res_bool rfl) ⟨rfl, G⟩
      ·  -- false
        first | (replace hk3 := of_decide_eq_true hk3) | (replace hk3 := of_decide_eq_false hk3) | skip
        obtain ⟨eq, _⟩ := encE_bad ⟨p.kind, 536870912, p.data, p.ptrs, p.size, p.count, p.seg, p.dbl⟩ (fun h => by have := okP_range _ h; simp only at this; omega)
        refine W_skip ?_
        refine W_seq ?_
        refine W_region rfl ?_   -- region 19
        refine WL_some (og rfl ?_)
        (first | refine r_loadAll rfl (by assumption) (by rfl) ?_ | refine r_loadN rfl (by assumption) (by rfl) (by rfl) ?_)
        refine WL_some (og rfl ?_)
        refine r_gives rfl (encode_calls _ p) ?_
        intro w56 g57
        replace hc23 := g57.heap hc23
        replace hc42 := g57.heap hc42
        replace G := G.tr g57
        clear g57
        refine WL_some (og rfl ?_)
        (first | refine r_move_tuple rfl ?_ | refine r_move rfl ?_)
        refine WL_some (og rfl ?_)
        refine r_extract rfl rfl ?_
        refine WL_some (og rfl ?_)
        refine r_extract rfl rfl ?_
        refine WL_some (og rfl ?_)
        (first | refine r_assign_int rfl ?_ | refine r_assign rfl ?_)
        refine WL_some (og rfl ?_)
        (first | refine r_assign_int rfl ?_ | refine r_assign rfl ?_)
        refine WL_nil ?_
        refine W_seq ?_
        refine W_region rfl ?_   -- region 20
        refine WL_some (og rfl ?_)
        (first | refine r_loadAll rfl (by assumption) (by rfl) ?_ | refine r_loadN rfl (by assumption) (by rfl) (by rfl) ?_)
        refine WL_some (og rfl ?_)
        refine r_gives rfl (encode_calls _ ⟨p.kind, 536870912, p.data, p.ptrs, p.size, p.count, p.seg, p.dbl⟩) ?_
        intro w58 g59
        replace hc23 := g59.heap hc23
        replace hc42 := g59.heap hc42
        replace G := G.tr g59
        clear g59
        refine WL_some (og rfl ?_)
        (first | refine r_move_tuple rfl ?_ | refine r_move rfl ?_)
        refine WL_some (og rfl ?_)
        refine r_extract rfl rfl ?_
        refine WL_some (og rfl ?_)
        refine r_extract rfl rfl ?_
        refine WL_some (og rfl ?_)
        (first | refine r_assign_int rfl ?_ | refine r_assign rfl ?_)
        refine WL_some (og rfl ?_)
        (first | refine r_assign_int rfl ?_ | refine r_assign rfl ?_)
        refine WL_nil ?_
        refine W_seq ?_
        refine W_region rfl ?_   -- region 21
        refine WL_some (og rfl ?_)
        refine r_gives rfl (known_calls _) ?_
        intro w60 g61
        replace hc23 := g61.heap hc23
        replace hc42 := g61.heap hc42
        replace G := G.tr g61
        clear g61
        refine WL_some (og rfl ?_)
        (first | refine r_move_bool rfl ?_ | refine r_move rfl ?_)
        refine WL_some (og rfl ?_)
        (first | refine r_move_int rfl ?_ | refine r_move rfl ?_)
        refine WL_some (og rfl ?_)
        (first | (refine r_eql_t rfl rfl ?_ ?_; (first | assumption | omega)) | (refine r_eql_f rfl rfl ?_ ?_; (first | assumption | omega)) | refine r_eql rfl rfl ?_)
        refine WL_some (og rfl ?_)
        (first | (refine r_pick_t rfl ?_ rfl ?_; (first | rfl | assumption)) | (refine r_pick_f rfl ?_ rfl ?_; (first | rfl | assumption)))
        refine WL_some (og rfl ?_)
        (first | refine r_move_bool rfl ?_ | refine r_move rfl ?_)
        refine WL_some (og rfl ?_)
        (first | refine r_move_int rfl ?_ | refine r_move rfl ?_)
        refine WL_some (og rfl ?_)
        (first | (refine r_eql_t rfl rfl ?_ ?_; (first | assumption | omega)) | (refine r_eql_f rfl rfl ?_ ?_; (first | assumption | omega)) | refine r_eql rfl rfl ?_)
        refine WL_some (og rfl ?_)
        (first | (refine r_pick_t rfl ?_ rfl ?_; (first | rfl | assumption)) | (refine r_pick_f rfl ?_ rfl ?_; (first | rfl | assumption)))
        refine WL_some (og rfl ?_)
        (first | refine r_assign_bool rfl ?_ | refine r_assign rfl ?_)
        refine WL_nil ?_
        refine W_ret ?_
        exact ret1 (res_bool rfl) ⟨rfl, G⟩
    ·  -- false
      first | (replace v0 := of_decide_eq_true v0) | (replace v0 := of_decide_eq_false v0) | skip
      refine W_seq ?_
      refine W_region rfl ?_   -- region 11
      refine WL_some (og rfl ?_)
      (first | (refine r_eql_t rfl rfl ?_ ?_; (first | assumption | omega)) | (refine r_eql_f rfl rfl ?_ ?_; (first | assumption | omega)) | refine r_eql rfl rfl ?_)
      refine WL_some (og rfl ?_)
      (first | refine r_assign_bool rfl ?_ | refine r_assign rfl ?_)
      refine WL_nil ?_
      refine W_cond2 rfl (fun v1 => ?_) (fun v1 => ?_)
      ·  -- true
        first | (replace v1 := of_decide_eq_true v1) | (replace v1 := of_decide_eq_false v1) | skip
        obtain ⟨eq, _⟩ := encE_bad ⟨p.kind, p.off, 65536, p.ptrs, p.size, p.count, p.seg, p.dbl⟩ (fun h => by have := okP_range _ h; simp only at this; omega)
        refine W_region rfl ?_   -- region 12
        refine WL_some (og rfl ?_)
        refine r_fieldAddr rfl ?_
        refine WL_none (og rfl ?_)
        refine r_store1 (v := .int _ _) rfl rfl (by rfl) hc33 (by rfl) (by rfl) ?_
        intro w65 hc66 u67
        replace hc23 := u67.heap hc23 ne37
        replace G := G.upd u67 hge36
        clear u67 hc33
        refine WL_nil ?_
        refine W_seq ?_
        refine W_region rfl ?_   -- region 19
        refine WL_some (og rfl ?_)
        (first | refine r_loadAll rfl (by assumption) (by rfl) ?_ | refine r_loadN rfl (by assumption) (by rfl) (by rfl) ?_)
        refine WL_some (og rfl ?_)
        refine r_gives rfl (encode_calls _ p) ?_
        intro w68 g69
        replace hc23 := g69.heap hc23
        replace hc66 := g69.heap hc66
        replace G := G.tr g69
        clear g69
        refine WL_some (og rfl ?_)
        (first | refine r_move_tuple rfl ?_ | refine r_move rfl ?_)
        refine WL_some (og rfl ?_)
        refine r_extract rfl rfl ?_
        refine WL_some (og rfl ?_)
        refine r_extract rfl rfl ?_
        refine WL_some (og rfl ?_)
        (first | refine r_assign_int rfl ?_ | refine r_assign rfl ?_)
        refine WL_some (og rfl ?_)
        (first | refine r_assign_int rfl ?_ | refine r_assign rfl ?_)
        refine WL_nil ?_
        refine W_seq ?_
        refine W_region rfl ?_   -- region 20
        refine WL_some (og rfl ?_)
        (first | refine r_loadAll rfl (by assumption) (by rfl) ?_ | refine r_loadN rfl (by assumption) (by rfl) (by rfl) ?_)
        refine WL_some (og rfl ?_)
        refine r_gives rfl (encode_calls _ ⟨p.kind, p.off, 65536, p.ptrs, p.size, p.count, p.seg, p.dbl⟩) ?_
        intro w70 g71
        replace hc23 := g71.heap hc23
        replace hc66 := g71.heap hc66
        replace G := G.tr g71
        clear g71
        refine WL_some (og rfl ?_)
        (first | refine r_move_tuple rfl ?_ | refine r_move rfl ?_)
        refine WL_some (og rfl ?_)
        refine r_extract rfl rfl ?_
        refine WL_some (og rfl ?_)
        refine r_extract rfl rfl ?_
        refine WL_some (og rfl ?_)
        (first | refine r_assign_int rfl ?_ | refine r_assign rfl ?_)
        refine WL_some (og rfl ?_)
        (first | refine r_assign_int rfl ?_ | refine r_assign rfl ?_)
        refine WL_nil ?_
        refine W_seq ?_
        refine W_region rfl ?_   -- region 21
        refine WL_some (og rfl ?_)
        refine r_gives rfl (known_calls _) ?_
        intro w72 g73
        replace hc23 := g73.heap hc23
        replace hc66 := g73.heap hc66
        replace G := G.tr g73
        clear g73
        refine WL_some (og rfl ?_)
        (first | refine r_move_bool rfl ?_ | refine r_move rfl ?_)
        refine WL_some (og rfl ?_)
        (first | refine r_move_int rfl ?_ | refine r_move rfl ?_)
        refine WL_some (og rfl ?_)
        (first | (refine r_eql_t rfl rfl ?_ ?_; (first | assumption | omega)) | (refine r_eql_f rfl rfl ?_ ?_; (first | assumption | omega)) | refine r_eql rfl rfl ?_)
        refine WL_some (og rfl ?_)
        (first | (refine r_pick_t rfl ?_ rfl ?_; (first | rfl | assumption)) | (refine r_pick_f rfl ?_ rfl ?_; (first | rfl | assumption)))
        refine WL_some (og rfl ?_)
        (first | refine r_move_bool rfl ?_ | refine r_move rfl ?_)
        refine WL_some (og rfl ?_)
        (first | refine r_move_int rfl ?_ | refine r_move rfl ?_)
        refine WL_some (og rfl ?_)
        (first | (refine r_eql_t rfl rfl ?_ ?_; (first | assumption | omega)) | (refine r_eql_f rfl rfl ?_ ?_; (first | assumption | omega)) | refine r_eql rfl rfl ?_)
        refine WL_some (og rfl ?_)
        (first | (refine r_pick_t rfl ?_ rfl ?_; (first | rfl | assumption)) | (refine r_pick_f rfl ?_ rfl ?_; (first | rfl | assumption)))
        refine WL_some (og rfl ?_)
        (first | refine r_assign_bool rfl ?_ | refine r_assign rfl ?_)
        refine WL_nil ?_
        refine W_ret ?_
        exact ret1 (res_bool rfl) ⟨rfl, G⟩
      ·  -- false
        first | (replace v1 := of_decide_eq_true v1) | (replace v1 := of_decide_eq_false v1) | skip
        refine W_seq ?_
        refine W_region rfl ?_   -- region 13
        refine WL_some (og rfl ?_)
        (first | (refine r_eql_t rfl rfl ?_ ?_; (first | assumption | omega)) | (refine r_eql_f rfl rfl ?_ ?_; (first | assumption | omega)) | refine r_eql rfl rfl ?_)
        refine WL_some (og rfl ?_)
        (first | refine r_assign_bool rfl ?_ | refine r_assign rfl ?_)
        refine WL_nil ?_
        refine W_cond2 rfl (fun v2 => ?_) (fun v2 => ?_)
        ·  -- true
          first | (replace v2 := of_decide_eq_true v2) | (replace v2 := of_decide_eq_false v2) | skip
          obtain ⟨eq, _⟩ := encE_bad ⟨p.kind, p.off, p.data, -1, p.size, p.count, p.seg, p.dbl⟩ (fun h => by have := okP_range _ h; simp only at this; omega)
          refine W_region rfl ?_   -- region 14
          refine WL_some (og rfl ?_)
          refine r_fieldAddr rfl ?_
          refine WL_none (og rfl ?_)
          refine r_store1 (v := .int _ _) rfl rfl (by rfl) hc33 (by rfl) (by rfl) ?_
          intro w77 hc78 u79
          replace hc23 := u79.heap hc23 ne37
          replace G := G.upd u79 hge36
          clear u79 hc33
          refine WL_nil ?_
          refine W_seq ?_
          refine W_region rfl ?_   -- region 19
          refine WL_some (og rfl ?_)
          (first | refine r_loadAll rfl (by assumption) (by rfl) ?_ | refine r_loadN rfl (by assumption) (by rfl) (by rfl) ?_)
          refine WL_some (og rfl ?_)
          refine r_gives rfl (encode_calls _ p) ?_
          intro w80 g81
          replace hc23 := g81.heap hc23
          replace hc78 := g81.heap hc78
          replace G := G.tr g81
          clear g81
          refine WL_some (og rfl ?_)
          (first | refine r_move_tuple rfl ?_ | refine r_move rfl ?_)
          refine WL_some (og rfl ?_)
          refine r_extract rfl rfl ?_
          refine WL_some (og rfl ?_)
          refine r_extract rfl rfl ?_
          refine WL_some (og rfl ?_)
          (first | refine r_assign_int rfl ?_ | refine r_assign rfl ?_)
          refine WL_some (og rfl ?_)
          (first | refine r_assign_int rfl ?_ | refine r_assign rfl ?_)
          refine WL_nil ?_
          refine W_seq ?_
          refine W_region rfl ?_   -- region 20
          refine WL_some (og rfl ?_)
          (first | refine r_loadAll rfl (by assumption) (by rfl) ?_ | refine r_loadN rfl (by assumption) (by rfl) (by rfl) ?_)
          refine WL_some (og rfl ?_)
          refine r_gives rfl (encode_calls _ ⟨p.kind, p.off, p.data, -1, p.size, p.count, p.seg, p.dbl⟩) ?_
          intro w82 g83
          replace hc23 := g83.heap hc23
          replace hc78 := g83.heap hc78
          replace G := G.tr g83
          clear g83
          refine WL_some (og rfl ?_)
          (first | refine r_move_tuple rfl ?_ | refine r_move rfl ?_)
          refine WL_some (og rfl ?_)
          refine r_extract rfl rfl ?_
          refine WL_some (og rfl ?_)
          refine r_extract rfl rfl ?_
          refine WL_some (og rfl ?_)
          (first | refine r_assign_int rfl ?_ | refine r_assign rfl ?_)
          refine WL_some (og rfl ?_)
          (first | refine r_assign_int rfl ?_ | refine r_assign rfl ?_)
          refine WL_nil ?_
          refine W_seq ?_
          refine W_region rfl ?_   -- region 21
          refine WL_some (og rfl ?_)
          refine r_gives rfl (known_calls _) ?_
          intro w84 g85
          replace hc23 := g85.heap hc23
          replace hc78 := g85.heap hc78
          replace G := G.tr g85
          clear g85
          refine WL_some (og rfl ?_)
          (first | refine r_move_bool rfl ?_ | refine r_move rfl ?_)
          refine WL_some (og rfl ?_)
          (first | refine r_move_int rfl ?_ | refine r_move rfl ?_)
          refine WL_some (og rfl ?_)
          (first | (refine r_eql_t rfl rfl ?_ ?_; (first | assumption | omega)) | (refine r_eql_f rfl rfl ?_ ?_; (first | assumption | omega)) | refine r_eql rfl rfl ?_)
          refine WL_some (og rfl ?_)
          (first | (refine r_pick_t rfl ?_ rfl ?_; (first | rfl | assumption)) | (refine r_pick_f rfl ?_ rfl ?_; (first | rfl | assumption)))
          refine WL_some (og rfl ?_)
          (first | refine r_move_bool rfl ?_ | refine r_move rfl ?_)
          refine WL_some (og rfl ?_)
          (first | refine r_move_int rfl ?_ | refine r_move rfl ?_)
          refine WL_some (og rfl ?_)
          (first | (refine r_eql_t rfl rfl ?_ ?_; (first | assumption | omega)) | (refine r_eql_f rfl rfl ?_ ?_; (first | assumption | omega)) | refine r_eql rfl rfl ?_)
          refine WL_some (og rfl ?_)
          (first | (refine r_pick_t rfl ?_ rfl ?_; (first | rfl | assumption)) | (refine r_pick_f rfl ?_ rfl ?_; (first | rfl | assumption)))
          refine WL_some (og rfl ?_)
          (first | refine r_assign_bool rfl ?_ | refine r_assign rfl ?_)
          refine WL_nil ?_
          refine W_ret ?_
          exact ret1 (res_bool rfl) ⟨rfl, G⟩
        ·  -- false
          first | (replace v2 := of_decide_eq_true v2) | (replace v2 := of_decide_eq_false v2) | skip
          refine W_seq ?_
          refine W_region rfl ?_   -- region 15
          refine WL_some (og rfl ?_)
          (first | (refine r_eql_t rfl rfl ?_ ?_; (first | assumption | omega)) | (refine r_eql_f rfl rfl ?_ ?_; (first | assumption | omega)) | refine r_eql rfl rfl ?_)
          refine WL_some (og rfl ?_)
          (first | refine r_assign_bool rfl ?_ | refine r_assign rfl ?_)
          refine WL_nil ?_
          refine W_cond2 rfl (fun v3 => ?_) (fun v3 => ?_)
          ·  -- true
            first | (replace v3 := of_decide_eq_true v3) | (replace v3 := of_decide_eq_false v3) | skip
            obtain ⟨eq, _⟩ := encE_bad ⟨p.kind, p.off, p.data, p.ptrs, 8, p.count, p.seg, p.dbl⟩ (fun h => by have := okP_range _ h; simp only at this; omega)
            refine W_region rfl ?_   -- region 16
            refine WL_some (og rfl ?_)
            refine r_fieldAddr rfl ?_
            refine WL_none (og rfl ?_)
            refine r_store1 (v := .int _ _) rfl rfl (by rfl) hc33 (by rfl) (by rfl) ?_
            intro w89 hc90 u91
            replace hc23 := u91.heap hc23 ne37
            replace G := G.upd u91 hge36
            clear u91 hc33
            refine WL_nil ?_
            refine W_seq ?_
            refine W_region rfl ?_   -- region 19
            refine WL_some (og rfl ?_)
            (first | refine r_loadAll rfl (by assumption) (by rfl) ?_ | refine r_loadN rfl (by assumption) (by rfl) (by rfl) ?_)
            refine WL_some (og rfl ?_)
            refine r_gives rfl (encode_calls _ p) ?_
            intro w92 g93
            replace hc23 := g93.heap hc23
            replace hc90 := g93.heap hc90
            replace G := G.tr g93
            clear g93
            refine WL_some (og rfl ?_)
            (first | refine r_move_tuple rfl ?_ | refine r_move rfl ?_)
            refine WL_some (og rfl ?_)
            refine r_extract rfl rfl ?_
            refine WL_some (og rfl ?_)
            refine r_extract rfl rfl ?_
            refine WL_some (og rfl ?_)
            (first | refine r_assign_int rfl ?_ | refine r_assign rfl ?_)
            refine WL_some (og rfl ?_)
            (first | refine r_assign_int rfl ?_ | refine r_assign rfl ?_)
            refine WL_nil ?_
            refine W_seq ?_
            refine W_region rfl ?_   -- region 20
            refine WL_some (og rfl ?_)
            (first | refine r_loadAll rfl (by assumption) (by rfl) ?_ | refine r_loadN rfl (by assumption) (by rfl) (by rfl) ?_)
            refine WL_some (og rfl ?_)
            refine r_gives rfl (encode_calls _ ⟨p.kind, p.off, p.data, p.ptrs, 8, p.count, p.seg, p.dbl⟩) ?_
            intro w94 g95
            replace hc23 := g95.heap hc23
            replace hc90 := g95.heap hc90
            replace G := G.tr g95
            clear g95
            refine WL_some (og rfl ?_)
            (first | refine r_move_tuple rfl ?_ | refine r_move rfl ?_)
            refine WL_some (og rfl ?_)
            refine r_extract rfl rfl ?_
            refine WL_some (og rfl ?_)
            refine r_extract rfl rfl ?_
            refine WL_some (og rfl ?_)
            (first | refine r_assign_int rfl ?_ | refine r_assign rfl ?_)
            refine WL_some (og rfl ?_)
            (first | refine r_assign_int rfl ?_ | refine r_assign rfl ?_)
            refine WL_nil ?_
            refine W_seq ?_
            refine W_region rfl ?_   -- region 21
            refine WL_some (og rfl ?_)
            refine r_gives rfl (known_calls _) ?_
            intro w96 g97
            replace hc23 := g97.heap hc23
            replace hc90 := g97.heap hc90
            replace G := G.tr g97
            clear g97
            refine WL_some (og rfl ?_)
            (first | refine r_move_bool rfl ?_ | refine r_move rfl ?_)
            refine WL_some (og rfl ?_)
            (first | refine r_move_int rfl ?_ | refine r_move rfl ?_)
            refine WL_some (og rfl ?_)
            (first | (refine r_eql_t rfl rfl ?_ ?_; (first | assumption | omega)) | (refine r_eql_f rfl rfl ?_ ?_; (first | assumption | omega)) | refine r_eql rfl rfl ?_)
            refine WL_some (og rfl ?_)
            (first | (refine r_pick_t rfl ?_ rfl ?_; (first | rfl | assumption)) | (refine r_pick_f rfl ?_ rfl ?_; (first | rfl | assumption)))
            refine WL_some (og rfl ?_)
            (first | refine r_move_bool rfl ?_ | refine r_move rfl ?_)
            refine WL_some (og rfl ?_)
            (first | refine r_move_int rfl ?_ | refine r_move rfl ?_)
            refine WL_some (og rfl ?_)
            (first | (refine r_eql_t rfl rfl ?_ ?_; (first | assumption | omega)) | (refine r_eql_f rfl rfl ?_ ?_; (first | assumption | omega)) | refine r_eql rfl rfl ?_)
            refine WL_some (og rfl ?_)
            (first | (refine r_pick_t rfl ?_ rfl ?_; (first | rfl | assumption)) | (refine r_pick_f rfl ?_ rfl ?_; (first | rfl | assumption)))
            refine WL_some (og rfl ?_)
            (first | refine r_assign_bool rfl ?_ | refine r_assign rfl ?_)
            refine WL_nil ?_
            refine W_ret ?_
            exact ret1 (res_bool rfl) ⟨rfl, G⟩
          ·  -- false
            first | (replace v3 := of_decide_eq_true v3) | (replace v3 := of_decide_eq_false v3) | skip
            refine W_seq ?_
            refine W_region rfl ?_   -- region 17
            refine WL_some (og rfl ?_)
            (first | (refine r_eql_t rfl rfl ?_ ?_; (first | assumption | omega)) | (refine r_eql_f rfl rfl ?_ ?_; (first | assumption | omega)) | refine r_eql rfl rfl ?_)
            refine WL_some (og rfl ?_)
            (first | refine r_assign_bool rfl ?_ | refine r_assign rfl ?_)
            refine WL_nil ?_
            refine W_cond2 rfl (fun v4 => ?_) (fun v4 => ?_)
            ·  -- true
              first | (replace v4 := of_decide_eq_true v4) | (replace v4 := of_decide_eq_false v4) | skip
              obtain ⟨eq, _⟩ := encE_bad ⟨p.kind, p.off, p.data, p.ptrs, p.size, 536870912, p.seg, p.dbl⟩ (fun h => by have := okP_range _ h; simp only at this; omega)
              refine W_region rfl ?_   -- region 18
              refine WL_some (og rfl ?_)
              refine r_fieldAddr rfl ?_
              refine WL_none (og rfl ?_)
              refine r_store1 (v := .int _ _) rfl rfl (by rfl) hc33 (by rfl) (by rfl) ?_
              intro w101 hc102 u103
              replace hc23 := u103.heap hc23 ne37
              replace G := G.upd u103 hge36
              clear u103 hc33
              refine WL_nil ?_
              refine W_seq ?_
              refine W_region rfl ?_   -- region 19
              refine WL_some (og rfl ?_)
              (first | refine r_loadAll rfl (by assumption) (by rfl) ?_ | refine r_loadN rfl (by assumption) (by rfl) (by rfl) ?_)
              refine WL_some (og rfl ?_)
              refine r_gives rfl (encode_calls _ p) ?_
              intro w104 g105
              replace hc23 := g105.heap hc23
              replace hc102 := g105.heap hc102
              replace G := G.tr g105
              clear g105
              refine WL_some (og rfl ?_)
              (first | refine r_move_tuple rfl ?_ | refine r_move rfl ?_)
              refine WL_some (og rfl ?_)
              refine r_extract rfl rfl ?_
              refine WL_some (og rfl ?_)
              refine r_extract rfl rfl ?_
              refine WL_some (og rfl ?_)
              (first | refine r_assign_int rfl ?_ | refine r_assign rfl ?_)
              refine WL_some (og rfl ?_)
              (first | refine r_assign_int rfl ?_ | refine r_assign rfl ?_)
              refine WL_nil ?_
              refine W_seq ?_
              refine W_region rfl ?_   -- region 20
              refine WL_some (og rfl ?_)
              (first | refine r_loadAll rfl (by assumption) (by rfl) ?_ | refine r_loadN rfl (by assumption) (by rfl) (by rfl) ?_)
              refine WL_some (og rfl ?_)
              refine r_gives rfl (encode_calls _ ⟨p.kind, p.off, p.data, p.ptrs, p.size, 536870912, p.seg, p.dbl⟩) ?_
              intro w106 g107
              replace hc23 := g107.heap hc23
              replace hc102 := g107.heap hc102
              replace G := G.tr g107
              clear g107
              refine WL_some (og rfl ?_)
              (first | refine r_move_tuple rfl ?_ | refine r_move rfl ?_)
              refine WL_some (og rfl ?_)
              refine r_extract rfl rfl ?_
              refine WL_some (og rfl ?_)
              refine r_extract rfl rfl ?_
              refine WL_some (og rfl ?_)
              (first | refine r_assign_int rfl ?_ | refine r_assign rfl ?_)
              refine WL_some (og rfl ?_)
              (first | refine r_assign_int rfl ?_ | refine r_assign rfl ?_)
              refine WL_nil ?_
              refine W_seq ?_
              refine W_region rfl ?_   -- region 21
              refine WL_some (og rfl ?_)
              refine r_gives rfl (known_calls _) ?_
              intro w108 g109
              replace hc23 := g109.heap hc23
              replace hc102 := g109.heap hc102
              replace G := G.tr g109
              clear g109
              refine WL_some (og rfl ?_)
              (first | refine r_move_bool rfl ?_ | refine r_move rfl ?_)
              refine WL_some (og rfl ?_)
              (first | refine r_move_int rfl ?_ | refine r_move rfl ?_)
              refine WL_some (og rfl ?_)
              (first | (refine r_eql_t rfl rfl ?_ ?_; (first | assumption | omega)) | (refine r_eql_f rfl rfl ?_ ?_; (first | assumption | omega)) | refine r_eql rfl rfl ?_)
              refine WL_some (og rfl ?_)
              (first | (refine r_pick_t rfl ?_ rfl ?_; (first | rfl | assumption)) | (refine r_pick_f rfl ?_ rfl ?_; (first | rfl | assumption)))
              refine WL_some (og rfl ?_)
              (first | refine r_move_bool rfl ?_ | refine r_move rfl ?_)
              refine WL_some (og rfl ?_)
              (first | refine r_move_int rfl ?_ | refine r_move rfl ?_)
              refine WL_some (og rfl ?_)
              (first | (refine r_eql_t rfl rfl ?_ ?_; (first | assumption | omega)) | (refine r_eql_f rfl rfl ?_ ?_; (first | assumption | omega)) | refine r_eql rfl rfl ?_)
              refine WL_some (og rfl ?_)
              (first | (refine r_pick_t rfl ?_ rfl ?_; (first | rfl | assumption)) | (refine r_pick_f rfl ?_ rfl ?_; (first | rfl | assumption)))
              refine WL_some (og rfl ?_)
              (first | refine r_assign_bool rfl ?_ | refine r_assign rfl ?_)
              refine WL_nil ?_
              refine W_ret ?_
              exact ret1 (res_bool rfl) ⟨rfl, G⟩
            ·  -- false
              first | (replace v4 := of_decide_eq_true v4) | (replace v4 := of_decide_eq_false v4) | skip
              obtain ⟨eq, _⟩ := encE_bad ⟨p.kind, p.off, p.data, p.ptrs, p.size, p.count, 4294967296, p.dbl⟩ (fun h => by have := okP_range _ h; simp only at this; omega)
              refine W_region rfl ?_   -- region 6
              refine WL_some (og rfl ?_)
              refine r_fieldAddr rfl ?_
              refine WL_none (og rfl ?_)
              refine r_store1 (v := .int _ _) rfl rfl (by rfl) hc33 (by rfl) (by rfl) ?_
              intro w113 hc114 u115
              replace hc23 := u115.heap hc23 ne37
              replace G := G.upd u115 hge36
              clear u115 hc33
              refine WL_nil ?_
              refine W_seq ?_
              refine W_region rfl ?_   -- region 19
              refine WL_some (og rfl ?_)
              (first | refine r_loadAll rfl (by assumption) (by rfl) ?_ | refine r_loadN rfl (by assumption) (by rfl) (by rfl) ?_)
              refine WL_some (og rfl ?_)
              refine r_gives rfl (encode_calls _ p) ?_
              intro w116 g117
              replace hc23 := g117.heap hc23
              replace hc114 := g117.heap hc114
              replace G := G.tr g117
              clear g117
              refine WL_some (og rfl ?_)
              (first | refine r_move_tuple rfl ?_ | refine r_move rfl ?_)
              refine WL_some (og rfl ?_)
              refine r_extract rfl rfl ?_
              refine WL_some (og rfl ?_)
              refine r_extract rfl rfl ?_
              refine WL_some (og rfl ?_)
              (first | refine r_assign_int rfl ?_ | refine r_assign rfl ?_)
              refine WL_some (og rfl ?_)
              (first | refine r_assign_int rfl ?_ | refine r_assign rfl ?_)
              refine WL_nil ?_
              refine W_seq ?_
              refine W_region rfl ?_   -- region 20
              refine WL_some (og rfl ?_)
              (first | refine r_loadAll rfl (by assumption) (by rfl) ?_ | refine r_loadN rfl (by assumption) (by rfl) (by rfl) ?_)
              refine WL_some (og rfl ?_)
              refine r_gives rfl (encode_calls _ ⟨p.kind, p.off, p.data, p.ptrs, p.size, p.count, 4294967296, p.dbl⟩) ?_
              intro w118 g119
              replace hc23 := g119.heap hc23
              replace hc114 := g119.heap hc114
              replace G := G.tr g119
              clear g119
              refine WL_some (og rfl ?_)
              (first | refine r_move_tuple rfl ?_ | refine r_move rfl ?_)
              refine WL_some (og rfl ?_)
              refine r_extract rfl rfl ?_
              refine WL_some (og rfl ?_)
              refine r_extract rfl rfl ?_
              refine WL_some (og rfl ?_)
              (first | refine r_assign_int rfl ?_ | refine r_assign rfl ?_)
              refine WL_some (og rfl ?_)
              (first | refine r_assign_int rfl ?_ | refine r_assign rfl ?_)
              refine WL_nil ?_
              refine W_seq ?_
              refine W_region rfl ?_   -- region 21
              refine WL_some (og rfl ?_)
              refine r_gives rfl (known_calls _) ?_
              intro w120 g121
              replace hc23 := g121.heap hc23
              replace hc114 := g121.heap hc114
              replace G := G.tr g121
              clear g121
              refine WL_some (og rfl ?_)
              (first | refine r_move_bool rfl ?_ | refine r_move rfl ?_)
              refine WL_some (og rfl ?_)
              (first | refine r_move_int rfl ?_ | refine r_move rfl ?_)
              refine WL_some (og rfl ?_)
              (first | (refine r_eql_t rfl rfl ?_ ?_; (first | assumption | omega)) | (refine r_eql_f rfl rfl ?_ ?_; (first | assumption | omega)) | refine r_eql rfl rfl ?_)
              refine WL_some (og rfl ?_)
              (first | (refine r_pick_t rfl ?_ rfl ?_; (first | rfl | assumption)) | (refine r_pick_f rfl ?_ rfl ?_; (first | rfl | assumption)))
              refine WL_some (og rfl ?_)
              (first | refine r_move_bool rfl ?_ | refine r_move rfl ?_)
              refine WL_some (og rfl ?_)
              (first | refine r_move_int rfl ?_ | refine r_move rfl ?_)
              refine WL_some (og rfl ?_)
              (first | (refine r_eql_t rfl rfl ?_ ?_; (first | assumption | omega)) | (refine r_eql_f rfl rfl ?_ ?_; (first | assumption | omega)) | refine r_eql rfl rfl ?_)
              refine WL_some (og rfl ?_)
              (first | (refine r_pick_t rfl ?_ rfl ?_; (first | rfl | assumption)) | (refine r_pick_f rfl ?_ rfl ?_; (first | rfl | assumption)))
              refine WL_some (og rfl ?_)
              (first | refine r_assign_bool rfl ?_ | refine r_assign rfl ?_)
              refine WL_nil ?_
              refine W_ret ?_
              exact ret1 (res_bool rfl) ⟨rfl, G⟩

set_option maxRecDepth 100000 in
theorem decodes_calls (w : World) (x : Int) (hx0 : 0 ≤ x) (hx1 : x ≤ 18446744073709551615) : Gives Try.prog 13 #[.int .u64 x] w (.bool true) := by
  have G := Grow.rfl' w
  refine gives_of Try.func13 Try.ntmps13 Try.results13 rfl rfl ?_
  obtain ⟨e1, e2⟩ := decE_range x
  obtain ⟨e3, e4⟩ := wordsE_range (decP x)
  refine W_seq ?_
  refine W_region rfl ?_   -- region 0
  refine WL_some (og rfl ?_)
  (first | refine r_assign_bool rfl ?_ | refine r_assign rfl ?_)
  refine WL_nil ?_
  refine W_seq ?_
  refine W_region rfl ?_   -- region 1
  refine WL_some (og rfl ?_)
  (first | refine r_move_int rfl ?_ | refine r_move rfl ?_)
  refine WL_some (og rfl ?_)
  refine r_gives rfl (decode_calls _ _ hx0 hx1) ?_
  intro w1 g2
  replace G := G.tr g2
  clear g2
  refine WL_some (og rfl ?_)
  (first | refine r_move_tuple rfl ?_ | refine r_move rfl ?_)
  refine WL_some (og rfl ?_)
  refine r_extract rfl rfl ?_
  refine WL_some (og rfl ?_)
  refine r_extract rfl rfl ?_
  refine WL_some (og rfl ?_)
  refine r_alloc ?_
  intro b3 w4 hb5 hc6 g7
  refine WL_none (og rfl ?_)
  refine r_storeAll rfl rfl hc6 (by rfl) (by rfl) (by rfl) ?_
  intro w8 hc9 u10
  have g11 := g7.upd u10 hb5
  have hge12 := Nat.le_trans G.size hb5
  replace G := G.tr g11
  clear u10 g7 hb5 hc6
  refine WL_some (og rfl ?_)
  (first | refine r_assign_int rfl ?_ | refine r_assign rfl ?_)
  refine WL_nil ?_
  refine W_seq ?_
  refine W_region rfl ?_   -- region 2
  refine WL_some (og rfl ?_)
  (first | refine r_move_int rfl ?_ | refine r_move rfl ?_)
  refine WL_some (og rfl ?_)
  refine r_gives rfl (rdecode_calls _ _ hx0 hx1) ?_
  intro w13 g14
  replace hc9 := g14.heap hc9
  replace G := G.tr g14
  clear g14
  refine WL_some (og rfl ?_)
  (first | refine r_move_tuple rfl ?_ | refine r_move rfl ?_)
  refine WL_some (og rfl ?_)
  refine r_extract rfl rfl ?_
  refine WL_some (og rfl ?_)
  refine r_extract rfl rfl ?_
  refine WL_some (og rfl ?_)
  refine r_alloc ?_
  intro b15 w16 hb17 hc18 g19
  refine WL_none (og rfl ?_)
  refine r_storeAll rfl rfl hc18 (by rfl) (by rfl) (by rfl) ?_
  intro w20 hc21 u22
  have g23 := g19.upd u22 hb17
  have hge24 := Nat.le_trans G.size hb17
  have ne25 := Nat.ne_of_lt (Nat.lt_of_lt_of_le (lt_of_heap hc9) hb17)
  replace hc9 := g23.heap hc9
  replace G := G.tr g23
  clear u22 g19 hb17 hc18
  refine WL_some (og rfl ?_)
  (first | refine r_assign_int rfl ?_ | refine r_assign rfl ?_)
  refine WL_nil ?_
  refine W_seq ?_
  refine W_region rfl ?_   -- region 3
  refine WL_some (og rfl ?_)
  (first | refine r_loadAll rfl (by assumption) (by rfl) ?_ | refine r_loadN rfl (by assumption) (by rfl) (by rfl) ?_)
  refine WL_some (og rfl ?_)
  refine r_gives rfl (words_calls _ (decP x)) ?_
  intro w26 g27
  replace hc9 := g27.heap hc9
  replace hc21 := g27.heap hc21
  replace G := G.tr g27
  clear g27
  refine WL_some (og rfl ?_)
  (first | refine r_move_tuple rfl ?_ | refine r_move rfl ?_)
  refine WL_some (og rfl ?_)
  refine r_extract rfl rfl ?_
  refine WL_some (og rfl ?_)
  refine r_extract rfl rfl ?_
  refine WL_some (og rfl ?_)
  (first | refine r_assign_int rfl ?_ | refine r_assign rfl ?_)
  refine WL_some (og rfl ?_)
  (first | refine r_assign_int rfl ?_ | refine r_assign rfl ?_)
  refine WL_nil ?_
  refine W_seq ?_
  refine W_region rfl ?_   -- region 4
  refine WL_some (og rfl ?_)
  (first | refine r_loadAll rfl (by assumption) (by rfl) ?_ | refine r_loadN rfl (by assumption) (by rfl) (by rfl) ?_)
  refine WL_some (og rfl ?_)
  refine r_gives rfl (rwords_calls _ (decP x)) ?_
  intro w28 g29
  replace hc9 := g29.heap hc9
  replace hc21 := g29.heap hc21
  replace G := G.tr g29
  clear g29
  refine WL_some (og rfl ?_)
  (first | refine r_move_tuple rfl ?_ | refine r_move rfl ?_)
  refine WL_some (og rfl ?_)
  refine r_extract rfl rfl ?_
  refine WL_some (og rfl ?_)
  refine r_extract rfl rfl ?_
  refine WL_some (og rfl ?_)
  (first | refine r_assign_int rfl ?_ | refine r_assign rfl ?_)
  refine WL_some (og rfl ?_)
  (first | refine r_assign_int rfl ?_ | refine r_assign rfl ?_)
  refine WL_nil ?_
  refine W_seq ?_
  refine W_region rfl ?_   -- region 5
  refine WL_some (og rfl ?_)
  (first | refine r_loadAll rfl (by assumption) (by rfl) ?_ | refine r_loadN rfl (by assumption) (by rfl) (by rfl) ?_)
  refine WL_some (og rfl ?_)
  (first | refine r_loadAll rfl (by assumption) (by rfl) ?_ | refine r_loadN rfl (by assumption) (by rfl) (by rfl) ?_)
  refine WL_some (og rfl ?_)
  refine r_eqlS' (r' := true) rfl rfl (by rfl) (by simp) ?_
  refine WL_some (og rfl ?_)
  (first | refine r_move_bool rfl ?_ | refine r_move rfl ?_)
  refine WL_some (og rfl ?_)
  (first | refine r_move_int rfl ?_ | refine r_move rfl ?_)
  refine WL_some (og rfl ?_)
  (first | (refine r_conv rfl ?_ ?_; (constructor <;> omega)) | refine r_convw rfl ?_)
  refine WL_some (og rfl ?_)
  (first | refine r_move_int rfl ?_ | refine r_move rfl ?_)
  refine WL_some (og rfl ?_)
  (first | (refine r_eql_t rfl rfl ?_ ?_; (first | assumption | omega)) | (refine r_eql_f rfl rfl ?_ ?_; (first | assumption | omega)) | refine r_eql rfl rfl ?_)
  refine WL_some (og rfl ?_)
  (first | (refine r_pick_t rfl ?_ rfl ?_; (first | rfl | assumption)) | (refine r_pick_f rfl ?_ rfl ?_; (first | rfl | assumption)))
  refine WL_some (og rfl ?_)
  (first | refine r_move_bool rfl ?_ | refine r_move rfl ?_)
  refine WL_some (og rfl ?_)
  (first | refine r_move_int rfl ?_ | refine r_move rfl ?_)
  refine WL_some (og rfl ?_)
  (first | refine r_move_int rfl ?_ | refine r_move rfl ?_)
  refine WL_some (og rfl ?_)
  (first | (refine r_eql_t rfl rfl ?_ ?_; (first | assumption | omega)) | (refine r_eql_f rfl rfl ?_ ?_; (first | assumption | omega)) | refine r_eql rfl rfl ?_)
  refine WL_some (og rfl ?_)
  (first | (refine r_pick_t rfl ?_ rfl ?_; (first | rfl | assumption)) | (refine r_pick_f rfl ?_ rfl ?_; (first | rfl | assumption)))
  refine WL_some (og rfl ?_)
  (first | refine r_move_bool rfl ?_ | refine r_move rfl ?_)
  refine WL_some (og rfl ?_)
  (first | refine r_move_int rfl ?_ | refine r_move rfl ?_)
  refine WL_some (og rfl ?_)
  (first | (refine r_conv rfl ?_ ?_; (constructor <;> omega)) | refine r_convw rfl ?_)
  refine WL_some (og rfl ?_)
  (first | refine r_move_int rfl ?_ | refine r_move rfl ?_)
  refine WL_some (og rfl ?_)
  (first | (refine r_eql_t rfl rfl ?_ ?_; (first | assumption | omega)) | (refine r_eql_f rfl rfl ?_ ?_; (first | assumption | omega)) | refine r_eql rfl rfl ?_)
  refine WL_some (og rfl ?_)
  (first | (refine r_pick_t rfl ?_ rfl ?_; (first | rfl | assumption)) | (refine r_pick_f rfl ?_ rfl ?_; (first | rfl | assumption)))
  refine WL_some (og rfl ?_)
  (first | refine r_assign_bool rfl ?_ | refine r_assign rfl ?_)
  refine WL_nil ?_
  refine W_ret ?_
  exact ret1 (res_bool rfl) ⟨rfl, G⟩

set_option maxRecDepth 100000 in
theorem encodes_calls (w : World) (p : Pt) : Gives Try.prog 14 #[.agg #[.int .i64 (p.kind), .int .i64 (p.off), .int .i64 (p.data), .int .i64 (p.ptrs), .int .i64 (p.size), .int .i64 (p.count), .int .i64 (p.seg), .bool p.dbl]] w (.bool true) := by
  have G := Grow.rfl' w
  refine gives_of Try.func14 Try.ntmps14 Try.results14 rfl rfl ?_
  obtain ⟨e1, e2⟩ := encE_range p
  obtain ⟨e3, e4⟩ := wordsE_range p
  refine W_seq ?_
  refine W_region rfl ?_   -- region 0
  refine WL_some (og rfl ?_)
  (first | refine r_box_agg rfl ?_ | refine r_box_int rfl ?_ | refine r_box_slice rfl ?_ | refine r_box rfl rfl ?_)
  intro b1 w2 hb3 hc4 g5
  have hge6 := Nat.le_trans G.size hb3
  replace G := G.tr g5
  clear g5 hb3
  refine WL_some (og rfl ?_)
  (first | refine r_assign_bool rfl ?_ | refine r_assign rfl ?_)
  refine WL_nil ?_
  refine W_seq ?_
  refine W_region rfl ?_   -- region 1
  refine WL_some (og rfl ?_)
  (first | refine r_loadAll rfl (by assumption) (by rfl) ?_ | refine r_loadN rfl (by assumption) (by rfl) (by rfl) ?_)
  refine WL_some (og rfl ?_)
  refine r_gives rfl (encode_calls _ p) ?_
  intro w7 g8
  replace hc4 := g8.heap hc4
  replace G := G.tr g8
  clear g8
  refine WL_some (og rfl ?_)
  (first | refine r_move_tuple rfl ?_ | refine r_move rfl ?_)
  refine WL_some (og rfl ?_)
  refine r_extract rfl rfl ?_
  refine WL_some (og rfl ?_)
  refine r_extract rfl rfl ?_
  refine WL_some (og rfl ?_)
  (first | refine r_assign_int rfl ?_ | refine r_assign rfl ?_)
  refine WL_some (og rfl ?_)
  (first | refine r_assign_int rfl ?_ | refine r_assign rfl ?_)
  refine WL_nil ?_
  refine W_seq ?_
  refine W_region rfl ?_   -- region 2
  refine WL_some (og rfl ?_)
  (first | refine r_loadAll rfl (by assumption) (by rfl) ?_ | refine r_loadN rfl (by assumption) (by rfl) (by rfl) ?_)
  refine WL_some (og rfl ?_)
  refine r_gives rfl (rencode_calls _ p) ?_
  intro w9 g10
  replace hc4 := g10.heap hc4
  replace G := G.tr g10
  clear g10
  refine WL_some (og rfl ?_)
  (first | refine r_move_tuple rfl ?_ | refine r_move rfl ?_)
  refine WL_some (og rfl ?_)
  refine r_extract rfl rfl ?_
  refine WL_some (og rfl ?_)
  refine r_extract rfl rfl ?_
  refine WL_some (og rfl ?_)
  (first | refine r_assign_int rfl ?_ | refine r_assign rfl ?_)
  refine WL_some (og rfl ?_)
  (first | refine r_assign_int rfl ?_ | refine r_assign rfl ?_)
  refine WL_nil ?_
  refine W_seq ?_
  refine W_seq ?_
  refine W_region rfl ?_   -- region 3
  refine WL_some (og rfl ?_)
  (first | refine r_move_int rfl ?_ | refine r_move rfl ?_)
  refine WL_some (og rfl ?_)
  (first | (refine r_eql_t rfl rfl ?_ ?_; (first | assumption | omega)) | (refine r_eql_f rfl rfl ?_ ?_; (first | assumption | omega)) | refine r_eql rfl rfl ?_)
  refine WL_nil ?_
  refine W_cond2 rfl (fun hE => ?_) (fun hE => ?_)
  ·  -- true
    first | (replace hE := of_decide_eq_true hE) | (replace hE := of_decide_eq_false hE) | skip
    refine W_seq ?_
    refine W_region rfl ?_   -- region 4
    refine WL_some (og rfl ?_)
    (first | refine r_loadAll rfl (by assumption) (by rfl) ?_ | refine r_loadN rfl (by assumption) (by rfl) (by rfl) ?_)
    refine WL_some (og rfl ?_)
    refine r_gives rfl (words_calls _ p) ?_
    intro w11 g12
    replace hc4 := g12.heap hc4
    replace G := G.tr g12
    clear g12
    refine WL_some (og rfl ?_)
    (first | refine r_move_tuple rfl ?_ | refine r_move rfl ?_)
    refine WL_some (og rfl ?_)
    refine r_extract rfl rfl ?_
    refine WL_some (og rfl ?_)
    refine r_extract rfl rfl ?_
    refine WL_some (og rfl ?_)
    (first | refine r_assign_int rfl ?_ | refine r_assign rfl ?_)
    refine WL_some (og rfl ?_)
    (first | refine r_assign_int rfl ?_ | refine r_assign rfl ?_)
    refine WL_nil ?_
    refine W_seq ?_
    refine W_region rfl ?_   -- region 5
    refine WL_some (og rfl ?_)
    (first | refine r_loadAll rfl (by assumption) (by rfl) ?_ | refine r_loadN rfl (by assumption) (by rfl) (by rfl) ?_)
    refine WL_some (og rfl ?_)
    refine r_gives rfl (rwords_calls _ p) ?_
    intro w13 g14
    replace hc4 := g14.heap hc4
    replace G := G.tr g14
    clear g14
    refine WL_some (og rfl ?_)
    (first | refine r_move_tuple rfl ?_ | refine r_move rfl ?_)
    refine WL_some (og rfl ?_)
    refine r_extract rfl rfl ?_
    refine WL_some (og rfl ?_)
    refine r_extract rfl rfl ?_
    refine WL_some (og rfl ?_)
    (first | refine r_assign_int rfl ?_ | refine r_assign rfl ?_)
    refine WL_some (og rfl ?_)
    (first | refine r_assign_int rfl ?_ | refine r_assign rfl ?_)
    refine WL_nil ?_
    refine W_seq ?_
    refine W_region rfl ?_   -- region 6
    refine WL_some (og rfl ?_)
    (first | refine r_move_int rfl ?_ | refine r_move rfl ?_)
    refine WL_some (og rfl ?_)
    (first | refine r_move_int rfl ?_ | refine r_move rfl ?_)
    refine WL_some (og rfl ?_)
    (first | (refine r_eql_t rfl rfl ?_ ?_; (first | assumption | omega)) | (refine r_eql_f rfl rfl ?_ ?_; (first | assumption | omega)) | refine r_eql rfl rfl ?_)
    refine WL_some (og rfl ?_)
    (first | refine r_move_bool rfl ?_ | refine r_move rfl ?_)
    refine WL_some (og rfl ?_)
    (first | refine r_move_int rfl ?_ | refine r_move rfl ?_)
    refine WL_some (og rfl ?_)
    (first | (refine r_conv rfl ?_ ?_; (constructor <;> omega)) | refine r_convw rfl ?_)
    refine WL_some (og rfl ?_)
    (first | refine r_move_int rfl ?_ | refine r_move rfl ?_)
    refine WL_some (og rfl ?_)
    (first | (refine r_eql_t rfl rfl ?_ ?_; (first | assumption | omega)) | (refine r_eql_f rfl rfl ?_ ?_; (first | assumption | omega)) | refine r_eql rfl rfl ?_)
    refine WL_some (og rfl ?_)
    (first | (refine r_pick_t rfl ?_ rfl ?_; (first | rfl | assumption)) | (refine r_pick_f rfl ?_ rfl ?_; (first | rfl | assumption)))
    refine WL_some (og rfl ?_)
    (first | refine r_move_bool rfl ?_ | refine r_move rfl ?_)
    refine WL_some (og rfl ?_)
    (first | refine r_move_int rfl ?_ | refine r_move rfl ?_)
    refine WL_some (og rfl ?_)
    (first | refine r_move_int rfl ?_ | refine r_move rfl ?_)
    refine WL_some (og rfl ?_)
    (first | (refine r_eql_t rfl rfl ?_ ?_; (first | assumption | omega)) | (refine r_eql_f rfl rfl ?_ ?_; (first | assumption | omega)) | refine r_eql rfl rfl ?_)
    refine WL_some (og rfl ?_)
    (first | (refine r_pick_t rfl ?_ rfl ?_; (first | rfl | assumption)) | (refine r_pick_f rfl ?_ rfl ?_; (first | rfl | assumption)))
    refine WL_some (og rfl ?_)
    (first | refine r_move_bool rfl ?_ | refine r_move rfl ?_)
    refine WL_some (og rfl ?_)
    (first | refine r_move_int rfl ?_ | refine r_move rfl ?_)
    refine WL_some (og rfl ?_)
    (first | (refine r_conv rfl ?_ ?_; (constructor <;> omega)) | refine r_convw rfl ?_)
    refine WL_some (og rfl ?_)
    (first | refine r_move_int rfl ?_ | refine r_move rfl ?_)
    refine WL_some (og rfl ?_)
    (first | (refine r_eql_t rfl rfl ?_ ?_; (first | assumption | omega)) | (refine r_eql_f rfl rfl ?_ ?_; (first | assumption | omega)) | refine r_eql rfl rfl ?_)
    refine WL_some (og rfl ?_)
    (first | (refine r_pick_t rfl ?_ rfl ?_; (first | rfl | assumption)) | (refine r_pick_f rfl ?_ rfl ?_; (first | rfl | assumption)))
    refine WL_some (og rfl ?_)
    (first | refine r_assign_bool rfl ?_ | refine r_assign rfl ?_)
    refine WL_nil ?_
    refine W_ret ?_
    exact ret1 (res_bool rfl) ⟨rfl, G⟩
  ·  -- false
    first | (replace hE := of_decide_eq_true hE) | (replace hE := of_decide_eq_false hE) | skip
    refine W_skip ?_
    refine W_seq ?_
    refine W_region rfl ?_   -- region 7
    refine WL_some (og rfl ?_)
    (first | refine r_move_int rfl ?_ | refine r_move rfl ?_)
    refine WL_some (og rfl ?_)
    (first | refine r_move_int rfl ?_ | refine r_move rfl ?_)
    refine WL_some (og rfl ?_)
    (first | (refine r_eql_t rfl rfl ?_ ?_; (first | assumption | omega)) | (refine r_eql_f rfl rfl ?_ ?_; (first | assumption | omega)) | refine r_eql rfl rfl ?_)
    refine WL_some (og rfl ?_)
    (first | refine r_move_bool rfl ?_ | refine r_move rfl ?_)
    refine WL_some (og rfl ?_)
    (first | refine r_move_int rfl ?_ | refine r_move rfl ?_)
    refine WL_some (og rfl ?_)
    (first | (refine r_conv rfl ?_ ?_; (constructor <;> omega)) | refine r_convw rfl ?_)
    refine WL_some (og rfl ?_)
    (first | refine r_move_int rfl ?_ | refine r_move rfl ?_)
    refine WL_some (og rfl ?_)
    (first | (refine r_eql_t rfl rfl ?_ ?_; (first | assumption | omega)) | (refine r_eql_f rfl rfl ?_ ?_; (first | assumption | omega)) | refine r_eql rfl rfl ?_)
    refine WL_some (og rfl ?_)
    (first | (refine r_pick_t rfl ?_ rfl ?_; (first | rfl | assumption)) | (refine r_pick_f rfl ?_ rfl ?_; (first | rfl | assumption)))
    refine WL_some (og rfl ?_)
    (first | refine r_assign_bool rfl ?_ | refine r_assign rfl ?_)
    refine WL_nil ?_
    refine W_ret ?_
    exact ret1 (res_bool rfl) ⟨rfl, G⟩

set_option maxRecDepth 100000 in
theorem PtrDecodes_calls (w : World) (x : Int) (p : Pt) (a b c k : Int) (hx0 : 0 ≤ x) (hx1 : x ≤ 18446744073709551615) (ha : 0 ≤ a ∧ a ≤ 4294967295) (hb : 0 ≤ b ∧ b ≤ 4294967295) (hc : 0 ≤ c ∧ c ≤ 4294967295) (hk : 0 ≤ k ∧ k ≤ 255) : Gives Try.prog 7 #[.int .u64 x, .agg #[.int .i64 (p.kind), .int .i64 (p.off), .int .i64 (p.data), .int .i64 (p.ptrs), .int .i64 (p.size), .int .i64 (p.count), .int .i64 (p.seg), .bool p.dbl], .int .u32 a, .int .u32 b, .int .u32 c, .int .u8 k] w (.bool true) := by
  have G := Grow.rfl' w
  refine gives_of Try.func7 Try.ntmps7 Try.results7 rfl rfl ?_
  obtain ⟨hs0, hs1⟩ := div_range x (min (k % 64).toNat IntKind.u64.bits) hx0
  replace hs1 := Int.le_trans hs1 hx1
  refine W_seq ?_
  refine W_region rfl ?_   -- region 0
  refine WL_some (og rfl ?_)
  (first | refine r_box_agg rfl ?_ | refine r_box_int rfl ?_ | refine r_box_slice rfl ?_ | refine r_box rfl rfl ?_)
  intro b1 w2 hb3 hc4 g5
  have hge6 := Nat.le_trans G.size hb3
  replace G := G.tr g5
  clear g5 hb3
  refine WL_some (og rfl ?_)
  (first | refine r_assign_bool rfl ?_ | refine r_assign rfl ?_)
  refine WL_nil ?_
  refine W_seq ?_
  refine W_region rfl ?_   -- region 1
  refine WL_some (og rfl ?_)
  (first | refine r_move_int rfl ?_ | refine r_move rfl ?_)
  refine WL_some (og rfl ?_)
  (first | refine r_move_int rfl ?_ | refine r_move rfl ?_)
  refine WL_some (og rfl ?_)
  (first | refine r_move_int rfl ?_ | refine r_move rfl ?_)
  refine WL_some (og rfl ?_)
  (first | refine r_move_int rfl ?_ | refine r_move rfl ?_)
  refine WL_some (og rfl ?_)
  refine r_gives rfl (Ptr_calls _ _ _ _ _ (by omega) (by omega) (by omega) (by omega)) ?_
  intro w7 g8
  replace hc4 := g8.heap hc4
  replace G := G.tr g8
  clear g8
  refine WL_some (og rfl ?_)
  refine r_alloc ?_
  intro b9 w10 hb11 hc12 g13
  refine WL_none (og rfl ?_)
  refine r_storeAll rfl rfl hc12 (by rfl) (by rfl) (by rfl) ?_
  intro w14 hc15 u16
  have g17 := g13.upd u16 hb11
  have hge18 := Nat.le_trans G.size hb11
  have ne19 := Nat.ne_of_lt (Nat.lt_of_lt_of_le (lt_of_heap hc4) hb11)
  replace hc4 := g17.heap hc4
  replace G := G.tr g17
  clear u16 g13 hb11 hc12
  refine WL_nil ?_
  refine W_seq ?_
  refine W_region rfl ?_   -- region 2
  refine WL_some (og rfl ?_)
  refine r_gives rfl (known_calls _) ?_
  intro w20 g21
  replace hc4 := g21.heap hc4
  replace hc15 := g21.heap hc15
  replace G := G.tr g21
  clear g21
  refine WL_some (og rfl ?_)
  (first | refine r_move_bool rfl ?_ | refine r_move rfl ?_)
  refine WL_some (og rfl ?_)
  (first | refine r_move_int rfl ?_ | refine r_move rfl ?_)
  refine WL_some (og rfl ?_)
  refine r_gives rfl (decodes_calls _ _ (by omega) (by omega)) ?_
  intro w22 g23
  replace hc4 := g23.heap hc4
  replace hc15 := g23.heap hc15
  replace G := G.tr g23
  clear g23
  refine WL_some (og rfl ?_)
  (first | (refine r_pick_t rfl ?_ rfl ?_; (first | rfl | assumption)) | (refine r_pick_f rfl ?_ rfl ?_; (first | rfl | assumption)))
  refine WL_some (og rfl ?_)
  (first | refine r_move_bool rfl ?_ | refine r_move rfl ?_)
  refine WL_some (og rfl ?_)
  (first | refine r_move_int rfl ?_ | refine r_move rfl ?_)
  refine WL_some (og rfl ?_)
  (first | refine r_move_int rfl ?_ | refine r_move rfl ?_)
  refine WL_some (og rfl ?_)
  (first | (refine r_rem rfl rfl ?_ ?_ ?_; omega; omega) | (refine r_remw rfl rfl ?_ ?_; omega))
  refine WL_some (og rfl ?_)
  refine r_shr rfl rfl (by omega) ?_
  refine WL_some (og rfl ?_)
  refine r_gives rfl (decodes_calls _ _ hs0 hs1) ?_
  intro w24 g25
  replace hc4 := g25.heap hc4
  replace hc15 := g25.heap hc15
  replace G := G.tr g25
  clear g25
  refine WL_some (og rfl ?_)
  (first | (refine r_pick_t rfl ?_ rfl ?_; (first | rfl | assumption)) | (refine r_pick_f rfl ?_ rfl ?_; (first | rfl | assumption)))
  refine WL_some (og rfl ?_)
  (first | refine r_move_bool rfl ?_ | refine r_move rfl ?_)
  refine WL_some (og rfl ?_)
  (first | refine r_loadAll rfl (by assumption) (by rfl) ?_ | refine r_loadN rfl (by assumption) (by rfl) (by rfl) ?_)
  refine WL_some (og rfl ?_)
  refine r_gives rfl (encodes_calls _ p) ?_
  intro w26 g27
  replace hc4 := g27.heap hc4
  replace hc15 := g27.heap hc15
  replace G := G.tr g27
  clear g27
  refine WL_some (og rfl ?_)
  (first | (refine r_pick_t rfl ?_ rfl ?_; (first | rfl | assumption)) | (refine r_pick_f rfl ?_ rfl ?_; (first | rfl | assumption)))
  refine WL_some (og rfl ?_)
  (first | refine r_move_bool rfl ?_ | refine r_move rfl ?_)
  refine WL_some (og rfl ?_)
  (first | refine r_loadAll rfl (by assumption) (by rfl) ?_ | refine r_loadN rfl (by assumption) (by rfl) (by rfl) ?_)
  refine WL_some (og rfl ?_)
  refine r_gives rfl (encodes_calls _ (ptrF a b c k)) ?_
  intro w28 g29
  replace hc4 := g29.heap hc4
  replace hc15 := g29.heap hc15
  replace G := G.tr g29
  clear g29
  refine WL_some (og rfl ?_)
  (first | (refine r_pick_t rfl ?_ rfl ?_; (first | rfl | assumption)) | (refine r_pick_f rfl ?_ rfl ?_; (first | rfl | assumption)))
  refine WL_some (og rfl ?_)
  (first | refine r_assign_bool rfl ?_ | refine r_assign rfl ?_)
  refine WL_nil ?_
  refine W_ret ?_
  exact ret1 (res_bool rfl) ⟨rfl, G⟩
end Go.Proofs.Ytepcfoofdbdioaa.K
