/- The walks of chapter 10's statements (printed by l10.py). -/
import Derived.Test.YtfhfecepcnapfaaT
import Derived.Test.YtfhfecepcnapfaaJ14
import Derived.Test.YtfhfecepcnapfaaU10
import Derived.Test.YtfhfecepcnapfaaPtr
import Derived.Test.YtfhfecepcnapfaaBD
import Derived.Test.YtfhfecepcnapfaaBF
import Derived.Test.YtfhfecepcnapfaaBR
import Derived.Test.YtfhfecepcnapfaaCA
import Derived.Test.YtfhfecepcnapfaaCB
import Derived.Test.YtfhfecepcnapfaaCD
import Derived.Test.YtfhfecepcnapfaaCE
set_option linter.unusedVariables false
set_option linter.unusedSimpArgs false
namespace Go.Proofs.Ytfhfecepcnapfaa.K
open Go Go.RowKit Go.Proofs
attribute [local irreducible] Run1 OpG WL W AO Gives
set_option maxRecDepth 100000 in
theorem known10_calls (w : World)  : Gives Try.prog 11 #[] w (.bool true) := by
 have G := Grow.rfl' w
 refine gives_of Try.func11 Try.ntmps11 Try.results11 rfl rfl ?_
 refine W_seq (W_region rfl ?_)
 refine stp (r_assign (v := .bool false) rfl ?_)
 refine WL_nil ?_
 refine W_seq (W_region rfl ?_)
 refine stp (r_buildSlice (cs := #[.int .u64 7]) (el := 55) (fun w => by kernel_rfl) ?_)
 intro bs1 w2 hb3 hc4 g5
 have hge6 := Nat.le_trans G.size hb3
 replace G := G.tr g5
 clear g5
 refine stp (r_build (v := .agg #[.int .i64 1, .int .i64 0, .slice (some ⟨bs1, 0, none⟩) 1 1, .slice none 0 0, .slice none 0 0]) (fun w => by kernel_rfl) ?_)
 refine stp (r_alloc ?_)
 intro b7 w8 hb9 hc10 g11
 refine stn (r_storeAll rfl rfl hc10 (by rfl) (by rfl) (by rfl) ?_)
 intro w12 hc13 u14
 have g15 := g11.upd u14 hb9
 have hge16 := Nat.le_trans G.size hb9
 have ne17 := Nat.ne_of_lt (Nat.lt_of_lt_of_le (lt_of_heap hc4) hb9)
 replace hc4 := g15.heap hc4
 replace G := G.tr g15
 clear u14 g11 hb9 hc10
 refine WL_nil ?_
 have hT : NodeR w12 [.int .i64 1, .int .i64 0, .slice (some ⟨bs1, 0, none⟩) 1 1, .slice none 0 0, .slice none 0 0] known10 := .mk (by simp [inR]) (by simp [inR]) (Row.of_block (n := 1) hc4 rfl rfl (by decide)) (by simp [inR]) (Row.nil _ _) (by simp) (Row.nil _ _) .nil
 refine W_seq (W_region rfl ?_)
 refine stp (r_loadAll rfl hc13 (by rfl) ?_)
 refine stp (r_build (v := .agg #[.slice none 0 0, .int .i64 0]) (fun w => by kernel_rfl) ?_)
 refine stp (r_gives (v := .tuple #[.agg #[.int .i64 1, .int .i64 0, .int .i64 0, .int .i64 0, .int .u64 7], .int .u16 0]) rfl (gives_eq (ask_calls _ hT (rowat_nil _ _) (steps := []) (a := 0) (by simp [inR])) (y := .tuple #[.agg #[.int .i64 1, .int .i64 0, .int .i64 0, .int .i64 0, .int .u64 7], .int .u16 0]) (by rw [known10_ask] <;> rfl)) ?_)
 intro w18 g19
 replace hc4 := g19.heap hc4
 replace hc13 := g19.heap hc13
 replace hT := hT.grow g19
 replace G := G.tr g19
 clear g19
 refine stp (r_move (v := .tuple #[.agg #[.int .i64 1, .int .i64 0, .int .i64 0, .int .i64 0, .int .u64 7], .int .u16 0]) rfl ?_)
 refine stp (r_extract (v := .agg #[.int .i64 1, .int .i64 0, .int .i64 0, .int .i64 0, .int .u64 7]) rfl rfl ?_)
 refine stp (r_extract (v := .int .u16 0) rfl rfl ?_)
 refine stp (r_alloc ?_)
 intro b20 w21 hb22 hc23 g24
 refine stn (r_storeAll rfl rfl hc23 (by rfl) (by rfl) (by rfl) ?_)
 intro w25 hc26 u27
 have g28 := g24.upd u27 hb22
 have hge29 := Nat.le_trans G.size hb22
 have ne30 := Nat.ne_of_lt (Nat.lt_of_lt_of_le (lt_of_heap hc4) hb22)
 have ne31 := Nat.ne_of_lt (Nat.lt_of_lt_of_le (lt_of_heap hc13) hb22)
 replace hc4 := g28.heap hc4
 replace hc13 := g28.heap hc13
 replace hT := hT.grow g28
 replace G := G.tr g28
 clear u27 g24 hb22 hc23
 refine stp (r_assign_int rfl ?_)
 refine WL_nil ?_
 refine W_seq (W_region rfl ?_)
 refine stp (r_loadAll rfl hc13 (by rfl) ?_)
 refine WL_some (og rfl ?_)
 refine r_call rfl (rBuild_calls _ hT 9) ?_
 rw [show known10.build 9 = (known9, 0) from known9_build]
 rintro v_ w32 ⟨so_, segs_, rfl, hO_, g_⟩
 replace hc4 := g_.heap hc4
 replace hc13 := g_.heap hc13
 replace hT := hT.grow g_
 replace hc26 := g_.heap hc26
 replace G := G.tr g_
 clear g_
 have hA := hO_.arena (by decide) (by decide)
 obtain ⟨ad1, n1, c1, rfl⟩ := own_slice hO_.out
 clear hO_
 refine stp (r_move (v := .tuple #[.slice ad1 n1 c1, .int .i64 0]) rfl ?_)
 refine stp (r_extract (v := .slice ad1 n1 c1) rfl rfl ?_)
 refine stp (r_extract (v := .int .i64 0) rfl rfl ?_)
 refine stp (r_assign_slice rfl ?_)
 refine stp (r_assign_int rfl ?_)
 refine WL_nil ?_
 refine W_seq (W_region rfl ?_)
 refine stp (r_move_slice rfl ?_)
 refine WL_some (og rfl ?_)
 refine r_call rfl (Decode_calls _ hA known9_ok) ?_
 rw [known10_dec]
 rintro v_ w33 ⟨cells_, rfl, hU_, g_⟩
 have hU := hU_.sees (Sees.seen _ _)
 clear hU_
 replace hc4 := g_.heap hc4
 replace hc13 := g_.heap hc13
 replace hT := hT.grow g_
 replace hc26 := g_.heap hc26
 replace hA := hA.grow g_
 replace G := G.tr g_
 clear g_
 obtain ⟨y34, y35, a36, n37, c38, a39, n40, c41, a42, n43, c44, rfl⟩ := hU.cells
 refine stp (r_move (v := .tuple #[.agg #[.int .i64 y34, .int .i64 y35, .slice a36 n37 c38, .slice a39 n40 c41, .slice a42 n43 c44], .int .u16 0]) rfl ?_)
 refine stp (r_extract (v := .agg #[.int .i64 y34, .int .i64 y35, .slice a36 n37 c38, .slice a39 n40 c41, .slice a42 n43 c44]) rfl rfl ?_)
 refine stp (r_extract (v := .int .u16 0) rfl rfl ?_)
 refine stp (r_alloc ?_)
 intro b45 w46 hb47 hc48 g49
 refine stn (r_storeAll rfl rfl hc48 (by rfl) (by rfl) (by rfl) ?_)
 intro w50 hc51 u52
 have g53 := g49.upd u52 hb47
 have hge54 := Nat.le_trans G.size hb47
 have ne55 := Nat.ne_of_lt (Nat.lt_of_lt_of_le (lt_of_heap hc4) hb47)
 have ne56 := Nat.ne_of_lt (Nat.lt_of_lt_of_le (lt_of_heap hc13) hb47)
 have ne57 := Nat.ne_of_lt (Nat.lt_of_lt_of_le (lt_of_heap hc26) hb47)
 replace hc4 := g53.heap hc4
 replace hc13 := g53.heap hc13
 replace hT := hT.grow g53
 replace hc26 := g53.heap hc26
 replace hA := hA.grow g53
 replace hU := hU.grow g53
 replace G := G.tr g53
 clear u52 g49 hb47 hc48
 refine stp (r_assign_int rfl ?_)
 refine WL_nil ?_
 refine W_seq (W_region rfl ?_)
 refine stp (r_move_int rfl ?_)
 refine stp (r_eql_t rfl rfl (by decide) ?_)
 refine stp (r_move (v := .bool true) rfl ?_)
 refine stp (r_fieldAddr rfl ?_)
 refine stp (r_load (v := .int .u64 7) rfl hc26 rfl ?_)
 refine stp (r_eql_t rfl rfl (by decide) ?_)
 refine stp (r_pick_t (v := .bool true) rfl rfl rfl ?_)
 refine stp (r_move (v := .bool true) rfl ?_)
 refine stp (r_move_int rfl ?_)
 refine stp (r_eql_t rfl rfl (by decide) ?_)
 refine stp (r_pick_t (v := .bool true) rfl rfl rfl ?_)
 refine stp (r_move (v := .bool true) rfl ?_)
 refine stp (r_loadAll rfl hc13 (by rfl) ?_)
 refine stp (r_loadAll rfl hc51 (by rfl) ?_)
 refine stp (r_gives (v := .bool true) rfl (gives_eq (nsame_calls _ _ hT hU (Nat.le_refl _)) (y := .bool true) (by rw [beq_self])) ?_)
 intro w58 g59
 replace hc4 := g59.heap hc4
 replace hc13 := g59.heap hc13
 replace hT := hT.grow g59
 replace hc26 := g59.heap hc26
 replace hA := hA.grow g59
 replace hU := hU.grow g59
 replace hc51 := g59.heap hc51
 replace G := G.tr g59
 clear g59
 refine stp (r_pick_t (v := .bool true) rfl rfl rfl ?_)
 refine stp (r_move (v := .bool true) rfl ?_)
 refine stp (r_loadAll rfl hc13 (by rfl) ?_)
 refine stp (r_gives (v := .int .i64 2) rfl (gives_eq (cost_calls _ _ hT (Nat.le_refl _)) (y := .int .i64 2) (by rw [known10_cost])) ?_)
 intro w60 g61
 replace hc4 := g61.heap hc4
 replace hc13 := g61.heap hc13
 replace hT := hT.grow g61
 replace hc26 := g61.heap hc26
 replace hA := hA.grow g61
 replace hU := hU.grow g61
 replace hc51 := g61.heap hc51
 replace G := G.tr g61
 clear g61
 refine stp (r_eql_t rfl rfl (by decide) ?_)
 refine stp (r_pick_t (v := .bool true) rfl rfl rfl ?_)
 refine stp (r_move (v := .bool true) rfl ?_)
 refine stp (r_loadAll rfl hc13 (by rfl) ?_)
 refine WL_some (og rfl ?_)
 refine r_call rfl (paths0_calls _ (yn := 1) (zn := 0) (by decide) (by decide)) ?_
 rintro v_ w62 ⟨adp, cp_, rfl, g_⟩
 replace hc4 := g_.heap hc4
 replace hc13 := g_.heap hc13
 replace hT := hT.grow g_
 replace hc26 := g_.heap hc26
 replace hA := hA.grow g_
 replace hU := hU.grow g_
 replace hc51 := g_.heap hc51
 replace G := G.tr g_
 clear g_
 refine stp (r_len rfl rfl rfl ?_)
 refine stp (r_eql_t rfl rfl (by decide) ?_)
 refine stp (r_pick_t (v := .bool true) rfl rfl rfl ?_)
 refine stp (r_assign (v := .bool true) rfl ?_)
 refine WL_nil ?_
 refine W_ret ?_
 refine ret1 (res_tmp (v := .bool true) rfl) ⟨?_, G⟩
 rfl
end Go.Proofs.Ytfhfecepcnapfaa.K
