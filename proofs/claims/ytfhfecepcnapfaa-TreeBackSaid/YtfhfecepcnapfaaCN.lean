/- The walks of chapter 10's statements (printed by l10.py). -/
import Derived.Test.YtfhfecepcnapfaaT
import Derived.Test.YtfhfecepcnapfaaJ14
import Derived.Test.YtfhfecepcnapfaaU10
import Derived.Test.YtfhfecepcnapfaaPtr
import Derived.Test.YtfhfecepcnapfaaBD
import Derived.Test.YtfhfecepcnapfaaBF
import Derived.Test.YtfhfecepcnapfaaBR
import Derived.Test.YtfhfecepcnapfaaCA
import Derived.Test.YtfhfecepcnapfaaCB
import Derived.Test.YtfhfecepcnapfaaCD
import Derived.Test.YtfhfecepcnapfaaCE
import Derived.Test.YtfhfecepcnapfaaCG
import Derived.Test.YtfhfecepcnapfaaV10
import Derived.Test.YtfhfecepcnapfaaCK
set_option linter.unusedVariables false
set_option linter.unusedSimpArgs false
namespace Go.Proofs.Ytfhfecepcnapfaa.K
open Go Go.RowKit Go.Proofs
attribute [local irreducible] Run1 OpG WL W AO Gives
set_option maxRecDepth 100000 in
theorem TreeBack_calls (w : World) {n cp : Nat} {ad : Option Addr} {xs : List Int} (R : RowAt w 1 ad n (xs.map (.int .u8))) (hn : n = xs.length) (hx : isU8 xs) (hcp : n ≤ cp) (hcp2 : cp ≤ maxLen) {k : Int} (k0 : 0 ≤ k) (k1 : k ≤ 255) : Gives Try.prog 5 #[.slice ad n cp, .int .u8 k] w (.bool true) := by
 have hri := treeP_right 9 xs 32 (by decide) hx
 have hnd := treeP_needs 9 xs hx
 have G := Grow.rfl' w
 refine gives_of Try.func5 Try.ntmps5 Try.results5 rfl rfl ?_
 refine W_seq (W_region rfl ?_)
 refine stp (r_assign (v := .bool false) rfl ?_)
 refine WL_nil ?_
 refine W_seq ?_
 refine W_seq (W_region rfl ?_)
 refine stp (r_move_slice rfl ?_)
 refine stp (r_len rfl rfl rfl ?_)
 refine stp (r_gtr rfl rfl ?_)
 refine WL_nil ?_
 refine W_cond2 (b := (decide ((n : Int) > 200))) rfl (fun h1 => ?_) (fun h1 => ?_)
 ·-- true
  replace h1 := of_decide_eq_true h1
  refine W_seq (W_region rfl ?_)
  refine stp (r_gives (v := .bool true) rfl (known10_calls _) ?_)
  intro w1 g2
  replace G := G.tr g2
  clear g2
  refine stp (r_assign (v := .bool true) rfl ?_)
  refine WL_nil ?_
  refine W_ret ?_
  refine ret1 (res_tmp (v := .bool true) rfl) ⟨?_, G⟩
  rfl
 ·-- false
  replace h1 := of_decide_eq_false h1
  have hnd2 : (treeP 9 xs).1.needs ≤ 1400 := by omega
  refine W_skip ?_
  refine W_seq (W_region rfl ?_)
  refine stp (r_move_slice rfl ?_)
  refine WL_some (og rfl ?_)
  refine r_call rfl (tree_calls _ _ R G hn hx hcp hcp2 (d := 9) (by decide) (Nat.le_refl _)) ?_
  rintro v_ w3 ⟨cells_, ad9, n9, c9, rfl, hT_, -, -, -, -, g_⟩
  have hT := hT_.sees (Sees.seen _ _)
  clear hT_
  replace G := G.tr g_
  clear g_
  obtain ⟨x0, x1, xa, xn, xc, pa, pn, pc, qa, qn, qc, rfl⟩ := hT.cells
  refine stp (r_move (v := .tuple #[.agg #[.int .i64 x0, .int .i64 x1, .slice xa xn xc, .slice pa pn pc, .slice qa qn qc], .slice ad9 n9 c9]) rfl ?_)
  refine stp (r_extract (v := .agg #[.int .i64 x0, .int .i64 x1, .slice xa xn xc, .slice pa pn pc, .slice qa qn qc]) rfl rfl ?_)
  refine stp (r_extract (v := .slice ad9 n9 c9) rfl rfl ?_)
  refine stp (r_alloc ?_)
  intro b4 w5 hb6 hc7 g8
  refine stn (r_storeAll rfl rfl hc7 (by rfl) (by rfl) (by rfl) ?_)
  intro w9 hc10 u11
  have g12 := g8.upd u11 hb6
  have hge13 := Nat.le_trans G.size hb6
  replace hT := hT.grow g12
  replace G := G.tr g12
  clear u11 g8 hb6 hc7
  refine stp (r_assign_slice rfl ?_)
  refine WL_nil ?_
  have hu8 := hT.u8
  have hu64 := hT.u64
  have hfb : (Nd.build (treeP 9 xs).1 4096).2 = 0 := by obtain ⟨s_, hs_, -⟩ := Nd.build_one (size := 4096) hri (by omega) (by decide); rw [hs_]
  by_cases he : (Nd.build (treeP 9 xs).1 (2 + k % 60)).2 = 0
  ·
   refine W_seq (W_region rfl ?_)
   refine stp (r_loadAll rfl hc10 (by rfl) ?_)
   refine stp (r_move_int rfl ?_)
   refine stp (r_rem rfl rfl ?_ ?_ ?_); omega; omega
   refine stp (r_conv rfl ?_ ?_); constructor <;> omega
   refine stp (r_add rfl rfl ?_ ?_); constructor <;> omega
   refine WL_some (og rfl ?_)
   have hcal := rBuild_calls _ hT (2 + k % 60)
   rw [he] at hcal
   refine r_call rfl hcal ?_
   rintro v_ w14 ⟨sop, segsp, rfl, hOp, g_⟩
   clear hcal
   replace hT := hT.grow g_
   replace hc10 := g_.heap hc10
   replace G := G.tr g_
   clear g_
   have hsmp := Nd.build_sml (treeP 9 xs).1 (2 + k % 60)
   have hRp := hOp.arena (by have := hsmp.len; omega) hsmp.all
   clear hOp
   obtain ⟨adp, np, cp, rfl⟩ := hRp.slice
   refine stp (r_move (v := .tuple #[.slice adp np cp, .int .i64 0]) rfl ?_)
   refine stp (r_extract (v := .slice adp np cp) rfl rfl ?_)
   refine stp (r_extract (v := .int .i64 0) rfl rfl ?_)
   refine stp (r_assign_slice rfl ?_)
   refine stp (r_assign_int rfl ?_)
   refine WL_nil ?_
   refine W_seq (W_region rfl ?_)
   refine stp (r_loadAll rfl hc10 (by rfl) ?_)
   refine WL_some (og rfl ?_)
   have hcal := rBuild_calls _ hT 4096
   rw [hfb] at hcal
   refine r_call rfl hcal ?_
   rintro v_ w15 ⟨soq, segsq, rfl, hOq, g_⟩
   clear hcal
   replace hT := hT.grow g_
   replace hc10 := g_.heap hc10
   replace hRp := hRp.grow g_
   replace G := G.tr g_
   clear g_
   have hsmq := Nd.build_sml (treeP 9 xs).1 4096
   have hRq := hOq.arena (by have := hsmq.len; omega) hsmq.all
   clear hOq
   obtain ⟨adq, nq, cq, rfl⟩ := hRq.slice
   refine stp (r_move (v := .tuple #[.slice adq nq cq, .int .i64 0]) rfl ?_)
   refine stp (r_extract (v := .slice adq nq cq) rfl rfl ?_)
   refine stp (r_extract (v := .int .i64 0) rfl rfl ?_)
   refine stp (r_assign_slice rfl ?_)
   refine stp (r_assign_int rfl ?_)
   refine WL_nil ?_
   refine W_seq (W_region rfl ?_)
   refine stp (r_move_slice rfl ?_)
   refine WL_some (og rfl ?_)
   have hcal := Decodeg_calls _ hRp (by have := hsmp.len; omega) (build_u64 _ hu64 hu8)
   rw [back_decT hu8 (by omega) he] at hcal
   refine r_call rfl hcal ?_
   rintro v_ w16 ⟨cells_, rfl, hU_, g_⟩
   clear hcal
   have hU := hU_.sees (Sees.seen _ _)
   clear hU_
   replace hT := hT.grow g_
   replace hc10 := g_.heap hc10
   replace hRp := hRp.grow g_
   replace hRq := hRq.grow g_
   replace G := G.tr g_
   clear g_
   obtain ⟨y17, y18, a19, n20, c21, a22, n23, c24, a25, n26, c27, rfl⟩ := hU.cells
   refine stp (r_move (v := .tuple #[.agg #[.int .i64 y17, .int .i64 y18, .slice a19 n20 c21, .slice a22 n23 c24, .slice a25 n26 c27], .int .u16 0]) rfl ?_)
   refine stp (r_extract (v := .agg #[.int .i64 y17, .int .i64 y18, .slice a19 n20 c21, .slice a22 n23 c24, .slice a25 n26 c27]) rfl rfl ?_)
   refine stp (r_extract (v := .int .u16 0) rfl rfl ?_)
   refine stp (r_alloc ?_)
   intro b28 w29 hb30 hc31 g32
   refine stn (r_storeAll rfl rfl hc31 (by rfl) (by rfl) (by rfl) ?_)
   intro w33 hc34 u35
   have g36 := g32.upd u35 hb30
   have hge37 := Nat.le_trans G.size hb30
   have ne38 := Nat.ne_of_lt (Nat.lt_of_lt_of_le (lt_of_heap hc10) hb30)
   replace hT := hT.grow g36
   replace hc10 := g36.heap hc10
   replace hRp := hRp.grow g36
   replace hRq := hRq.grow g36
   replace hU := hU.grow g36
   replace G := G.tr g36
   clear u35 g32 hb30 hc31
   refine stp (r_assign_int rfl ?_)
   refine WL_nil ?_
   refine W_seq (W_region rfl ?_)
   refine stp (r_move_slice rfl ?_)
   refine WL_some (og rfl ?_)
   have hcal := Decodeg_calls _ hRq (by have := hsmq.len; omega) (build_u64 _ hu64 hu8)
   rw [back_decT hu8 (by omega) hfb] at hcal
   refine r_call rfl hcal ?_
   rintro v_ w39 ⟨cells_, rfl, hV_, g_⟩
   clear hcal
   have hV := hV_.sees (Sees.seen _ _)
   clear hV_
   replace hT := hT.grow g_
   replace hc10 := g_.heap hc10
   replace hRp := hRp.grow g_
   replace hRq := hRq.grow g_
   replace hU := hU.grow g_
   replace hc34 := g_.heap hc34
   replace G := G.tr g_
   clear g_
   obtain ⟨y40, y41, a42, n43, c44, a45, n46, c47, a48, n49, c50, rfl⟩ := hV.cells
   refine stp (r_move (v := .tuple #[.agg #[.int .i64 y40, .int .i64 y41, .slice a42 n43 c44, .slice a45 n46 c47, .slice a48 n49 c50], .int .u16 0]) rfl ?_)
   refine stp (r_extract (v := .agg #[.int .i64 y40, .int .i64 y41, .slice a42 n43 c44, .slice a45 n46 c47, .slice a48 n49 c50]) rfl rfl ?_)
   refine stp (r_extract (v := .int .u16 0) rfl rfl ?_)
   refine stp (r_alloc ?_)
   intro b51 w52 hb53 hc54 g55
   refine stn (r_storeAll rfl rfl hc54 (by rfl) (by rfl) (by rfl) ?_)
   intro w56 hc57 u58
   have g59 := g55.upd u58 hb53
   have hge60 := Nat.le_trans G.size hb53
   have ne61 := Nat.ne_of_lt (Nat.lt_of_lt_of_le (lt_of_heap hc10) hb53)
   have ne62 := Nat.ne_of_lt (Nat.lt_of_lt_of_le (lt_of_heap hc34) hb53)
   replace hT := hT.grow g59
   replace hc10 := g59.heap hc10
   replace hRp := hRp.grow g59
   replace hRq := hRq.grow g59
   replace hU := hU.grow g59
   replace hc34 := g59.heap hc34
   replace hV := hV.grow g59
   replace G := G.tr g59
   clear u58 g55 hb53 hc54
   refine stp (r_assign_int rfl ?_)
   refine WL_nil ?_
   refine W_seq (W_region rfl ?_)
   refine stp (r_gives (v := .bool true) rfl (known10_calls _) ?_)
   intro w63 g64
   replace hT := hT.grow g64
   replace hc10 := g64.heap hc10
   replace hRp := hRp.grow g64
   replace hRq := hRq.grow g64
   replace hU := hU.grow g64
   replace hc34 := g64.heap hc34
   replace hV := hV.grow g64
   replace hc57 := g64.heap hc57
   replace G := G.tr g64
   clear g64
   refine stp (r_move (v := .bool true) rfl ?_)
   refine stp (r_move_int rfl ?_)
   refine stp (r_eql_t rfl rfl (by decide) ?_)
   refine stp (r_pick_t (v := .bool true) rfl rfl rfl ?_)
   refine stp (r_move (v := .bool true) rfl ?_)
   refine stp (r_move_int rfl ?_)
   refine stp (r_eql_t rfl rfl (by decide) ?_)
   refine stp (r_pick_t (v := .bool true) rfl rfl rfl ?_)
   refine stp (r_move (v := .bool true) rfl ?_)
   refine stp (r_loadAll rfl hc57 (by rfl) ?_)
   refine stp (r_loadAll rfl hc10 (by rfl) ?_)
   refine stp (r_gives (v := .bool true) rfl (gives_eq (nsame_calls _ _ hV hT (Nat.le_refl _)) (y := .bool true) (by rw [beq_self])) ?_)
   intro w65 g66
   replace hT := hT.grow g66
   replace hc10 := g66.heap hc10
   replace hRp := hRp.grow g66
   replace hRq := hRq.grow g66
   replace hU := hU.grow g66
   replace hc34 := g66.heap hc34
   replace hV := hV.grow g66
   replace hc57 := g66.heap hc57
   replace G := G.tr g66
   clear g66
   refine stp (r_pick_t (v := .bool true) rfl rfl rfl ?_)
   refine stp (r_move (v := .bool true) rfl ?_)
   refine stp (r_move_int rfl ?_)
   refine stp (r_neq_f rfl rfl (by decide) ?_)
   refine stp (r_move (v := .bool false) rfl ?_)
   refine stp (r_move_int rfl ?_)
   refine stp (r_eql_t rfl rfl (by decide) ?_)
   refine stp (r_move (v := .bool true) rfl ?_)
   refine stp (r_loadAll rfl hc34 (by rfl) ?_)
   refine stp (r_loadAll rfl hc10 (by rfl) ?_)
   refine stp (r_gives (v := .bool true) rfl (gives_eq (nsame_calls _ _ hU hT (Nat.le_refl _)) (y := .bool true) (by rw [beq_self])) ?_)
   intro w67 g68
   replace hT := hT.grow g68
   replace hc10 := g68.heap hc10
   replace hRp := hRp.grow g68
   replace hRq := hRq.grow g68
   replace hU := hU.grow g68
   replace hc34 := g68.heap hc34
   replace hV := hV.grow g68
   replace hc57 := g68.heap hc57
   replace G := G.tr g68
   clear g68
   refine stp (r_pick_t (v := .bool true) rfl rfl rfl ?_)
   refine stp (r_pick_f (v := .bool true) rfl rfl rfl ?_)
   refine stp (r_pick_t (v := .bool true) rfl rfl rfl ?_)
   refine stp (r_assign (v := .bool true) rfl ?_)
   refine WL_nil ?_
   refine W_ret ?_
   refine ret1 (res_tmp (v := .bool true) rfl) ⟨?_, G⟩
   rfl
  ·
   refine W_seq (W_region rfl ?_)
   refine stp (r_loadAll rfl hc10 (by rfl) ?_)
   refine stp (r_move_int rfl ?_)
   refine stp (r_rem rfl rfl ?_ ?_ ?_); omega; omega
   refine stp (r_conv rfl ?_ ?_); constructor <;> omega
   refine stp (r_add rfl rfl ?_ ?_); constructor <;> omega
   refine WL_some (og rfl ?_)
   have hcal := rBuild_calls _ hT (2 + k % 60)
   refine r_call rfl hcal ?_
   rintro v_ w69 ⟨sop, segsp, rfl, hOp, g_⟩
   clear hcal
   replace hT := hT.grow g_
   replace hc10 := g_.heap hc10
   replace G := G.tr g_
   clear g_
   have hsmp := Nd.build_sml (treeP 9 xs).1 (2 + k % 60)
   have hRp := hOp.arena (by have := hsmp.len; omega) hsmp.all
   clear hOp
   obtain ⟨adp, np, cp, rfl⟩ := hRp.slice
   refine stp (r_move (v := .tuple #[.slice adp np cp, .int .i64 ((Nd.build (treeP 9 xs).1 (2 + k % 60)).2)]) rfl ?_)
   refine stp (r_extract (v := .slice adp np cp) rfl rfl ?_)
   refine stp (r_extract (v := .int .i64 ((Nd.build (treeP 9 xs).1 (2 + k % 60)).2)) rfl rfl ?_)
   refine stp (r_assign_slice rfl ?_)
   refine stp (r_assign_int rfl ?_)
   refine WL_nil ?_
   refine W_seq (W_region rfl ?_)
   refine stp (r_loadAll rfl hc10 (by rfl) ?_)
   refine WL_some (og rfl ?_)
   have hcal := rBuild_calls _ hT 4096
   rw [hfb] at hcal
   refine r_call rfl hcal ?_
   rintro v_ w70 ⟨soq, segsq, rfl, hOq, g_⟩
   clear hcal
   replace hT := hT.grow g_
   replace hc10 := g_.heap hc10
   replace hRp := hRp.grow g_
   replace G := G.tr g_
   clear g_
   have hsmq := Nd.build_sml (treeP 9 xs).1 4096
   have hRq := hOq.arena (by have := hsmq.len; omega) hsmq.all
   clear hOq
   obtain ⟨adq, nq, cq, rfl⟩ := hRq.slice
   refine stp (r_move (v := .tuple #[.slice adq nq cq, .int .i64 0]) rfl ?_)
   refine stp (r_extract (v := .slice adq nq cq) rfl rfl ?_)
   refine stp (r_extract (v := .int .i64 0) rfl rfl ?_)
   refine stp (r_assign_slice rfl ?_)
   refine stp (r_assign_int rfl ?_)
   refine WL_nil ?_
   refine W_seq (W_region rfl ?_)
   refine stp (r_move_slice rfl ?_)
   refine WL_some (og rfl ?_)
   have hcal := Decodeg_calls _ hRp (by have := hsmp.len; omega) (build_u64 _ hu64 hu8)
   rw [back_none he] at hcal
   refine r_call rfl hcal ?_
   rintro v_ w71 ⟨cells_, rfl, hU_, g_⟩
   clear hcal
   have hU := hU_.sees (Sees.seen _ _)
   clear hU_
   replace hT := hT.grow g_
   replace hc10 := g_.heap hc10
   replace hRp := hRp.grow g_
   replace hRq := hRq.grow g_
   replace G := G.tr g_
   clear g_
   obtain ⟨y72, y73, a74, n75, c76, a77, n78, c79, a80, n81, c82, rfl⟩ := hU.cells
   refine stp (r_move (v := .tuple #[.agg #[.int .i64 y72, .int .i64 y73, .slice a74 n75 c76, .slice a77 n78 c79, .slice a80 n81 c82], .int .u16 1]) rfl ?_)
   refine stp (r_extract (v := .agg #[.int .i64 y72, .int .i64 y73, .slice a74 n75 c76, .slice a77 n78 c79, .slice a80 n81 c82]) rfl rfl ?_)
   refine stp (r_extract (v := .int .u16 1) rfl rfl ?_)
   refine stp (r_alloc ?_)
   intro b83 w84 hb85 hc86 g87
   refine stn (r_storeAll rfl rfl hc86 (by rfl) (by rfl) (by rfl) ?_)
   intro w88 hc89 u90
   have g91 := g87.upd u90 hb85
   have hge92 := Nat.le_trans G.size hb85
   have ne93 := Nat.ne_of_lt (Nat.lt_of_lt_of_le (lt_of_heap hc10) hb85)
   replace hT := hT.grow g91
   replace hc10 := g91.heap hc10
   replace hRp := hRp.grow g91
   replace hRq := hRq.grow g91
   replace hU := hU.grow g91
   replace G := G.tr g91
   clear u90 g87 hb85 hc86
   refine stp (r_assign_int rfl ?_)
   refine WL_nil ?_
   refine W_seq (W_region rfl ?_)
   refine stp (r_move_slice rfl ?_)
   refine WL_some (og rfl ?_)
   have hcal := Decodeg_calls _ hRq (by have := hsmq.len; omega) (build_u64 _ hu64 hu8)
   rw [back_decT hu8 (by omega) hfb] at hcal
   refine r_call rfl hcal ?_
   rintro v_ w94 ⟨cells_, rfl, hV_, g_⟩
   clear hcal
   have hV := hV_.sees (Sees.seen _ _)
   clear hV_
   replace hT := hT.grow g_
   replace hc10 := g_.heap hc10
   replace hRp := hRp.grow g_
   replace hRq := hRq.grow g_
   replace hU := hU.grow g_
   replace hc89 := g_.heap hc89
   replace G := G.tr g_
   clear g_
   obtain ⟨y95, y96, a97, n98, c99, a100, n101, c102, a103, n104, c105, rfl⟩ := hV.cells
   refine stp (r_move (v := .tuple #[.agg #[.int .i64 y95, .int .i64 y96, .slice a97 n98 c99, .slice a100 n101 c102, .slice a103 n104 c105], .int .u16 0]) rfl ?_)
   refine stp (r_extract (v := .agg #[.int .i64 y95, .int .i64 y96, .slice a97 n98 c99, .slice a100 n101 c102, .slice a103 n104 c105]) rfl rfl ?_)
   refine stp (r_extract (v := .int .u16 0) rfl rfl ?_)
   refine stp (r_alloc ?_)
   intro b106 w107 hb108 hc109 g110
   refine stn (r_storeAll rfl rfl hc109 (by rfl) (by rfl) (by rfl) ?_)
   intro w111 hc112 u113
   have g114 := g110.upd u113 hb108
   have hge115 := Nat.le_trans G.size hb108
   have ne116 := Nat.ne_of_lt (Nat.lt_of_lt_of_le (lt_of_heap hc10) hb108)
   have ne117 := Nat.ne_of_lt (Nat.lt_of_lt_of_le (lt_of_heap hc89) hb108)
   replace hT := hT.grow g114
   replace hc10 := g114.heap hc10
   replace hRp := hRp.grow g114
   replace hRq := hRq.grow g114
   replace hU := hU.grow g114
   replace hc89 := g114.heap hc89
   replace hV := hV.grow g114
   replace G := G.tr g114
   clear u113 g110 hb108 hc109
   refine stp (r_assign_int rfl ?_)
   refine WL_nil ?_
   refine W_seq (W_region rfl ?_)
   refine stp (r_gives (v := .bool true) rfl (known10_calls _) ?_)
   intro w118 g119
   replace hT := hT.grow g119
   replace hc10 := g119.heap hc10
   replace hRp := hRp.grow g119
   replace hRq := hRq.grow g119
   replace hU := hU.grow g119
   replace hc89 := g119.heap hc89
   replace hV := hV.grow g119
   replace hc112 := g119.heap hc112
   replace G := G.tr g119
   clear g119
   refine stp (r_move (v := .bool true) rfl ?_)
   refine stp (r_move_int rfl ?_)
   refine stp (r_eql_t rfl rfl (by decide) ?_)
   refine stp (r_pick_t (v := .bool true) rfl rfl rfl ?_)
   refine stp (r_move (v := .bool true) rfl ?_)
   refine stp (r_move_int rfl ?_)
   refine stp (r_eql_t rfl rfl (by decide) ?_)
   refine stp (r_pick_t (v := .bool true) rfl rfl rfl ?_)
   refine stp (r_move (v := .bool true) rfl ?_)
   refine stp (r_loadAll rfl hc112 (by rfl) ?_)
   refine stp (r_loadAll rfl hc10 (by rfl) ?_)
   refine stp (r_gives (v := .bool true) rfl (gives_eq (nsame_calls _ _ hV hT (Nat.le_refl _)) (y := .bool true) (by rw [beq_self])) ?_)
   intro w120 g121
   replace hT := hT.grow g121
   replace hc10 := g121.heap hc10
   replace hRp := hRp.grow g121
   replace hRq := hRq.grow g121
   replace hU := hU.grow g121
   replace hc89 := g121.heap hc89
   replace hV := hV.grow g121
   replace hc112 := g121.heap hc112
   replace G := G.tr g121
   clear g121
   refine stp (r_pick_t (v := .bool true) rfl rfl rfl ?_)
   refine stp (r_move (v := .bool true) rfl ?_)
   refine stp (r_move_int rfl ?_)
   refine stp (r_neq_t rfl rfl (he) ?_)
   refine stp (r_move (v := .bool true) rfl ?_)
   refine WL_some (og_no rfl ?_)
   refine WL_some (og_no rfl ?_)
   refine WL_some (og_no rfl ?_)
   refine WL_some (og_no rfl ?_)
   refine WL_some (og_no rfl ?_)
   refine WL_some (og_no rfl ?_)
   refine WL_some (og_no rfl ?_)
   refine stp (r_pick_t (v := .bool true) rfl rfl rfl ?_)
   refine stp (r_pick_t (v := .bool true) rfl rfl rfl ?_)
   refine stp (r_assign (v := .bool true) rfl ?_)
   refine WL_nil ?_
   refine W_ret ?_
   refine ret1 (res_tmp (v := .bool true) rfl) ⟨?_, G⟩
   rfl
end Go.Proofs.Ytfhfecepcnapfaa.K
