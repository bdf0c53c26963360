/- The walks of chapter 10's statements (printed by l10.py). -/
import Derived.Test.YtfhfecepcnapfaaT
import Derived.Test.YtfhfecepcnapfaaJ14
import Derived.Test.YtfhfecepcnapfaaU10
import Derived.Test.YtfhfecepcnapfaaPtr
import Derived.Test.YtfhfecepcnapfaaBD
import Derived.Test.YtfhfecepcnapfaaBF
import Derived.Test.YtfhfecepcnapfaaBR
import Derived.Test.YtfhfecepcnapfaaCA
import Derived.Test.YtfhfecepcnapfaaCB
import Derived.Test.YtfhfecepcnapfaaCD
import Derived.Test.YtfhfecepcnapfaaCE
import Derived.Test.YtfhfecepcnapfaaCQ
import Derived.Test.YtfhfecepcnapfaaCH
import Derived.Test.YtfhfecepcnapfaaY10
import Derived.Test.YtfhfecepcnapfaaCK
set_option linter.unusedVariables false
set_option linter.unusedSimpArgs false
namespace Go.Proofs.Ytfhfecepcnapfaa.K
open Go Go.RowKit Go.Proofs
attribute [local irreducible] Run1 OpG WL W AO Gives
set_option maxRecDepth 100000 in
theorem TreePaths_calls (w : World) {n cp : Nat} {ad : Option Addr} {xs : List Int} (R : RowAt w 1 ad n (xs.map (.int .u8))) (hn : n = xs.length) (hx : isU8 xs) (hcp : n ≤ cp) (hcp2 : cp ≤ maxLen) {i_ j_ : Int} (i0 : 0 ≤ i_) (i1 : i_ ≤ 255) (j0 : 0 ≤ j_) (j1 : j_ ≤ 255) : Gives Try.prog 6 #[.slice ad n cp, .int .u8 i_, .int .u8 j_] w (.bool true) := by
 have hri := treeP_right 6 xs 32 (by decide) hx
 have hdp := treeP_dep 6 xs
 have G := Grow.rfl' w
 refine gives_of Try.func6 Try.ntmps6 Try.results6 rfl rfl ?_
 refine W_seq (W_region rfl ?_)
 refine stp (r_assign (v := .bool false) rfl ?_)
 refine WL_nil ?_
 refine W_seq ?_
 refine W_seq (W_region rfl ?_)
 refine stp (r_move_slice rfl ?_)
 refine stp (r_len rfl rfl rfl ?_)
 refine stp (r_gtr rfl rfl ?_)
 refine WL_nil ?_
 refine W_cond2 (b := (decide ((n : Int) > 200))) rfl (fun h1 => ?_) (fun h1 => ?_)
 ·-- true
  replace h1 := of_decide_eq_true h1
  refine W_seq (W_region rfl ?_)
  refine stp (r_gives (v := .bool true) rfl (known10_calls _) ?_)
  intro w1 g2
  replace G := G.tr g2
  clear g2
  refine stp (r_assign (v := .bool true) rfl ?_)
  refine WL_nil ?_
  refine W_ret ?_
  refine ret1 (res_tmp (v := .bool true) rfl) ⟨?_, G⟩
  rfl
 ·-- false
  replace h1 := of_decide_eq_false h1
  refine W_skip ?_
  refine W_seq (W_region rfl ?_)
  refine stp (r_move_slice rfl ?_)
  refine WL_some (og rfl ?_)
  refine r_call rfl (tree_calls _ _ R G hn hx hcp hcp2 (d := 6) (by decide) (Nat.le_refl _)) ?_
  rintro v_ w3 ⟨cells_, ad9, n9, c9, rfl, hT_, -, -, -, -, g_⟩
  have hT := hT_.sees (Sees.seen _ _)
  clear hT_
  replace G := G.tr g_
  clear g_
  obtain ⟨x0, x1, xa, xn, xc, pa, pn, pc, qa, qn, qc, rfl⟩ := hT.cells
  refine stp (r_move (v := .tuple #[.agg #[.int .i64 x0, .int .i64 x1, .slice xa xn xc, .slice pa pn pc, .slice qa qn qc], .slice ad9 n9 c9]) rfl ?_)
  refine stp (r_extract (v := .agg #[.int .i64 x0, .int .i64 x1, .slice xa xn xc, .slice pa pn pc, .slice qa qn qc]) rfl rfl ?_)
  refine stp (r_extract (v := .slice ad9 n9 c9) rfl rfl ?_)
  refine stp (r_alloc ?_)
  intro b4 w5 hb6 hc7 g8
  refine stn (r_storeAll rfl rfl hc7 (by rfl) (by rfl) (by rfl) ?_)
  intro w9 hc10 u11
  have g12 := g8.upd u11 hb6
  have hge13 := Nat.le_trans G.size hb6
  replace hT := hT.grow g12
  replace G := G.tr g12
  clear u11 g8 hb6 hc7
  refine stp (r_assign_slice rfl ?_)
  refine WL_nil ?_
  refine W_seq (W_region rfl ?_)
  refine stp (r_loadAll rfl hc10 (by rfl) ?_)
  refine WL_some (og rfl ?_)
  have hcal := paths_calls _ hT (most := 200) (by omega) (by simp [inR])
  rw [show (min (200 : Int) 10000).toNat = 199 + 1 from by decide] at hcal
  have hL1 := paths_first (treeP 6 xs).1 199
  have hnd := fun i j => @take_same _ (paths_nodup (treeP 6 xs).1 []) (199 + 1) i j
  have hmem : ∀ p ∈ (Nd.paths (treeP 6 xs).1 []).take (199 + 1), p ∈ Nd.paths (treeP 6 xs).1 [] := fun p h_ => List.mem_of_mem_take h_
  generalize (Nd.paths (treeP 6 xs).1 []).take (199 + 1) = LT at *
  refine r_call rfl hcal ?_
  rintro v_ w14 ⟨adp, cp_, ps_, rfl, -, -, Rp, hPs, g_⟩
  clear hcal
  replace hT := hT.grow g_
  replace hc10 := g_.heap hc10
  replace G := G.tr g_
  clear g_
  have hLl := Rp.lim
  obtain ⟨ix1, hix1⟩ : ∃ k, k = (i_ % (LT.length : Int)).toNat := ⟨_, rfl⟩
  have hm1 := Int.emod_lt_of_pos i_ (show (0 : Int) < (LT.length : Int) by omega)
  have hn1 := Int.emod_nonneg i_ (show (LT.length : Int) ≠ 0 by omega)
  have hi1 : ix1 < LT.length := by omega
  obtain ⟨p1, hp1⟩ : ∃ p, p = LT[ix1] := ⟨_, rfl⟩
  obtain ⟨ad1, c1, hcl1, -, -, Rs1⟩ := hPs.at_ ix1 p1 (by rw [hp1]; exact List.getElem?_eq_getElem hi1)
  rw [hix1] at hcl1
  have hpm1 := hmem p1 (by rw [hp1]; exact List.getElem_mem hi1)
  obtain ⟨ix2, hix2⟩ : ∃ k, k = (j_ % (LT.length : Int)).toNat := ⟨_, rfl⟩
  have hm2 := Int.emod_lt_of_pos j_ (show (0 : Int) < (LT.length : Int) by omega)
  have hn2 := Int.emod_nonneg j_ (show (LT.length : Int) ≠ 0 by omega)
  have hi2 : ix2 < LT.length := by omega
  obtain ⟨p2, hp2⟩ : ∃ p, p = LT[ix2] := ⟨_, rfl⟩
  obtain ⟨ad2, c2, hcl2, -, -, Rs2⟩ := hPs.at_ ix2 p2 (by rw [hp2]; exact List.getElem?_eq_getElem hi2)
  rw [hix2] at hcl2
  have hpm2 := hmem p2 (by rw [hp2]; exact List.getElem_mem hi2)
  obtain ⟨⟨V1, V2, hV1, hV2, hVk, hVw⟩, hp1m⟩ := path_ask hri (by omega) hpm1
  have hsame : (decide (p1.2 = p2.2) && decide (p1.1 = p2.1)) = decide (i_ % (LT.length : Int) = j_ % (LT.length : Int)) := by rw [hp1, hp2, hnd ix1 ix2 hi1 hi2]; exact decide_eq_decide.2 (by omega)
  have hp1r : inR .i64 p1.2 := path_range hT hpm1 hp1m
  have hp1s := path_steps hri (by omega) hpm1
  refine stp (r_assign_slice rfl ?_)
  refine WL_nil ?_
  refine W_seq ?_
  refine W_seq (W_region rfl ?_)
  refine stp (r_move_slice rfl ?_)
  refine stp (r_len rfl rfl rfl ?_)
  refine stp (r_eql_f rfl rfl (by omega) ?_)
  refine WL_nil ?_
  refine W_false rfl ?_
  refine W_skip ?_
  refine W_seq (W_region rfl ?_)
  refine stp (r_move_slice rfl ?_)
  refine stp (r_move_int rfl ?_)
  refine stp (r_conv rfl ?_ ?_); constructor <;> omega
  refine stp (r_move_slice rfl ?_)
  refine stp (r_len rfl rfl rfl ?_)
  refine stp (r_rem rfl rfl ?_ ?_ ?_); omega; omega
  refine stp (r_indexR Rp rfl rfl ?_ ?_ ?_); omega; omega
  refine stp (r_loadNR Rp rfl (by decide) (by rw [Rp.len]; omega) hcl1 ?_)
  refine stp (r_alloc ?_)
  intro b15 w16 hb17 hc18 g19
  refine stn (r_storeAll rfl rfl hc18 (by rfl) (by rfl) (by rfl) ?_)
  intro w20 hc21 u22
  have g23 := g19.upd u22 hb17
  have hge24 := Nat.le_trans G.size hb17
  have ne25 := Nat.ne_of_lt (Nat.lt_of_lt_of_le (lt_of_heap hc10) hb17)
  replace hT := hT.grow g23
  replace hc10 := g23.heap hc10
  replace Rp := Rp.grow g23
  replace Rs1 := Rs1.grow g23
  replace Rs2 := Rs2.grow g23
  replace G := G.tr g23
  clear u22 g19 hb17 hc18
  refine WL_nil ?_
  refine W_seq (W_region rfl ?_)
  refine stp (r_move_slice rfl ?_)
  refine stp (r_move_int rfl ?_)
  refine stp (r_conv rfl ?_ ?_); constructor <;> omega
  refine stp (r_move_slice rfl ?_)
  refine stp (r_len rfl rfl rfl ?_)
  refine stp (r_rem rfl rfl ?_ ?_ ?_); omega; omega
  refine stp (r_indexR Rp rfl rfl ?_ ?_ ?_); omega; omega
  refine stp (r_loadNR Rp rfl (by decide) (by rw [Rp.len]; omega) hcl2 ?_)
  refine stp (r_alloc ?_)
  intro b26 w27 hb28 hc29 g30
  refine stn (r_storeAll rfl rfl hc29 (by rfl) (by rfl) (by rfl) ?_)
  intro w31 hc32 u33
  have g34 := g30.upd u33 hb28
  have hge35 := Nat.le_trans G.size hb28
  have ne36 := Nat.ne_of_lt (Nat.lt_of_lt_of_le (lt_of_heap hc10) hb28)
  have ne37 := Nat.ne_of_lt (Nat.lt_of_lt_of_le (lt_of_heap hc21) hb28)
  replace hT := hT.grow g34
  replace hc10 := g34.heap hc10
  replace Rp := Rp.grow g34
  replace Rs1 := Rs1.grow g34
  replace Rs2 := Rs2.grow g34
  replace hc21 := g34.heap hc21
  replace G := G.tr g34
  clear u33 g30 hb28 hc29
  refine WL_nil ?_
  refine W_seq (W_region rfl ?_)
  refine stp (r_loadAll rfl hc10 (by rfl) ?_)
  refine stp (r_loadAll rfl hc21 (by rfl) ?_)
  refine stp (r_gives (v := .tuple #[.agg #[.int .i64 V1.kind, .int .i64 V1.size, .int .i64 V1.words, .int .i64 V1.kids, .int .u64 V1.word], .int .u16 0]) rfl (gives_eq (ask_calls _ hT Rs1 (steps := p1.1) (a := p1.2) (hp1r)) (y := .tuple #[.agg #[.int .i64 V1.kind, .int .i64 V1.size, .int .i64 V1.words, .int .i64 V1.kids, .int .u64 V1.word], .int .u16 0]) (by rw [hV1] <;> rfl)) ?_)
  intro w38 g39
  replace hT := hT.grow g39
  replace hc10 := g39.heap hc10
  replace Rp := Rp.grow g39
  replace Rs1 := Rs1.grow g39
  replace Rs2 := Rs2.grow g39
  replace hc21 := g39.heap hc21
  replace hc32 := g39.heap hc32
  replace G := G.tr g39
  clear g39
  refine stp (r_move (v := .tuple #[.agg #[.int .i64 V1.kind, .int .i64 V1.size, .int .i64 V1.words, .int .i64 V1.kids, .int .u64 V1.word], .int .u16 0]) rfl ?_)
  refine stp (r_extract (v := .agg #[.int .i64 V1.kind, .int .i64 V1.size, .int .i64 V1.words, .int .i64 V1.kids, .int .u64 V1.word]) rfl rfl ?_)
  refine stp (r_extract (v := .int .u16 0) rfl rfl ?_)
  refine stp (r_alloc ?_)
  intro b40 w41 hb42 hc43 g44
  refine stn (r_storeAll rfl rfl hc43 (by rfl) (by rfl) (by rfl) ?_)
  intro w45 hc46 u47
  have g48 := g44.upd u47 hb42
  have hge49 := Nat.le_trans G.size hb42
  have ne50 := Nat.ne_of_lt (Nat.lt_of_lt_of_le (lt_of_heap hc10) hb42)
  have ne51 := Nat.ne_of_lt (Nat.lt_of_lt_of_le (lt_of_heap hc21) hb42)
  have ne52 := Nat.ne_of_lt (Nat.lt_of_lt_of_le (lt_of_heap hc32) hb42)
  replace hT := hT.grow g48
  replace hc10 := g48.heap hc10
  replace Rp := Rp.grow g48
  replace Rs1 := Rs1.grow g48
  replace Rs2 := Rs2.grow g48
  replace hc21 := g48.heap hc21
  replace hc32 := g48.heap hc32
  replace G := G.tr g48
  clear u47 g44 hb42 hc43
  refine stp (r_assign_int rfl ?_)
  refine WL_nil ?_
  refine W_seq (W_region rfl ?_)
  refine stp (r_loadAll rfl hc10 (by rfl) ?_)
  refine stp (r_fieldAddr rfl ?_)
  refine stp (r_load (v := .slice ad1 p1.1.length c1) rfl hc21 rfl ?_)
  refine stp (r_build (v := .agg #[.slice ad1 p1.1.length c1, .int .i64 (-1)]) (fun w => by kernel_rfl) ?_)
  refine stp (r_gives (v := .tuple #[.agg #[.int .i64 V2.kind, .int .i64 V2.size, .int .i64 V2.words, .int .i64 V2.kids, .int .u64 V2.word], .int .u16 0]) rfl (gives_eq (ask_calls _ hT Rs1 (steps := p1.1) (a := -1) (by simp [inR])) (y := .tuple #[.agg #[.int .i64 V2.kind, .int .i64 V2.size, .int .i64 V2.words, .int .i64 V2.kids, .int .u64 V2.word], .int .u16 0]) (by rw [hV2] <;> rfl)) ?_)
  intro w53 g54
  replace hT := hT.grow g54
  replace hc10 := g54.heap hc10
  replace Rp := Rp.grow g54
  replace Rs1 := Rs1.grow g54
  replace Rs2 := Rs2.grow g54
  replace hc21 := g54.heap hc21
  replace hc32 := g54.heap hc32
  replace hc46 := g54.heap hc46
  replace G := G.tr g54
  clear g54
  refine stp (r_move (v := .tuple #[.agg #[.int .i64 V2.kind, .int .i64 V2.size, .int .i64 V2.words, .int .i64 V2.kids, .int .u64 V2.word], .int .u16 0]) rfl ?_)
  refine stp (r_extract (v := .agg #[.int .i64 V2.kind, .int .i64 V2.size, .int .i64 V2.words, .int .i64 V2.kids, .int .u64 V2.word]) rfl rfl ?_)
  refine stp (r_extract (v := .int .u16 0) rfl rfl ?_)
  refine stp (r_alloc ?_)
  intro b55 w56 hb57 hc58 g59
  refine stn (r_storeAll rfl rfl hc58 (by rfl) (by rfl) (by rfl) ?_)
  intro w60 hc61 u62
  have g63 := g59.upd u62 hb57
  have hge64 := Nat.le_trans G.size hb57
  have ne65 := Nat.ne_of_lt (Nat.lt_of_lt_of_le (lt_of_heap hc10) hb57)
  have ne66 := Nat.ne_of_lt (Nat.lt_of_lt_of_le (lt_of_heap hc21) hb57)
  have ne67 := Nat.ne_of_lt (Nat.lt_of_lt_of_le (lt_of_heap hc32) hb57)
  have ne68 := Nat.ne_of_lt (Nat.lt_of_lt_of_le (lt_of_heap hc46) hb57)
  replace hT := hT.grow g63
  replace hc10 := g63.heap hc10
  replace Rp := Rp.grow g63
  replace Rs1 := Rs1.grow g63
  replace Rs2 := Rs2.grow g63
  replace hc21 := g63.heap hc21
  replace hc32 := g63.heap hc32
  replace hc46 := g63.heap hc46
  replace G := G.tr g63
  clear u62 g59 hb57 hc58
  refine stp (r_assign_int rfl ?_)
  refine WL_nil ?_
  refine W_seq (W_region rfl ?_)
  refine stp (r_fieldAddr rfl ?_)
  refine stp (r_load (v := .int .i64 p1.2) rfl hc21 rfl ?_)
  refine stp (r_fieldAddr rfl ?_)
  refine stp (r_load (v := .int .i64 p2.2) rfl hc32 rfl ?_)
  refine stp (r_eql rfl rfl ?_)
  refine stp (r_move_bool rfl ?_)
  refine WL_some (og_if (s := .bool (decide (p1.2 = p2.2))) (b := true) (v := .pointer (some ⟨b15, 0, none⟩)) rfl (wgb_t _) (fun hc69 => ?_) ?_)
  ·
   have hc69_ := of_decide_eq_true hc69
   refine r_fieldAddr rfl ?_
   exact ⟨rfl, rfl⟩
  refine WL_some (og_if (s := .bool (decide (p1.2 = p2.2))) (b := true) (v := .slice ad1 p1.1.length c1) rfl (wgb_t _) (fun hc70 => ?_) ?_)
  ·
   have hc70_ := of_decide_eq_true hc70
   refine r_load (v := .slice ad1 p1.1.length c1) (gvt hc70) hc21 rfl ?_
   exact ⟨rfl, rfl⟩
  refine WL_some (og_if (s := .bool (decide (p1.2 = p2.2))) (b := true) (v := .pointer (some ⟨b26, 0, none⟩)) rfl (wgb_t _) (fun hc71 => ?_) ?_)
  ·
   have hc71_ := of_decide_eq_true hc71
   refine r_fieldAddr rfl ?_
   exact ⟨rfl, rfl⟩
  refine WL_some (og_if (s := .bool (decide (p1.2 = p2.2))) (b := true) (v := .slice ad2 p2.1.length c2) rfl (wgb_t _) (fun hc72 => ?_) ?_)
  ·
   have hc72_ := of_decide_eq_true hc72
   refine r_load (v := .slice ad2 p2.1.length c2) (gvt hc72) hc32 rfl ?_
   exact ⟨rfl, rfl⟩
  refine WL_some (og_ifg (s := .bool (decide (p1.2 = p2.2))) (b := true) (v := .bool (decide (p1.1 = p2.1))) rfl (wgb_t _) (fun hc73 => ?_) ?_)
  ·
   have hc73_ := of_decide_eq_true hc73
   exact r_givesA (l := ([.slice ad1 p1.1.length c1, .slice ad2 p2.1.length c2] : List Value)) rfl (by show ([gv (decide (p1.2 = p2.2)) (.slice ad1 p1.1.length c1), gv (decide (p1.2 = p2.2)) (.slice ad2 p2.1.length c2)] : List Value) = _; rw [gvt hc73, gvt hc73]) (sameints_calls _ Rs1 Rs2) (fun w2_ g2_ => ⟨rfl, g2_⟩)
  intro w74 g75
  replace hT := hT.grow g75
  replace hc10 := g75.heap hc10
  replace Rp := Rp.grow g75
  replace Rs1 := Rs1.grow g75
  replace Rs2 := Rs2.grow g75
  replace hc21 := g75.heap hc21
  replace hc32 := g75.heap hc32
  replace hc46 := g75.heap hc46
  replace hc61 := g75.heap hc61
  replace G := G.tr g75
  clear g75
  refine stp (r_and2 rfl rfl rfl ?_)
  refine stp (r_assign_bool rfl ?_)
  refine WL_nil ?_
  refine W_seq (W_region rfl ?_)
  refine stp (r_loadAll rfl hc21 (by rfl) ?_)
  refine stp (r_gives (v := .tuple #[.agg #[.int .i64 0, .int .i64 0, .int .i64 0, .int .i64 0, .int .u64 0], .int .i64 1]) rfl (rofNil_calls _) ?_)
  intro w76 g77
  replace hT := hT.grow g77
  replace hc10 := g77.heap hc10
  replace Rp := Rp.grow g77
  replace Rs1 := Rs1.grow g77
  replace Rs2 := Rs2.grow g77
  replace hc21 := g77.heap hc21
  replace hc32 := g77.heap hc32
  replace hc46 := g77.heap hc46
  replace hc61 := g77.heap hc61
  replace G := G.tr g77
  clear g77
  refine stp (r_move (v := .tuple #[.agg #[.int .i64 0, .int .i64 0, .int .i64 0, .int .i64 0, .int .u64 0], .int .i64 1]) rfl ?_)
  refine stp (r_extract (v := .agg #[.int .i64 0, .int .i64 0, .int .i64 0, .int .i64 0, .int .u64 0]) rfl rfl ?_)
  refine stp (r_extract (v := .int .i64 1) rfl rfl ?_)
  refine stp (r_alloc ?_)
  intro b78 w79 hb80 hc81 g82
  refine stn (r_storeAll rfl rfl hc81 (by rfl) (by rfl) (by rfl) ?_)
  intro w83 hc84 u85
  have g86 := g82.upd u85 hb80
  have hge87 := Nat.le_trans G.size hb80
  have ne88 := Nat.ne_of_lt (Nat.lt_of_lt_of_le (lt_of_heap hc10) hb80)
  have ne89 := Nat.ne_of_lt (Nat.lt_of_lt_of_le (lt_of_heap hc21) hb80)
  have ne90 := Nat.ne_of_lt (Nat.lt_of_lt_of_le (lt_of_heap hc32) hb80)
  have ne91 := Nat.ne_of_lt (Nat.lt_of_lt_of_le (lt_of_heap hc46) hb80)
  have ne92 := Nat.ne_of_lt (Nat.lt_of_lt_of_le (lt_of_heap hc61) hb80)
  replace hT := hT.grow g86
  replace hc10 := g86.heap hc10
  replace Rp := Rp.grow g86
  replace Rs1 := Rs1.grow g86
  replace Rs2 := Rs2.grow g86
  replace hc21 := g86.heap hc21
  replace hc32 := g86.heap hc32
  replace hc46 := g86.heap hc46
  replace hc61 := g86.heap hc61
  replace G := G.tr g86
  clear u85 g82 hb80 hc81
  refine stp (r_assign_int rfl ?_)
  refine WL_nil ?_
  refine W_seq ?_
  refine W_any 42 [[], [0], [1, 0], [2, 1, 0], [3, 2, 1, 0], [4, 3, 2, 1, 0], [5, 4, 3, 2, 1, 0], [6, 5, 4, 3, 2, 1, 0], [7, 6, 5, 4, 3, 2, 1, 0], [8, 7, 6, 5, 4, 3, 2, 1, 0], [9, 8, 7, 6, 5, 4, 3, 2, 1, 0], [10, 9, 8, 7, 6, 5, 4, 3, 2, 1, 0], [11, 10, 9, 8, 7, 6, 5, 4, 3, 2, 1, 0], [12, 11, 10, 9, 8, 7, 6, 5, 4, 3, 2, 1, 0], [13, 12, 11, 10, 9, 8, 7, 6, 5, 4, 3, 2, 1, 0], [14, 13, 12, 11, 10, 9, 8, 7, 6, 5, 4, 3, 2, 1, 0], [15, 14, 13, 12, 11, 10, 9, 8, 7, 6, 5, 4, 3, 2], [16, 15, 14, 13, 12, 11, 10, 9, 8, 7, 6, 5, 4, 3, 0], [17, 16, 15, 14, 13, 12, 11, 10, 9, 8, 7, 6, 5, 4, 3, 2, 1, 0], [18, 17, 16, 15, 14, 13, 12, 11, 10, 9, 8, 7, 6, 5, 4, 3, 2, 1, 0], [19, 18, 17, 16, 15, 14, 13, 12, 11, 10, 9, 8, 7, 6, 5, 4, 3, 2, 1, 0], [20, 19, 18, 17, 16, 15, 14, 13, 12, 11, 10, 9, 8, 7, 6, 5, 4, 3, 2, 1, 0], [21, 20, 19, 18, 17, 16, 15, 14, 13, 12, 11, 10, 9, 8, 7, 6, 5, 4, 3, 2, 1, 0], [22, 21, 20, 19, 18, 17, 16, 15, 14, 13, 12, 11, 10, 9, 8, 7, 6, 5, 4, 3, 2], [23, 22, 21, 20, 19, 18, 17, 16, 15, 14, 13, 12, 11, 10, 9, 8, 7, 6, 5, 4, 3, 0], [24, 23, 22, 21, 20, 19, 18, 17, 16, 15, 14, 13, 12, 11, 10, 9, 8, 7, 6, 5, 4, 3, 2, 1, 0], [25, 24, 23, 22, 21, 20, 19, 18, 17, 16, 15, 14, 13, 12, 11, 10, 9, 8, 7, 6, 5, 4, 3, 2, 1, 0], [26, 25, 24, 23, 22, 21, 20, 19, 18, 17, 16, 15, 14, 13, 12, 11, 10, 9, 8, 7, 6, 5, 4, 3, 2, 1, 0], [27, 26, 25, 24, 23, 22, 21, 20, 19, 18, 17, 16, 15, 14, 13, 12, 11, 10, 9, 8, 7, 6, 5, 4, 3, 2, 1, 0], [28, 27, 26, 25, 24, 23, 22, 21, 20, 19, 18, 17, 16, 15, 14, 13, 12, 11, 10, 9, 8, 7, 6, 5, 4, 3, 2, 1], [29, 28, 27, 26, 25, 24, 23, 22, 21, 20, 19, 18, 17, 16, 15, 14, 13, 12, 11, 10, 9, 8, 7, 6, 5, 4, 3, 2, 0], [30, 29, 28, 27, 26, 25, 24, 23, 22, 21, 20, 19, 18, 17, 16, 15, 14, 13, 12, 11, 10, 9, 8, 7, 6, 5, 4, 3], [31, 30, 29, 28, 27, 26, 25, 24, 23, 22, 21, 20, 19, 18, 17, 16, 15, 14, 13, 12, 11, 10, 9, 8, 7, 6, 5, 4, 0], [32, 31, 30, 29, 28, 27, 26, 25, 24, 23, 22, 21, 20, 19, 18, 17, 16, 15, 14, 13, 12, 11, 10, 9, 8, 7, 6, 5, 3, 2, 1, 0], [33, 32, 31, 30, 29, 28, 27, 26, 25, 24, 23, 22, 21, 20, 19, 18, 17, 16, 15, 14, 13, 12, 11, 10, 9, 8, 7, 6], [34, 33, 32, 31, 30, 29, 28, 27, 26, 25, 24, 23, 22, 21, 20, 19, 18, 17, 16, 15, 14, 13, 12, 11, 10, 9, 8, 7, 0], [35, 34, 33, 32, 31, 30, 29, 28, 27, 26, 25, 24, 23, 22, 21, 20, 19, 18, 17, 16, 15, 14, 13, 12, 11, 10, 9, 8], [36, 35, 34, 33, 32, 31, 30, 29, 28, 27, 26, 25, 24, 23, 22, 21, 20, 19, 18, 17, 16, 15, 14, 13, 12, 11, 10, 9, 0], [37, 36, 35, 34, 33, 32, 31, 30, 29, 28, 27, 26, 25, 24, 23, 22, 21, 20, 19, 18, 17, 16, 15, 14, 13, 12, 11, 10, 3, 2, 1, 0], [38, 37, 36, 35, 34, 33, 32, 31, 30, 29, 28, 27, 26, 25, 24, 23, 22, 21, 20, 19, 18, 17, 16, 15, 14, 13, 12, 11, 9, 8, 7, 6, 5, 4, 3, 2, 1, 0], [39, 38, 37, 36, 35, 34, 33, 32, 31, 30, 29, 28, 27, 26, 25, 24, 23, 22, 21, 20, 19, 18, 17, 16, 15, 14, 13, 12, 11, 10, 9, 8, 7, 6, 5, 4, 3, 2, 1, 0], [40, 39, 38, 37, 36, 35, 34, 33, 32, 31, 30, 29, 28, 27, 26, 25, 24, 23, 22, 21, 20, 19, 18, 17, 16, 15, 14, 13, 12, 11, 10, 9, 8, 7, 6, 5, 4, 3, 2, 1, 0]] mixed (by kernel_rfl) (by kernel_rfl) (by kernel_rfl) ?_
  intro w93 g94
  replace hT := hT.grow g94
  replace hc10 := g94.heap hc10
  replace Rp := Rp.grow g94
  replace Rs1 := Rs1.grow g94
  replace Rs2 := Rs2.grow g94
  replace hc21 := g94.heap hc21
  replace hc32 := g94.heap hc32
  replace hc46 := g94.heap hc46
  replace hc61 := g94.heap hc61
  replace hc84 := g94.heap hc84
  replace G := G.tr g94
  clear g94
  apply AO_ex
  ·intro w_ g_; refine og rfl ?_; exact r_gives (v := .bool true) rfl (known10_calls _) (fun w2_ g2_ => ⟨g2_, rfl⟩)
  apply AO_ex
  ·intro w_ g_; refine og rfl ?_; refine r_move (v := .bool true) rfl ?_; exact ⟨Grow.rfl' _, rfl⟩
  apply AO_ex
  ·intro w_ g_; refine og rfl ?_; refine r_move_int rfl ?_; exact ⟨Grow.rfl' _, rfl⟩
  apply AO_ex
  ·intro w_ g_; refine og rfl ?_; refine r_eql_t rfl rfl (by decide) ?_; exact ⟨Grow.rfl' _, rfl⟩
  apply AO_ex
  ·intro w_ g_; refine og rfl ?_; refine r_pick_t (v := .bool true) rfl rfl rfl ?_; exact ⟨Grow.rfl' _, rfl⟩
  apply AO_ex
  ·intro w_ g_; refine og rfl ?_; refine r_move (v := .bool true) rfl ?_; exact ⟨Grow.rfl' _, rfl⟩
  apply AO_ex
  ·intro w_ g_; refine og rfl ?_; refine r_move_int rfl ?_; exact ⟨Grow.rfl' _, rfl⟩
  apply AO_ex
  ·intro w_ g_; refine og rfl ?_; refine r_eql_t rfl rfl (by decide) ?_; exact ⟨Grow.rfl' _, rfl⟩
  apply AO_ex
  ·intro w_ g_; refine og rfl ?_; refine r_pick_t (v := .bool true) rfl rfl rfl ?_; exact ⟨Grow.rfl' _, rfl⟩
  apply AO_ex
  ·intro w_ g_; refine og rfl ?_; refine r_move (v := .bool true) rfl ?_; exact ⟨Grow.rfl' _, rfl⟩
  apply AO_ex
  ·intro w_ g_; refine og rfl ?_; refine r_move_int rfl ?_; exact ⟨Grow.rfl' _, rfl⟩
  apply AO_ex
  ·intro w_ g_; refine og rfl ?_; refine r_eql_t rfl rfl (by decide) ?_; exact ⟨Grow.rfl' _, rfl⟩
  apply AO_ex
  ·intro w_ g_; refine og rfl ?_; refine r_pick_t (v := .bool true) rfl rfl rfl ?_; exact ⟨Grow.rfl' _, rfl⟩
  apply AO_ex
  ·intro w_ g_; refine og rfl ?_; refine r_move (v := .bool true) rfl ?_; exact ⟨Grow.rfl' _, rfl⟩
  apply AO_ex
  ·intro w_ g_; refine og rfl ?_; refine r_fieldAddr rfl ?_; exact ⟨Grow.rfl' _, rfl⟩
  apply AO_ex
  ·intro w_ g_; refine og rfl ?_; refine r_load (v := .int .i64 V1.kind) rfl (g_.heap hc46) rfl ?_; exact ⟨Grow.rfl' _, rfl⟩
  apply AO_ex
  ·intro w_ g_; refine og rfl ?_; refine r_fieldAddr rfl ?_; exact ⟨Grow.rfl' _, rfl⟩
  apply AO_ex
  ·intro w_ g_; refine og rfl ?_; refine r_load (v := .int .i64 V2.kind) rfl (g_.heap hc61) rfl ?_; exact ⟨Grow.rfl' _, rfl⟩
  apply AO_ex
  ·intro w_ g_; refine og rfl ?_; refine r_eql_t rfl rfl (hVk) ?_; exact ⟨Grow.rfl' _, rfl⟩
  apply AO_ex
  ·intro w_ g_; refine og rfl ?_; refine r_pick_t (v := .bool true) rfl rfl rfl ?_; exact ⟨Grow.rfl' _, rfl⟩
  apply AO_ex
  ·intro w_ g_; refine og rfl ?_; refine r_move (v := .bool true) rfl ?_; exact ⟨Grow.rfl' _, rfl⟩
  apply AO_ex
  ·intro w_ g_; refine og rfl ?_; refine r_fieldAddr rfl ?_; exact ⟨Grow.rfl' _, rfl⟩
  apply AO_ex
  ·intro w_ g_; refine og rfl ?_; refine r_load (v := .int .i64 p1.2) rfl (g_.heap hc21) rfl ?_; exact ⟨Grow.rfl' _, rfl⟩
  apply AO_ex
  ·intro w_ g_; refine og rfl ?_; refine r_fieldAddr rfl ?_; exact ⟨Grow.rfl' _, rfl⟩
  apply AO_ex
  ·intro w_ g_; refine og rfl ?_; refine r_load (v := .int .i64 V2.words) rfl (g_.heap hc61) rfl ?_; exact ⟨Grow.rfl' _, rfl⟩
  apply AO_ex
  ·intro w_ g_; refine og rfl ?_; refine r_lss_t rfl rfl (hVw) ?_; exact ⟨Grow.rfl' _, rfl⟩
  apply AO_ex
  ·intro w_ g_; refine og rfl ?_; refine r_pick_t (v := .bool true) rfl rfl rfl ?_; exact ⟨Grow.rfl' _, rfl⟩
  apply AO_ex
  ·intro w_ g_; refine og rfl ?_; refine r_move (v := .bool true) rfl ?_; exact ⟨Grow.rfl' _, rfl⟩
  apply AO_ex
  ·intro w_ g_; refine og rfl ?_; refine r_move_bool rfl ?_; exact ⟨Grow.rfl' _, rfl⟩
  apply AO_ex
  ·intro w_ g_; refine og rfl ?_; refine r_move_int rfl ?_; exact ⟨Grow.rfl' _, rfl⟩
  apply AO_ex
  ·intro w_ g_; refine og rfl ?_; refine r_conv rfl ?_ ?_; constructor <;> omega; exact ⟨Grow.rfl' _, rfl⟩
  apply AO_ex
  ·intro w_ g_; refine og rfl ?_; refine r_move_slice rfl ?_; exact ⟨Grow.rfl' _, rfl⟩
  apply AO_ex
  ·intro w_ g_; refine og rfl ?_; refine r_len rfl rfl rfl ?_; exact ⟨Grow.rfl' _, rfl⟩
  apply AO_ex
  ·intro w_ g_; refine og rfl ?_; refine r_rem rfl rfl ?_ ?_ ?_; omega; omega; exact ⟨Grow.rfl' _, rfl⟩
  apply AO_ex
  ·intro w_ g_; refine og rfl ?_; refine r_move_int rfl ?_; exact ⟨Grow.rfl' _, rfl⟩
  apply AO_ex
  ·intro w_ g_; refine og rfl ?_; refine r_conv rfl ?_ ?_; constructor <;> omega; exact ⟨Grow.rfl' _, rfl⟩
  apply AO_ex
  ·intro w_ g_; refine og rfl ?_; refine r_move_slice rfl ?_; exact ⟨Grow.rfl' _, rfl⟩
  apply AO_ex
  ·intro w_ g_; refine og rfl ?_; refine r_len rfl rfl rfl ?_; exact ⟨Grow.rfl' _, rfl⟩
  apply AO_ex
  ·intro w_ g_; refine og rfl ?_; refine r_rem rfl rfl ?_ ?_ ?_; omega; omega; exact ⟨Grow.rfl' _, rfl⟩
  apply AO_ex
  ·intro w_ g_; refine og rfl ?_; refine r_eql rfl rfl ?_; exact ⟨Grow.rfl' _, rfl⟩
  apply AO_ex
  ·intro w_ g_; refine og rfl ?_; refine r_beq' (r := true) rfl rfl ?_ ?_; rw [hsame]; simp; exact ⟨Grow.rfl' _, rfl⟩
  apply AO_ex
  ·intro w_ g_; refine og rfl ?_; refine r_pick_t (v := .bool true) rfl rfl rfl ?_; exact ⟨Grow.rfl' _, rfl⟩
  refine AO_nil ?_
  intro w95 g96
  replace hT := hT.grow g96
  replace hc10 := g96.heap hc10
  replace Rp := Rp.grow g96
  replace Rs1 := Rs1.grow g96
  replace Rs2 := Rs2.grow g96
  replace hc21 := g96.heap hc21
  replace hc32 := g96.heap hc32
  replace hc46 := g96.heap hc46
  replace hc61 := g96.heap hc61
  replace hc84 := g96.heap hc84
  replace G := G.tr g96
  clear g96
  refine stp (r_assign (v := .bool true) rfl ?_)
  refine WL_nil ?_
  refine W_ret ?_
  refine ret1 (res_tmp (v := .bool true) rfl) ⟨?_, G⟩
  rfl
end Go.Proofs.Ytfhfecepcnapfaa.K
