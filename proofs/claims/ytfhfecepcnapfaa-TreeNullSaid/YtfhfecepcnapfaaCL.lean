/- The walks of chapter 10's statements (printed by l10.py). -/
import Derived.Test.YtfhfecepcnapfaaT
import Derived.Test.YtfhfecepcnapfaaJ14
import Derived.Test.YtfhfecepcnapfaaU10
import Derived.Test.YtfhfecepcnapfaaPtr
import Derived.Test.YtfhfecepcnapfaaBD
import Derived.Test.YtfhfecepcnapfaaBF
import Derived.Test.YtfhfecepcnapfaaBR
import Derived.Test.YtfhfecepcnapfaaCA
import Derived.Test.YtfhfecepcnapfaaCB
import Derived.Test.YtfhfecepcnapfaaCD
import Derived.Test.YtfhfecepcnapfaaCE
import Derived.Test.YtfhfecepcnapfaaCK
set_option linter.unusedVariables false
set_option linter.unusedSimpArgs false
namespace Go.Proofs.Ytfhfecepcnapfaa.K
open Go Go.RowKit Go.Proofs
attribute [local irreducible] Run1 OpG WL W AO Gives
set_option maxRecDepth 100000 in
theorem TreeNull_calls (w : World) {n cp : Nat} {ad : Option Addr} {xs : List Int} (R : RowAt w 1 ad n (xs.map (.int .u8))) (hn : n = xs.length) (hx : isU8 xs) (hcp : n ≤ cp) (hcp2 : cp ≤ maxLen) {step at_ n2 : Int} (s0 : 0 ≤ step) (s1 : step ≤ 255) (a0 : 0 ≤ at_) (a1 : at_ ≤ 255) (n0 : 0 ≤ n2) (n1 : n2 ≤ 255) : Gives Try.prog 8 #[.slice ad n cp, .int .u8 step, .int .u8 at_, .int .u8 n2] w (.bool true) := by
 obtain ⟨m, hm⟩ : ∃ m : Nat, (m : Int) = 1 + n2 % 50 := ⟨(1 + n2 % 50).toNat, by omega⟩
 have hm1 : 1 ≤ m := by omega
 have hm2 : m ≤ 50 := by omega
 have G := Grow.rfl' w
 refine gives_of Try.func8 Try.ntmps8 Try.results8 rfl rfl ?_
 refine W_seq (W_region rfl ?_)
 refine stp (r_assign (v := .bool false) rfl ?_)
 refine WL_nil ?_
 refine W_seq ?_
 refine W_seq (W_region rfl ?_)
 refine stp (r_move_slice rfl ?_)
 refine stp (r_len rfl rfl rfl ?_)
 refine stp (r_gtr rfl rfl ?_)
 refine WL_nil ?_
 refine W_cond2 (b := (decide ((n : Int) > 100))) rfl (fun h1 => ?_) (fun h1 => ?_)
 ·-- true
  replace h1 := of_decide_eq_true h1
  refine W_seq (W_region rfl ?_)
  refine stp (r_gives (v := .bool true) rfl (known10_calls _) ?_)
  intro w1 g2
  replace G := G.tr g2
  clear g2
  refine stp (r_assign (v := .bool true) rfl ?_)
  refine WL_nil ?_
  refine W_ret ?_
  refine ret1 (res_tmp (v := .bool true) rfl) ⟨?_, G⟩
  rfl
 ·-- false
  replace h1 := of_decide_eq_false h1
  refine W_skip ?_
  refine W_seq (W_region rfl ?_)
  refine stp (r_move_int rfl ?_)
  refine stp (r_rem rfl rfl ?_ ?_ ?_); omega; omega
  refine stp (r_conv rfl ?_ ?_); constructor <;> omega
  refine WL_some (og rfl ?_)
  refine r_add rfl rfl ?_ ?_; constructor <;> omega
  rw [← hm]
  refine stp (r_make (n := m) (base := w.heap.size) rfl rfl (by first | omega | (simp only [maxLen]; omega)) (by first | omega | (simp only [maxLen]; omega)) G.size ?_)
  intro bm6 w3 hb4 own7 g5
  rw [show (madeCells (Value.cells (.int .u64 0 : Value)) (m * 1)).toList = List.replicate m (.int .u64 0) from by rw [Nat.mul_one]; exact toList_madeCells_one _ _] at own7
  replace G := G.tr g5
  clear g5
  refine stp (r_buildSlice (cs := #[.slice (some ⟨bm6, 0, none⟩) m m]) (el := 34) (fun w => by kernel_rfl) ?_)
  intro bs8 w9 hb10 hc11 g12
  have hge13 := Nat.le_trans G.size hb10
  replace own7 := own_grow own7 g12
  replace G := G.tr g12
  clear g12
  refine WL_some (og rfl ?_)
  have hA : ArenaR w9 (.slice (some ⟨bs8, 0, none⟩) 1 1) (noughts m) := arena_one hc11 (by rw [wordsV_zero, List.length_replicate]; exact own_row own7 (by omega))
  refine r_call rfl (Decode_calls _ hA (zeros_ok hm1 (by omega))) ?_
  rw [zeros_dec hm1]
  rintro v_ w14 ⟨cells_, rfl, hU_, g_⟩
  have hU := hU_.sees (Sees.seen _ _)
  clear hU_
  replace own7 := own_grow own7 g_
  replace hc11 := g_.heap hc11
  replace G := G.tr g_
  clear g_
  obtain ⟨y15, y16, a17, n18, c19, a20, n21, c22, a23, n24, c25, rfl⟩ := hU.cells
  refine stp (r_move (v := .tuple #[.agg #[.int .i64 y15, .int .i64 y16, .slice a17 n18 c19, .slice a20 n21 c22, .slice a23 n24 c25], .int .u16 0]) rfl ?_)
  refine stp (r_extract (v := .agg #[.int .i64 y15, .int .i64 y16, .slice a17 n18 c19, .slice a20 n21 c22, .slice a23 n24 c25]) rfl rfl ?_)
  refine stp (r_extract (v := .int .u16 0) rfl rfl ?_)
  refine stp (r_alloc ?_)
  intro b26 w27 hb28 hc29 g30
  refine stn (r_storeAll rfl rfl hc29 (by rfl) (by rfl) (by rfl) ?_)
  intro w31 hc32 u33
  have g34 := g30.upd u33 hb28
  have hge35 := Nat.le_trans G.size hb28
  have ne36 := Nat.ne_of_lt (Nat.lt_of_lt_of_le (lt_of_heap hc11) hb28)
  replace own7 := own_grow own7 g34
  replace hc11 := g34.heap hc11
  replace hU := hU.grow g34
  replace G := G.tr g34
  clear u33 g30 hb28 hc29
  refine stp (r_assign_int rfl ?_)
  refine WL_nil ?_
  refine W_seq (W_region rfl ?_)
  refine stp (r_move_slice rfl ?_)
  refine WL_some (og rfl ?_)
  refine r_call rfl (tree_calls _ _ R G hn hx hcp hcp2 (d := 5) (by decide) (Nat.le_refl _)) ?_
  rintro v_ w37 ⟨cells_, ad9, n9, c9, rfl, hX_, -, -, -, -, g_⟩
  have hX := hX_.sees (Sees.seen _ _)
  clear hX_
  replace own7 := own_grow own7 g_
  replace hc11 := g_.heap hc11
  replace hU := hU.grow g_
  replace hc32 := g_.heap hc32
  replace G := G.tr g_
  clear g_
  obtain ⟨x0, x1, xa, xn, xc, pa, pn, pc, qa, qn, qc, rfl⟩ := hX.cells
  refine stp (r_move (v := .tuple #[.agg #[.int .i64 x0, .int .i64 x1, .slice xa xn xc, .slice pa pn pc, .slice qa qn qc], .slice ad9 n9 c9]) rfl ?_)
  refine stp (r_extract (v := .agg #[.int .i64 x0, .int .i64 x1, .slice xa xn xc, .slice pa pn pc, .slice qa qn qc]) rfl rfl ?_)
  refine stp (r_extract (v := .slice ad9 n9 c9) rfl rfl ?_)
  refine stp (r_alloc ?_)
  intro b38 w39 hb40 hc41 g42
  refine stn (r_storeAll rfl rfl hc41 (by rfl) (by rfl) (by rfl) ?_)
  intro w43 hc44 u45
  have g46 := g42.upd u45 hb40
  have hge47 := Nat.le_trans G.size hb40
  have ne48 := Nat.ne_of_lt (Nat.lt_of_lt_of_le (lt_of_heap hc11) hb40)
  have ne49 := Nat.ne_of_lt (Nat.lt_of_lt_of_le (lt_of_heap hc32) hb40)
  replace own7 := own_grow own7 g46
  replace hc11 := g46.heap hc11
  replace hU := hU.grow g46
  replace hc32 := g46.heap hc32
  replace hX := hX.grow g46
  replace G := G.tr g46
  clear u45 g42 hb40 hc41
  refine stp (r_assign_slice rfl ?_)
  refine WL_nil ?_
  refine W_seq (W_region rfl ?_)
  refine stp (r_loadAll rfl hc44 (by rfl) ?_)
  refine stp (r_buildSlice (cs := #[.int .i64 x0, .int .i64 x1, .slice xa xn xc, .slice pa pn pc, .slice qa qn qc]) (el := 37) (fun w => by kernel_rfl) ?_)
  intro bs50 w51 hb52 hc53 g54
  have hge55 := Nat.le_trans G.size hb52
  have ne56 := Nat.ne_of_lt (Nat.lt_of_lt_of_le (lt_of_heap hc32) hb52)
  have ne57 := Nat.ne_of_lt (Nat.lt_of_lt_of_le (lt_of_heap hc44) hb52)
  replace own7 := own_grow own7 g54
  replace hc11 := g54.heap hc11
  replace hU := hU.grow g54
  replace hc32 := g54.heap hc32
  replace hX := hX.grow g54
  replace hc44 := g54.heap hc44
  replace G := G.tr g54
  clear g54
  refine stp (r_build (v := .agg #[.int .i64 1, .int .i64 0, .slice none 0 0, .slice none 0 0, .slice (some ⟨bs50, 0, none⟩) 1 1]) (fun w => by kernel_rfl) ?_)
  refine stp (r_alloc ?_)
  intro b58 w59 hb60 hc61 g62
  refine stn (r_storeAll rfl rfl hc61 (by rfl) (by rfl) (by rfl) ?_)
  intro w63 hc64 u65
  have g66 := g62.upd u65 hb60
  have hge67 := Nat.le_trans G.size hb60
  have ne68 := Nat.ne_of_lt (Nat.lt_of_lt_of_le (lt_of_heap hc11) hb60)
  have ne69 := Nat.ne_of_lt (Nat.lt_of_lt_of_le (lt_of_heap hc32) hb60)
  have ne70 := Nat.ne_of_lt (Nat.lt_of_lt_of_le (lt_of_heap hc44) hb60)
  have ne71 := Nat.ne_of_lt (Nat.lt_of_lt_of_le (lt_of_heap hc53) hb60)
  replace own7 := own_grow own7 g66
  replace hc11 := g66.heap hc11
  replace hU := hU.grow g66
  replace hc32 := g66.heap hc32
  replace hX := hX.grow g66
  replace hc44 := g66.heap hc44
  replace hc53 := g66.heap hc53
  replace G := G.tr g66
  clear u65 g62 hb60 hc61
  refine WL_nil ?_
  have hY : NodeR w63 [.int .i64 1, .int .i64 0, .slice none 0 0, .slice none 0 0, .slice (some ⟨bs50, 0, none⟩) 1 1] (.mk 1 0 [] [] [(treeP 5 xs).1]) := .mk (by simp [inR]) (by simp [inR]) (Row.nil _ _) (by simp) (Row.nil _ _) (by simp) (Row.of_block (n := 1) hc53 rfl rfl (by decide)) (by have := KidsR.cons hX .nil; simpa using this)
  obtain ⟨hl1, hl2, hl3, hl4, hl5, -, -, -⟩ := hX.lens
  refine W_seq (W_region rfl ?_)
  refine stp (r_loadAll rfl hc64 (by rfl) ?_)
  refine stp (r_move_int rfl ?_)
  refine stp (r_conv rfl ?_ ?_); constructor <;> omega
  refine stp (r_add rfl rfl ?_ ?_); constructor <;> omega
  refine stp (r_buildSlice (cs := #[.int .i64 (1 + step)]) (el := 3) (fun w => by kernel_rfl) ?_)
  intro bs72 w73 hb74 hc75 g76
  have hge77 := Nat.le_trans G.size hb74
  have ne78 := Nat.ne_of_lt (Nat.lt_of_lt_of_le (lt_of_heap hc32) hb74)
  have ne79 := Nat.ne_of_lt (Nat.lt_of_lt_of_le (lt_of_heap hc44) hb74)
  have ne80 := Nat.ne_of_lt (Nat.lt_of_lt_of_le (lt_of_heap hc64) hb74)
  replace own7 := own_grow own7 g76
  replace hc11 := g76.heap hc11
  replace hU := hU.grow g76
  replace hc32 := g76.heap hc32
  replace hX := hX.grow g76
  replace hc44 := g76.heap hc44
  replace hc53 := g76.heap hc53
  replace hc64 := g76.heap hc64
  replace hY := hY.grow g76
  replace G := G.tr g76
  clear g76
  refine stp (r_move_int rfl ?_)
  refine stp (r_conv rfl ?_ ?_); constructor <;> omega
  refine stp (r_build (v := .agg #[.slice (some ⟨bs72, 0, none⟩) 1 1, .int .i64 at_]) (fun w => by kernel_rfl) ?_)
  refine stp (r_gives (v := .tuple #[.agg #[.int .i64 0, .int .i64 0, .int .i64 0, .int .i64 0, .int .u64 0], .int .u16 0]) rfl (gives_eq (ask_calls _ hY (rowat_one hc75) (steps := [1 + step]) (a := at_) (by simp only [inR]; omega)) (y := .tuple #[.agg #[.int .i64 0, .int .i64 0, .int .i64 0, .int .i64 0, .int .u64 0], .int .u16 0]) (by rw [ask_beyond _ (by omega) a0] <;> rfl)) ?_)
  intro w81 g82
  replace own7 := own_grow own7 g82
  replace hc11 := g82.heap hc11
  replace hU := hU.grow g82
  replace hc32 := g82.heap hc32
  replace hX := hX.grow g82
  replace hc44 := g82.heap hc44
  replace hc53 := g82.heap hc53
  replace hc64 := g82.heap hc64
  replace hY := hY.grow g82
  replace hc75 := g82.heap hc75
  replace G := G.tr g82
  clear g82
  refine stp (r_move (v := .tuple #[.agg #[.int .i64 0, .int .i64 0, .int .i64 0, .int .i64 0, .int .u64 0], .int .u16 0]) rfl ?_)
  refine stp (r_extract (v := .agg #[.int .i64 0, .int .i64 0, .int .i64 0, .int .i64 0, .int .u64 0]) rfl rfl ?_)
  refine stp (r_extract (v := .int .u16 0) rfl rfl ?_)
  refine stp (r_alloc ?_)
  intro b83 w84 hb85 hc86 g87
  refine stn (r_storeAll rfl rfl hc86 (by rfl) (by rfl) (by rfl) ?_)
  intro w88 hc89 u90
  have g91 := g87.upd u90 hb85
  have hge92 := Nat.le_trans G.size hb85
  have ne93 := Nat.ne_of_lt (Nat.lt_of_lt_of_le (lt_of_heap hc11) hb85)
  have ne94 := Nat.ne_of_lt (Nat.lt_of_lt_of_le (lt_of_heap hc32) hb85)
  have ne95 := Nat.ne_of_lt (Nat.lt_of_lt_of_le (lt_of_heap hc44) hb85)
  have ne96 := Nat.ne_of_lt (Nat.lt_of_lt_of_le (lt_of_heap hc53) hb85)
  have ne97 := Nat.ne_of_lt (Nat.lt_of_lt_of_le (lt_of_heap hc64) hb85)
  have ne98 := Nat.ne_of_lt (Nat.lt_of_lt_of_le (lt_of_heap hc75) hb85)
  replace own7 := own_grow own7 g91
  replace hc11 := g91.heap hc11
  replace hU := hU.grow g91
  replace hc32 := g91.heap hc32
  replace hX := hX.grow g91
  replace hc44 := g91.heap hc44
  replace hc53 := g91.heap hc53
  replace hc64 := g91.heap hc64
  replace hY := hY.grow g91
  replace hc75 := g91.heap hc75
  replace G := G.tr g91
  clear u90 g87 hb85 hc86
  refine stp (r_assign_int rfl ?_)
  refine WL_nil ?_
  refine W_seq (W_region rfl ?_)
  refine stp (r_loadAll rfl hc64 (by rfl) ?_)
  refine stp (r_buildSlice (cs := #[.int .i64 0]) (el := 3) (fun w => by kernel_rfl) ?_)
  intro bs99 w100 hb101 hc102 g103
  have hge104 := Nat.le_trans G.size hb101
  have ne105 := Nat.ne_of_lt (Nat.lt_of_lt_of_le (lt_of_heap hc32) hb101)
  have ne106 := Nat.ne_of_lt (Nat.lt_of_lt_of_le (lt_of_heap hc44) hb101)
  have ne107 := Nat.ne_of_lt (Nat.lt_of_lt_of_le (lt_of_heap hc64) hb101)
  have ne108 := Nat.ne_of_lt (Nat.lt_of_lt_of_le (lt_of_heap hc89) hb101)
  replace own7 := own_grow own7 g103
  replace hc11 := g103.heap hc11
  replace hU := hU.grow g103
  replace hc32 := g103.heap hc32
  replace hX := hX.grow g103
  replace hc44 := g103.heap hc44
  replace hc53 := g103.heap hc53
  replace hc64 := g103.heap hc64
  replace hY := hY.grow g103
  replace hc75 := g103.heap hc75
  replace hc89 := g103.heap hc89
  replace G := G.tr g103
  clear g103
  refine stp (r_build (v := .agg #[.slice (some ⟨bs99, 0, none⟩) 1 1, .int .i64 (-1)]) (fun w => by kernel_rfl) ?_)
  refine stp (r_gives (v := .tuple #[.agg #[.int .i64 x0, .int .i64 x1, .int .i64 ((xn : Int) + pn), .int .i64 (qn : Int), .int .u64 0], .int .u16 0]) rfl (gives_eq (ask_calls _ hY (rowat_one hc102) (steps := [0]) (a := -1) (by simp [inR])) (y := .tuple #[.agg #[.int .i64 x0, .int .i64 x1, .int .i64 ((xn : Int) + pn), .int .i64 (qn : Int), .int .u64 0], .int .u16 0]) (by rw [ask_first, hl1, hl2, hl3, hl4, hl5] <;> rfl)) ?_)
  intro w109 g110
  replace own7 := own_grow own7 g110
  replace hc11 := g110.heap hc11
  replace hU := hU.grow g110
  replace hc32 := g110.heap hc32
  replace hX := hX.grow g110
  replace hc44 := g110.heap hc44
  replace hc53 := g110.heap hc53
  replace hc64 := g110.heap hc64
  replace hY := hY.grow g110
  replace hc75 := g110.heap hc75
  replace hc89 := g110.heap hc89
  replace hc102 := g110.heap hc102
  replace G := G.tr g110
  clear g110
  refine stp (r_move (v := .tuple #[.agg #[.int .i64 x0, .int .i64 x1, .int .i64 ((xn : Int) + pn), .int .i64 (qn : Int), .int .u64 0], .int .u16 0]) rfl ?_)
  refine stp (r_extract (v := .agg #[.int .i64 x0, .int .i64 x1, .int .i64 ((xn : Int) + pn), .int .i64 (qn : Int), .int .u64 0]) rfl rfl ?_)
  refine stp (r_extract (v := .int .u16 0) rfl rfl ?_)
  refine stp (r_alloc ?_)
  intro b111 w112 hb113 hc114 g115
  refine stn (r_storeAll rfl rfl hc114 (by rfl) (by rfl) (by rfl) ?_)
  intro w116 hc117 u118
  have g119 := g115.upd u118 hb113
  have hge120 := Nat.le_trans G.size hb113
  have ne121 := Nat.ne_of_lt (Nat.lt_of_lt_of_le (lt_of_heap hc11) hb113)
  have ne122 := Nat.ne_of_lt (Nat.lt_of_lt_of_le (lt_of_heap hc32) hb113)
  have ne123 := Nat.ne_of_lt (Nat.lt_of_lt_of_le (lt_of_heap hc44) hb113)
  have ne124 := Nat.ne_of_lt (Nat.lt_of_lt_of_le (lt_of_heap hc53) hb113)
  have ne125 := Nat.ne_of_lt (Nat.lt_of_lt_of_le (lt_of_heap hc64) hb113)
  have ne126 := Nat.ne_of_lt (Nat.lt_of_lt_of_le (lt_of_heap hc75) hb113)
  have ne127 := Nat.ne_of_lt (Nat.lt_of_lt_of_le (lt_of_heap hc89) hb113)
  have ne128 := Nat.ne_of_lt (Nat.lt_of_lt_of_le (lt_of_heap hc102) hb113)
  replace own7 := own_grow own7 g119
  replace hc11 := g119.heap hc11
  replace hU := hU.grow g119
  replace hc32 := g119.heap hc32
  replace hX := hX.grow g119
  replace hc44 := g119.heap hc44
  replace hc53 := g119.heap hc53
  replace hc64 := g119.heap hc64
  replace hY := hY.grow g119
  replace hc75 := g119.heap hc75
  replace hc89 := g119.heap hc89
  replace hc102 := g119.heap hc102
  replace G := G.tr g119
  clear u118 g115 hb113 hc114
  refine stp (r_assign_int rfl ?_)
  refine WL_nil ?_
  refine W_seq (W_region rfl ?_)
  refine stp (r_gives (v := .bool true) rfl (known10_calls _) ?_)
  intro w129 g130
  replace own7 := own_grow own7 g130
  replace hc11 := g130.heap hc11
  replace hU := hU.grow g130
  replace hc32 := g130.heap hc32
  replace hX := hX.grow g130
  replace hc44 := g130.heap hc44
  replace hc53 := g130.heap hc53
  replace hc64 := g130.heap hc64
  replace hY := hY.grow g130
  replace hc75 := g130.heap hc75
  replace hc89 := g130.heap hc89
  replace hc102 := g130.heap hc102
  replace hc117 := g130.heap hc117
  replace G := G.tr g130
  clear g130
  refine stp (r_move (v := .bool true) rfl ?_)
  refine stp (r_move_int rfl ?_)
  refine stp (r_eql_t rfl rfl (by decide) ?_)
  refine stp (r_pick_t (v := .bool true) rfl rfl rfl ?_)
  refine stp (r_move (v := .bool true) rfl ?_)
  refine stp (r_loadAll rfl hc32 (by rfl) ?_)
  refine stp (r_build (v := .agg #[.int .i64 0, .int .i64 0, .slice none 0 0, .slice none 0 0, .slice none 0 0]) (fun w => by kernel_rfl) ?_)
  refine stp (r_gives (v := .bool true) rfl (gives_eq (nsame_calls _ _ hU (NodeR.zero _) (Nat.le_refl _)) (y := .bool true) (by rw [show Nd.nil.beq Nd.nil = true from beq_self _])) ?_)
  intro w131 g132
  replace own7 := own_grow own7 g132
  replace hc11 := g132.heap hc11
  replace hU := hU.grow g132
  replace hc32 := g132.heap hc32
  replace hX := hX.grow g132
  replace hc44 := g132.heap hc44
  replace hc53 := g132.heap hc53
  replace hc64 := g132.heap hc64
  replace hY := hY.grow g132
  replace hc75 := g132.heap hc75
  replace hc89 := g132.heap hc89
  replace hc102 := g132.heap hc102
  replace hc117 := g132.heap hc117
  replace G := G.tr g132
  clear g132
  refine stp (r_pick_t (v := .bool true) rfl rfl rfl ?_)
  refine stp (r_move (v := .bool true) rfl ?_)
  refine stp (r_move_int rfl ?_)
  refine stp (r_eql_t rfl rfl (by decide) ?_)
  refine stp (r_pick_t (v := .bool true) rfl rfl rfl ?_)
  refine stp (r_move (v := .bool true) rfl ?_)
  refine stp (r_loadAll rfl hc89 (by rfl) ?_)
  refine stp (r_build (v := .agg #[.int .i64 0, .int .i64 0, .int .i64 0, .int .i64 0, .int .u64 0]) (fun w => by kernel_rfl) ?_)
  refine stp (r_eqlS' (r' := true) rfl rfl (by rfl) (by decide) ?_)
  refine stp (r_pick_t (v := .bool true) rfl rfl rfl ?_)
  refine stp (r_move (v := .bool true) rfl ?_)
  refine stp (r_move_int rfl ?_)
  refine stp (r_eql_t rfl rfl (by decide) ?_)
  refine stp (r_pick_t (v := .bool true) rfl rfl rfl ?_)
  refine stp (r_move (v := .bool true) rfl ?_)
  refine stp (r_fieldAddr rfl ?_)
  refine stp (r_load (v := .int .i64 x0) rfl hc117 rfl ?_)
  refine stp (r_fieldAddr rfl ?_)
  refine stp (r_load (v := .int .i64 x0) rfl hc44 rfl ?_)
  refine stp (r_eql_t rfl rfl (by omega) ?_)
  refine stp (r_pick_t (v := .bool true) rfl rfl rfl ?_)
  refine stp (r_assign (v := .bool true) rfl ?_)
  refine WL_nil ?_
  refine W_ret ?_
  refine ret1 (res_tmp (v := .bool true) rfl) ⟨?_, G⟩
  rfl
end Go.Proofs.Ytfhfecepcnapfaa.K
