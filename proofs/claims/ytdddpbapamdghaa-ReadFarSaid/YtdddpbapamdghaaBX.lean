/- The walks of chapter 09's statements (printed by l09.py). -/
import Derived.Test.YtdddpbapamdghaaT
import Derived.Test.YtdddpbapamdghaaJ14
import Derived.Test.YtdddpbapamdghaaR09
import Derived.Test.YtdddpbapamdghaaU09
import Derived.Test.YtdddpbapamdghaaPtr
import Derived.Test.YtdddpbapamdghaaBD
import Derived.Test.YtdddpbapamdghaaBF
import Derived.Test.YtdddpbapamdghaaBR
import Derived.Test.YtdddpbapamdghaaQ08
import Derived.Test.YtdddpbapamdghaaBK
import Derived.Test.YtdddpbapamdghaaW09
set_option linter.unusedVariables false
set_option linter.unusedSimpArgs false
namespace Go.Proofs.Ytdddpbapamdghaa.K
open Go Go.RowKit Go.Proofs
attribute [local irreducible] Run1 OpG WL W AO Gives
set_option maxRecDepth 100000 in
theorem ReadFar_calls (w : World) {x n2 : Int} {dbl : Bool} (hw : inR .u64 x) (n0 : 0 ≤ n2) (n1 : n2 ≤ 255) : Gives Try.prog 4 #[.int .u64 x, .int .u8 n2, .bool dbl] w (.bool true) := by
 obtain ⟨k, hk⟩ : ∃ k : Nat, (k : Int) = n2 % 20 := ⟨(n2 % 20).toNat, by omega⟩
 have hk1 : k ≤ 20 := by omega
 obtain ⟨z1, hz1⟩ : ∃ z, z = encE (oneP k) := ⟨_, rfl⟩
 obtain ⟨e1, he1, hu1, hs1⟩ : ∃ e1, e1 = encR (oneP k) ∧ inR .u64 e1 ∧ Says e1 (oneP k) := ⟨_, rfl, encR_u64 _, says_enc (oneP_ok (by omega) (by omega))⟩
 obtain ⟨z2, hz2⟩ : ∃ z, z = encE (farQ 1 dbl) := ⟨_, rfl⟩
 obtain ⟨e2, he2, hu2, hs2⟩ : ∃ e2, e2 = encR (farQ 1 dbl) ∧ inR .u64 e2 ∧ Says e2 (farQ 1 dbl) := ⟨_, rfl, encR_u64 _, says_enc (farQ_ok dbl (by decide) (by decide))⟩
 obtain ⟨z3, hz3⟩ : ∃ z, z = encE (oneP 0) := ⟨_, rfl⟩
 obtain ⟨e3, he3, hu3, hs3⟩ : ∃ e3, e3 = encR (oneP 0) ∧ inR .u64 e3 ∧ Says e3 (oneP 0) := ⟨_, rfl, encR_u64 _, says_enc (oneP_ok (by decide) (by decide))⟩
 obtain ⟨z4, hz4⟩ : ∃ z, z = encE (farQ 2 false) := ⟨_, rfl⟩
 obtain ⟨e4, he4, hu4, hs4⟩ : ∃ e4, e4 = encR (farQ 2 false) ∧ inR .u64 e4 ∧ Says e4 (farQ 2 false) := ⟨_, rfl, encR_u64 _, says_enc (farQ_ok false (by decide) (by decide))⟩
 have G := Grow.rfl' w
 refine gives_of Try.func4 Try.ntmps4 Try.results4 rfl rfl ?_
 refine W_seq (W_region rfl ?_)
 refine stp (r_assign (v := .bool false) rfl ?_)
 refine WL_nil ?_
 refine W_seq (W_region rfl ?_)
 refine stp (r_move_int rfl ?_)
 refine stp (r_rem rfl rfl ?_ ?_ ?_); omega; omega
 refine WL_some (og rfl ?_)
 refine r_conv rfl ?_ ?_; constructor <;> omega
 rw [← hk]
 refine stp (r_assign_int rfl ?_)
 refine WL_nil ?_
 refine W_seq (W_region rfl ?_)
 refine stp (r_move_int rfl ?_)
 refine stp (r_build (v := .agg #[.int .i64 1, .int .i64 (k : Int), .int .i64 1, .int .i64 0, .int .i64 0, .int .i64 0, .int .i64 0, .bool false]) (fun w => by kernel_rfl) ?_)
 refine stp (r_gives (v := .tuple #[.int .u64 e1, .int .i64 z1]) rfl (gives_eq (rencode_calls _ (oneP k)) (y := .tuple #[.int .u64 e1, .int .i64 z1]) (by rw [he1, hz1])) ?_)
 intro w1 g2
 replace G := G.tr g2
 clear g2
 refine stp (r_move (v := .tuple #[.int .u64 e1, .int .i64 z1]) rfl ?_)
 refine stp (r_extract (v := .int .u64 e1) rfl rfl ?_)
 refine stp (r_extract (v := .int .i64 z1) rfl rfl ?_)
 refine stp (r_assign_int rfl ?_)
 refine stp (r_assign_int rfl ?_)
 refine WL_nil ?_
 refine W_seq (W_region rfl ?_)
 refine stp (r_move_bool rfl ?_)
 refine stp (r_build (v := .agg #[.int .i64 3, .int .i64 0, .int .i64 0, .int .i64 0, .int .i64 0, .int .i64 0, .int .i64 1, .bool dbl]) (fun w => by kernel_rfl) ?_)
 refine stp (r_gives (v := .tuple #[.int .u64 e2, .int .i64 z2]) rfl (gives_eq (rencode_calls _ (farQ 1 dbl)) (y := .tuple #[.int .u64 e2, .int .i64 z2]) (by rw [he2, hz2])) ?_)
 intro w3 g4
 replace G := G.tr g4
 clear g4
 refine stp (r_move (v := .tuple #[.int .u64 e2, .int .i64 z2]) rfl ?_)
 refine stp (r_extract (v := .int .u64 e2) rfl rfl ?_)
 refine stp (r_extract (v := .int .i64 z2) rfl rfl ?_)
 refine stp (r_assign_int rfl ?_)
 refine stp (r_assign_int rfl ?_)
 refine WL_nil ?_
 refine W_seq (W_region rfl ?_)
 refine stp (r_build (v := .agg #[.int .i64 1, .int .i64 0, .int .i64 1, .int .i64 0, .int .i64 0, .int .i64 0, .int .i64 0, .bool false]) (fun w => by kernel_rfl) ?_)
 refine stp (r_gives (v := .tuple #[.int .u64 e3, .int .i64 z3]) rfl (gives_eq (rencode_calls _ (oneP 0)) (y := .tuple #[.int .u64 e3, .int .i64 z3]) (by rw [he3, hz3])) ?_)
 intro w5 g6
 replace G := G.tr g6
 clear g6
 refine stp (r_move (v := .tuple #[.int .u64 e3, .int .i64 z3]) rfl ?_)
 refine stp (r_extract (v := .int .u64 e3) rfl rfl ?_)
 refine stp (r_extract (v := .int .i64 z3) rfl rfl ?_)
 refine stp (r_assign_int rfl ?_)
 refine stp (r_assign_int rfl ?_)
 refine WL_nil ?_
 refine W_seq (W_region rfl ?_)
 refine stp (r_build (v := .agg #[.int .i64 3, .int .i64 0, .int .i64 0, .int .i64 0, .int .i64 0, .int .i64 0, .int .i64 2, .bool false]) (fun w => by kernel_rfl) ?_)
 refine stp (r_gives (v := .tuple #[.int .u64 e4, .int .i64 z4]) rfl (gives_eq (rencode_calls _ (farQ 2 false)) (y := .tuple #[.int .u64 e4, .int .i64 z4]) (by rw [he4, hz4])) ?_)
 intro w7 g8
 replace G := G.tr g8
 clear g8
 refine stp (r_move (v := .tuple #[.int .u64 e4, .int .i64 z4]) rfl ?_)
 refine stp (r_extract (v := .int .u64 e4) rfl rfl ?_)
 refine stp (r_extract (v := .int .i64 z4) rfl rfl ?_)
 refine stp (r_assign_int rfl ?_)
 refine stp (r_assign_int rfl ?_)
 refine WL_nil ?_
 refine W_seq (W_region rfl ?_)
 refine stp (r_move_int rfl ?_)
 refine WL_some (og rfl ?_)
 refine r_add rfl rfl ?_ ?_; constructor <;> omega
 rw [show ((k : Int) + 2) = ((k + 2 : Nat) : Int) from by omega]
 refine stp (r_make (n := (k + 2)) (base := w.heap.size) rfl rfl (by first | omega | (simp only [maxLen]; omega)) (by first | omega | (simp only [maxLen]; omega)) G.size ?_)
 intro bm12 w9 hb10 own13 g11
 rw [show (madeCells (Value.cells (.int .u64 0 : Value)) ((k + 2) * 1)).toList = List.replicate (k + 2) (.int .u64 0) from by rw [Nat.mul_one]; exact toList_madeCells_one _ _] at own13
 replace G := G.tr g11
 clear g11
 refine stp (r_assign_slice rfl ?_)
 refine WL_nil ?_
 obtain ⟨hge_, cur_, hc_, hsz_, hcur_⟩ := own_made own13
 clear own13
 refine W_seq (W_region rfl ?_)
 refine stp (r_move_slice rfl ?_)
 refine stp (r_move_int rfl ?_)
 refine stp (r_indexAddr rfl rfl ?_ ?_ ?_); omega; omega
 refine stn (r_store1 (v := .int .u64 e1) rfl rfl (by rfl) hc_ (by refine Nat.ble_eq_true_of_le ?_; (try simp only [List.size_toArray, List.length_set, Array.length_toList]); omega) (by rfl) ?_)
 intro w14 hc15 u16
 replace G := G.upd u16 hge_
 clear u16 hc_
 refine WL_nil ?_
 refine W_seq (W_region rfl ?_)
 refine stp (r_move_slice rfl ?_)
 refine stp (r_move_int rfl ?_)
 refine stp (r_add rfl rfl ?_ ?_); constructor <;> omega
 refine stp (r_move_int rfl ?_)
 refine stp (r_indexAddr rfl rfl ?_ ?_ ?_); omega; omega
 refine stn (r_store1 (v := .int .u64 x) rfl rfl (by rfl) hc15 (by refine Nat.ble_eq_true_of_le ?_; (try simp only [List.size_toArray, List.length_set, Array.length_toList]); omega) (by rfl) ?_)
 intro w17 hc18 u19
 replace G := G.upd u19 hge_
 clear u19 hc15
 refine WL_nil ?_
 have hS := Row.of_block (n := k + 2) (xs := wordsV (farSeg k e1 x)) hc18 (by simp only [hcur_]; rw [show 0 + Int.toNat 0 * 1 = 0 from rfl, show 0 + ((k : Int) + 1).toNat * 1 = k + 1 from by omega]; exact far_cells k e1 x) (by rw [farSeg_cells]) (by omega)
 refine W_seq (W_region rfl ?_)
 refine stp (r_move_slice rfl ?_)
 refine stp (r_buildSlice (cs := #[.slice (some ⟨bm12, 0, none⟩) (k + 2) (k + 2)]) (el := 23) (fun w => by kernel_rfl) ?_)
 intro bs20 w21 hb22 hc23 g24
 have hge25 := Nat.le_trans G.size hb22
 replace hc18 := g24.heap hc18
 replace hS := hS.grow g24
 replace G := G.tr g24
 clear g24
 refine stp (r_assign_slice rfl ?_)
 refine WL_nil ?_
 refine W_seq (W_region rfl ?_)
 refine stp (r_move_int rfl ?_)
 refine stp (r_buildSlice (cs := #[.int .u64 e2]) (el := 30) (fun w => by kernel_rfl) ?_)
 intro bs26 w27 hb28 hc29 g30
 have hge31 := Nat.le_trans G.size hb28
 replace hc18 := g30.heap hc18
 replace hS := hS.grow g30
 replace hc23 := g30.heap hc23
 replace G := G.tr g30
 clear g30
 refine stp (r_move_slice rfl ?_)
 refine stp (r_buildSlice (cs := #[.slice (some ⟨bs26, 0, none⟩) 1 1, .slice (some ⟨bm12, 0, none⟩) (k + 2) (k + 2)]) (el := 23) (fun w => by kernel_rfl) ?_)
 intro bs32 w33 hb34 hc35 g36
 have hge37 := Nat.le_trans G.size hb34
 replace hc18 := g36.heap hc18
 replace hS := hS.grow g36
 replace hc23 := g36.heap hc23
 replace hc29 := g36.heap hc29
 replace G := G.tr g36
 clear g36
 refine stp (r_assign_slice rfl ?_)
 refine WL_nil ?_
 refine W_seq ?_
 refine W_seq (W_region rfl ?_)
 refine stp (r_move_bool rfl ?_)
 refine WL_nil ?_
 refine W_cond2 (b := dbl) rfl (fun hd => ?_) (fun hd => ?_)
 ·-- true
  rw [hd] at hs2
  refine W_region rfl ?_
  refine stp (r_move_int rfl ?_)
  refine stp (r_buildSlice (cs := #[.int .u64 e2]) (el := 30) (fun w => by kernel_rfl) ?_)
  intro bs38 w39 hb40 hc41 g42
  have hge43 := Nat.le_trans G.size hb40
  replace hc18 := g42.heap hc18
  replace hS := hS.grow g42
  replace hc23 := g42.heap hc23
  replace hc29 := g42.heap hc29
  replace hc35 := g42.heap hc35
  replace G := G.tr g42
  clear g42
  refine stp (r_move_int rfl ?_)
  refine stp (r_move_int rfl ?_)
  refine stp (r_buildSlice (cs := #[.int .u64 e4, .int .u64 e3]) (el := 30) (fun w => by kernel_rfl) ?_)
  intro bs44 w45 hb46 hc47 g48
  have hge49 := Nat.le_trans G.size hb46
  replace hc18 := g48.heap hc18
  replace hS := hS.grow g48
  replace hc23 := g48.heap hc23
  replace hc29 := g48.heap hc29
  replace hc35 := g48.heap hc35
  replace hc41 := g48.heap hc41
  replace G := G.tr g48
  clear g48
  refine stp (r_move_int rfl ?_)
  refine stp (r_buildSlice (cs := #[.int .u64 x]) (el := 30) (fun w => by kernel_rfl) ?_)
  intro bs50 w51 hb52 hc53 g54
  have hge55 := Nat.le_trans G.size hb52
  replace hc18 := g54.heap hc18
  replace hS := hS.grow g54
  replace hc23 := g54.heap hc23
  replace hc29 := g54.heap hc29
  replace hc35 := g54.heap hc35
  replace hc41 := g54.heap hc41
  replace hc47 := g54.heap hc47
  replace G := G.tr g54
  clear g54
  refine stp (r_buildSlice (cs := #[.slice (some ⟨bs38, 0, none⟩) 1 1, .slice (some ⟨bs44, 0, none⟩) 2 2, .slice (some ⟨bs50, 0, none⟩) 1 1]) (el := 23) (fun w => by kernel_rfl) ?_)
  intro bs56 w57 hb58 hc59 g60
  have hge61 := Nat.le_trans G.size hb58
  replace hc18 := g60.heap hc18
  replace hS := hS.grow g60
  replace hc23 := g60.heap hc23
  replace hc29 := g60.heap hc29
  replace hc35 := g60.heap hc35
  replace hc41 := g60.heap hc41
  replace hc47 := g60.heap hc47
  replace hc53 := g60.heap hc53
  replace G := G.tr g60
  clear g60
  refine stp (r_assign_slice rfl ?_)
  refine WL_nil ?_
  have hA : ArenaR w57 (.slice (some ⟨bs20, 0, none⟩) 1 1) (farA k e1 x) := arena_one hc23 (by rw [farSeg_len]; exact hS)
  have hB : ArenaR w57 (.slice (some ⟨bs56, 0, none⟩) 3 3) (farC e2 e4 e3 x) := arena_three hc59 (Row.of_block (n := 1) hc41 rfl rfl (by decide)) (Row.of_block (n := 2) hc47 rfl rfl (by decide)) (Row.of_block (n := 1) hc53 rfl rfl (by decide))
  refine W_seq (W_region rfl ?_)
  refine stp (r_move_slice rfl ?_)
  refine stp (r_build (v := .agg #[.slice none 0 0, .int .i64 0]) (fun w => by kernel_rfl) ?_)
  refine stp (r_gives (v := .tuple #[.agg #[.int .i64 1, .int .i64 0, .int .i64 0, .int .i64 0, .int .u64 x], .int .u16 0]) rfl (gives_eq (Of_calls _ hA (farA_ok hk1 hu1 hw) (steps := []) (a := 0) (cost := 9) (rowat_nil _ _) (by intro x_ hx_; simp at hx_) (by simp only [inR]; omega) (by simp only [inR]; omega)) (y := .tuple #[.agg #[.int .i64 1, .int .i64 0, .int .i64 0, .int .i64 0, .int .u64 x], .int .u16 0]) (by rw [farA_walk hk1 hs1] <;> rfl)) ?_)
  intro w62 g63
  replace hc18 := g63.heap hc18
  replace hS := hS.grow g63
  replace hc23 := g63.heap hc23
  replace hc29 := g63.heap hc29
  replace hc35 := g63.heap hc35
  replace hc41 := g63.heap hc41
  replace hc47 := g63.heap hc47
  replace hc53 := g63.heap hc53
  replace hc59 := g63.heap hc59
  replace hA := hA.grow g63
  replace hB := hB.grow g63
  replace G := G.tr g63
  clear g63
  refine stp (r_move (v := .tuple #[.agg #[.int .i64 1, .int .i64 0, .int .i64 0, .int .i64 0, .int .u64 x], .int .u16 0]) rfl ?_)
  refine stp (r_extract (v := .agg #[.int .i64 1, .int .i64 0, .int .i64 0, .int .i64 0, .int .u64 x]) rfl rfl ?_)
  refine stp (r_extract (v := .int .u16 0) rfl rfl ?_)
  refine stp (r_alloc ?_)
  intro b64 w65 hb66 hc67 g68
  refine stn (r_storeAll rfl rfl hc67 (by rfl) (by rfl) (by rfl) ?_)
  intro w69 hc70 u71
  have g72 := g68.upd u71 hb66
  have hge73 := Nat.le_trans G.size hb66
  have ne74 := Nat.ne_of_lt (Nat.lt_of_lt_of_le (lt_of_heap hc18) hb66)
  have ne75 := Nat.ne_of_lt (Nat.lt_of_lt_of_le (lt_of_heap hc23) hb66)
  have ne76 := Nat.ne_of_lt (Nat.lt_of_lt_of_le (lt_of_heap hc29) hb66)
  have ne77 := Nat.ne_of_lt (Nat.lt_of_lt_of_le (lt_of_heap hc35) hb66)
  have ne78 := Nat.ne_of_lt (Nat.lt_of_lt_of_le (lt_of_heap hc41) hb66)
  have ne79 := Nat.ne_of_lt (Nat.lt_of_lt_of_le (lt_of_heap hc47) hb66)
  have ne80 := Nat.ne_of_lt (Nat.lt_of_lt_of_le (lt_of_heap hc53) hb66)
  have ne81 := Nat.ne_of_lt (Nat.lt_of_lt_of_le (lt_of_heap hc59) hb66)
  replace hc18 := g72.heap hc18
  replace hS := hS.grow g72
  replace hc23 := g72.heap hc23
  replace hc29 := g72.heap hc29
  replace hc35 := g72.heap hc35
  replace hc41 := g72.heap hc41
  replace hc47 := g72.heap hc47
  replace hc53 := g72.heap hc53
  replace hc59 := g72.heap hc59
  replace hA := hA.grow g72
  replace hB := hB.grow g72
  replace G := G.tr g72
  clear u71 g68 hb66 hc67
  refine stp (r_assign_int rfl ?_)
  refine WL_nil ?_
  refine W_seq (W_region rfl ?_)
  refine stp (r_move_slice rfl ?_)
  refine stp (r_build (v := .agg #[.slice none 0 0, .int .i64 0]) (fun w => by kernel_rfl) ?_)
  refine stp (r_gives (v := .tuple #[.agg #[.int .i64 1, .int .i64 0, .int .i64 0, .int .i64 0, .int .u64 x], .int .u16 0]) rfl (gives_eq (Of_calls _ hB (farC_ok hu2 hu4 hu3 hw) (steps := []) (a := 0) (cost := 9) (rowat_nil _ _) (by intro x_ hx_; simp at hx_) (by simp only [inR]; omega) (by simp only [inR]; omega)) (y := .tuple #[.agg #[.int .i64 1, .int .i64 0, .int .i64 0, .int .i64 0, .int .u64 x], .int .u16 0]) (by rw [farC_walk hs2 hs4 hs3] <;> rfl)) ?_)
  intro w82 g83
  replace hc18 := g83.heap hc18
  replace hS := hS.grow g83
  replace hc23 := g83.heap hc23
  replace hc29 := g83.heap hc29
  replace hc35 := g83.heap hc35
  replace hc41 := g83.heap hc41
  replace hc47 := g83.heap hc47
  replace hc53 := g83.heap hc53
  replace hc59 := g83.heap hc59
  replace hA := hA.grow g83
  replace hB := hB.grow g83
  replace hc70 := g83.heap hc70
  replace G := G.tr g83
  clear g83
  refine stp (r_move (v := .tuple #[.agg #[.int .i64 1, .int .i64 0, .int .i64 0, .int .i64 0, .int .u64 x], .int .u16 0]) rfl ?_)
  refine stp (r_extract (v := .agg #[.int .i64 1, .int .i64 0, .int .i64 0, .int .i64 0, .int .u64 x]) rfl rfl ?_)
  refine stp (r_extract (v := .int .u16 0) rfl rfl ?_)
  refine stp (r_alloc ?_)
  intro b84 w85 hb86 hc87 g88
  refine stn (r_storeAll rfl rfl hc87 (by rfl) (by rfl) (by rfl) ?_)
  intro w89 hc90 u91
  have g92 := g88.upd u91 hb86
  have hge93 := Nat.le_trans G.size hb86
  have ne94 := Nat.ne_of_lt (Nat.lt_of_lt_of_le (lt_of_heap hc18) hb86)
  have ne95 := Nat.ne_of_lt (Nat.lt_of_lt_of_le (lt_of_heap hc23) hb86)
  have ne96 := Nat.ne_of_lt (Nat.lt_of_lt_of_le (lt_of_heap hc29) hb86)
  have ne97 := Nat.ne_of_lt (Nat.lt_of_lt_of_le (lt_of_heap hc35) hb86)
  have ne98 := Nat.ne_of_lt (Nat.lt_of_lt_of_le (lt_of_heap hc41) hb86)
  have ne99 := Nat.ne_of_lt (Nat.lt_of_lt_of_le (lt_of_heap hc47) hb86)
  have ne100 := Nat.ne_of_lt (Nat.lt_of_lt_of_le (lt_of_heap hc53) hb86)
  have ne101 := Nat.ne_of_lt (Nat.lt_of_lt_of_le (lt_of_heap hc59) hb86)
  have ne102 := Nat.ne_of_lt (Nat.lt_of_lt_of_le (lt_of_heap hc70) hb86)
  replace hc18 := g92.heap hc18
  replace hS := hS.grow g92
  replace hc23 := g92.heap hc23
  replace hc29 := g92.heap hc29
  replace hc35 := g92.heap hc35
  replace hc41 := g92.heap hc41
  replace hc47 := g92.heap hc47
  replace hc53 := g92.heap hc53
  replace hc59 := g92.heap hc59
  replace hA := hA.grow g92
  replace hB := hB.grow g92
  replace hc70 := g92.heap hc70
  replace G := G.tr g92
  clear u91 g88 hb86 hc87
  refine stp (r_assign_int rfl ?_)
  refine WL_nil ?_
  refine W_seq (W_region rfl ?_)
  refine stp (r_gives (v := .bool true) rfl (known9_calls _) ?_)
  intro w103 g104
  replace hc18 := g104.heap hc18
  replace hS := hS.grow g104
  replace hc23 := g104.heap hc23
  replace hc29 := g104.heap hc29
  replace hc35 := g104.heap hc35
  replace hc41 := g104.heap hc41
  replace hc47 := g104.heap hc47
  replace hc53 := g104.heap hc53
  replace hc59 := g104.heap hc59
  replace hA := hA.grow g104
  replace hB := hB.grow g104
  replace hc70 := g104.heap hc70
  replace hc90 := g104.heap hc90
  replace G := G.tr g104
  clear g104
  refine stp (r_move (v := .bool true) rfl ?_)
  refine stp (r_move_int rfl ?_)
  refine stp (r_eql_t rfl rfl (by decide) ?_)
  refine stp (r_pick_t (v := .bool true) rfl rfl rfl ?_)
  refine stp (r_move (v := .bool true) rfl ?_)
  refine stp (r_move_int rfl ?_)
  refine stp (r_eql_t rfl rfl (by decide) ?_)
  refine stp (r_pick_t (v := .bool true) rfl rfl rfl ?_)
  refine stp (r_move (v := .bool true) rfl ?_)
  refine stp (r_loadAll rfl hc70 (by rfl) ?_)
  refine stp (r_loadAll rfl hc90 (by rfl) ?_)
  refine stp (r_eqlS' (r' := true) rfl rfl (by rfl) (by simp) ?_)
  refine stp (r_pick_t (v := .bool true) rfl rfl rfl ?_)
  refine stp (r_move (v := .bool true) rfl ?_)
  refine stp (r_fieldAddr rfl ?_)
  refine stp (r_load (v := .int .u64 x) rfl hc70 rfl ?_)
  refine stp (r_move_int rfl ?_)
  refine stp (r_eql_t rfl rfl (by omega) ?_)
  refine stp (r_pick_t (v := .bool true) rfl rfl rfl ?_)
  refine stp (r_assign (v := .bool true) rfl ?_)
  refine WL_nil ?_
  refine W_ret ?_
  refine ret1 (res_tmp (v := .bool true) rfl) ⟨?_, G⟩
  rfl
 ·-- false
  rw [hd] at hs2
  refine W_skip ?_
  have hA : ArenaR w33 (.slice (some ⟨bs20, 0, none⟩) 1 1) (farA k e1 x) := arena_one hc23 (by rw [farSeg_len]; exact hS)
  have hB : ArenaR w33 (.slice (some ⟨bs32, 0, none⟩) 2 2) (farB k e2 e1 x) := arena_two hc35 (Row.of_block (n := 1) hc29 rfl rfl (by decide)) (by rw [farSeg_len]; exact hS)
  refine W_seq (W_region rfl ?_)
  refine stp (r_move_slice rfl ?_)
  refine stp (r_build (v := .agg #[.slice none 0 0, .int .i64 0]) (fun w => by kernel_rfl) ?_)
  refine stp (r_gives (v := .tuple #[.agg #[.int .i64 1, .int .i64 0, .int .i64 0, .int .i64 0, .int .u64 x], .int .u16 0]) rfl (gives_eq (Of_calls _ hA (farA_ok hk1 hu1 hw) (steps := []) (a := 0) (cost := 9) (rowat_nil _ _) (by intro x_ hx_; simp at hx_) (by simp only [inR]; omega) (by simp only [inR]; omega)) (y := .tuple #[.agg #[.int .i64 1, .int .i64 0, .int .i64 0, .int .i64 0, .int .u64 x], .int .u16 0]) (by rw [farA_walk hk1 hs1] <;> rfl)) ?_)
  intro w105 g106
  replace hc18 := g106.heap hc18
  replace hS := hS.grow g106
  replace hc23 := g106.heap hc23
  replace hc29 := g106.heap hc29
  replace hc35 := g106.heap hc35
  replace hA := hA.grow g106
  replace hB := hB.grow g106
  replace G := G.tr g106
  clear g106
  refine stp (r_move (v := .tuple #[.agg #[.int .i64 1, .int .i64 0, .int .i64 0, .int .i64 0, .int .u64 x], .int .u16 0]) rfl ?_)
  refine stp (r_extract (v := .agg #[.int .i64 1, .int .i64 0, .int .i64 0, .int .i64 0, .int .u64 x]) rfl rfl ?_)
  refine stp (r_extract (v := .int .u16 0) rfl rfl ?_)
  refine stp (r_alloc ?_)
  intro b107 w108 hb109 hc110 g111
  refine stn (r_storeAll rfl rfl hc110 (by rfl) (by rfl) (by rfl) ?_)
  intro w112 hc113 u114
  have g115 := g111.upd u114 hb109
  have hge116 := Nat.le_trans G.size hb109
  have ne117 := Nat.ne_of_lt (Nat.lt_of_lt_of_le (lt_of_heap hc18) hb109)
  have ne118 := Nat.ne_of_lt (Nat.lt_of_lt_of_le (lt_of_heap hc23) hb109)
  have ne119 := Nat.ne_of_lt (Nat.lt_of_lt_of_le (lt_of_heap hc29) hb109)
  have ne120 := Nat.ne_of_lt (Nat.lt_of_lt_of_le (lt_of_heap hc35) hb109)
  replace hc18 := g115.heap hc18
  replace hS := hS.grow g115
  replace hc23 := g115.heap hc23
  replace hc29 := g115.heap hc29
  replace hc35 := g115.heap hc35
  replace hA := hA.grow g115
  replace hB := hB.grow g115
  replace G := G.tr g115
  clear u114 g111 hb109 hc110
  refine stp (r_assign_int rfl ?_)
  refine WL_nil ?_
  refine W_seq (W_region rfl ?_)
  refine stp (r_move_slice rfl ?_)
  refine stp (r_build (v := .agg #[.slice none 0 0, .int .i64 0]) (fun w => by kernel_rfl) ?_)
  refine stp (r_gives (v := .tuple #[.agg #[.int .i64 1, .int .i64 0, .int .i64 0, .int .i64 0, .int .u64 x], .int .u16 0]) rfl (gives_eq (Of_calls _ hB (farB_ok hk1 hu2 hu1 hw) (steps := []) (a := 0) (cost := 9) (rowat_nil _ _) (by intro x_ hx_; simp at hx_) (by simp only [inR]; omega) (by simp only [inR]; omega)) (y := .tuple #[.agg #[.int .i64 1, .int .i64 0, .int .i64 0, .int .i64 0, .int .u64 x], .int .u16 0]) (by rw [farB_walk hk1 hs2 hs1] <;> rfl)) ?_)
  intro w121 g122
  replace hc18 := g122.heap hc18
  replace hS := hS.grow g122
  replace hc23 := g122.heap hc23
  replace hc29 := g122.heap hc29
  replace hc35 := g122.heap hc35
  replace hA := hA.grow g122
  replace hB := hB.grow g122
  replace hc113 := g122.heap hc113
  replace G := G.tr g122
  clear g122
  refine stp (r_move (v := .tuple #[.agg #[.int .i64 1, .int .i64 0, .int .i64 0, .int .i64 0, .int .u64 x], .int .u16 0]) rfl ?_)
  refine stp (r_extract (v := .agg #[.int .i64 1, .int .i64 0, .int .i64 0, .int .i64 0, .int .u64 x]) rfl rfl ?_)
  refine stp (r_extract (v := .int .u16 0) rfl rfl ?_)
  refine stp (r_alloc ?_)
  intro b123 w124 hb125 hc126 g127
  refine stn (r_storeAll rfl rfl hc126 (by rfl) (by rfl) (by rfl) ?_)
  intro w128 hc129 u130
  have g131 := g127.upd u130 hb125
  have hge132 := Nat.le_trans G.size hb125
  have ne133 := Nat.ne_of_lt (Nat.lt_of_lt_of_le (lt_of_heap hc18) hb125)
  have ne134 := Nat.ne_of_lt (Nat.lt_of_lt_of_le (lt_of_heap hc23) hb125)
  have ne135 := Nat.ne_of_lt (Nat.lt_of_lt_of_le (lt_of_heap hc29) hb125)
  have ne136 := Nat.ne_of_lt (Nat.lt_of_lt_of_le (lt_of_heap hc35) hb125)
  have ne137 := Nat.ne_of_lt (Nat.lt_of_lt_of_le (lt_of_heap hc113) hb125)
  replace hc18 := g131.heap hc18
  replace hS := hS.grow g131
  replace hc23 := g131.heap hc23
  replace hc29 := g131.heap hc29
  replace hc35 := g131.heap hc35
  replace hA := hA.grow g131
  replace hB := hB.grow g131
  replace hc113 := g131.heap hc113
  replace G := G.tr g131
  clear u130 g127 hb125 hc126
  refine stp (r_assign_int rfl ?_)
  refine WL_nil ?_
  refine W_seq (W_region rfl ?_)
  refine stp (r_gives (v := .bool true) rfl (known9_calls _) ?_)
  intro w138 g139
  replace hc18 := g139.heap hc18
  replace hS := hS.grow g139
  replace hc23 := g139.heap hc23
  replace hc29 := g139.heap hc29
  replace hc35 := g139.heap hc35
  replace hA := hA.grow g139
  replace hB := hB.grow g139
  replace hc113 := g139.heap hc113
  replace hc129 := g139.heap hc129
  replace G := G.tr g139
  clear g139
  refine stp (r_move (v := .bool true) rfl ?_)
  refine stp (r_move_int rfl ?_)
  refine stp (r_eql_t rfl rfl (by decide) ?_)
  refine stp (r_pick_t (v := .bool true) rfl rfl rfl ?_)
  refine stp (r_move (v := .bool true) rfl ?_)
  refine stp (r_move_int rfl ?_)
  refine stp (r_eql_t rfl rfl (by decide) ?_)
  refine stp (r_pick_t (v := .bool true) rfl rfl rfl ?_)
  refine stp (r_move (v := .bool true) rfl ?_)
  refine stp (r_loadAll rfl hc113 (by rfl) ?_)
  refine stp (r_loadAll rfl hc129 (by rfl) ?_)
  refine stp (r_eqlS' (r' := true) rfl rfl (by rfl) (by simp) ?_)
  refine stp (r_pick_t (v := .bool true) rfl rfl rfl ?_)
  refine stp (r_move (v := .bool true) rfl ?_)
  refine stp (r_fieldAddr rfl ?_)
  refine stp (r_load (v := .int .u64 x) rfl hc113 rfl ?_)
  refine stp (r_move_int rfl ?_)
  refine stp (r_eql_t rfl rfl (by omega) ?_)
  refine stp (r_pick_t (v := .bool true) rfl rfl rfl ?_)
  refine stp (r_assign (v := .bool true) rfl ?_)
  refine WL_nil ?_
  refine W_ret ?_
  refine ret1 (res_tmp (v := .bool true) rfl) ⟨?_, G⟩
  rfl
end Go.Proofs.Ytdddpbapamdghaa.K
