/- The walks of chapter 10's statements (printed by l10.py). -/
import Derived.Test.YtfhfecepcnapfaaT
import Derived.Test.YtfhfecepcnapfaaJ14
import Derived.Test.YtfhfecepcnapfaaU10
import Derived.Test.YtfhfecepcnapfaaPtr
import Derived.Test.YtfhfecepcnapfaaBD
import Derived.Test.YtfhfecepcnapfaaBF
import Derived.Test.YtfhfecepcnapfaaBR
import Derived.Test.YtfhfecepcnapfaaCA
import Derived.Test.YtfhfecepcnapfaaCB
import Derived.Test.YtfhfecepcnapfaaCD
import Derived.Test.YtfhfecepcnapfaaCE
import Derived.Test.YtfhfecepcnapfaaCG
import Derived.Test.YtfhfecepcnapfaaW10
import Derived.Test.YtfhfecepcnapfaaCK
set_option linter.unusedVariables false
set_option linter.unusedSimpArgs false
namespace Go.Proofs.Ytfhfecepcnapfaa.K
open Go Go.RowKit Go.Proofs
attribute [local irreducible] Run1 OpG WL W AO Gives
set_option maxRecDepth 100000 in
theorem TreeDeep_calls (w : World) {k_ : Int} (k0 : 0 ≤ k_) (k1 : k_ ≤ 65535) : Gives Try.prog 7 #[.int .u16 k_] w (.bool true) := by
 obtain ⟨m, hm⟩ : ∃ m : Nat, (m : Int) = k_ % 200 := ⟨(k_ % 200).toNat, by omega⟩
 have hm1 : m ≤ 200 := by omega
 have hm2 : m < 200 := by omega
 obtain ⟨e1, he1, hs1, hu1⟩ : ∃ e, e = encR selfP ∧ Says e selfP ∧ inR .u64 e := ⟨_, rfl, says_enc selfP_ok, encR_u64 _⟩
 obtain ⟨z1, hz1⟩ : ∃ z, z = encE selfP := ⟨_, rfl⟩
 obtain ⟨e2, he2⟩ : ∃ e, e = encR (listP m) := ⟨_, rfl⟩
 obtain ⟨z2, hz2⟩ : ∃ z, z = encE (listP m) := ⟨_, rfl⟩
 have G := Grow.rfl' w
 refine gives_of Try.func7 Try.ntmps7 Try.results7 rfl rfl ?_
 refine W_seq (W_region rfl ?_)
 refine stp (r_assign (v := .bool false) rfl ?_)
 refine WL_nil ?_
 refine W_seq (W_region rfl ?_)
 refine stp (r_build (v := .agg #[.int .i64 1, .int .i64 (-1), .int .i64 0, .int .i64 1, .int .i64 0, .int .i64 0, .int .i64 0, .bool false]) (fun w => by kernel_rfl) ?_)
 refine stp (r_gives (v := .tuple #[.int .u64 e1, .int .i64 z1]) rfl (gives_eq (rencode_calls _ selfP) (y := .tuple #[.int .u64 e1, .int .i64 z1]) (by rw [he1, hz1])) ?_)
 intro w1 g2
 replace G := G.tr g2
 clear g2
 refine stp (r_move (v := .tuple #[.int .u64 e1, .int .i64 z1]) rfl ?_)
 refine stp (r_extract (v := .int .u64 e1) rfl rfl ?_)
 refine stp (r_extract (v := .int .i64 z1) rfl rfl ?_)
 refine stp (r_assign_int rfl ?_)
 refine stp (r_assign_int rfl ?_)
 refine WL_nil ?_
 refine W_seq (W_region rfl ?_)
 refine stp (r_move_int rfl ?_)
 refine stp (r_buildSlice (cs := #[.int .u64 e1]) (el := 55) (fun w => by kernel_rfl) ?_)
 intro bs3 w4 hb5 hc6 g7
 have hge8 := Nat.le_trans G.size hb5
 replace G := G.tr g7
 clear g7
 refine stp (r_buildSlice (cs := #[.slice (some ⟨bs3, 0, none⟩) 1 1]) (el := 34) (fun w => by kernel_rfl) ?_)
 intro bs9 w10 hb11 hc12 g13
 have hge14 := Nat.le_trans G.size hb11
 replace hc6 := g13.heap hc6
 replace G := G.tr g13
 clear g13
 refine WL_some (og rfl ?_)
 have hA : ArenaR w10 (.slice (some ⟨bs9, 0, none⟩) 1 1) [[e1]] := arena_one hc12 (Row.of_block (n := 1) hc6 rfl rfl (by decide))
 have hcal := Decodeg_calls _ hA (by simp) (self_u64 hu1)
 rw [self_decT hs1] at hcal
 refine r_call rfl hcal ?_
 rintro v_ w15 ⟨cells_, rfl, hU_, g_⟩
 clear hcal
 have hU := hU_.sees (Sees.seen _ _)
 clear hU_
 replace hc6 := g_.heap hc6
 replace hc12 := g_.heap hc12
 replace G := G.tr g_
 clear g_
 obtain ⟨y16, y17, a18, n19, c20, a21, n22, c23, a24, n25, c26, rfl⟩ := hU.cells
 refine stp (r_move (v := .tuple #[.agg #[.int .i64 y16, .int .i64 y17, .slice a18 n19 c20, .slice a21 n22 c23, .slice a24 n25 c26], .int .u16 21]) rfl ?_)
 refine stp (r_extract (v := .agg #[.int .i64 y16, .int .i64 y17, .slice a18 n19 c20, .slice a21 n22 c23, .slice a24 n25 c26]) rfl rfl ?_)
 refine stp (r_extract (v := .int .u16 21) rfl rfl ?_)
 refine stp (r_alloc ?_)
 intro b27 w28 hb29 hc30 g31
 refine stn (r_storeAll rfl rfl hc30 (by rfl) (by rfl) (by rfl) ?_)
 intro w32 hc33 u34
 have g35 := g31.upd u34 hb29
 have hge36 := Nat.le_trans G.size hb29
 have ne37 := Nat.ne_of_lt (Nat.lt_of_lt_of_le (lt_of_heap hc6) hb29)
 have ne38 := Nat.ne_of_lt (Nat.lt_of_lt_of_le (lt_of_heap hc12) hb29)
 replace hc6 := g35.heap hc6
 replace hc12 := g35.heap hc12
 replace hU := hU.grow g35
 replace G := G.tr g35
 clear u34 g31 hb29 hc30
 refine stp (r_assign_int rfl ?_)
 refine WL_nil ?_
 refine W_seq (W_region rfl ?_)
 refine stp (r_move_int rfl ?_)
 refine stp (r_rem rfl rfl ?_ ?_ ?_); omega; omega
 refine WL_some (og rfl ?_)
 refine r_conv rfl ?_ ?_; constructor <;> omega
 rw [← hm]
 refine stp (r_assign_int rfl ?_)
 refine WL_nil ?_
 refine W_seq (W_region rfl ?_)
 refine stp (r_move_int rfl ?_)
 refine stp (r_build (v := .agg #[.int .i64 2, .int .i64 0, .int .i64 0, .int .i64 0, .int .i64 6, .int .i64 (m : Int), .int .i64 0, .bool false]) (fun w => by kernel_rfl) ?_)
 refine stp (r_gives (v := .tuple #[.int .u64 e2, .int .i64 z2]) rfl (gives_eq (rencode_calls _ (listP m)) (y := .tuple #[.int .u64 e2, .int .i64 z2]) (by rw [he2, hz2])) ?_)
 intro w39 g40
 replace hc6 := g40.heap hc6
 replace hc12 := g40.heap hc12
 replace hU := hU.grow g40
 replace hc33 := g40.heap hc33
 replace G := G.tr g40
 clear g40
 refine stp (r_move (v := .tuple #[.int .u64 e2, .int .i64 z2]) rfl ?_)
 refine stp (r_extract (v := .int .u64 e2) rfl rfl ?_)
 refine stp (r_extract (v := .int .i64 z2) rfl rfl ?_)
 refine stp (r_assign_int rfl ?_)
 refine stp (r_assign_int rfl ?_)
 refine WL_nil ?_
 refine W_seq (W_region rfl ?_)
 refine stp (r_move_int rfl ?_)
 refine stp (r_buildSlice (cs := #[.int .u64 e2]) (el := 55) (fun w => by kernel_rfl) ?_)
 intro bs41 w42 hb43 hc44 g45
 have hge46 := Nat.le_trans G.size hb43
 have ne47 := Nat.ne_of_lt (Nat.lt_of_lt_of_le (lt_of_heap hc33) hb43)
 replace hc6 := g45.heap hc6
 replace hc12 := g45.heap hc12
 replace hU := hU.grow g45
 replace hc33 := g45.heap hc33
 replace G := G.tr g45
 clear g45
 refine stp (r_assign_slice rfl ?_)
 refine WL_nil ?_
 refine W_seq ?_
 refine W_seq (W_region rfl ?_)
 refine stp (r_assign_int rfl ?_)
 refine WL_nil ?_
 refine W_block ?_
 refine W_loop (fun m_ e_ w_ => ∃ (k : Nat) (ad3 : Option Addr) (n3 : Nat) (c3 : Nat), m_ = m - k ∧ Fr [(2, .bool false), (6, .int .u16 21), (7, .int .i64 (m : Int)), (10, .slice ad3 n3 c3), (11, .int .i64 (k : Int))] e_ ∧ (k ≤ m) ∧ (w_.ownsRow w.heap.size 55 1 (.slice ad3 n3 c3) (k + 1) ((e2 :: (List.range k).map (kidE m)).map (.int .u64))) ∧ Grow w w_) _ ⟨0, (some ⟨bs41, 0, none⟩), 1, 1, rfl, fr_of ⟨rfl, rfl, rfl, rfl, rfl, trivial⟩, by omega, (own_lit hc44 hge46 rfl (by decide)), G⟩ ?_
 clear hc6 hc12 hU hc33 hc44
 clear G
 rintro m_ e_ w48 ⟨k, ad3, n3, c3, rfl, ⟨e49, rfl⟩, hk, own, G⟩
 refine W_seq ?_
 refine W_seq (W_region rfl ?_)
 refine stp (r_move_int rfl ?_)
 refine stp (r_move_int rfl ?_)
 refine stp (r_lss rfl rfl ?_)
 refine WL_nil ?_
 refine W_cond2 (b := (decide ((k : Int) < (m : Int)))) rfl (fun hlt => ?_) (fun hlt => ?_)
 ·-- true
  replace hlt := of_decide_eq_true hlt
  obtain ⟨z9, hz9⟩ : ∃ z, z = encE (kidP ((m : Int) - (k : Int) - 1)) := ⟨_, rfl⟩
  obtain ⟨e9, he9⟩ : ∃ e, e = kidE m k := ⟨_, rfl⟩
  have he9' : e9 = encR (kidP ((m : Int) - (k : Int) - 1)) := he9
  refine W_skip ?_
  refine W_seq ?_
  refine W_block ?_
  refine W_seq (W_region rfl ?_)
  refine stp (r_move_int rfl ?_)
  refine stp (r_move_int rfl ?_)
  refine stp (r_sub rfl rfl ?_ ?_); constructor <;> omega
  refine stp (r_sub rfl rfl ?_ ?_); constructor <;> omega
  refine stp (r_build (v := .agg #[.int .i64 1, .int .i64 ((m : Int) - (k : Int) - 1), .int .i64 100, .int .i64 0, .int .i64 0, .int .i64 0, .int .i64 0, .bool false]) (fun w => by kernel_rfl) ?_)
  refine stp (r_gives (v := .tuple #[.int .u64 e9, .int .i64 z9]) rfl (gives_eq (rencode_calls _ (kidP ((m : Int) - (k : Int) - 1))) (y := .tuple #[.int .u64 e9, .int .i64 z9]) (by rw [he9', hz9])) ?_)
  intro w50 g51
  replace own := own_grow own g51
  replace G := G.tr g51
  clear g51
  refine stp (r_move (v := .tuple #[.int .u64 e9, .int .i64 z9]) rfl ?_)
  refine stp (r_extract (v := .int .u64 e9) rfl rfl ?_)
  refine stp (r_extract (v := .int .i64 z9) rfl rfl ?_)
  refine stp (r_assign_int rfl ?_)
  refine stp (r_assign_int rfl ?_)
  refine WL_nil ?_
  refine W_region rfl ?_
  refine stp (r_move_slice rfl ?_)
  refine stp (r_move_int rfl ?_)
  refine stp (r_buildSlice (cs := #[.int .u64 e9]) (el := 55) (fun w => by kernel_rfl) ?_)
  intro bs52 w53 hb54 hc55 g56
  have hge57 := Nat.le_trans G.size hb54
  replace own := own_grow own g56
  replace G := G.tr g56
  clear g56
  refine stp (r_append rfl rfl rfl rfl own (Row.of_block (n := 1) hc55 rfl rfl (by omega)) (fun q_ hq_ => by simp at hq_; subst hq_; rfl) (by simp only [maxLen]; omega) (by omega) G.size ?_)
  intro v58 w59 own6 gr6
  replace G := G.grown gr6 (own_ge own)
  clear own gr6
  obtain ⟨ad4, n4, c4, rfl⟩ := own_slice own6
  refine stp (r_assign_slice rfl ?_)
  refine WL_nil ?_
  refine W_region rfl ?_
  refine stp (r_move_int rfl ?_)
  refine stp (r_add rfl rfl ?_ ?_); constructor <;> omega
  refine stp (r_assign_int rfl ?_)
  refine WL_nil ?_
  refine ⟨_, ?_, k + 1, ad4, n4, c4, rfl, fr_of ⟨rfl, rfl, rfl, rfl, congrArg (Value.int .i64) (by omega), trivial⟩, by omega, (by rw [range_kid, ← he9]; exact own6), G⟩
  omega
 ·-- false
  replace hlt := of_decide_eq_false hlt
  have hk9 : k = m := by omega
  rw [hk9] at own
  refine W_exit ?_
  refine W_seq (W_region rfl ?_)
  refine stp (r_move_slice rfl ?_)
  refine stp (r_appendZ (z := .int .u64 0) (by_ := 8) (m := 100) rfl rfl rfl rfl (by rfl) (by rfl) own (by omega) (by omega) G.size ?_)
  intro v60 w61 own6 gr6
  replace G := G.grown gr6 (own_ge own)
  clear own gr6
  rw [list_cells m he2] at own6
  obtain ⟨ad4, n4, c4, rfl⟩ := own_slice own6
  refine stp (r_assign_slice rfl ?_)
  refine WL_nil ?_
  by_cases hc : (1 + (m : Int) + 101 * (m : Int)) ≤ 8192
  ·
   have hd := list_decT hm1
   rw [if_pos hc] at hd
   refine W_seq (W_region rfl ?_)
   refine stp (r_move_slice rfl ?_)
   refine stp (r_buildSlice (cs := #[.slice ad4 n4 c4]) (el := 34) (fun w => by kernel_rfl) ?_)
   intro bs62 w63 hb64 hc65 g66
   have hge67 := Nat.le_trans G.size hb64
   replace own6 := own_grow own6 g66
   replace G := G.tr g66
   clear g66
   refine WL_some (og rfl ?_)
   have hA : ArenaR w63 (.slice (some ⟨bs62, 0, none⟩) 1 1) [listS m] := arena_one hc65 (by have h_ := own_row own6 (by omega); rw [listS_len]; exact h_)
   have hcal := Decodeg_calls _ hA (by simp) (list_u64 m)
   rw [hd] at hcal
   refine r_call rfl hcal ?_
   rintro v_ w68 ⟨cells_, rfl, hV_, g_⟩
   clear hcal
   have hV := hV_.sees (Sees.seen _ _)
   clear hV_
   replace own6 := own_grow own6 g_
   replace hc65 := g_.heap hc65
   replace G := G.tr g_
   clear g_
   obtain ⟨y69, y70, a71, n72, c73, a74, n75, c76, a77, n78, c79, rfl⟩ := hV.cells
   refine stp (r_move (v := .tuple #[.agg #[.int .i64 y69, .int .i64 y70, .slice a71 n72 c73, .slice a74 n75 c76, .slice a77 n78 c79], .int .u16 0]) rfl ?_)
   refine stp (r_extract (v := .agg #[.int .i64 y69, .int .i64 y70, .slice a71 n72 c73, .slice a74 n75 c76, .slice a77 n78 c79]) rfl rfl ?_)
   refine stp (r_extract (v := .int .u16 0) rfl rfl ?_)
   refine stp (r_alloc ?_)
   intro b80 w81 hb82 hc83 g84
   refine stn (r_storeAll rfl rfl hc83 (by rfl) (by rfl) (by rfl) ?_)
   intro w85 hc86 u87
   have g88 := g84.upd u87 hb82
   have hge89 := Nat.le_trans G.size hb82
   have ne90 := Nat.ne_of_lt (Nat.lt_of_lt_of_le (lt_of_heap hc65) hb82)
   replace own6 := own_grow own6 g88
   replace hc65 := g88.heap hc65
   replace hV := hV.grow g88
   replace G := G.tr g88
   clear u87 g84 hb82 hc83
   refine stp (r_assign_int rfl ?_)
   refine WL_nil ?_
   refine W_seq (W_region rfl ?_)
   refine stp (r_move_int rfl ?_)
   refine stp (r_add rfl rfl ?_ ?_); constructor <;> omega
   refine stp (r_move_int rfl ?_)
   refine stp (r_mul rfl rfl ?_ ?_); constructor <;> omega
   refine stp (r_add rfl rfl ?_ ?_); constructor <;> omega
   refine stp (r_assign_int rfl ?_)
   refine WL_nil ?_
   obtain ⟨-, -, -, -, hl5, -, -, -⟩ := hV.lens
   rw [listT_len] at hl5
   refine W_seq (W_region rfl ?_)
   refine stp (r_gives (v := .bool true) rfl (known10_calls _) ?_)
   intro w91 g92
   replace own6 := own_grow own6 g92
   replace hc65 := g92.heap hc65
   replace hV := hV.grow g92
   replace hc86 := g92.heap hc86
   replace G := G.tr g92
   clear g92
   refine stp (r_move (v := .bool true) rfl ?_)
   refine stp (r_move_int rfl ?_)
   refine stp (r_eql_t rfl rfl (by decide) ?_)
   refine stp (r_pick_t (v := .bool true) rfl rfl rfl ?_)
   refine stp (r_move (v := .bool true) rfl ?_)
   refine stp (r_move_int rfl ?_)
   refine stp (r_eql_t rfl rfl (by decide) ?_)
   refine stp (r_move_int rfl ?_)
   refine stp (r_leq_t rfl rfl (by omega) ?_)
   refine stp (r_beq' (r := true) rfl rfl rfl ?_)
   refine stp (r_pick_t (v := .bool true) rfl rfl rfl ?_)
   refine stp (r_move (v := .bool true) rfl ?_)
   refine stp (r_move_int rfl ?_)
   refine stp (r_eql_t rfl rfl (by decide) ?_)
   refine stp (r_move (v := .bool true) rfl ?_)
   refine WL_some (og_no rfl ?_)
   refine WL_some (og_no rfl ?_)
   refine stp (r_pick_t (v := .bool true) rfl rfl rfl ?_)
   refine stp (r_pick_t (v := .bool true) rfl rfl rfl ?_)
   refine stp (r_move (v := .bool true) rfl ?_)
   refine stp (r_move_int rfl ?_)
   refine stp (r_neq_f rfl rfl (by decide) ?_)
   refine stp (r_move (v := .bool false) rfl ?_)
   refine stp (r_fieldAddr rfl ?_)
   refine stp (r_load (v := .slice a77 n78 c79) rfl hc86 rfl ?_)
   refine stp (r_len rfl rfl rfl ?_)
   refine stp (r_move_int rfl ?_)
   refine stp (r_eql_t rfl rfl (by omega) ?_)
   refine stp (r_move (v := .bool true) rfl ?_)
   refine stp (r_loadAll rfl hc86 (by rfl) ?_)
   refine stp (r_gives (v := .int .i64 (1 + (m : Int) + 101 * (m : Int))) rfl (gives_eq (cost_calls _ _ hV (Nat.le_refl _)) (y := .int .i64 (1 + (m : Int) + 101 * (m : Int))) (by rw [list_cost hm1])) ?_)
   intro w93 g94
   replace own6 := own_grow own6 g94
   replace hc65 := g94.heap hc65
   replace hV := hV.grow g94
   replace hc86 := g94.heap hc86
   replace G := G.tr g94
   clear g94
   refine stp (r_move_int rfl ?_)
   refine stp (r_eql_t rfl rfl (by omega) ?_)
   refine stp (r_pick_t (v := .bool true) rfl rfl rfl ?_)
   refine stp (r_pick_f (v := .bool true) rfl rfl rfl ?_)
   refine stp (r_pick_t (v := .bool true) rfl rfl rfl ?_)
   refine stp (r_assign (v := .bool true) rfl ?_)
   refine WL_nil ?_
   refine W_ret ?_
   refine ret1 (res_tmp (v := .bool true) rfl) ⟨?_, G⟩
   rfl
  ·
   have hd := list_decT hm1
   rw [if_neg hc] at hd
   refine W_seq (W_region rfl ?_)
   refine stp (r_move_slice rfl ?_)
   refine stp (r_buildSlice (cs := #[.slice ad4 n4 c4]) (el := 34) (fun w => by kernel_rfl) ?_)
   intro bs95 w96 hb97 hc98 g99
   have hge100 := Nat.le_trans G.size hb97
   replace own6 := own_grow own6 g99
   replace G := G.tr g99
   clear g99
   refine WL_some (og rfl ?_)
   have hA : ArenaR w96 (.slice (some ⟨bs95, 0, none⟩) 1 1) [listS m] := arena_one hc98 (by have h_ := own_row own6 (by omega); rw [listS_len]; exact h_)
   have hcal := Decodeg_calls _ hA (by simp) (list_u64 m)
   rw [hd] at hcal
   refine r_call rfl hcal ?_
   rintro v_ w101 ⟨cells_, rfl, hV_, g_⟩
   clear hcal
   have hV := hV_.sees (Sees.seen _ _)
   clear hV_
   replace own6 := own_grow own6 g_
   replace hc98 := g_.heap hc98
   replace G := G.tr g_
   clear g_
   obtain ⟨y102, y103, a104, n105, c106, a107, n108, c109, a110, n111, c112, rfl⟩ := hV.cells
   refine stp (r_move (v := .tuple #[.agg #[.int .i64 y102, .int .i64 y103, .slice a104 n105 c106, .slice a107 n108 c109, .slice a110 n111 c112], .int .u16 22]) rfl ?_)
   refine stp (r_extract (v := .agg #[.int .i64 y102, .int .i64 y103, .slice a104 n105 c106, .slice a107 n108 c109, .slice a110 n111 c112]) rfl rfl ?_)
   refine stp (r_extract (v := .int .u16 22) rfl rfl ?_)
   refine stp (r_alloc ?_)
   intro b113 w114 hb115 hc116 g117
   refine stn (r_storeAll rfl rfl hc116 (by rfl) (by rfl) (by rfl) ?_)
   intro w118 hc119 u120
   have g121 := g117.upd u120 hb115
   have hge122 := Nat.le_trans G.size hb115
   have ne123 := Nat.ne_of_lt (Nat.lt_of_lt_of_le (lt_of_heap hc98) hb115)
   replace own6 := own_grow own6 g121
   replace hc98 := g121.heap hc98
   replace hV := hV.grow g121
   replace G := G.tr g121
   clear u120 g117 hb115 hc116
   refine stp (r_assign_int rfl ?_)
   refine WL_nil ?_
   refine W_seq (W_region rfl ?_)
   refine stp (r_move_int rfl ?_)
   refine stp (r_add rfl rfl ?_ ?_); constructor <;> omega
   refine stp (r_move_int rfl ?_)
   refine stp (r_mul rfl rfl ?_ ?_); constructor <;> omega
   refine stp (r_add rfl rfl ?_ ?_); constructor <;> omega
   refine stp (r_assign_int rfl ?_)
   refine WL_nil ?_
   refine W_seq (W_region rfl ?_)
   refine stp (r_gives (v := .bool true) rfl (known10_calls _) ?_)
   intro w124 g125
   replace own6 := own_grow own6 g125
   replace hc98 := g125.heap hc98
   replace hV := hV.grow g125
   replace hc119 := g125.heap hc119
   replace G := G.tr g125
   clear g125
   refine stp (r_move (v := .bool true) rfl ?_)
   refine stp (r_move_int rfl ?_)
   refine stp (r_eql_t rfl rfl (by decide) ?_)
   refine stp (r_pick_t (v := .bool true) rfl rfl rfl ?_)
   refine stp (r_move (v := .bool true) rfl ?_)
   refine stp (r_move_int rfl ?_)
   refine stp (r_eql_f rfl rfl (by decide) ?_)
   refine stp (r_move_int rfl ?_)
   refine stp (r_leq_f rfl rfl (by omega) ?_)
   refine stp (r_beq' (r := true) rfl rfl rfl ?_)
   refine stp (r_pick_t (v := .bool true) rfl rfl rfl ?_)
   refine stp (r_move (v := .bool true) rfl ?_)
   refine stp (r_move_int rfl ?_)
   refine stp (r_eql_f rfl rfl (by decide) ?_)
   refine stp (r_move (v := .bool false) rfl ?_)
   refine stp (r_move_int rfl ?_)
   refine stp (r_eql_t rfl rfl (by decide) ?_)
   refine stp (r_pick_f (v := .bool true) rfl rfl rfl ?_)
   refine stp (r_pick_t (v := .bool true) rfl rfl rfl ?_)
   refine stp (r_move (v := .bool true) rfl ?_)
   refine stp (r_move_int rfl ?_)
   refine stp (r_neq_t rfl rfl (by decide) ?_)
   refine stp (r_move (v := .bool true) rfl ?_)
   refine WL_some (og_no rfl ?_)
   refine WL_some (og_no rfl ?_)
   refine WL_some (og_no rfl ?_)
   refine WL_some (og_no rfl ?_)
   refine WL_some (og_no rfl ?_)
   refine WL_some (og_no rfl ?_)
   refine WL_some (og_no rfl ?_)
   refine WL_some (og_no rfl ?_)
   refine WL_some (og_no rfl ?_)
   refine WL_some (og_no rfl ?_)
   refine WL_some (og_no rfl ?_)
   refine stp (r_pick_t (v := .bool true) rfl rfl rfl ?_)
   refine stp (r_pick_t (v := .bool true) rfl rfl rfl ?_)
   refine stp (r_assign (v := .bool true) rfl ?_)
   refine WL_nil ?_
   refine W_ret ?_
   refine ret1 (res_tmp (v := .bool true) rfl) ⟨?_, G⟩
   rfl
end Go.Proofs.Ytfhfecepcnapfaa.K
