/- the statements of chapter 04 (printed by lw04.py). -/
import Derived.Test.YtldlfhodboigeaaSI
import Derived.Test.YtldlfhodboigeaaG04
set_option linter.unusedVariables false
set_option linter.unusedSimpArgs false
namespace Go.Proofs.Ytldlfhodboigeaa.K
open Go Go.RowKit Go.Proofs
attribute [local irreducible] Run1 OpG WL W AO Gives
set_option maxRecDepth 100000 in
theorem rowc_calls (w : World) {ad : Option Addr} {c n : Nat} {xs : List Int} (hx : ∀ x ∈ xs, 0 ≤ x ∧ x < 256) (hc : n ≤ c) (hc2 : c ≤ maxLen) (R : RowAt w 1 ad n (xs.map (.int .u8))) : Calls Try.prog 10 #[.slice ad n c] w (Ret fun v w' => w'.ownsRow w.heap.size 26 2 v (rowS xs).length (encL (rowS xs)) ∧ Grow w w') := by
 have ln := R.len
 have lm := R.lim
 simp only [List.length_map, Nat.mul_one] at ln
 have G := Grow.rfl' w
 refine calls_ret Try.func10 Try.ntmps10 Try.results10 rfl rfl ?_
 refine W_seq (W_region rfl ?_)
 refine stp (r_assign_slice rfl ?_)
 refine WL_nil ?_
 refine W_seq (W_region rfl ?_)
 refine stp (r_assign_slice rfl ?_)
 refine WL_nil ?_
 have ownO : w.ownsRow w.heap.size 26 2 (.slice none 0 0) 0 (encL []) := World.ownsRow_nil _ _ _ _
 have hB1 := Nat.le_refl w.heap.size
 refine W_seq ?_
 refine W_seq (W_region rfl ?_)
 refine stp (r_assign_int rfl ?_)
 refine WL_nil ?_
 refine W_block ?_
 refine W_loop (fun m_ e_ w_ => ∃ (k : Nat) (ado : Option Addr) (co : Nat), m_ = 30 - k ∧ Fr [(0, .slice ad n c), (2, .slice none 0 0), (4, .int .i64 (2 * (k : Int))), (3, .slice ado ((rowK xs k).length) co)] e_ ∧ (k ≤ min (xs.length / 2) 30) ∧ (w.heap.size ≤ w_.heap.size) ∧ (w_.ownsRow w.heap.size 26 2 (.slice ado (rowK xs k).length co) (rowK xs k).length (encL (rowK xs k))) ∧ Grow w w_) _ ⟨0, _, _, rfl, fr_of ⟨rfl, rfl, rfl, rfl, trivial⟩, by omega, hB1, ownO, G⟩ ?_
 clear ownO hB1
 clear G
 rintro m_ e_ w1 ⟨k, ado, co, rfl, ⟨e2, rfl⟩, hk, hB1, ownO, G⟩
 have hg1 := getD_rng hx (2 * (k : Int)).toNat
 have hg2 := getD_rng hx (2 * (k : Int) + 1).toNat
 have hrl := rowK_len xs k
 refine W_seq ?_
 refine W_seq (W_region rfl ?_)
 refine stp (r_move_int rfl ?_)
 refine stp (r_add rfl rfl ?_ ?_); constructor <;> omega
 refine stp (r_move_slice rfl ?_)
 refine stp (r_len rfl rfl rfl ?_)
 refine stp (r_lss rfl rfl ?_)
 refine stp (r_move_bool rfl ?_)
 refine WL_some (og_if (s := .bool (decide (((2 * (k : Int)) + 1) < (n : Int)))) (b := true) (v := .int .i64 (2 * (k : Int))) rfl (wgb_t _) (fun hc3 => ?_) ?_)
 ·
  have hc3_ := of_decide_eq_true hc3
  refine r_move_int rfl ?_
  exact ⟨rfl, rfl⟩
 refine WL_some (og_if (s := .bool (decide (((2 * (k : Int)) + 1) < (n : Int)))) (b := true) (v := .bool (decide ((2 * (k : Int)) < 60))) rfl (wgb_t _) (fun hc4 => ?_) ?_)
 ·
  have hc4_ := of_decide_eq_true hc4
  refine r_lss (gvt hc4) rfl ?_
  exact ⟨rfl, rfl⟩
 refine stp (r_and2 rfl rfl rfl ?_)
 refine WL_nil ?_
 refine W_cond2 (b := ((decide (((2 * (k : Int)) + 1) < (n : Int))) && (decide ((2 * (k : Int)) < 60)))) rfl (fun hlt => ?_) (fun hlt => ?_)
 ·-- true
  simp only [Bool.and_eq_true, Bool.or_eq_true, Bool.not_eq_true', Bool.and_eq_false_iff, Bool.or_eq_false_iff, Bool.not_eq_false', decide_eq_true_eq, decide_eq_false_iff_not, Bool.not_true, Bool.not_false, Bool.not_eq_eq_eq_not, Bool.or_false, Bool.and_true, Bool.or_true, Bool.and_false, Bool.false_or, Bool.true_and, Bool.true_or, Bool.false_and, Bool.false_eq_true, Bool.true_eq_false] at hlt
  refine W_skip ?_
  refine W_seq ?_
  refine W_block ?_
  refine W_any 24 [[], [], [], [1, 0], [2, 1, 0], [3, 2, 1, 0], [4, 3, 2, 1, 0], [], [], [1, 0], [2, 1, 0], [3, 2, 1, 0], [4, 3, 2, 1, 0], [], [], [0], [2, 1, 0], [3, 2, 1, 0], [4, 3, 2, 1, 0], [5, 4, 3, 2, 1, 0], [12, 11, 10, 9, 8, 7, 6, 5, 4, 3, 2, 1, 0], [13, 12, 11, 10, 9, 8, 7, 6, 5, 4, 3, 2, 1, 0], [20, 19, 18, 17, 16, 15, 14, 13, 12, 11, 10, 9, 8, 7, 6, 5, 4, 3, 2, 1, 0], [21, 20, 19, 18, 17, 16, 15, 14, 13, 12, 11, 10, 9, 8, 7, 6, 5, 4, 3, 2, 1, 0]] mixed (by kernel_rfl) (by kernel_rfl) (by kernel_rfl) ?_
  intro w5 g6
  replace hB1 := Nat.le_trans hB1 g6.size
  replace ownO := own_grow ownO g6
  replace G := G.tr g6
  clear g6
  apply AO_ex
  ·intro w_ g_; refine og rfl ?_; refine r_move_slice rfl ?_; exact ⟨Grow.rfl' _, rfl⟩
  apply AO_ex
  ·intro w_ g_; refine og rfl ?_; refine r_move_slice rfl ?_; exact ⟨Grow.rfl' _, rfl⟩
  apply AO_ex
  ·intro w_ g_; refine og rfl ?_; refine r_move_int rfl ?_; exact ⟨Grow.rfl' _, rfl⟩
  apply AO_ex
  ·intro w_ g_; refine og rfl ?_; refine r_indexR (R.grow (G.tr g_)) rfl rfl ?_ ?_ ?_; omega; omega; exact ⟨Grow.rfl' _, rfl⟩
  apply AO_ex
  ·intro w_ g_; refine og rfl ?_; refine r_loadR (v := .int .u8 (xs.getD ((2 * (k : Int)).toNat) 0)) (m := 0) (R.grow (G.tr g_)) rfl (map_get1 0 (by omega)) ?_; exact ⟨Grow.rfl' _, rfl⟩
  apply AO_ex
  ·intro w_ g_; refine og rfl ?_; refine r_rem rfl rfl ?_ ?_ ?_; omega; omega; exact ⟨Grow.rfl' _, rfl⟩
  apply AO_ex
  ·intro w_ g_; refine og rfl ?_; refine r_conv rfl ?_ ?_; constructor <;> omega; exact ⟨Grow.rfl' _, rfl⟩
  apply AO_ex
  ·intro w_ g_; refine og rfl ?_; refine r_move_slice rfl ?_; exact ⟨Grow.rfl' _, rfl⟩
  apply AO_ex
  ·intro w_ g_; refine og rfl ?_; refine r_move_int rfl ?_; exact ⟨Grow.rfl' _, rfl⟩
  apply AO_ex
  ·intro w_ g_; refine og rfl ?_; refine r_indexR (R.grow (G.tr g_)) rfl rfl ?_ ?_ ?_; omega; omega; exact ⟨Grow.rfl' _, rfl⟩
  apply AO_ex
  ·intro w_ g_; refine og rfl ?_; refine r_loadR (v := .int .u8 (xs.getD ((2 * (k : Int)).toNat) 0)) (m := 0) (R.grow (G.tr g_)) rfl (map_get1 0 (by omega)) ?_; exact ⟨Grow.rfl' _, rfl⟩
  apply AO_ex
  ·intro w_ g_; refine og rfl ?_; refine r_rem rfl rfl ?_ ?_ ?_; omega; omega; exact ⟨Grow.rfl' _, rfl⟩
  apply AO_ex
  ·intro w_ g_; refine og rfl ?_; refine r_conv rfl ?_ ?_; constructor <;> omega; exact ⟨Grow.rfl' _, rfl⟩
  apply AO_ex
  ·intro w_ g_; refine og rfl ?_; refine r_move_slice rfl ?_; exact ⟨Grow.rfl' _, rfl⟩
  apply AO_ex
  ·intro w_ g_; refine og rfl ?_; refine r_move_int rfl ?_; exact ⟨Grow.rfl' _, rfl⟩
  apply AO_ex
  ·intro w_ g_; refine og rfl ?_; refine r_add rfl rfl ?_ ?_; constructor <;> omega; exact ⟨Grow.rfl' _, rfl⟩
  apply AO_ex
  ·intro w_ g_; refine og rfl ?_; refine r_indexR (R.grow (G.tr g_)) rfl rfl ?_ ?_ ?_; omega; omega; exact ⟨Grow.rfl' _, rfl⟩
  apply AO_ex
  ·intro w_ g_; refine og rfl ?_; refine r_loadR (v := .int .u8 (xs.getD (((2 * (k : Int)) + 1).toNat) 0)) (m := 0) (R.grow (G.tr g_)) rfl (map_get1 0 (by omega)) ?_; exact ⟨Grow.rfl' _, rfl⟩
  apply AO_ex
  ·intro w_ g_; refine og rfl ?_; refine r_rem rfl rfl ?_ ?_ ?_; omega; omega; exact ⟨Grow.rfl' _, rfl⟩
  apply AO_ex
  ·intro w_ g_; refine og rfl ?_; refine r_conv rfl ?_ ?_; constructor <;> omega; exact ⟨Grow.rfl' _, rfl⟩
  apply AO_ex
  ·intro w_ g_; refine og rfl ?_; refine r_add rfl rfl ?_ ?_; constructor <;> omega; exact ⟨Grow.rfl' _, rfl⟩
  apply AO_ex
  ·intro w_ g_; refine og rfl ?_; refine r_sub rfl rfl ?_ ?_; constructor <;> omega; exact ⟨Grow.rfl' _, rfl⟩
  apply AO_ex
  ·intro w_ g_; refine og rfl ?_; refine r_build (v := .agg #[.int .i64 (xs.getD (2 * (k : Int)).toNat 0 % 60), .int .i64 (xs.getD (2 * (k : Int)).toNat 0 % 60 + xs.getD (2 * (k : Int) + 1).toNat 0 % 16 - 2)]) (fun w => by kernel_rfl) ?_; exact ⟨Grow.rfl' _, rfl⟩
  refine AO_so (fun w_ v_ => ∃ b_, v_ = .slice (some ⟨b_, 0, none⟩) 1 1 ∧ w_.heap[b_]? = some (.cells #[.int .i64 (xs.getD (2 * (k : Int)).toNat 0 % 60), .int .i64 (xs.getD (2 * (k : Int)).toNat 0 % 60 + xs.getD (2 * (k : Int) + 1).toNat 0 % 16 - 2)] 26 (0, 0))) (fun _ _ _ g_ ⟨b_, h1_, h2_⟩ => ⟨b_, h1_, g_.heap h2_⟩) ?_ ?_
  ·intro w_ g_
   refine og rfl ?_
   refine r_buildSlice (cs := #[.int .i64 (xs.getD (2 * (k : Int)).toNat 0 % 60), .int .i64 (xs.getD (2 * (k : Int)).toNat 0 % 60 + xs.getD (2 * (k : Int) + 1).toNat 0 % 16 - 2)]) (el := 26) (fun w => by kernel_rfl) ?_
   intro b_ w2_ hb_ hc_ g2_
   exact ⟨g2_, b_, rfl, hc_⟩
  refine AO_nil ?_
  intro w7 g8
  replace hB1 := Nat.le_trans hB1 g8.size
  replace ownO := own_grow ownO g8
  replace G := G.tr g8
  clear g8
  intro v_l hv_l
  refine WL_some (og rfl ?_)
  obtain ⟨bl, rfl, hbl⟩ := hv_l
  refine r_append rfl rfl rfl rfl ownO (Row.of_block (n := 1) hbl rfl rfl (by omega)) (fun q_ hq_ => by simp at hq_; rcases hq_ with rfl | rfl <;> rfl) (by simp only [maxLen]; omega) (by omega) hB1 ?_
  intro v9 w9 own9 gr9
  have own9' := own_snoc (s := spn xs k) own9
  obtain ⟨ad9, n9, c9, rfl⟩ := own_slice own9'
  have hn9 := own_lenS own9'
  subst hn9
  have hl9 : (rowK xs k ++ [spn xs k]).length = (rowK xs k).length + 1 := by simp
  replace G := G.grown gr9 (fun k_ hk_ => Nat.le_trans (Nat.le_refl _) (own_ge ownO k_ hk_))
  replace hB1 := Nat.le_trans hB1 gr9.size
  refine stp (r_assign_slice rfl ?_)
  refine WL_nil ?_
  refine W_region rfl ?_
  refine stp (r_move_int rfl ?_)
  refine stp (r_add rfl rfl ?_ ?_); constructor <;> omega
  refine stp (r_assign_int rfl ?_)
  refine WL_nil ?_
  refine ⟨_, ?_, k + 1, _, _, rfl, fr_of ⟨rfl, rfl, congrArg (Value.int .i64) (by omega), rfl, trivial⟩, by omega, hB1, own9', G⟩
  omega
 ·-- false
  simp only [Bool.and_eq_true, Bool.or_eq_true, Bool.not_eq_true', Bool.and_eq_false_iff, Bool.or_eq_false_iff, Bool.not_eq_false', decide_eq_true_eq, decide_eq_false_iff_not, Bool.not_true, Bool.not_false, Bool.not_eq_eq_eq_not, Bool.or_false, Bool.and_true, Bool.or_true, Bool.and_false, Bool.false_or, Bool.true_and, Bool.true_or, Bool.false_and, Bool.false_eq_true, Bool.true_eq_false] at hlt
  have hk9 : k = min (xs.length / 2) 30 := by omega
  refine W_exit ?_
  refine W_seq (W_region rfl ?_)
  refine stp (r_move_slice rfl ?_)
  refine stp (r_assign_slice rfl ?_)
  refine WL_nil ?_
  refine W_ret ?_
  unfold rowS
  rw [← hk9]
  refine ret1 (res_tmp (v := .slice ado ((rowK xs k).length) co) rfl) ⟨ownO, G⟩

set_option maxRecDepth 100000 in
theorem known_calls (w : World)  : Gives Try.prog 12 #[] w (.bool true) := by
 have G := Grow.rfl' w
 refine gives_of Try.func12 Try.ntmps12 Try.results12 rfl rfl ?_
 refine W_seq (W_region rfl ?_)
 refine stp (r_assign (v := .bool false) rfl ?_)
 refine WL_nil ?_
 refine W_seq (W_region rfl ?_)
 refine stp (r_build (v := .agg #[.int .i64 3, .int .i64 5]) (fun w => by kernel_rfl) ?_)
 refine stp (r_build (v := .agg #[.int .i64 0, .int .i64 3]) (fun w => by kernel_rfl) ?_)
 refine stp (r_buildSlice (cs := #[.int .i64 3, .int .i64 5, .int .i64 0, .int .i64 3]) (el := 26) (fun w => by kernel_rfl) ?_)
 intro bs1 w2 hb3 hc4 g5
 have hge6 := Nat.le_trans G.size hb3
 replace G := G.tr g5
 clear g5
 refine WL_some (og rfl ?_)
 obtain ⟨adL7, cL7, heL7, hcL7, hmL7, RL7⟩ := Row.of_block (sz := 2) (n := 2) hc4 rfl rfl (by omega)
 simp only [Value.slice.injEq] at heL7
 obtain ⟨rfl, -, rfl⟩ := heL7
 refine r_call rfl (norm_calls _ (L := [(3, 5), (0, 3)]) (Nat.le_refl _) (by simp only [maxLen]; omega) RL7 (by omega)) ?_
 rintro v8 w8 ⟨own8, g8⟩
 replace hc4 := g8.heap hc4
 replace G := G.tr g8
 rw [known_norm] at own8
 obtain ⟨adM8, cM8, rfl, hcM8, hmM8, RM8⟩ := own_row own8 (by decide)
 simp only [List.length_cons, List.length_nil, Nat.zero_add] at hcM8 RM8
 refine stp (r_assign_slice rfl ?_)
 refine WL_nil ?_
 refine W_seq (W_region rfl ?_)
 refine stp (r_build (v := .agg #[.int .i64 2, .int .i64 4]) (fun w => by kernel_rfl) ?_)
 refine stp (r_buildSlice (cs := #[.int .i64 2, .int .i64 4]) (el := 26) (fun w => by kernel_rfl) ?_)
 intro bs9 w10 hb11 hc12 g13
 have hge14 := Nat.le_trans G.size hb11
 replace hc4 := g13.heap hc4
 replace RM8 := RM8.grow g13
 replace G := G.tr g13
 clear g13
 refine stp (r_build (v := .agg #[.int .i64 0, .int .i64 6]) (fun w => by kernel_rfl) ?_)
 refine WL_some (og rfl ?_)
 obtain ⟨adL15, cL15, heL15, hcL15, hmL15, RL15⟩ := Row.of_block (sz := 2) (n := 1) hc12 rfl rfl (by omega)
 simp only [Value.slice.injEq] at heL15
 obtain ⟨rfl, -, rfl⟩ := heL15
 refine r_call rfl (holes_calls _ (L := [(2, 4)]) 0 6 (Nat.le_refl _) (by simp only [maxLen]; omega) RL15 (by omega)) ?_
 rintro v16 w16 ⟨own16, g16⟩
 replace hc4 := g16.heap hc4
 replace RM8 := RM8.grow g16
 replace hc12 := g16.heap hc12
 replace G := G.tr g16
 rw [known_holes] at own16
 obtain ⟨adM16, cM16, rfl, hcM16, hmM16, RM16⟩ := own_row own16 (by decide)
 simp only [List.length_cons, List.length_nil, Nat.zero_add] at hcM16 RM16
 refine stp (r_assign_slice rfl ?_)
 refine WL_nil ?_
 refine W_seq (W_region rfl ?_)
 refine stp (r_move_slice rfl ?_)
 refine stp (r_len rfl rfl rfl ?_)
 refine stp (r_eql_t rfl rfl (by decide) ?_)
 refine stp (r_move (v := .bool true) rfl ?_)
 refine stp (r_move_slice rfl ?_)
 refine stp (r_indexR RM8 rfl rfl ?_ ?_ ?_); omega; omega
 refine stp (r_loadNR RM8 rfl (by decide) (by decide) (by rfl) ?_)
 refine stp (r_build (v := .agg #[.int .i64 0, .int .i64 5]) (fun w => by kernel_rfl) ?_)
 refine stp (r_eqlS' (r' := true) rfl rfl (by rfl) (by decide) ?_)
 refine stp (r_pick_t (v := .bool true) rfl rfl rfl ?_)
 refine stp (r_move (v := .bool true) rfl ?_)
 refine stp (r_move_slice rfl ?_)
 refine stp (r_len rfl rfl rfl ?_)
 refine stp (r_eql_t rfl rfl (by decide) ?_)
 refine stp (r_pick_t (v := .bool true) rfl rfl rfl ?_)
 refine stp (r_move (v := .bool true) rfl ?_)
 refine stp (r_move_slice rfl ?_)
 refine stp (r_indexR RM16 rfl rfl ?_ ?_ ?_); omega; omega
 refine stp (r_loadNR RM16 rfl (by decide) (by decide) (by rfl) ?_)
 refine stp (r_build (v := .agg #[.int .i64 4, .int .i64 6]) (fun w => by kernel_rfl) ?_)
 refine stp (r_eqlS' (r' := true) rfl rfl (by rfl) (by decide) ?_)
 refine stp (r_pick_t (v := .bool true) rfl rfl rfl ?_)
 refine stp (r_move (v := .bool true) rfl ?_)
 refine stp (r_move_slice rfl ?_)
 refine stp (r_gives (v := .int .i64 5) rfl ((by have h_ := long_calls w16 (L := [(0, 5)]) hcM8 hmM8 RM8 (by omega) (fun s hs => by simp at hs; subst hs; decide); rw [known_long] at h_; exact h_)) ?_)
 intro w17 g18
 replace hc4 := g18.heap hc4
 replace RM8 := RM8.grow g18
 replace hc12 := g18.heap hc12
 replace RM16 := RM16.grow g18
 replace G := G.tr g18
 clear g18
 refine stp (r_eql_t rfl rfl (by decide) ?_)
 refine stp (r_pick_t (v := .bool true) rfl rfl rfl ?_)
 refine stp (r_assign (v := .bool true) rfl ?_)
 refine WL_nil ?_
 refine W_ret ?_
 refine ret1 (res_tmp (v := .bool true) rfl) ⟨?_, G⟩
 rfl
end Go.Proofs.Ytldlfhodboigeaa.K
