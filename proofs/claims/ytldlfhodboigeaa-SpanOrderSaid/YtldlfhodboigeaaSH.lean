/- package span (printed by sp04.py). -/
import Derived.Test.YtldlfhodboigeaaSG
set_option linter.unusedVariables false
set_option linter.unusedSimpArgs false
namespace Go.Proofs.Ytldlfhodboigeaa.K
open Go Go.RowKit Go.Proofs
attribute [local irreducible] Run1 OpG WL W AO Gives
set_option maxRecDepth 100000 in
theorem rright_calls (w : World) {ad : Option Addr} {c n : Nat} {L : List Spn} (hc : n ≤ c) (hc2 : c ≤ maxLen) (R : RowAt w 2 ad n (encL L)) (hb : n ≤ 274877906944) : Gives Try.prog 30 #[.slice ad n c] w (.bool (rightB L)) := by
 have G := Grow.rfl' w
 refine gives_of Try.func30 Try.ntmps30 Try.results30 rfl rfl ?_
 have hLn := row_lenS R
 refine W_seq (W_region rfl ?_)
 refine stp (r_assign (v := .bool false) rfl ?_)
 refine WL_nil ?_
 refine W_seq ?_
 refine W_seq (W_region rfl ?_)
 refine stp (r_assign_int rfl ?_)
 refine WL_nil ?_
 refine W_block ?_
 refine W_loop (fun m_ e_ w_ => ∃ (k : Nat), m_ = n - k ∧ Fr [(0, .slice ad n c), (3, .int .i64 (k : Int))] e_ ∧ (k ≤ n) ∧ (∀ j, j < k → badS L j = false) ∧ Grow w w_) _ ⟨0, rfl, fr_of ⟨rfl, rfl, trivial⟩, by omega, fun j hj => by omega, G⟩ ?_
 clear G
 rintro m_ e_ w1 ⟨k, rfl, ⟨e2, rfl⟩, hk, hno, G⟩
 refine W_seq ?_
 refine W_seq (W_region rfl ?_)
 refine stp (r_move_int rfl ?_)
 refine stp (r_move_slice rfl ?_)
 refine stp (r_len rfl rfl rfl ?_)
 refine stp (r_lss rfl rfl ?_)
 refine WL_nil ?_
 refine W_cond2 (b := (decide ((k : Int) < (n : Int)))) rfl (fun hlt => ?_) (fun hlt => ?_)
 ·-- true
  replace hlt := of_decide_eq_true hlt
  refine W_skip ?_
  refine W_seq ?_
  refine W_block ?_
  refine W_seq ?_
  refine W_any 29 [[], [], [1, 0], [2, 1, 0], [3, 2, 1, 0], [], [], [1, 0], [2, 1, 0], [3, 2, 1, 0], [9, 8, 7, 6, 5, 4, 3, 2, 1, 0], [10, 9, 8, 7, 6, 5, 4, 3, 2, 1, 0], [11, 10, 9, 8, 7, 6, 5, 4, 3, 2, 1, 0], [12, 11, 10, 9, 8, 7, 6, 5, 4, 3, 2, 1, 0], [13, 12, 11, 10, 9, 8, 7, 6, 5, 4, 3, 2, 1, 0], [14, 13, 12, 11, 10, 9, 8, 7, 6, 5, 4, 3, 2, 1, 0], [15, 14, 13, 12, 11, 10, 9, 8, 7, 6, 5, 4, 3, 2, 1], [16, 15, 14, 13, 12, 11, 10, 9, 8, 7, 6, 5, 4, 3, 2, 1, 0], [17, 16, 15, 14, 13, 12, 11, 10, 9, 8, 7, 6, 5, 4, 3, 2, 1, 0], [18, 17, 16, 15, 14, 13, 12, 11, 10, 9, 8, 7, 6, 5, 4, 3, 2, 1, 0], [19, 18, 17, 16, 15, 14, 13, 12, 11, 10, 9, 8, 7, 6, 5], [20, 19, 18, 17, 16, 15, 14, 13, 12, 11, 10, 9, 8, 7, 6], [21, 20, 19, 18, 17, 16, 15, 14, 13, 12, 11, 10, 9, 8, 7, 0], [22, 21, 20, 19, 18, 17, 16, 15, 14, 13, 12, 11, 10, 9, 8, 2, 1, 0], [23, 22, 21, 20, 19, 18, 17, 16, 15, 14, 13, 12, 11, 10, 9, 3, 2, 1, 0], [24, 23, 22, 21, 20, 19, 18, 17, 16, 15, 14, 13, 12, 11, 10, 4, 3, 2, 1, 0], [25, 24, 23, 22, 21, 20, 19, 18, 17, 16, 15, 14, 13, 12, 11, 10, 9, 8, 7, 6, 5, 4, 3, 2, 1, 0], [26, 25, 24, 23, 22, 21, 20, 19, 18, 17, 16, 15, 14, 13, 12, 11, 10, 9, 8, 7, 6, 5, 4, 3, 2, 1, 0], [27, 26, 25, 24, 23, 22, 21, 20, 19, 18, 17, 16, 15, 14, 13, 12, 11, 10, 9, 8, 7, 6, 5, 4, 3, 2, 1, 0]] mixed (by kernel_rfl) (by kernel_rfl) (by kernel_rfl) ?_
  intro w3 g4
  replace G := G.tr g4
  clear g4
  apply AO_ex
  ·intro w_ g_; refine og rfl ?_; refine r_move_slice rfl ?_; exact ⟨Grow.rfl' _, rfl⟩
  apply AO_ex
  ·intro w_ g_; refine og rfl ?_; refine r_move_int rfl ?_; exact ⟨Grow.rfl' _, rfl⟩
  apply AO_ex
  ·intro w_ g_; refine og rfl ?_; refine r_indexN (R.grow (G.tr g_)) rfl rfl ?_ ?_; omega; exact ⟨Grow.rfl' _, rfl⟩
  apply AO_ex
  ·intro w_ g_; refine og rfl ?_; refine r_fieldE rfl ?_; exact ⟨Grow.rfl' _, rfl⟩
  apply AO_ex
  ·intro w_ g_; refine og rfl ?_; refine r_loadR (v := .int .i64 ((gS L k).2)) (m := 0) (R.grow (G.tr g_)) rfl (row_gS1 R (by omega)) ?_; exact ⟨Grow.rfl' _, rfl⟩
  apply AO_ex
  ·intro w_ g_; refine og rfl ?_; refine r_move_slice rfl ?_; exact ⟨Grow.rfl' _, rfl⟩
  apply AO_ex
  ·intro w_ g_; refine og rfl ?_; refine r_move_int rfl ?_; exact ⟨Grow.rfl' _, rfl⟩
  apply AO_ex
  ·intro w_ g_; refine og rfl ?_; refine r_indexN (R.grow (G.tr g_)) rfl rfl ?_ ?_; omega; exact ⟨Grow.rfl' _, rfl⟩
  apply AO_ex
  ·intro w_ g_; refine og rfl ?_; refine r_fieldE rfl ?_; exact ⟨Grow.rfl' _, rfl⟩
  apply AO_ex
  ·intro w_ g_; refine og rfl ?_; refine r_loadR (v := .int .i64 ((gS L k).1)) (m := 0) (R.grow (G.tr g_)) rfl (row_gS0 R (by omega)) ?_; exact ⟨Grow.rfl' _, rfl⟩
  apply AO_ex
  ·intro w_ g_; refine og rfl ?_; refine r_leq rfl rfl ?_; exact ⟨Grow.rfl' _, rfl⟩
  apply AO_ex
  ·intro w_ g_; refine og rfl ?_; refine r_move_bool rfl ?_; exact ⟨Grow.rfl' _, rfl⟩
  apply AO_ex
  ·intro w_ g_; 
   refine og_if (s := .bool (decide (((gS L k).2) ≤ ((gS L k).1)))) (b := false) (v := .int .i64 (k : Int)) rfl (wgb_f _) (fun hc5 => ?_) ?_
   ·
    have hc5_ := hc5
    try simp only [Bool.and_eq_true, Bool.or_eq_true, Bool.not_eq_true', Bool.and_eq_false_iff, Bool.or_eq_false_iff, Bool.not_eq_false', decide_eq_true_eq, decide_eq_false_iff_not, Bool.not_true, Bool.not_false, Bool.not_eq_eq_eq_not, Bool.or_false, Bool.and_true, Bool.or_true, Bool.and_false, Bool.false_or, Bool.true_and, Bool.true_or, Bool.false_and, Bool.false_eq_true, Bool.true_eq_false] at hc5_
    refine r_move_int rfl ?_
    exact ⟨rfl, rfl⟩
   exact ⟨Grow.rfl' _, rfl⟩
  apply AO_ex
  ·intro w_ g_; 
   refine og_if (s := .bool (decide (((gS L k).2) ≤ ((gS L k).1)))) (b := false) (v := .bool (decide ((k : Int) > 0))) rfl (wgb_f _) (fun hc6 => ?_) ?_
   ·
    have hc6_ := hc6
    try simp only [Bool.and_eq_true, Bool.or_eq_true, Bool.not_eq_true', Bool.and_eq_false_iff, Bool.or_eq_false_iff, Bool.not_eq_false', decide_eq_true_eq, decide_eq_false_iff_not, Bool.not_true, Bool.not_false, Bool.not_eq_eq_eq_not, Bool.or_false, Bool.and_true, Bool.or_true, Bool.and_false, Bool.false_or, Bool.true_and, Bool.true_or, Bool.false_and, Bool.false_eq_true, Bool.true_eq_false] at hc6_
    refine r_gtr (gvt hc6) rfl ?_
    exact ⟨rfl, rfl⟩
   exact ⟨Grow.rfl' _, rfl⟩
  apply AO_ex
  ·intro w_ g_; 
   refine og_if (s := .bool (decide (((gS L k).2) ≤ ((gS L k).1)))) (b := false) (v := .bool (decide ((k : Int) > 0))) rfl (wgb_f _) (fun hc7 => ?_) ?_
   ·
    have hc7_ := hc7
    try simp only [Bool.and_eq_true, Bool.or_eq_true, Bool.not_eq_true', Bool.and_eq_false_iff, Bool.or_eq_false_iff, Bool.not_eq_false', decide_eq_true_eq, decide_eq_false_iff_not, Bool.not_true, Bool.not_false, Bool.not_eq_eq_eq_not, Bool.or_false, Bool.and_true, Bool.or_true, Bool.and_false, Bool.false_or, Bool.true_and, Bool.true_or, Bool.false_and, Bool.false_eq_true, Bool.true_eq_false] at hc7_
    refine r_move (v := .bool (decide ((k : Int) > 0))) (gvt hc7) ?_
    exact ⟨rfl, rfl⟩
   exact ⟨Grow.rfl' _, rfl⟩
  apply AO_ex
  ·intro w_ g_; 
   refine og_if (s := gv (!(decide (((gS L k).2) ≤ ((gS L k).1)))) (.bool (decide ((k : Int) > 0)))) (b := true) (v := .slice ad n c) rfl (wgb_gt _ _) (fun hc8 => ?_) ?_
   ·
    obtain ⟨hc8a, hc8b⟩ := and_t hc8
    have hc8a_ := hc8a
    try simp only [Bool.and_eq_true, Bool.or_eq_true, Bool.not_eq_true', Bool.and_eq_false_iff, Bool.or_eq_false_iff, Bool.not_eq_false', decide_eq_true_eq, decide_eq_false_iff_not, Bool.not_true, Bool.not_false, Bool.not_eq_eq_eq_not, Bool.or_false, Bool.and_true, Bool.or_true, Bool.and_false, Bool.false_or, Bool.true_and, Bool.true_or, Bool.false_and, Bool.false_eq_true, Bool.true_eq_false] at hc8a_
    have hc8b_ := of_decide_eq_true hc8b
    refine r_move_slice rfl ?_
    exact ⟨rfl, rfl⟩
   exact ⟨Grow.rfl' _, rfl⟩
  apply AO_ex
  ·intro w_ g_; 
   refine og_if (s := gv (!(decide (((gS L k).2) ≤ ((gS L k).1)))) (.bool (decide ((k : Int) > 0)))) (b := true) (v := .int .i64 (k : Int)) rfl (wgb_gt _ _) (fun hc9 => ?_) ?_
   ·
    obtain ⟨hc9a, hc9b⟩ := and_t hc9
    have hc9a_ := hc9a
    try simp only [Bool.and_eq_true, Bool.or_eq_true, Bool.not_eq_true', Bool.and_eq_false_iff, Bool.or_eq_false_iff, Bool.not_eq_false', decide_eq_true_eq, decide_eq_false_iff_not, Bool.not_true, Bool.not_false, Bool.not_eq_eq_eq_not, Bool.or_false, Bool.and_true, Bool.or_true, Bool.and_false, Bool.false_or, Bool.true_and, Bool.true_or, Bool.false_and, Bool.false_eq_true, Bool.true_eq_false] at hc9a_
    have hc9b_ := of_decide_eq_true hc9b
    refine r_move_int rfl ?_
    exact ⟨rfl, rfl⟩
   exact ⟨Grow.rfl' _, rfl⟩
  apply AO_ex
  ·intro w_ g_; 
   refine og_if (s := gv (!(decide (((gS L k).2) ≤ ((gS L k).1)))) (.bool (decide ((k : Int) > 0)))) (b := true) (v := .pointer (some (eadr ad (k * 2)))) rfl (wgb_gt _ _) (fun hc10 => ?_) ?_
   ·
    obtain ⟨hc10a, hc10b⟩ := and_t hc10
    have hc10a_ := hc10a
    try simp only [Bool.and_eq_true, Bool.or_eq_true, Bool.not_eq_true', Bool.and_eq_false_iff, Bool.or_eq_false_iff, Bool.not_eq_false', decide_eq_true_eq, decide_eq_false_iff_not, Bool.not_true, Bool.not_false, Bool.not_eq_eq_eq_not, Bool.or_false, Bool.and_true, Bool.or_true, Bool.and_false, Bool.false_or, Bool.true_and, Bool.true_or, Bool.false_and, Bool.false_eq_true, Bool.true_eq_false] at hc10a_
    have hc10b_ := of_decide_eq_true hc10b
    refine r_indexN (R.grow (G.tr g_)) (gvt hc10) (gvt hc10) ?_ ?_; omega
    exact ⟨rfl, rfl⟩
   exact ⟨Grow.rfl' _, rfl⟩
  apply AO_ex
  ·intro w_ g_; 
   refine og_if (s := gv (!(decide (((gS L k).2) ≤ ((gS L k).1)))) (.bool (decide ((k : Int) > 0)))) (b := true) (v := .pointer (some (eadr ad (k * 2)))) rfl (wgb_gt _ _) (fun hc11 => ?_) ?_
   ·
    obtain ⟨hc11a, hc11b⟩ := and_t hc11
    have hc11a_ := hc11a
    try simp only [Bool.and_eq_true, Bool.or_eq_true, Bool.not_eq_true', Bool.and_eq_false_iff, Bool.or_eq_false_iff, Bool.not_eq_false', decide_eq_true_eq, decide_eq_false_iff_not, Bool.not_true, Bool.not_false, Bool.not_eq_eq_eq_not, Bool.or_false, Bool.and_true, Bool.or_true, Bool.and_false, Bool.false_or, Bool.true_and, Bool.true_or, Bool.false_and, Bool.false_eq_true, Bool.true_eq_false] at hc11a_
    have hc11b_ := of_decide_eq_true hc11b
    refine r_fieldE (gvt hc11) ?_
    exact ⟨rfl, rfl⟩
   exact ⟨Grow.rfl' _, rfl⟩
  apply AO_ex
  ·intro w_ g_; 
   refine og_if (s := gv (!(decide (((gS L k).2) ≤ ((gS L k).1)))) (.bool (decide ((k : Int) > 0)))) (b := true) (v := .int .i64 ((gS L k).1)) rfl (wgb_gt _ _) (fun hc12 => ?_) ?_
   ·
    obtain ⟨hc12a, hc12b⟩ := and_t hc12
    have hc12a_ := hc12a
    try simp only [Bool.and_eq_true, Bool.or_eq_true, Bool.not_eq_true', Bool.and_eq_false_iff, Bool.or_eq_false_iff, Bool.not_eq_false', decide_eq_true_eq, decide_eq_false_iff_not, Bool.not_true, Bool.not_false, Bool.not_eq_eq_eq_not, Bool.or_false, Bool.and_true, Bool.or_true, Bool.and_false, Bool.false_or, Bool.true_and, Bool.true_or, Bool.false_and, Bool.false_eq_true, Bool.true_eq_false] at hc12a_
    have hc12b_ := of_decide_eq_true hc12b
    refine r_loadR (v := .int .i64 ((gS L k).1)) (m := 0) (R.grow (G.tr g_)) (gvt hc12) (row_gS0 R (by omega)) ?_
    exact ⟨rfl, rfl⟩
   exact ⟨Grow.rfl' _, rfl⟩
  apply AO_ex
  ·intro w_ g_; 
   refine og_if (s := gv (!(decide (((gS L k).2) ≤ ((gS L k).1)))) (.bool (decide ((k : Int) > 0)))) (b := true) (v := .slice ad n c) rfl (wgb_gt _ _) (fun hc13 => ?_) ?_
   ·
    obtain ⟨hc13a, hc13b⟩ := and_t hc13
    have hc13a_ := hc13a
    try simp only [Bool.and_eq_true, Bool.or_eq_true, Bool.not_eq_true', Bool.and_eq_false_iff, Bool.or_eq_false_iff, Bool.not_eq_false', decide_eq_true_eq, decide_eq_false_iff_not, Bool.not_true, Bool.not_false, Bool.not_eq_eq_eq_not, Bool.or_false, Bool.and_true, Bool.or_true, Bool.and_false, Bool.false_or, Bool.true_and, Bool.true_or, Bool.false_and, Bool.false_eq_true, Bool.true_eq_false] at hc13a_
    have hc13b_ := of_decide_eq_true hc13b
    refine r_move_slice rfl ?_
    exact ⟨rfl, rfl⟩
   exact ⟨Grow.rfl' _, rfl⟩
  apply AO_ex
  ·intro w_ g_; 
   refine og_if (s := gv (!(decide (((gS L k).2) ≤ ((gS L k).1)))) (.bool (decide ((k : Int) > 0)))) (b := true) (v := .int .i64 (k : Int)) rfl (wgb_gt _ _) (fun hc14 => ?_) ?_
   ·
    obtain ⟨hc14a, hc14b⟩ := and_t hc14
    have hc14a_ := hc14a
    try simp only [Bool.and_eq_true, Bool.or_eq_true, Bool.not_eq_true', Bool.and_eq_false_iff, Bool.or_eq_false_iff, Bool.not_eq_false', decide_eq_true_eq, decide_eq_false_iff_not, Bool.not_true, Bool.not_false, Bool.not_eq_eq_eq_not, Bool.or_false, Bool.and_true, Bool.or_true, Bool.and_false, Bool.false_or, Bool.true_and, Bool.true_or, Bool.false_and, Bool.false_eq_true, Bool.true_eq_false] at hc14a_
    have hc14b_ := of_decide_eq_true hc14b
    refine r_move_int rfl ?_
    exact ⟨rfl, rfl⟩
   exact ⟨Grow.rfl' _, rfl⟩
  apply AO_ex
  ·intro w_ g_; 
   refine og_if (s := gv (!(decide (((gS L k).2) ≤ ((gS L k).1)))) (.bool (decide ((k : Int) > 0)))) (b := true) (v := .int .i64 ((k : Int) - 1)) rfl (wgb_gt _ _) (fun hc15 => ?_) ?_
   ·
    obtain ⟨hc15a, hc15b⟩ := and_t hc15
    have hc15a_ := hc15a
    try simp only [Bool.and_eq_true, Bool.or_eq_true, Bool.not_eq_true', Bool.and_eq_false_iff, Bool.or_eq_false_iff, Bool.not_eq_false', decide_eq_true_eq, decide_eq_false_iff_not, Bool.not_true, Bool.not_false, Bool.not_eq_eq_eq_not, Bool.or_false, Bool.and_true, Bool.or_true, Bool.and_false, Bool.false_or, Bool.true_and, Bool.true_or, Bool.false_and, Bool.false_eq_true, Bool.true_eq_false] at hc15a_
    have hc15b_ := of_decide_eq_true hc15b
    refine r_sub (gvt hc15) rfl ?_ ?_; constructor <;> omega
    exact ⟨rfl, rfl⟩
   exact ⟨Grow.rfl' _, rfl⟩
  apply AO_ex
  ·intro w_ g_; 
   refine og_if (s := gv (!(decide (((gS L k).2) ≤ ((gS L k).1)))) (.bool (decide ((k : Int) > 0)))) (b := true) (v := .pointer (some (eadr ad (((k : Int) - 1).toNat * 2)))) rfl (wgb_gt _ _) (fun hc16 => ?_) ?_
   ·
    obtain ⟨hc16a, hc16b⟩ := and_t hc16
    have hc16a_ := hc16a
    try simp only [Bool.and_eq_true, Bool.or_eq_true, Bool.not_eq_true', Bool.and_eq_false_iff, Bool.or_eq_false_iff, Bool.not_eq_false', decide_eq_true_eq, decide_eq_false_iff_not, Bool.not_true, Bool.not_false, Bool.not_eq_eq_eq_not, Bool.or_false, Bool.and_true, Bool.or_true, Bool.and_false, Bool.false_or, Bool.true_and, Bool.true_or, Bool.false_and, Bool.false_eq_true, Bool.true_eq_false] at hc16a_
    have hc16b_ := of_decide_eq_true hc16b
    refine r_indexR (R.grow (G.tr g_)) (gvt hc16) (gvt hc16) ?_ ?_ ?_; omega; omega
    exact ⟨rfl, rfl⟩
   exact ⟨Grow.rfl' _, rfl⟩
  apply AO_ex
  ·intro w_ g_; 
   refine og_if (s := gv (!(decide (((gS L k).2) ≤ ((gS L k).1)))) (.bool (decide ((k : Int) > 0)))) (b := true) (v := .pointer (some (eadr ad (((k : Int) - 1).toNat * 2 + 1)))) rfl (wgb_gt _ _) (fun hc17 => ?_) ?_
   ·
    obtain ⟨hc17a, hc17b⟩ := and_t hc17
    have hc17a_ := hc17a
    try simp only [Bool.and_eq_true, Bool.or_eq_true, Bool.not_eq_true', Bool.and_eq_false_iff, Bool.or_eq_false_iff, Bool.not_eq_false', decide_eq_true_eq, decide_eq_false_iff_not, Bool.not_true, Bool.not_false, Bool.not_eq_eq_eq_not, Bool.or_false, Bool.and_true, Bool.or_true, Bool.and_false, Bool.false_or, Bool.true_and, Bool.true_or, Bool.false_and, Bool.false_eq_true, Bool.true_eq_false] at hc17a_
    have hc17b_ := of_decide_eq_true hc17b
    refine r_fieldE (gvt hc17) ?_
    exact ⟨rfl, rfl⟩
   exact ⟨Grow.rfl' _, rfl⟩
  apply AO_ex
  ·intro w_ g_; 
   refine og_if (s := gv (!(decide (((gS L k).2) ≤ ((gS L k).1)))) (.bool (decide ((k : Int) > 0)))) (b := true) (v := .int .i64 ((gS L (k - 1)).2)) rfl (wgb_gt _ _) (fun hc18 => ?_) ?_
   ·
    obtain ⟨hc18a, hc18b⟩ := and_t hc18
    have hc18a_ := hc18a
    try simp only [Bool.and_eq_true, Bool.or_eq_true, Bool.not_eq_true', Bool.and_eq_false_iff, Bool.or_eq_false_iff, Bool.not_eq_false', decide_eq_true_eq, decide_eq_false_iff_not, Bool.not_true, Bool.not_false, Bool.not_eq_eq_eq_not, Bool.or_false, Bool.and_true, Bool.or_true, Bool.and_false, Bool.false_or, Bool.true_and, Bool.true_or, Bool.false_and, Bool.false_eq_true, Bool.true_eq_false] at hc18a_
    have hc18b_ := of_decide_eq_true hc18b
    refine r_loadR (v := .int .i64 ((gS L (k - 1)).2)) (m := 0) (R.grow (G.tr g_)) (gvt hc18) (by rw [show ((k : Int) - 1).toNat = k - 1 from by omega]; exact row_gS1 R (by omega)) ?_
    exact ⟨rfl, rfl⟩
   exact ⟨Grow.rfl' _, rfl⟩
  apply AO_ex
  ·intro w_ g_; 
   refine og_if (s := gv (!(decide (((gS L k).2) ≤ ((gS L k).1)))) (.bool (decide ((k : Int) > 0)))) (b := true) (v := .bool (decide (((gS L k).1) ≤ ((gS L (k - 1)).2)))) rfl (wgb_gt _ _) (fun hc19 => ?_) ?_
   ·
    obtain ⟨hc19a, hc19b⟩ := and_t hc19
    have hc19a_ := hc19a
    try simp only [Bool.and_eq_true, Bool.or_eq_true, Bool.not_eq_true', Bool.and_eq_false_iff, Bool.or_eq_false_iff, Bool.not_eq_false', decide_eq_true_eq, decide_eq_false_iff_not, Bool.not_true, Bool.not_false, Bool.not_eq_eq_eq_not, Bool.or_false, Bool.and_true, Bool.or_true, Bool.and_false, Bool.false_or, Bool.true_and, Bool.true_or, Bool.false_and, Bool.false_eq_true, Bool.true_eq_false] at hc19a_
    have hc19b_ := of_decide_eq_true hc19b
    refine r_leq (gvt hc19) (gvt hc19) ?_
    exact ⟨rfl, rfl⟩
   exact ⟨Grow.rfl' _, rfl⟩
  apply AO_ex
  ·intro w_ g_; 
   refine og_if (s := .bool (decide (((gS L k).2) ≤ ((gS L k).1)))) (b := false) (v := .bool ((decide ((k : Int) > 0)) && (decide (((gS L k).1) ≤ ((gS L (k - 1)).2))))) rfl (wgb_f _) (fun hc20 => ?_) ?_
   ·
    have hc20_ := hc20
    try simp only [Bool.and_eq_true, Bool.or_eq_true, Bool.not_eq_true', Bool.and_eq_false_iff, Bool.or_eq_false_iff, Bool.not_eq_false', decide_eq_true_eq, decide_eq_false_iff_not, Bool.not_true, Bool.not_false, Bool.not_eq_eq_eq_not, Bool.or_false, Bool.and_true, Bool.or_true, Bool.and_false, Bool.false_or, Bool.true_and, Bool.true_or, Bool.false_and, Bool.false_eq_true, Bool.true_eq_false] at hc20_
    refine r_and3 hc20 (gvt hc20) rfl rfl ?_
    exact ⟨rfl, rfl⟩
   exact ⟨Grow.rfl' _, rfl⟩
  apply AO_ex
  ·intro w_ g_; refine og rfl ?_; refine r_or2 rfl rfl rfl ?_; exact ⟨Grow.rfl' _, rfl⟩
  refine AO_nil ?_
  intro w21 g22
  replace G := G.tr g22
  clear g22
  refine WL_nil ?_
  refine W_cond2 (b := ((decide (((gS L k).2) ≤ ((gS L k).1))) || ((decide ((k : Int) > 0)) && (decide (((gS L k).1) ≤ ((gS L (k - 1)).2)))))) rfl (fun hx => ?_) (fun hx => ?_)
  ·-- true
   simp only [Bool.and_eq_true, Bool.or_eq_true, Bool.not_eq_true', Bool.and_eq_false_iff, Bool.or_eq_false_iff, Bool.not_eq_false', decide_eq_true_eq, decide_eq_false_iff_not, Bool.not_true, Bool.not_false, Bool.not_eq_eq_eq_not, Bool.or_false, Bool.and_true, Bool.or_true, Bool.and_false, Bool.false_or, Bool.true_and, Bool.true_or, Bool.false_and, Bool.false_eq_true, Bool.true_eq_false] at hx
   have hbd : badS L k = true := by unfold badS noneS; simpa using hx
   refine W_seq (W_region rfl ?_)
   refine stp (r_assign (v := .bool false) rfl ?_)
   refine WL_nil ?_
   refine W_ret ?_
   refine ret1 (res_tmp (v := .bool false) rfl) ⟨?_, G⟩
   rw [right_bad (by omega) hbd]
  ·-- false
   simp only [Bool.and_eq_true, Bool.or_eq_true, Bool.not_eq_true', Bool.and_eq_false_iff, Bool.or_eq_false_iff, Bool.not_eq_false', decide_eq_true_eq, decide_eq_false_iff_not, Bool.not_true, Bool.not_false, Bool.not_eq_eq_eq_not, Bool.or_false, Bool.and_true, Bool.or_true, Bool.and_false, Bool.false_or, Bool.true_and, Bool.true_or, Bool.false_and, Bool.false_eq_true, Bool.true_eq_false] at hx
   have hbd : badS L k = false := by unfold badS noneS; cases hns : decide ((gS L k).2 ≤ (gS L k).1) <;> simp_all <;> omega
   refine W_skip ?_
   refine W_region rfl ?_
   refine stp (r_move_int rfl ?_)
   refine stp (r_add rfl rfl ?_ ?_); constructor <;> omega
   refine stp (r_assign_int rfl ?_)
   refine WL_nil ?_
   refine ⟨_, ?_, k + 1, rfl, fr_of ⟨rfl, rfl, trivial⟩, by omega, fun j hj => by rcases Nat.lt_succ_iff_lt_or_eq.1 hj with h | h; exact hno j h; subst h; exact hbd, G⟩
   omega
 ·-- false
  replace hlt := of_decide_eq_false hlt
  refine W_exit ?_
  refine W_seq (W_region rfl ?_)
  refine stp (r_assign (v := .bool true) rfl ?_)
  refine WL_nil ?_
  refine W_ret ?_
  refine ret1 (res_tmp (v := .bool true) rfl) ⟨?_, G⟩
  rw [right_of_bad (fun i hi => hno i (by omega))]

set_option maxRecDepth 100000 in
theorem radd_calls (w : World) {ad : Option Addr} {c n : Nat} {L : List Spn} (s1 s2 : Int) (hc : n ≤ c) (hc2 : c ≤ maxLen) (R : RowAt w 2 ad n (encL L)) (hb : n ≤ 274877906944) : Calls Try.prog 34 #[.slice ad n c, .agg #[.int .i64 s1, .int .i64 s2]] w (Ret fun v w' => Row w' 2 v (addS L (s1, s2)).length (encL (addS L (s1, s2))) ∧ Grow w w') := by
 have G := Grow.rfl' w
 refine calls_ret Try.func34 Try.ntmps34 Try.results34 rfl rfl ?_
 have hLn := row_lenS R
 refine W_seq (W_region rfl ?_)
 refine WL_some (og rfl ?_)
 (first | refine r_box_agg rfl ?_ | refine r_box_int rfl ?_ | refine r_box_slice rfl ?_ | refine r_box rfl rfl ?_)
 intro b1 w2 hb3 hc4 g5
 have hge6 := Nat.le_trans G.size hb3
 replace G := G.tr g5
 clear g5 hb3
 refine stp (r_assign_slice rfl ?_)
 refine WL_nil ?_
 refine W_seq ?_
 refine W_seq (W_region rfl ?_)
 refine stp (r_fieldAddr rfl ?_)
 refine stp (r_load (v := .int .i64 s2) rfl hc4 rfl ?_)
 refine stp (r_fieldAddr rfl ?_)
 refine stp (r_load (v := .int .i64 s1) rfl hc4 rfl ?_)
 refine stp (r_leq rfl rfl ?_)
 refine WL_nil ?_
 refine W_cond2 (b := (decide (s2 ≤ s1))) rfl (fun hns => ?_) (fun hns => ?_)
 ·-- true
  replace hns := of_decide_eq_true hns
  refine W_seq (W_region rfl ?_)
  refine stp (r_move_slice rfl ?_)
  refine stp (r_assign_slice rfl ?_)
  refine WL_nil ?_
  refine W_ret ?_
  have hadd : addS L (s1, s2) = L := if_pos (by simpa [noneS] using hns)
  rw [hadd, hLn]
  refine ret1 (res_tmp (v := .slice ad n c) rfl) ⟨⟨_, _, rfl, hc, hc2, R.grow G⟩, G⟩
 ·-- false
  replace hns := of_decide_eq_false hns
  have hadd : addS L (s1, s2) = addG L (s1, s2) false := if_neg (by simpa [noneS] using hns)
  have hal := addG_len L (s1, s2) false
  refine W_skip ?_
  have ownO : w2.ownsRow w2.heap.size 26 2 (.slice none 0 0) 0 (encL []) := World.ownsRow_nil _ _ _ _
  have hB1 := Nat.le_refl w2.heap.size
  have lt3 := lt_of_heap hc4
  have hge3 := hge6
  have hBw := G.size
  refine W_seq (W_region rfl ?_)
  refine stp (r_assign_slice rfl ?_)
  refine WL_nil ?_
  refine W_seq (W_region rfl ?_)
  refine stp (r_assign (v := .bool false) rfl ?_)
  refine WL_nil ?_
  refine W_seq ?_
  refine W_seq (W_region rfl ?_)
  refine stp (r_assign_int rfl ?_)
  refine WL_nil ?_
  refine W_block ?_
  refine W_loop (fun m_ e_ w_ => ∃ (k : Nat) (ho : List Spn) (ado : Option Addr) (co : Nat) (laid : Bool) (x1 : Int) (x2 : Int), m_ = n - k ∧ Fr [(0, .slice ad n c), (3, .pointer (some ⟨b1, 0, none⟩)), (4, .slice none 0 0), (7, .int .i64 (k : Int)), (5, .slice ado ho.length co), (6, .bool laid)] e_ ∧ (k ≤ n) ∧ (ho ++ addG (L.drop k) (x1, x2) laid = addG L (s1, s2) false) ∧ (w2.heap.size ≤ w_.heap.size) ∧ (w_.heap[b1]? = some (.cells #[.int .i64 x1, .int .i64 x2] 26 (0, 0))) ∧ (w_.ownsRow w2.heap.size 26 2 (.slice ado ho.length co) ho.length (encL ho)) ∧ Grow w w_) _ ⟨0, [], _, _, false, s1, s2, rfl, fr_of ⟨rfl, rfl, rfl, rfl, rfl, rfl, trivial⟩, by omega, rfl, hB1, hc4, ownO, G⟩ ?_
  clear hc4 ownO hB1
  clear G
  rintro m_ e_ w7 ⟨k, ho, ado, co, laid, x1, x2, rfl, ⟨e8, rfl⟩, hk, hO, hB1, hb3, ownO, G⟩
  refine W_seq ?_
  refine W_seq (W_region rfl ?_)
  refine stp (r_move_int rfl ?_)
  refine stp (r_move_slice rfl ?_)
  refine stp (r_len rfl rfl rfl ?_)
  refine stp (r_lss rfl rfl ?_)
  refine WL_nil ?_
  refine W_cond2 (b := (decide ((k : Int) < (n : Int)))) rfl (fun hlt => ?_) (fun hlt => ?_)
  ·-- true
   replace hlt := of_decide_eq_true hlt
   have hkL : k < L.length := by omega
   rw [addG_drop hkL] at hO
   have hlen := congrArg List.length hO
   rw [List.length_append] at hlen
   refine W_skip ?_
   refine W_seq ?_
   refine W_block ?_
   refine W_seq ?_
   refine W_seq ?_
   refine W_any 8 [[], [], [1, 0], [2, 1, 0], [3, 2, 1, 0], [], [0], [6, 5, 4, 3, 2, 1, 0]] mixed (by kernel_rfl) (by kernel_rfl) (by kernel_rfl) ?_
   intro w9 g10
   replace hB1 := Nat.le_trans hB1 g10.size
   replace hb3 := g10.heap hb3
   replace ownO := own_grow ownO g10
   replace G := G.tr g10
   clear g10
   apply AO_ex
   ·intro w_ g_; refine og rfl ?_; refine r_move_slice rfl ?_; exact ⟨Grow.rfl' _, rfl⟩
   apply AO_ex
   ·intro w_ g_; refine og rfl ?_; refine r_move_int rfl ?_; exact ⟨Grow.rfl' _, rfl⟩
   apply AO_ex
   ·intro w_ g_; refine og rfl ?_; refine r_indexN (R.grow (G.tr g_)) rfl rfl ?_ ?_; omega; exact ⟨Grow.rfl' _, rfl⟩
   apply AO_ex
   ·intro w_ g_; refine og rfl ?_; refine r_fieldE rfl ?_; exact ⟨Grow.rfl' _, rfl⟩
   apply AO_ex
   ·intro w_ g_; refine og rfl ?_; refine r_loadR (v := .int .i64 ((gS L k).2)) (m := 0) (R.grow (G.tr g_)) rfl (row_gS1 R (by omega)) ?_; exact ⟨Grow.rfl' _, rfl⟩
   apply AO_ex
   ·intro w_ g_; refine og rfl ?_; refine r_fieldAddr rfl ?_; exact ⟨Grow.rfl' _, rfl⟩
   apply AO_ex
   ·intro w_ g_; refine og rfl ?_; refine r_load (v := .int .i64 x1) rfl (g_.heap hb3) rfl ?_; exact ⟨Grow.rfl' _, rfl⟩
   apply AO_ex
   ·intro w_ g_; refine og rfl ?_; refine r_lss rfl rfl ?_; exact ⟨Grow.rfl' _, rfl⟩
   refine AO_nil ?_
   intro w11 g12
   replace hB1 := Nat.le_trans hB1 g12.size
   replace hb3 := g12.heap hb3
   replace ownO := own_grow ownO g12
   replace G := G.tr g12
   clear g12
   refine WL_nil ?_
   refine W_cond2 (b := (decide (((gS L k).2) < x1))) rfl (fun hbf => ?_) (fun hbf => ?_)
   ·-- true
    replace hbf := of_decide_eq_true hbf
    rw [if_pos hbf] at hO
    refine W_seq (W_region rfl ?_)
    refine stp (r_move_slice rfl ?_)
    refine stp (r_move_slice rfl ?_)
    refine stp (r_move_int rfl ?_)
    refine stp (r_indexN (R.grow G) rfl rfl ?_ ?_); omega
    refine stp (r_loadNR (R.grow G) rfl (by decide) (by rw [R.len]; omega) (row_gS R (by omega)) ?_)
    refine stp (r_buildSlice (cs := #[.int .i64 ((gS L k).1), .int .i64 ((gS L k).2)]) (el := 26) (fun w => by kernel_rfl) ?_)
    intro bs13 w14 hb15 hc16 g17
    have hge18 := Nat.le_trans G.size hb15
    have ne19 := Nat.ne_of_lt (Nat.lt_of_lt_of_le (lt_of_heap hb3) hb15)
    replace hB1 := Nat.le_trans hB1 g17.size
    replace hb3 := g17.heap hb3
    replace ownO := own_grow ownO g17
    replace G := G.tr g17
    clear g17
    refine stp (r_append rfl rfl rfl rfl ownO (Row.of_block (n := 1) hc16 rfl rfl (by omega)) (fun q_ hq_ => by simp at hq_; rcases hq_ with rfl | rfl <;> rfl) (by simp only [maxLen]; omega) (by omega) hB1 ?_)
    intro v20 w20 own20 gr20
    have own20' := own_snoc (s := gS L k) own20
    obtain ⟨ad20, n20, c20, rfl⟩ := own_slice own20'
    have hn20 := own_lenS own20'
    subst hn20
    have hl20 : (ho ++ [gS L k]).length = (ho).length + 1 := by simp
    replace G := G.grown gr20 (fun k_ hk_ => Nat.le_trans hBw (own_ge ownO k_ hk_))
    replace hB1 := Nat.le_trans hB1 gr20.size
    replace hb3 := gr_heap gr20 hb3 (fun he_ => by have := (ownO.lt _ he_).1; omega)
    refine stp (r_assign_slice rfl ?_)
    refine WL_nil ?_
    refine W_exit ?_
    refine W_region rfl ?_
    refine stp (r_move_int rfl ?_)
    refine stp (r_add rfl rfl ?_ ?_); constructor <;> omega
    refine stp (r_assign_int rfl ?_)
    refine WL_nil ?_
    refine ⟨_, ?_, k + 1, _, _, _, laid, x1, x2, rfl, fr_of ⟨rfl, rfl, rfl, congrArg (Value.int .i64) (by omega), rfl, rfl, trivial⟩, by omega, by rw [List.append_assoc]; exact hO, hB1, hb3, own20', G⟩
    omega
   ·-- false
    replace hbf := of_decide_eq_false hbf
    rw [if_neg (by omega)] at hO
    refine W_skip ?_
    refine W_seq ?_
    refine W_seq ?_
    refine W_any 8 [[], [], [1, 0], [2, 1, 0], [3, 2, 1, 0], [], [0], [6, 5, 4, 3, 2, 1, 0]] mixed (by kernel_rfl) (by kernel_rfl) (by kernel_rfl) ?_
    intro w21 g22
    replace hB1 := Nat.le_trans hB1 g22.size
    replace hb3 := g22.heap hb3
    replace ownO := own_grow ownO g22
    replace G := G.tr g22
    clear g22
    apply AO_ex
    ·intro w_ g_; refine og rfl ?_; refine r_move_slice rfl ?_; exact ⟨Grow.rfl' _, rfl⟩
    apply AO_ex
    ·intro w_ g_; refine og rfl ?_; refine r_move_int rfl ?_; exact ⟨Grow.rfl' _, rfl⟩
    apply AO_ex
    ·intro w_ g_; refine og rfl ?_; refine r_indexN (R.grow (G.tr g_)) rfl rfl ?_ ?_; omega; exact ⟨Grow.rfl' _, rfl⟩
    apply AO_ex
    ·intro w_ g_; refine og rfl ?_; refine r_fieldE rfl ?_; exact ⟨Grow.rfl' _, rfl⟩
    apply AO_ex
    ·intro w_ g_; refine og rfl ?_; refine r_loadR (v := .int .i64 ((gS L k).1)) (m := 0) (R.grow (G.tr g_)) rfl (row_gS0 R (by omega)) ?_; exact ⟨Grow.rfl' _, rfl⟩
    apply AO_ex
    ·intro w_ g_; refine og rfl ?_; refine r_fieldAddr rfl ?_; exact ⟨Grow.rfl' _, rfl⟩
    apply AO_ex
    ·intro w_ g_; refine og rfl ?_; refine r_load (v := .int .i64 x2) rfl (g_.heap hb3) rfl ?_; exact ⟨Grow.rfl' _, rfl⟩
    apply AO_ex
    ·intro w_ g_; refine og rfl ?_; refine r_gtr rfl rfl ?_; exact ⟨Grow.rfl' _, rfl⟩
    refine AO_nil ?_
    intro w23 g24
    replace hB1 := Nat.le_trans hB1 g24.size
    replace hb3 := g24.heap hb3
    replace ownO := own_grow ownO g24
    replace G := G.tr g24
    clear g24
    refine WL_nil ?_
    refine W_cond2 (b := (decide (((gS L k).1) > x2))) rfl (fun haf => ?_) (fun haf => ?_)
    ·-- true
     replace haf := of_decide_eq_true haf
     rw [if_pos haf] at hO
     refine W_seq ?_
     refine W_seq (W_region rfl ?_)
     refine stp (r_move_bool rfl ?_)
     refine stp (r_not rfl ?_)
     refine WL_nil ?_
     refine W_cond2 (b := (!laid)) rfl (fun hld => ?_) (fun hld => ?_)
     ·-- true
      simp only [Bool.and_eq_true, Bool.or_eq_true, Bool.not_eq_true', Bool.and_eq_false_iff, Bool.or_eq_false_iff, Bool.not_eq_false', decide_eq_true_eq, decide_eq_false_iff_not, Bool.not_true, Bool.not_false, Bool.not_eq_eq_eq_not, Bool.or_false, Bool.and_true, Bool.or_true, Bool.and_false, Bool.false_or, Bool.true_and, Bool.true_or, Bool.false_and, Bool.false_eq_true, Bool.true_eq_false] at hld
      have hlf : laid = false := by simpa using hld
      subst hlf
      rw [if_neg (by simp)] at hO
      refine W_seq (W_region rfl ?_)
      refine stp (r_move_slice rfl ?_)
      refine stp (r_loadAll rfl hb3 (by rfl) ?_)
      refine stp (r_buildSlice (cs := #[.int .i64 x1, .int .i64 x2]) (el := 26) (fun w => by kernel_rfl) ?_)
      intro bs25 w26 hb27 hc28 g29
      have hge30 := Nat.le_trans G.size hb27
      have ne31 := Nat.ne_of_lt (Nat.lt_of_lt_of_le (lt_of_heap hb3) hb27)
      replace hB1 := Nat.le_trans hB1 g29.size
      replace hb3 := g29.heap hb3
      replace ownO := own_grow ownO g29
      replace G := G.tr g29
      clear g29
      refine stp (r_append rfl rfl rfl rfl ownO (Row.of_block (n := 1) hc28 rfl rfl (by omega)) (fun q_ hq_ => by simp at hq_; rcases hq_ with rfl | rfl <;> rfl) (by simp only [maxLen]; omega) (by omega) hB1 ?_)
      intro v32 w32 own32 gr32
      have own32' := own_snoc (s := ((x1, x2) : Spn)) own32
      obtain ⟨ad32, n32, c32, rfl⟩ := own_slice own32'
      have hn32 := own_lenS own32'
      subst hn32
      have hl32 : (ho ++ [((x1, x2) : Spn)]).length = (ho).length + 1 := by simp
      replace G := G.grown gr32 (fun k_ hk_ => Nat.le_trans hBw (own_ge ownO k_ hk_))
      replace hB1 := Nat.le_trans hB1 gr32.size
      replace hb3 := gr_heap gr32 hb3 (fun he_ => by have := (ownO.lt _ he_).1; omega)
      refine stp (r_assign_slice rfl ?_)
      refine WL_nil ?_
      refine W_region rfl ?_
      refine stp (r_assign (v := .bool true) rfl ?_)
      refine WL_nil ?_
      refine W_seq (W_region rfl ?_)
      refine stp (r_move_slice rfl ?_)
      refine stp (r_move_slice rfl ?_)
      refine stp (r_move_int rfl ?_)
      refine stp (r_indexN (R.grow G) rfl rfl ?_ ?_); omega
      refine stp (r_loadNR (R.grow G) rfl (by decide) (by rw [R.len]; omega) (row_gS R (by omega)) ?_)
      refine stp (r_buildSlice (cs := #[.int .i64 ((gS L k).1), .int .i64 ((gS L k).2)]) (el := 26) (fun w => by kernel_rfl) ?_)
      intro bs33 w34 hb35 hc36 g37
      have hge38 := Nat.le_trans G.size hb35
      have ne39 := Nat.ne_of_lt (Nat.lt_of_lt_of_le (lt_of_heap hb3) hb35)
      replace hB1 := Nat.le_trans hB1 g37.size
      replace hb3 := g37.heap hb3
      replace own32' := own_grow own32' g37
      replace G := G.tr g37
      clear g37
      refine stp (r_append rfl rfl rfl rfl own32' (Row.of_block (n := 1) hc36 rfl rfl (by omega)) (fun q_ hq_ => by simp at hq_; rcases hq_ with rfl | rfl <;> rfl) (by simp only [maxLen]; omega) (by omega) hB1 ?_)
      intro v40 w40 own40 gr40
      have own40' := own_snoc (s := gS L k) own40
      obtain ⟨ad40, n40, c40, rfl⟩ := own_slice own40'
      have hn40 := own_lenS own40'
      subst hn40
      have hl40 : (ho ++ [((x1, x2) : Spn)] ++ [gS L k]).length = (ho ++ [((x1, x2) : Spn)]).length + 1 := by simp
      replace G := G.grown gr40 (fun k_ hk_ => Nat.le_trans hBw (own_ge own32' k_ hk_))
      replace hB1 := Nat.le_trans hB1 gr40.size
      replace hb3 := gr_heap gr40 hb3 (fun he_ => by have := (own32'.lt _ he_).1; omega)
      refine stp (r_assign_slice rfl ?_)
      refine WL_nil ?_
      refine W_exit ?_
      refine W_region rfl ?_
      refine stp (r_move_int rfl ?_)
      refine stp (r_add rfl rfl ?_ ?_); constructor <;> omega
      refine stp (r_assign_int rfl ?_)
      refine WL_nil ?_
      refine ⟨_, ?_, k + 1, _, _, _, true, x1, x2, rfl, fr_of ⟨rfl, rfl, rfl, congrArg (Value.int .i64) (by omega), rfl, rfl, trivial⟩, by omega, by rw [List.append_assoc, List.append_assoc]; exact hO, hB1, hb3, own40', G⟩
      omega
     ·-- false
      simp only [Bool.and_eq_true, Bool.or_eq_true, Bool.not_eq_true', Bool.and_eq_false_iff, Bool.or_eq_false_iff, Bool.not_eq_false', decide_eq_true_eq, decide_eq_false_iff_not, Bool.not_true, Bool.not_false, Bool.not_eq_eq_eq_not, Bool.or_false, Bool.and_true, Bool.or_true, Bool.and_false, Bool.false_or, Bool.true_and, Bool.true_or, Bool.false_and, Bool.false_eq_true, Bool.true_eq_false] at hld
      have hlf : laid = true := by simpa using hld
      subst hlf
      rw [if_pos rfl] at hO
      refine W_skip ?_
      refine W_seq (W_region rfl ?_)
      refine stp (r_move_slice rfl ?_)
      refine stp (r_move_slice rfl ?_)
      refine stp (r_move_int rfl ?_)
      refine stp (r_indexN (R.grow G) rfl rfl ?_ ?_); omega
      refine stp (r_loadNR (R.grow G) rfl (by decide) (by rw [R.len]; omega) (row_gS R (by omega)) ?_)
      refine stp (r_buildSlice (cs := #[.int .i64 ((gS L k).1), .int .i64 ((gS L k).2)]) (el := 26) (fun w => by kernel_rfl) ?_)
      intro bs41 w42 hb43 hc44 g45
      have hge46 := Nat.le_trans G.size hb43
      have ne47 := Nat.ne_of_lt (Nat.lt_of_lt_of_le (lt_of_heap hb3) hb43)
      replace hB1 := Nat.le_trans hB1 g45.size
      replace hb3 := g45.heap hb3
      replace ownO := own_grow ownO g45
      replace G := G.tr g45
      clear g45
      refine stp (r_append rfl rfl rfl rfl ownO (Row.of_block (n := 1) hc44 rfl rfl (by omega)) (fun q_ hq_ => by simp at hq_; rcases hq_ with rfl | rfl <;> rfl) (by simp only [maxLen]; omega) (by omega) hB1 ?_)
      intro v48 w48 own48 gr48
      have own48' := own_snoc (s := gS L k) own48
      obtain ⟨ad48, n48, c48, rfl⟩ := own_slice own48'
      have hn48 := own_lenS own48'
      subst hn48
      have hl48 : (ho ++ [gS L k]).length = (ho).length + 1 := by simp
      replace G := G.grown gr48 (fun k_ hk_ => Nat.le_trans hBw (own_ge ownO k_ hk_))
      replace hB1 := Nat.le_trans hB1 gr48.size
      replace hb3 := gr_heap gr48 hb3 (fun he_ => by have := (ownO.lt _ he_).1; omega)
      refine stp (r_assign_slice rfl ?_)
      refine WL_nil ?_
      refine W_exit ?_
      refine W_region rfl ?_
      refine stp (r_move_int rfl ?_)
      refine stp (r_add rfl rfl ?_ ?_); constructor <;> omega
      refine stp (r_assign_int rfl ?_)
      refine WL_nil ?_
      refine ⟨_, ?_, k + 1, _, _, _, true, x1, x2, rfl, fr_of ⟨rfl, rfl, rfl, congrArg (Value.int .i64) (by omega), rfl, rfl, trivial⟩, by omega, by rw [List.append_assoc]; exact hO, hB1, hb3, own48', G⟩
      omega
    ·-- false
     replace haf := of_decide_eq_false haf
     rw [if_neg (by omega)] at hO
     refine W_skip ?_
     refine W_any 17 [[], [0], [], [], [1, 0], [2, 1, 0], [3, 2, 1, 0], [6, 5, 4, 3, 2, 1, 0], [], [0], [], [], [1, 0], [2, 1, 0], [3, 2, 1, 0], [6, 5, 4, 3, 2, 1, 0], [15, 14, 13, 12, 11, 10, 9, 8, 7, 6, 5, 4, 3, 2, 1, 0]] mixed (by kernel_rfl) (by kernel_rfl) (by kernel_rfl) ?_
     intro w49 g50
     replace hB1 := Nat.le_trans hB1 g50.size
     replace hb3 := g50.heap hb3
     replace ownO := own_grow ownO g50
     replace G := G.tr g50
     clear g50
     apply AO_ex
     ·intro w_ g_; refine og rfl ?_; refine r_fieldAddr rfl ?_; exact ⟨Grow.rfl' _, rfl⟩
     apply AO_ex
     ·intro w_ g_; refine og rfl ?_; refine r_load (v := .int .i64 x1) rfl (g_.heap hb3) rfl ?_; exact ⟨Grow.rfl' _, rfl⟩
     apply AO_ex
     ·intro w_ g_; refine og rfl ?_; refine r_move_slice rfl ?_; exact ⟨Grow.rfl' _, rfl⟩
     apply AO_ex
     ·intro w_ g_; refine og rfl ?_; refine r_move_int rfl ?_; exact ⟨Grow.rfl' _, rfl⟩
     apply AO_ex
     ·intro w_ g_; refine og rfl ?_; refine r_indexN (R.grow (G.tr g_)) rfl rfl ?_ ?_; omega; exact ⟨Grow.rfl' _, rfl⟩
     apply AO_ex
     ·intro w_ g_; refine og rfl ?_; refine r_fieldE rfl ?_; exact ⟨Grow.rfl' _, rfl⟩
     apply AO_ex
     ·intro w_ g_; refine og rfl ?_; refine r_loadR (v := .int .i64 ((gS L k).1)) (m := 0) (R.grow (G.tr g_)) rfl (row_gS0 R (by omega)) ?_; exact ⟨Grow.rfl' _, rfl⟩
     apply AO_ex
     ·intro w_ g_; refine og rfl ?_; refine r_min rfl rfl rfl ?_; exact ⟨Grow.rfl' _, rfl⟩
     apply AO_ex
     ·intro w_ g_; refine og rfl ?_; refine r_fieldAddr rfl ?_; exact ⟨Grow.rfl' _, rfl⟩
     apply AO_ex
     ·intro w_ g_; refine og rfl ?_; refine r_load (v := .int .i64 x2) rfl (g_.heap hb3) rfl ?_; exact ⟨Grow.rfl' _, rfl⟩
     apply AO_ex
     ·intro w_ g_; refine og rfl ?_; refine r_move_slice rfl ?_; exact ⟨Grow.rfl' _, rfl⟩
     apply AO_ex
     ·intro w_ g_; refine og rfl ?_; refine r_move_int rfl ?_; exact ⟨Grow.rfl' _, rfl⟩
     apply AO_ex
     ·intro w_ g_; refine og rfl ?_; refine r_indexN (R.grow (G.tr g_)) rfl rfl ?_ ?_; omega; exact ⟨Grow.rfl' _, rfl⟩
     apply AO_ex
     ·intro w_ g_; refine og rfl ?_; refine r_fieldE rfl ?_; exact ⟨Grow.rfl' _, rfl⟩
     apply AO_ex
     ·intro w_ g_; refine og rfl ?_; refine r_loadR (v := .int .i64 ((gS L k).2)) (m := 0) (R.grow (G.tr g_)) rfl (row_gS1 R (by omega)) ?_; exact ⟨Grow.rfl' _, rfl⟩
     apply AO_ex
     ·intro w_ g_; refine og rfl ?_; refine r_max rfl rfl rfl ?_; exact ⟨Grow.rfl' _, rfl⟩
     apply AO_ex
     ·intro w_ g_; refine og rfl ?_; refine r_build (v := .agg #[.int .i64 (if ((gS L k).1) < x1 then ((gS L k).1) else x1), .int .i64 (if ((gS L k).2) > x2 then ((gS L k).2) else x2)]) (fun w => by kernel_rfl) ?_; exact ⟨Grow.rfl' _, rfl⟩
     refine AO_nil ?_
     intro w51 g52
     replace hB1 := Nat.le_trans hB1 g52.size
     replace hb3 := g52.heap hb3
     replace ownO := own_grow ownO g52
     replace G := G.tr g52
     clear g52
     refine stn (r_storeAll (vs := #[.int .i64 (min x1 (gS L k).1), .int .i64 (max x2 (gS L k).2)]) rfl (by rw [show min x1 (gS L k).1 = (if (gS L k).1 < x1 then (gS L k).1 else x1) from by split <;> omega, show max x2 (gS L k).2 = (if (gS L k).2 > x2 then (gS L k).2 else x2) from by split <;> omega]; rfl) hb3 (by rfl) (by rfl) (by rfl) ?_)
     intro w9 hb39 u9
     have own9 := own_upd ownO u9 (fun he_ => by have := (ownO.lt _ he_).1; omega)
     replace G := G.upd u9 hge3
     have hB9 : w2.heap.size ≤ w9.heap.size := by rw [u9.size]; exact hB1
     refine WL_nil ?_
     refine W_region rfl ?_
     refine stp (r_move_int rfl ?_)
     refine stp (r_add rfl rfl ?_ ?_); constructor <;> omega
     refine stp (r_assign_int rfl ?_)
     refine WL_nil ?_
     refine ⟨_, ?_, k + 1, _, _, _, laid, _, _, rfl, fr_of ⟨rfl, rfl, rfl, congrArg (Value.int .i64) (by omega), rfl, rfl, trivial⟩, by omega, hO, hB9, hb39, own9, G⟩
     omega
  ·-- false
   replace hlt := of_decide_eq_false hlt
   have hk9 : k = L.length := by omega
   rw [hk9, List.drop_length, addG] at hO
   have hlen := congrArg List.length hO
   rw [List.length_append] at hlen
   refine W_exit ?_
   refine W_seq ?_
   refine W_seq (W_region rfl ?_)
   refine stp (r_move_bool rfl ?_)
   refine stp (r_not rfl ?_)
   refine WL_nil ?_
   refine W_cond2 (b := (!laid)) rfl (fun hld => ?_) (fun hld => ?_)
   ·-- true
    simp only [Bool.and_eq_true, Bool.or_eq_true, Bool.not_eq_true', Bool.and_eq_false_iff, Bool.or_eq_false_iff, Bool.not_eq_false', decide_eq_true_eq, decide_eq_false_iff_not, Bool.not_true, Bool.not_false, Bool.not_eq_eq_eq_not, Bool.or_false, Bool.and_true, Bool.or_true, Bool.and_false, Bool.false_or, Bool.true_and, Bool.true_or, Bool.false_and, Bool.false_eq_true, Bool.true_eq_false] at hld
    have hlf : laid = false := by simpa using hld
    subst hlf
    rw [if_neg (by simp)] at hO
    refine W_region rfl ?_
    refine stp (r_move_slice rfl ?_)
    refine stp (r_loadAll rfl hb3 (by rfl) ?_)
    refine stp (r_buildSlice (cs := #[.int .i64 x1, .int .i64 x2]) (el := 26) (fun w => by kernel_rfl) ?_)
    intro bs53 w54 hb55 hc56 g57
    have hge58 := Nat.le_trans G.size hb55
    have ne59 := Nat.ne_of_lt (Nat.lt_of_lt_of_le (lt_of_heap hb3) hb55)
    replace hB1 := Nat.le_trans hB1 g57.size
    replace hb3 := g57.heap hb3
    replace ownO := own_grow ownO g57
    replace G := G.tr g57
    clear g57
    refine stp (r_append rfl rfl rfl rfl ownO (Row.of_block (n := 1) hc56 rfl rfl (by omega)) (fun q_ hq_ => by simp at hq_; rcases hq_ with rfl | rfl <;> rfl) (by simp only [maxLen]; omega) (by omega) hB1 ?_)
    intro v60 w60 own60 gr60
    have own60' := own_snoc (s := ((x1, x2) : Spn)) own60
    obtain ⟨ad60, n60, c60, rfl⟩ := own_slice own60'
    have hn60 := own_lenS own60'
    subst hn60
    have hl60 : (ho ++ [((x1, x2) : Spn)]).length = (ho).length + 1 := by simp
    replace G := G.grown gr60 (fun k_ hk_ => Nat.le_trans hBw (own_ge ownO k_ hk_))
    replace hB1 := Nat.le_trans hB1 gr60.size
    replace hb3 := gr_heap gr60 hb3 (fun he_ => by have := (ownO.lt _ he_).1; omega)
    refine stp (r_assign_slice rfl ?_)
    refine WL_nil ?_
    refine W_seq (W_region rfl ?_)
    refine stp (r_move_slice rfl ?_)
    refine stp (r_assign_slice rfl ?_)
    refine WL_nil ?_
    refine W_ret ?_
    rw [hadd, ← hO]
    refine ret1 (res_tmp (v := .slice ad60 ((ho ++ [((x1, x2) : Spn)]).length) c60) rfl) ⟨own_row own60' (by rw [hO]; omega), G⟩
   ·-- false
    simp only [Bool.and_eq_true, Bool.or_eq_true, Bool.not_eq_true', Bool.and_eq_false_iff, Bool.or_eq_false_iff, Bool.not_eq_false', decide_eq_true_eq, decide_eq_false_iff_not, Bool.not_true, Bool.not_false, Bool.not_eq_eq_eq_not, Bool.or_false, Bool.and_true, Bool.or_true, Bool.and_false, Bool.false_or, Bool.true_and, Bool.true_or, Bool.false_and, Bool.false_eq_true, Bool.true_eq_false] at hld
    have hlf : laid = true := by simpa using hld
    subst hlf
    rw [if_pos rfl, List.append_nil] at hO
    refine W_skip ?_
    refine W_seq (W_region rfl ?_)
    refine stp (r_move_slice rfl ?_)
    refine stp (r_assign_slice rfl ?_)
    refine WL_nil ?_
    refine W_ret ?_
    rw [hadd, ← hO]
    refine ret1 (res_tmp (v := .slice ado ho.length co) rfl) ⟨own_row ownO (by rw [hO]; omega), G⟩

set_option maxRecDepth 100000 in
theorem rnorm_calls (w : World) {ad : Option Addr} {c n : Nat} {L : List Spn} (hc : n ≤ c) (hc2 : c ≤ maxLen) (R : RowAt w 2 ad n (encL L)) (hb : n ≤ 274877906944) : Calls Try.prog 19 #[.slice ad n c] w (Ret fun v w' => Row w' 2 v (nrm L).length (encL (nrm L)) ∧ Grow w w') := by
 have G := Grow.rfl' w
 refine calls_ret Try.func19 Try.ntmps19 Try.results19 rfl rfl ?_
 have hLn := row_lenS R
 refine W_seq (W_region rfl ?_)
 refine stp (r_assign_slice rfl ?_)
 refine WL_nil ?_
 refine W_seq (W_region rfl ?_)
 refine stp (r_assign_slice rfl ?_)
 refine WL_nil ?_
 have RO : RowAt w 2 none (nrm (L.take 0)).length (encL (nrm (L.take 0))) := by rw [List.take_zero, nrm_nil]; exact RowAt.empty _ _ _
 refine W_seq ?_
 refine W_seq (W_region rfl ?_)
 refine stp (r_assign_int rfl ?_)
 refine WL_nil ?_
 refine W_block ?_
 refine W_loop (fun m_ e_ w_ => ∃ (k : Nat) (ado : Option Addr) (co : Nat), m_ = n - k ∧ Fr [(0, .slice ad n c), (2, .slice none 0 0), (4, .int .i64 (k : Int)), (3, .slice ado ((nrm (L.take k)).length) co)] e_ ∧ (k ≤ n) ∧ ((nrm (L.take k)).length ≤ co) ∧ (co ≤ maxLen) ∧ (RowAt w_ 2 ado (nrm (L.take k)).length (encL (nrm (L.take k)))) ∧ Grow w w_) _ ⟨0, none, 0, rfl, fr_of ⟨rfl, rfl, rfl, by rw [List.take_zero, nrm_nil]; rfl, trivial⟩, by omega, by rw [List.take_zero, nrm_nil]; exact Nat.le_refl _, Nat.zero_le _, RO, G⟩ ?_
 clear G
 rintro m_ e_ w1 ⟨k, ado, co, rfl, ⟨e2, rfl⟩, hk, hoc, hoc2, RO, G⟩
 refine W_seq ?_
 refine W_seq (W_region rfl ?_)
 refine stp (r_move_int rfl ?_)
 refine stp (r_move_slice rfl ?_)
 refine stp (r_len rfl rfl rfl ?_)
 refine stp (r_lss rfl rfl ?_)
 refine WL_nil ?_
 refine W_cond2 (b := (decide ((k : Int) < (n : Int)))) rfl (fun hlt => ?_) (fun hlt => ?_)
 ·-- true
  replace hlt := of_decide_eq_true hlt
  refine W_skip ?_
  refine W_seq ?_
  refine W_block ?_
  refine W_region rfl ?_
  refine stp (r_move_slice rfl ?_)
  refine stp (r_move_slice rfl ?_)
  refine stp (r_move_int rfl ?_)
  refine stp (r_indexN (R.grow G) rfl rfl ?_ ?_); omega
  refine stp (r_loadNR (R.grow G) rfl (by decide) (by rw [R.len]; omega) (row_gS R (by omega)) ?_)
  refine WL_some (og rfl ?_)
  have hlt9 := nrm_len (L.take k)
  rw [List.length_take] at hlt9
  refine r_call rfl (radd_calls _ (L := nrm (L.take k)) (gS L k).1 (gS L k).2 hoc hoc2 RO (by omega)) ?_
  rintro v9 w9 ⟨⟨ad9, c9, rfl, hc9, hc92, R9⟩, g9⟩
  replace G := G.tr g9
  have hst : addS (nrm (L.take k)) ((gS L k).1, (gS L k).2) = nrm (L.take (k + 1)) := nrm_step (by omega)
  rw [hst] at hc9 R9
  refine stp (r_assign (v := .slice ad9 (addS (nrm (L.take k)) ((gS L k).1, (gS L k).2)).length c9) rfl ?_)
  refine WL_nil ?_
  refine W_region rfl ?_
  refine stp (r_move_int rfl ?_)
  refine stp (r_add rfl rfl ?_ ?_); constructor <;> omega
  refine stp (r_assign_int rfl ?_)
  refine WL_nil ?_
  refine ⟨_, ?_, k + 1, ad9, c9, rfl, fr_of ⟨rfl, rfl, congrArg (Value.int .i64) (by omega), by rw [← hst]; rfl, trivial⟩, by omega, hc9, hc92, R9, G⟩
  omega
 ·-- false
  replace hlt := of_decide_eq_false hlt
  have hk9 : L.take k = L := List.take_of_length_le (by omega)
  rw [hk9] at RO hoc
  refine W_exit ?_
  refine W_seq (W_region rfl ?_)
  refine stp (r_move_slice rfl ?_)
  refine stp (r_assign_slice rfl ?_)
  refine WL_nil ?_
  refine W_ret ?_
  refine ret1 (res_tmp (v := .slice ado ((nrm (L.take k)).length) co) rfl) ⟨⟨_, _, by rw [hk9], hoc, hoc2, RO⟩, G⟩

set_option maxRecDepth 100000 in
theorem rof_calls (w : World) {ad : Option Addr} {c n : Nat} {xs : List Int} (hx : ∀ x ∈ xs, 0 ≤ x ∧ x < 256) (R : RowAt w 1 ad n (xs.map (.int .u8))) (hb : n ≤ 1073741824) : Calls Try.prog 21 #[.slice ad n c] w (Ret fun v w' => Row w' 2 v (ofS xs).length (encL (ofS xs)) ∧ Grow w w') := by
 have ln := R.len
 simp only [List.length_map, Nat.mul_one] at ln
 have G := Grow.rfl' w
 refine calls_ret Try.func21 Try.ntmps21 Try.results21 rfl rfl ?_
 refine W_seq (W_region rfl ?_)
 refine stp (r_assign_slice rfl ?_)
 refine WL_nil ?_
 refine W_seq (W_region rfl ?_)
 refine stp (r_assign_slice rfl ?_)
 refine WL_nil ?_
 have RO : RowAt w 2 none (nrm (ofL xs 0)).length (encL (nrm (ofL xs 0))) := by rw [ofL, nrm_nil]; exact RowAt.empty _ _ _
 refine W_seq ?_
 refine W_seq (W_region rfl ?_)
 refine stp (r_assign_int rfl ?_)
 refine WL_nil ?_
 refine W_block ?_
 refine W_loop (fun m_ e_ w_ => ∃ (k : Nat) (ado : Option Addr) (co : Nat), m_ = 8 * n - k ∧ Fr [(0, .slice ad n c), (2, .slice none 0 0), (4, .int .i64 (k : Int)), (3, .slice ado ((nrm (ofL xs k)).length) co)] e_ ∧ (k ≤ 8 * n) ∧ ((nrm (ofL xs k)).length ≤ co) ∧ (co ≤ maxLen) ∧ (RowAt w_ 2 ado (nrm (ofL xs k)).length (encL (nrm (ofL xs k)))) ∧ Grow w w_) _ ⟨0, none, 0, rfl, fr_of ⟨rfl, rfl, rfl, by rw [ofL, nrm_nil]; rfl, trivial⟩, by omega, by rw [ofL, nrm_nil]; exact Nat.le_refl _, Nat.zero_le _, RO, G⟩ ?_
 clear G
 rintro m_ e_ w1 ⟨k, ado, co, rfl, ⟨e2, rfl⟩, hk, hoc, hoc2, RO, G⟩
 refine W_seq ?_
 refine W_seq (W_region rfl ?_)
 refine stp (r_move_int rfl ?_)
 refine stp (r_move_slice rfl ?_)
 refine stp (r_len rfl rfl rfl ?_)
 refine stp (r_mul rfl rfl ?_ ?_); constructor <;> omega
 refine stp (r_lss rfl rfl ?_)
 refine WL_nil ?_
 refine W_cond2 (b := (decide ((k : Int) < (8 * (n : Int))))) rfl (fun hlt => ?_) (fun hlt => ?_)
 ·-- true
  replace hlt := of_decide_eq_true hlt
  refine W_skip ?_
  refine W_seq ?_
  refine W_block ?_
  refine W_seq (W_region rfl ?_)
  refine stp (r_move_slice rfl ?_)
  refine stp (r_move_int rfl ?_)
  refine stp (r_gives (v := .bool (getB xs (k : Int))) rfl (rbget_calls _ hx (R.grow G) _ (by omega) (by omega)) ?_)
  intro w3 g4
  replace RO := RO.grow g4
  replace G := G.tr g4
  clear g4
  refine WL_nil ?_
  refine W_cond2 (b := (getB xs (k : Int))) rfl (fun hg => ?_) (fun hg => ?_)
  ·-- true
   refine W_region rfl ?_
   refine stp (r_move_slice rfl ?_)
   refine stp (r_move_int rfl ?_)
   refine stp (r_move_int rfl ?_)
   refine stp (r_add rfl rfl ?_ ?_); constructor <;> omega
   refine stp (r_build (v := .agg #[.int .i64 (k : Int), .int .i64 ((k : Int) + 1)]) (fun w => by kernel_rfl) ?_)
   refine WL_some (og rfl ?_)
   have hlt9 := nrm_len (ofL xs k)
   have hol := ofL_len xs k
   refine r_call rfl (radd_calls _ (L := nrm (ofL xs k)) (k : Int) ((k : Int) + 1) hoc hoc2 RO (by omega)) ?_
   rintro v9 w9 ⟨⟨ad9, c9, rfl, hc9, hc92, R9⟩, g9⟩
   replace G := G.tr g9
   have hst : addS (nrm (ofL xs k)) ((k : Int), (k : Int) + 1) = nrm (ofL xs (k + 1)) := by rw [addS_nrm, ofL, if_pos (by simpa using hg)]
   rw [hst] at hc9 R9
   refine stp (r_assign (v := .slice ad9 (addS (nrm (ofL xs k)) ((k : Int), (k : Int) + 1)).length c9) rfl ?_)
   refine WL_nil ?_
   refine W_region rfl ?_
   refine stp (r_move_int rfl ?_)
   refine stp (r_add rfl rfl ?_ ?_); constructor <;> omega
   refine stp (r_assign_int rfl ?_)
   refine WL_nil ?_
   refine ⟨_, ?_, k + 1, ad9, c9, rfl, fr_of ⟨rfl, rfl, congrArg (Value.int .i64) (by omega), by rw [← hst]; rfl, trivial⟩, by omega, hc9, hc92, R9, G⟩
   omega
  ·-- false
   have hoe : ofL xs (k + 1) = ofL xs k := by rw [ofL, if_neg (by simpa using hg)]
   refine W_skip ?_
   refine W_region rfl ?_
   refine stp (r_move_int rfl ?_)
   refine stp (r_add rfl rfl ?_ ?_); constructor <;> omega
   refine stp (r_assign_int rfl ?_)
   refine WL_nil ?_
   refine ⟨_, ?_, k + 1, ado, co, rfl, fr_of ⟨rfl, rfl, congrArg (Value.int .i64) (by omega), by rw [hoe]; rfl, trivial⟩, by omega, by rw [hoe]; exact hoc, hoc2, (by rw [hoe]; exact RO), G⟩
   omega
 ·-- false
  replace hlt := of_decide_eq_false hlt
  have hk9 : nrm (ofL xs k) = ofS xs := by unfold ofS; rw [show 8 * xs.length = k from by omega]
  rw [hk9] at RO hoc
  refine W_exit ?_
  refine W_seq (W_region rfl ?_)
  refine stp (r_move_slice rfl ?_)
  refine stp (r_assign_slice rfl ?_)
  refine WL_nil ?_
  refine W_ret ?_
  refine ret1 (res_tmp (v := .slice ado ((nrm (ofL xs k)).length) co) rfl) ⟨⟨_, _, by rw [hk9], hoc, hoc2, RO⟩, G⟩
end Go.Proofs.Ytldlfhodboigeaa.K
