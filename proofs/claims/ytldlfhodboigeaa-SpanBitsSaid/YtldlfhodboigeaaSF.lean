/- package span (printed by sp04.py). -/
import Derived.Test.YtldlfhodboigeaaSE
set_option linter.unusedVariables false
set_option linter.unusedSimpArgs false
namespace Go.Proofs.Ytldlfhodboigeaa.K
open Go Go.RowKit Go.Proofs
attribute [local irreducible] Run1 OpG WL W AO Gives
set_option maxRecDepth 100000 in
theorem has_calls (w : World) {ad : Option Addr} {c n : Nat} {L : List Spn} (s1 s2 : Int) (hc : n ≤ c) (hc2 : c ≤ maxLen) (R : RowAt w 2 ad n (encL L)) (hb : n ≤ 274877906944) : Gives Try.prog 14 #[.slice ad n c, .agg #[.int .i64 s1, .int .i64 s2]] w (.bool (hasB L (s1, s2))) := by
 have G := Grow.rfl' w
 refine gives_of Try.func14 Try.ntmps14 Try.results14 rfl rfl ?_
 refine W_seq (W_region rfl ?_)
 refine WL_some (og rfl ?_)
 (first | refine r_box_agg rfl ?_ | refine r_box_int rfl ?_ | refine r_box_slice rfl ?_ | refine r_box rfl rfl ?_)
 intro b1 w2 hb3 hc4 g5
 have hge6 := Nat.le_trans G.size hb3
 replace G := G.tr g5
 clear g5 hb3
 refine stp (r_assign (v := .bool false) rfl ?_)
 refine WL_nil ?_
 refine W_seq (W_region rfl ?_)
 refine stp (r_move_slice rfl ?_)
 refine stp (r_loadAll rfl hc4 (by rfl) ?_)
 refine WL_some (og rfl ?_)
 refine r_call rfl (holes_calls _ s1 s2 hc hc2 (R.grow G) (by omega)) ?_
 rintro v7 w7 ⟨own7, g7⟩
 replace hc4 := g7.heap hc4
 replace G := G.tr g7
 obtain ⟨ad8, n7, c7, rfl⟩ := own_slice own7
 have hn7 := own_lenS own7
 subst hn7
 refine stp (r_len rfl rfl rfl ?_)
 refine stp (r_eql rfl rfl ?_)
 refine stp (r_assign_bool rfl ?_)
 refine WL_nil ?_
 refine W_ret ?_
 refine ret1 (res_tmp (v := .bool (decide (((hls L (s1, s2)).length : Int) = 0))) rfl) ⟨?_, G⟩
 unfold hasB; cases hls L (s1, s2) <;> simp <;> omega

set_option maxRecDepth 100000 in
theorem right_calls (w : World) {ad : Option Addr} {c n : Nat} {L : List Spn} (hc : n ≤ c) (hc2 : c ≤ maxLen) (R : RowAt w 2 ad n (encL L)) (hb : n ≤ 274877906944) : Gives Try.prog 17 #[.slice ad n c] w (.bool (rightB L)) := by
 have G := Grow.rfl' w
 refine gives_of Try.func17 Try.ntmps17 Try.results17 rfl rfl ?_
 have hLn := row_lenS R
 refine W_seq (W_region rfl ?_)
 refine stp (r_assign (v := .bool false) rfl ?_)
 refine WL_nil ?_
 refine W_seq ?_
 refine W_seq (W_region rfl ?_)
 refine stp (r_move_slice rfl ?_)
 refine stp (r_len rfl rfl rfl ?_)
 refine stp (r_move_int rfl ?_)
 refine WL_nil ?_
 refine W_block ?_
 refine W_loop (fun m_ e_ w_ => ∃ (k : Nat), m_ = n - k ∧ Fr [(0, .slice ad n c), (5, .slice ad n c), (6, .int .i64 (n : Int)), (7, .int .i64 (k : Int))] e_ ∧ (k ≤ n) ∧ (∀ j, j < k → badS L j = false) ∧ Grow w w_) _ ⟨0, rfl, fr_of ⟨rfl, rfl, rfl, rfl, trivial⟩, by omega, fun j hj => by omega, G⟩ ?_
 clear G
 rintro m_ e_ w1 ⟨k, rfl, ⟨e2, rfl⟩, hk, hno, G⟩
 refine W_seq (W_region rfl ?_)
 refine stp (r_lss rfl rfl ?_)
 refine WL_nil ?_
 refine W_seq ?_
 refine W_cond2 (b := (decide ((k : Int) < (n : Int)))) rfl (fun hlt => ?_) (fun hlt => ?_)
 ·-- true
  replace hlt := of_decide_eq_true hlt
  refine W_skip ?_
  refine W_seq ?_
  refine W_block ?_
  refine W_seq (W_region rfl ?_)
  refine stp (r_move_int rfl ?_)
  refine stp (r_indexN (R.grow G) rfl rfl ?_ ?_); omega
  refine stp (r_loadNR (R.grow G) rfl (by decide) (by rw [R.len]; omega) (row_gS R (by omega)) ?_)
  refine stp (r_alloc ?_)
  intro b3 w4 hb5 hc6 g7
  refine stp (r_assign_int rfl ?_)
  refine stn (r_storeAll rfl rfl hc6 (by rfl) (by rfl) (by rfl) ?_)
  intro w8 hc9 u10
  have g11 := g7.upd u10 hb5
  have hge12 := Nat.le_trans G.size hb5
  replace G := G.tr g11
  clear u10 g7 hb5 hc6
  refine WL_nil ?_
  refine W_seq ?_
  refine W_any 17 [[], [0], [1, 0], [2, 1, 0], [3, 2, 1, 0], [4, 3, 2, 1, 0], [5, 4, 3, 2, 1, 0], [6, 5, 4, 3, 2, 1, 0], [7, 6, 5, 4, 3, 2], [8, 7, 6, 5, 4, 3], [9, 8, 7, 6, 5, 4, 0], [10, 9, 8, 7, 6, 5, 2, 1, 0], [11, 10, 9, 8, 7, 6, 3, 2, 1, 0], [12, 11, 10, 9, 8, 7, 4, 3, 2, 1, 0], [13, 12, 11, 10, 9, 8, 7, 6, 5, 4, 3, 2, 1, 0], [14, 13, 12, 11, 10, 9, 8, 7, 6, 5, 4, 3, 2, 1, 0], [15, 14, 13, 12, 11, 10, 9, 8, 7, 6, 5, 4, 3, 2, 1, 0]] mixed (by kernel_rfl) (by kernel_rfl) (by kernel_rfl) ?_
  intro w13 g14
  replace hc9 := g14.heap hc9
  replace G := G.tr g14
  clear g14
  apply AO_ex
  ·intro w_ g_; refine og rfl ?_; refine r_loadAll rfl (g_.heap hc9) (by rfl) ?_; exact ⟨Grow.rfl' _, rfl⟩
  apply AO_ex
  ·intro w_ g_; refine og rfl ?_; exact r_gives (v := .bool (noneS (gS L k))) rfl (none_calls _ _ _) (fun w2_ g2_ => ⟨g2_, rfl⟩)
  apply AO_ex
  ·intro w_ g_; refine og rfl ?_; refine r_move_bool rfl ?_; exact ⟨Grow.rfl' _, rfl⟩
  apply AO_ex
  ·intro w_ g_; 
   refine og_if (s := .bool (noneS (gS L k))) (b := false) (v := .int .i64 (k : Int)) rfl (wgb_f _) (fun hc15 => ?_) ?_
   ·
    have hc15_ := hc15
    try simp only [Bool.and_eq_true, Bool.or_eq_true, Bool.not_eq_true', Bool.and_eq_false_iff, Bool.or_eq_false_iff, Bool.not_eq_false', decide_eq_true_eq, decide_eq_false_iff_not, Bool.not_true, Bool.not_false, Bool.not_eq_eq_eq_not, Bool.or_false, Bool.and_true, Bool.or_true, Bool.and_false, Bool.false_or, Bool.true_and, Bool.true_or, Bool.false_and, Bool.false_eq_true, Bool.true_eq_false] at hc15_
    refine r_move_int rfl ?_
    exact ⟨rfl, rfl⟩
   exact ⟨Grow.rfl' _, rfl⟩
  apply AO_ex
  ·intro w_ g_; 
   refine og_if (s := .bool (noneS (gS L k))) (b := false) (v := .bool (decide ((k : Int) > 0))) rfl (wgb_f _) (fun hc16 => ?_) ?_
   ·
    have hc16_ := hc16
    try simp only [Bool.and_eq_true, Bool.or_eq_true, Bool.not_eq_true', Bool.and_eq_false_iff, Bool.or_eq_false_iff, Bool.not_eq_false', decide_eq_true_eq, decide_eq_false_iff_not, Bool.not_true, Bool.not_false, Bool.not_eq_eq_eq_not, Bool.or_false, Bool.and_true, Bool.or_true, Bool.and_false, Bool.false_or, Bool.true_and, Bool.true_or, Bool.false_and, Bool.false_eq_true, Bool.true_eq_false] at hc16_
    refine r_gtr (gvt hc16) rfl ?_
    exact ⟨rfl, rfl⟩
   exact ⟨Grow.rfl' _, rfl⟩
  apply AO_ex
  ·intro w_ g_; 
   refine og_if (s := .bool (noneS (gS L k))) (b := false) (v := .bool (decide ((k : Int) > 0))) rfl (wgb_f _) (fun hc17 => ?_) ?_
   ·
    have hc17_ := hc17
    try simp only [Bool.and_eq_true, Bool.or_eq_true, Bool.not_eq_true', Bool.and_eq_false_iff, Bool.or_eq_false_iff, Bool.not_eq_false', decide_eq_true_eq, decide_eq_false_iff_not, Bool.not_true, Bool.not_false, Bool.not_eq_eq_eq_not, Bool.or_false, Bool.and_true, Bool.or_true, Bool.and_false, Bool.false_or, Bool.true_and, Bool.true_or, Bool.false_and, Bool.false_eq_true, Bool.true_eq_false] at hc17_
    refine r_move (v := .bool (decide ((k : Int) > 0))) (gvt hc17) ?_
    exact ⟨rfl, rfl⟩
   exact ⟨Grow.rfl' _, rfl⟩
  apply AO_ex
  ·intro w_ g_; 
   refine og_if (s := gv (!(noneS (gS L k))) (.bool (decide ((k : Int) > 0)))) (b := true) (v := .pointer (some ⟨b3, 0, none⟩)) rfl (wgb_gt _ _) (fun hc18 => ?_) ?_
   ·
    obtain ⟨hc18a, hc18b⟩ := and_t hc18
    have hc18a_ := hc18a
    try simp only [Bool.and_eq_true, Bool.or_eq_true, Bool.not_eq_true', Bool.and_eq_false_iff, Bool.or_eq_false_iff, Bool.not_eq_false', decide_eq_true_eq, decide_eq_false_iff_not, Bool.not_true, Bool.not_false, Bool.not_eq_eq_eq_not, Bool.or_false, Bool.and_true, Bool.or_true, Bool.and_false, Bool.false_or, Bool.true_and, Bool.true_or, Bool.false_and, Bool.false_eq_true, Bool.true_eq_false] at hc18a_
    have hc18b_ := of_decide_eq_true hc18b
    refine r_fieldAddr rfl ?_
    exact ⟨rfl, rfl⟩
   exact ⟨Grow.rfl' _, rfl⟩
  apply AO_ex
  ·intro w_ g_; 
   refine og_if (s := gv (!(noneS (gS L k))) (.bool (decide ((k : Int) > 0)))) (b := true) (v := .int .i64 ((gS L k).1)) rfl (wgb_gt _ _) (fun hc19 => ?_) ?_
   ·
    obtain ⟨hc19a, hc19b⟩ := and_t hc19
    have hc19a_ := hc19a
    try simp only [Bool.and_eq_true, Bool.or_eq_true, Bool.not_eq_true', Bool.and_eq_false_iff, Bool.or_eq_false_iff, Bool.not_eq_false', decide_eq_true_eq, decide_eq_false_iff_not, Bool.not_true, Bool.not_false, Bool.not_eq_eq_eq_not, Bool.or_false, Bool.and_true, Bool.or_true, Bool.and_false, Bool.false_or, Bool.true_and, Bool.true_or, Bool.false_and, Bool.false_eq_true, Bool.true_eq_false] at hc19a_
    have hc19b_ := of_decide_eq_true hc19b
    refine r_load (v := .int .i64 ((gS L k).1)) (gvt hc19) (g_.heap hc9) rfl ?_
    exact ⟨rfl, rfl⟩
   exact ⟨Grow.rfl' _, rfl⟩
  apply AO_ex
  ·intro w_ g_; 
   refine og_if (s := gv (!(noneS (gS L k))) (.bool (decide ((k : Int) > 0)))) (b := true) (v := .slice ad n c) rfl (wgb_gt _ _) (fun hc20 => ?_) ?_
   ·
    obtain ⟨hc20a, hc20b⟩ := and_t hc20
    have hc20a_ := hc20a
    try simp only [Bool.and_eq_true, Bool.or_eq_true, Bool.not_eq_true', Bool.and_eq_false_iff, Bool.or_eq_false_iff, Bool.not_eq_false', decide_eq_true_eq, decide_eq_false_iff_not, Bool.not_true, Bool.not_false, Bool.not_eq_eq_eq_not, Bool.or_false, Bool.and_true, Bool.or_true, Bool.and_false, Bool.false_or, Bool.true_and, Bool.true_or, Bool.false_and, Bool.false_eq_true, Bool.true_eq_false] at hc20a_
    have hc20b_ := of_decide_eq_true hc20b
    refine r_move_slice rfl ?_
    exact ⟨rfl, rfl⟩
   exact ⟨Grow.rfl' _, rfl⟩
  apply AO_ex
  ·intro w_ g_; 
   refine og_if (s := gv (!(noneS (gS L k))) (.bool (decide ((k : Int) > 0)))) (b := true) (v := .int .i64 (k : Int)) rfl (wgb_gt _ _) (fun hc21 => ?_) ?_
   ·
    obtain ⟨hc21a, hc21b⟩ := and_t hc21
    have hc21a_ := hc21a
    try simp only [Bool.and_eq_true, Bool.or_eq_true, Bool.not_eq_true', Bool.and_eq_false_iff, Bool.or_eq_false_iff, Bool.not_eq_false', decide_eq_true_eq, decide_eq_false_iff_not, Bool.not_true, Bool.not_false, Bool.not_eq_eq_eq_not, Bool.or_false, Bool.and_true, Bool.or_true, Bool.and_false, Bool.false_or, Bool.true_and, Bool.true_or, Bool.false_and, Bool.false_eq_true, Bool.true_eq_false] at hc21a_
    have hc21b_ := of_decide_eq_true hc21b
    refine r_move_int rfl ?_
    exact ⟨rfl, rfl⟩
   exact ⟨Grow.rfl' _, rfl⟩
  apply AO_ex
  ·intro w_ g_; 
   refine og_if (s := gv (!(noneS (gS L k))) (.bool (decide ((k : Int) > 0)))) (b := true) (v := .int .i64 ((k : Int) - 1)) rfl (wgb_gt _ _) (fun hc22 => ?_) ?_
   ·
    obtain ⟨hc22a, hc22b⟩ := and_t hc22
    have hc22a_ := hc22a
    try simp only [Bool.and_eq_true, Bool.or_eq_true, Bool.not_eq_true', Bool.and_eq_false_iff, Bool.or_eq_false_iff, Bool.not_eq_false', decide_eq_true_eq, decide_eq_false_iff_not, Bool.not_true, Bool.not_false, Bool.not_eq_eq_eq_not, Bool.or_false, Bool.and_true, Bool.or_true, Bool.and_false, Bool.false_or, Bool.true_and, Bool.true_or, Bool.false_and, Bool.false_eq_true, Bool.true_eq_false] at hc22a_
    have hc22b_ := of_decide_eq_true hc22b
    refine r_sub (gvt hc22) rfl ?_ ?_; constructor <;> omega
    exact ⟨rfl, rfl⟩
   exact ⟨Grow.rfl' _, rfl⟩
  apply AO_ex
  ·intro w_ g_; 
   refine og_if (s := gv (!(noneS (gS L k))) (.bool (decide ((k : Int) > 0)))) (b := true) (v := .pointer (some (eadr ad (((k : Int) - 1).toNat * 2)))) rfl (wgb_gt _ _) (fun hc23 => ?_) ?_
   ·
    obtain ⟨hc23a, hc23b⟩ := and_t hc23
    have hc23a_ := hc23a
    try simp only [Bool.and_eq_true, Bool.or_eq_true, Bool.not_eq_true', Bool.and_eq_false_iff, Bool.or_eq_false_iff, Bool.not_eq_false', decide_eq_true_eq, decide_eq_false_iff_not, Bool.not_true, Bool.not_false, Bool.not_eq_eq_eq_not, Bool.or_false, Bool.and_true, Bool.or_true, Bool.and_false, Bool.false_or, Bool.true_and, Bool.true_or, Bool.false_and, Bool.false_eq_true, Bool.true_eq_false] at hc23a_
    have hc23b_ := of_decide_eq_true hc23b
    refine r_indexR (R.grow (G.tr g_)) (gvt hc23) (gvt hc23) ?_ ?_ ?_; omega; omega
    exact ⟨rfl, rfl⟩
   exact ⟨Grow.rfl' _, rfl⟩
  apply AO_ex
  ·intro w_ g_; 
   refine og_if (s := gv (!(noneS (gS L k))) (.bool (decide ((k : Int) > 0)))) (b := true) (v := .pointer (some (eadr ad (((k : Int) - 1).toNat * 2 + 1)))) rfl (wgb_gt _ _) (fun hc24 => ?_) ?_
   ·
    obtain ⟨hc24a, hc24b⟩ := and_t hc24
    have hc24a_ := hc24a
    try simp only [Bool.and_eq_true, Bool.or_eq_true, Bool.not_eq_true', Bool.and_eq_false_iff, Bool.or_eq_false_iff, Bool.not_eq_false', decide_eq_true_eq, decide_eq_false_iff_not, Bool.not_true, Bool.not_false, Bool.not_eq_eq_eq_not, Bool.or_false, Bool.and_true, Bool.or_true, Bool.and_false, Bool.false_or, Bool.true_and, Bool.true_or, Bool.false_and, Bool.false_eq_true, Bool.true_eq_false] at hc24a_
    have hc24b_ := of_decide_eq_true hc24b
    refine r_fieldE (gvt hc24) ?_
    exact ⟨rfl, rfl⟩
   exact ⟨Grow.rfl' _, rfl⟩
  apply AO_ex
  ·intro w_ g_; 
   refine og_if (s := gv (!(noneS (gS L k))) (.bool (decide ((k : Int) > 0)))) (b := true) (v := .int .i64 ((gS L (k - 1)).2)) rfl (wgb_gt _ _) (fun hc25 => ?_) ?_
   ·
    obtain ⟨hc25a, hc25b⟩ := and_t hc25
    have hc25a_ := hc25a
    try simp only [Bool.and_eq_true, Bool.or_eq_true, Bool.not_eq_true', Bool.and_eq_false_iff, Bool.or_eq_false_iff, Bool.not_eq_false', decide_eq_true_eq, decide_eq_false_iff_not, Bool.not_true, Bool.not_false, Bool.not_eq_eq_eq_not, Bool.or_false, Bool.and_true, Bool.or_true, Bool.and_false, Bool.false_or, Bool.true_and, Bool.true_or, Bool.false_and, Bool.false_eq_true, Bool.true_eq_false] at hc25a_
    have hc25b_ := of_decide_eq_true hc25b
    refine r_loadR (v := .int .i64 ((gS L (k - 1)).2)) (m := 0) (R.grow (G.tr g_)) (gvt hc25) (by rw [show ((k : Int) - 1).toNat = k - 1 from by omega]; exact row_gS1 R (by omega)) ?_
    exact ⟨rfl, rfl⟩
   exact ⟨Grow.rfl' _, rfl⟩
  apply AO_ex
  ·intro w_ g_; 
   refine og_if (s := gv (!(noneS (gS L k))) (.bool (decide ((k : Int) > 0)))) (b := true) (v := .bool (decide (((gS L k).1) ≤ ((gS L (k - 1)).2)))) rfl (wgb_gt _ _) (fun hc26 => ?_) ?_
   ·
    obtain ⟨hc26a, hc26b⟩ := and_t hc26
    have hc26a_ := hc26a
    try simp only [Bool.and_eq_true, Bool.or_eq_true, Bool.not_eq_true', Bool.and_eq_false_iff, Bool.or_eq_false_iff, Bool.not_eq_false', decide_eq_true_eq, decide_eq_false_iff_not, Bool.not_true, Bool.not_false, Bool.not_eq_eq_eq_not, Bool.or_false, Bool.and_true, Bool.or_true, Bool.and_false, Bool.false_or, Bool.true_and, Bool.true_or, Bool.false_and, Bool.false_eq_true, Bool.true_eq_false] at hc26a_
    have hc26b_ := of_decide_eq_true hc26b
    refine r_leq (gvt hc26) (gvt hc26) ?_
    exact ⟨rfl, rfl⟩
   exact ⟨Grow.rfl' _, rfl⟩
  apply AO_ex
  ·intro w_ g_; 
   refine og_if (s := .bool (noneS (gS L k))) (b := false) (v := .bool ((decide ((k : Int) > 0)) && (decide (((gS L k).1) ≤ ((gS L (k - 1)).2))))) rfl (wgb_f _) (fun hc27 => ?_) ?_
   ·
    have hc27_ := hc27
    try simp only [Bool.and_eq_true, Bool.or_eq_true, Bool.not_eq_true', Bool.and_eq_false_iff, Bool.or_eq_false_iff, Bool.not_eq_false', decide_eq_true_eq, decide_eq_false_iff_not, Bool.not_true, Bool.not_false, Bool.not_eq_eq_eq_not, Bool.or_false, Bool.and_true, Bool.or_true, Bool.and_false, Bool.false_or, Bool.true_and, Bool.true_or, Bool.false_and, Bool.false_eq_true, Bool.true_eq_false] at hc27_
    refine r_and3 hc27 (gvt hc27) rfl rfl ?_
    exact ⟨rfl, rfl⟩
   exact ⟨Grow.rfl' _, rfl⟩
  apply AO_ex
  ·intro w_ g_; refine og rfl ?_; refine r_or2 rfl rfl rfl ?_; exact ⟨Grow.rfl' _, rfl⟩
  refine AO_nil ?_
  intro w28 g29
  replace hc9 := g29.heap hc9
  replace G := G.tr g29
  clear g29
  refine WL_nil ?_
  refine W_cond2 (b := ((noneS (gS L k)) || ((decide ((k : Int) > 0)) && (decide (((gS L k).1) ≤ ((gS L (k - 1)).2)))))) rfl (fun hx => ?_) (fun hx => ?_)
  ·-- true
   simp only [Bool.and_eq_true, Bool.or_eq_true, Bool.not_eq_true', Bool.and_eq_false_iff, Bool.or_eq_false_iff, Bool.not_eq_false', decide_eq_true_eq, decide_eq_false_iff_not, Bool.not_true, Bool.not_false, Bool.not_eq_eq_eq_not, Bool.or_false, Bool.and_true, Bool.or_true, Bool.and_false, Bool.false_or, Bool.true_and, Bool.true_or, Bool.false_and, Bool.false_eq_true, Bool.true_eq_false] at hx
   have hbd : badS L k = true := by unfold badS; simpa using hx
   refine W_seq (W_region rfl ?_)
   refine stp (r_assign (v := .bool false) rfl ?_)
   refine WL_nil ?_
   refine W_ret ?_
   refine ret1 (res_tmp (v := .bool false) rfl) ⟨?_, G⟩
   rw [right_bad (by omega) hbd]
  ·-- false
   simp only [Bool.and_eq_true, Bool.or_eq_true, Bool.not_eq_true', Bool.and_eq_false_iff, Bool.or_eq_false_iff, Bool.not_eq_false', decide_eq_true_eq, decide_eq_false_iff_not, Bool.not_true, Bool.not_false, Bool.not_eq_eq_eq_not, Bool.or_false, Bool.and_true, Bool.or_true, Bool.and_false, Bool.false_or, Bool.true_and, Bool.true_or, Bool.false_and, Bool.false_eq_true, Bool.true_eq_false] at hx
   have hbd : badS L k = false := by unfold badS; cases hns : noneS (gS L k) <;> simp_all <;> omega
   refine W_skip ?_
   refine W_region rfl ?_
   refine stp (r_add rfl rfl ?_ ?_); constructor <;> omega
   refine stp (r_move_int rfl ?_)
   refine WL_nil ?_
   refine ⟨_, ?_, k + 1, rfl, fr_of ⟨rfl, rfl, rfl, rfl, trivial⟩, by omega, fun j hj => by rcases Nat.lt_succ_iff_lt_or_eq.1 hj with h | h; exact hno j h; subst h; exact hbd, G⟩
   omega
 ·-- false
  replace hlt := of_decide_eq_false hlt
  refine W_exit ?_
  refine W_seq (W_region rfl ?_)
  refine stp (r_assign (v := .bool true) rfl ?_)
  refine WL_nil ?_
  refine W_ret ?_
  refine ret1 (res_tmp (v := .bool true) rfl) ⟨?_, G⟩
  rw [right_of_bad (fun i hi => hno i (by omega))]

set_option maxRecDepth 100000 in
theorem long_calls (w : World) {ad : Option Addr} {c n : Nat} {L : List Spn} (hc : n ≤ c) (hc2 : c ≤ maxLen) (R : RowAt w 2 ad n (encL L)) (hb : n ≤ 274877906944) (hr : ∀ s ∈ L, -9223372036854775808 ≤ s.1 ∧ s.2 ≤ 9223372036854775807) : Gives Try.prog 13 #[.slice ad n c] w (.int .i64 (longS (nrm L))) := by
 have G := Grow.rfl' w
 refine gives_of Try.func13 Try.ntmps13 Try.results13 rfl rfl ?_
 have hLn := row_lenS R
 have hnl := nrm_len L
 have hrt := (nrm_of L).right
 have hends := (nrm_of L).ends hr
 have hM : (9007199254740992 : Int) = big := rfl
 refine W_seq (W_region rfl ?_)
 refine stp (r_assign_int rfl ?_)
 refine WL_nil ?_
 refine W_seq (W_region rfl ?_)
 refine stp (r_assign_int rfl ?_)
 refine WL_nil ?_
 refine W_seq ?_
 refine W_seq (W_region rfl ?_)
 refine stp (r_move_slice rfl ?_)
 refine WL_some (og rfl ?_)
 refine r_call rfl (norm_calls _ hc hc2 (R.grow G) (by omega)) ?_
 rintro v1 w1 ⟨own1, g1⟩
 replace G := G.tr g1
 obtain ⟨ad2, n1, c1, rfl⟩ := own_slice own1
 have hn1 := own_lenS own1
 subst hn1
 refine stp (r_len rfl rfl rfl ?_)
 refine stp (r_move_int rfl ?_)
 refine WL_nil ?_
 refine W_block ?_
 obtain ⟨ad9, c9, he9, -, -, RN0⟩ := own_row own1 (by omega)
 simp only [Value.slice.injEq, true_and] at he9
 obtain ⟨rfl, rfl⟩ := he9
 refine W_loop (fun m_ e_ w_ => ∃ (k : Nat), m_ = (nrm L).length - k ∧ Fr [(2, .int .i64 0), (7, .slice ad2 ((nrm L).length) c1), (8, .int .i64 ((nrm L).length : Int)), (9, .int .i64 (k : Int)), (3, .int .u64 (longS ((nrm L).take k)))] e_ ∧ (k ≤ (nrm L).length) ∧ (RowAt w_ 2 ad2 (nrm L).length (encL (nrm L))) ∧ Grow w w_) _ ⟨0, rfl, fr_of ⟨rfl, rfl, rfl, rfl, rfl, trivial⟩, by omega, RN0, G⟩ ?_
 clear RN0
 clear G
 rintro m_ e_ w3 ⟨k, rfl, ⟨e4, rfl⟩, hk, RN0, G⟩
 refine W_seq (W_region rfl ?_)
 refine stp (r_lss rfl rfl ?_)
 refine WL_nil ?_
 refine W_seq ?_
 refine W_cond2 (b := (decide ((k : Int) < ((nrm L).length : Int)))) rfl (fun hlt => ?_) (fun hlt => ?_)
 ·-- true
  replace hlt := of_decide_eq_true hlt
  have hkN : k < (nrm L).length := by omega
  have hmem : gS (nrm L) k ∈ nrm L := by rw [gS_get hkN]; exact List.getElem_mem hkN
  have he := hends _ hmem
  have hlt9 := hrt.mem _ hmem
  have hst := long_step hrt hkN
  have hx0 := longS_rng ((nrm L).take k) (RightS.take k hrt)
  refine W_skip ?_
  refine W_seq ?_
  refine W_block ?_
  refine W_seq (W_region rfl ?_)
  refine stp (r_indexN RN0 rfl rfl ?_ ?_); omega
  refine stp (r_loadNR RN0 rfl (by decide) (by rw [RN0.len]; omega) (row_gS RN0 (by omega)) ?_)
  refine stp (r_alloc ?_)
  intro b5 w6 hb7 hc8 g9
  refine stn (r_storeAll rfl rfl hc8 (by rfl) (by rfl) (by rfl) ?_)
  intro w10 hc11 u12
  have g13 := g9.upd u12 hb7
  have hge14 := Nat.le_trans G.size hb7
  replace RN0 := RN0.grow g13
  replace G := G.tr g13
  clear u12 g9 hb7 hc8
  refine WL_nil ?_
  refine W_seq (W_region rfl ?_)
  refine stp (r_move_int rfl ?_)
  refine stp (r_fieldAddr rfl ?_)
  refine stp (r_load (v := .int .i64 ((gS (nrm L) k).2)) rfl hc11 rfl ?_)
  refine stp (r_convw rfl ?_)
  refine stp (r_fieldAddr rfl ?_)
  refine stp (r_load (v := .int .i64 ((gS (nrm L) k).1)) rfl hc11 rfl ?_)
  refine stp (r_convw rfl ?_)
  refine WL_some (og rfl ?_)
  refine r_subw rfl rfl ?_
  rw [wrap_sub (by omega) (by omega)]
  refine stp (r_min rfl rfl rfl ?_)
  refine stp (r_add rfl rfl ?_ ?_); constructor <;> (try split) <;> omega
  refine stp (r_assign_int rfl ?_)
  refine WL_nil ?_
  refine W_region rfl ?_
  refine stp (r_move_int rfl ?_)
  refine WL_some (og rfl ?_)
  refine r_min rfl rfl rfl ?_
  rw [show (if (9007199254740992 : Int) < longS ((nrm L).take k) + (if 9007199254740992 < ((gS (nrm L) k).2 - (gS (nrm L) k).1) then 9007199254740992 else ((gS (nrm L) k).2 - (gS (nrm L) k).1)) then 9007199254740992 else longS ((nrm L).take k) + (if 9007199254740992 < ((gS (nrm L) k).2 - (gS (nrm L) k).1) then 9007199254740992 else ((gS (nrm L) k).2 - (gS (nrm L) k).1))) = longS ((nrm L).take (k + 1)) from by rw [hst]; unfold big; (repeat' split) <;> omega]
  refine stp (r_assign_int rfl ?_)
  refine WL_nil ?_
  refine W_region rfl ?_
  refine stp (r_add rfl rfl ?_ ?_); constructor <;> omega
  refine stp (r_move_int rfl ?_)
  refine WL_nil ?_
  refine ⟨_, ?_, k + 1, rfl, fr_of ⟨rfl, rfl, rfl, rfl, rfl, trivial⟩, by omega, RN0, G⟩
  omega
 ·-- false
  replace hlt := of_decide_eq_false hlt
  have hk9 : k = (nrm L).length := by omega
  have hx0 := longS_rng (nrm L) hrt
  have hx1 := longS_rng ((nrm L).take k) (RightS.take k hrt)
  refine W_exit ?_
  refine W_seq (W_region rfl ?_)
  refine stp (r_move_int rfl ?_)
  refine stp (r_conv rfl ?_ ?_); constructor <;> omega
  refine stp (r_assign_int rfl ?_)
  refine WL_nil ?_
  refine W_ret ?_
  refine ret1 (res_tmp (v := .int .i64 (longS ((nrm L).take k))) rfl) ⟨?_, G⟩
  rw [hk9, List.take_length]
end Go.Proofs.Ytldlfhodboigeaa.K
