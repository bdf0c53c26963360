/- the statements of chapter 04 (printed by lw04.py). -/
import Derived.Test.YtldlfhodboigeaaLA
set_option linter.unusedVariables false
set_option linter.unusedSimpArgs false
namespace Go.Proofs.Ytldlfhodboigeaa.K
open Go Go.RowKit Go.Proofs
attribute [local irreducible] Run1 OpG WL W AO Gives
set_option maxRecDepth 100000 in
theorem norms_calls (w : World) {ad : Option Addr} {c n : Nat} {L : List Spn} (s1 s2 : Int) (hc : n ≤ c) (hc2 : c ≤ maxLen) (R : RowAt w 2 ad n (encL L)) (hb : n ≤ 274877906000) (hr : ∀ s ∈ L, -9223372036854775808 ≤ s.1 ∧ s.2 ≤ 9223372036854775807) : Gives Try.prog 18 #[.slice ad n c, .agg #[.int .i64 s1, .int .i64 s2]] w (.bool true) := by
 have G := Grow.rfl' w
 refine gives_of Try.func18 Try.ntmps18 Try.results18 rfl rfl ?_
 have hLn := row_lenS R
 have hnl := nrm_len L
 have hhl := hls_len L (s1, s2)
 refine W_seq (W_region rfl ?_)
 refine WL_some (og rfl ?_)
 (first | refine r_box_agg rfl ?_ | refine r_box_int rfl ?_ | refine r_box_slice rfl ?_ | refine r_box rfl rfl ?_)
 intro b1 w2 hb3 hc4 g5
 have hge6 := Nat.le_trans G.size hb3
 replace G := G.tr g5
 clear g5 hb3
 refine stp (r_assign (v := .bool false) rfl ?_)
 refine WL_nil ?_
 refine W_seq ?_
 refine W_any 21 [[], [0], [], [2, 1, 0], [3, 2, 1, 0], [4, 3, 2, 1, 0], [5, 4, 3, 2, 1, 0], [6, 5, 4, 3, 2, 1, 0], [7, 6, 5, 4, 3, 2], [8, 7, 6, 5, 4, 3, 2, 1, 0], [9, 8, 7, 6, 5, 4, 3, 2, 1, 0], [10, 9, 8, 7, 6, 5, 4, 3, 2, 1, 0], [11, 10, 9, 8, 7, 6, 5, 4, 3, 2, 1, 0], [12, 11, 10, 9, 8, 7, 6, 5, 4, 3, 2, 1, 0], [13, 12, 11, 10, 9, 8, 7, 6, 5, 4, 3, 2, 1], [14, 13, 12, 11, 10, 9, 8, 7, 6, 5, 4, 3, 2, 1, 0], [15, 14, 13, 12, 11, 10, 9, 8, 7, 6, 5, 4, 3], [16, 15, 14, 13, 12, 11, 10, 9, 8, 7, 6, 5, 4], [17, 16, 15, 14, 13, 12, 11, 10, 9, 8, 7, 6, 5, 4, 3, 2, 1, 0], [18, 17, 16, 15, 14, 13, 12, 11, 10, 9, 8, 7, 6, 5, 4, 3, 2, 1, 0], [19, 18, 17, 16, 15, 14, 13, 12, 11, 10, 9, 8, 7, 6, 5, 4, 3, 2, 1, 0]] mixed (by kernel_rfl) (by kernel_rfl) (by kernel_rfl) ?_
 intro w7 g8
 replace hc4 := g8.heap hc4
 replace G := G.tr g8
 clear g8
 apply AO_ex
 ·intro w_ g_; refine og rfl ?_; refine r_move_slice rfl ?_; exact ⟨Grow.rfl' _, rfl⟩
 refine AO_so (fun w_ v_ => Row w_ 2 v_ (nrm L).length (encL (nrm L))) (fun _ _ _ g_ h_ => h_.grow g_) ?_ ?_
 ·intro w_ g_
  refine og rfl ?_
  refine r_call rfl (norm_calls w_ hc hc2 (R.grow (G.tr g_)) (by omega)) ?_
  rintro v9_ w9_ ⟨own9_, g9_⟩
  exact ⟨g9_, own_row own9_ (by omega)⟩
 apply AO_ex
 ·intro w_ g_; refine og rfl ?_; refine r_move_slice rfl ?_; exact ⟨Grow.rfl' _, rfl⟩
 refine AO_so (fun w_ v_ => Row w_ 2 v_ (nrm L).length (encL (nrm L))) (fun _ _ _ g_ h_ => h_.grow g_) ?_ ?_
 ·intro w_ g_
  intro v1_ hv1_; show OpG _ _ _ _ _ _
  refine og rfl ?_
  refine r_call rfl (rnorm_calls w_ hc hc2 (R.grow (G.tr g_)) (by omega)) ?_
  rintro v9_ w9_ ⟨row9_, g9_⟩
  exact ⟨g9_, row9_⟩
 apply AO_ex
 ·intro w_ g_; intro v1_ hv1_; intro v3_ hv3_; show OpG _ _ _ _ _ _; refine og rfl ?_; obtain ⟨ax_, cx_, rfl, -, -, Rx_⟩ := hv1_; obtain ⟨ay_, cy_, rfl, -, -, Ry_⟩ := hv3_; exact r_gives (v := .bool true) rfl (by have h_ := same_calls w_ Rx_ Ry_ (c := cx_) (d := cy_); rw [decide_eq_true rfl] at h_; exact h_) (fun w2_ g2_ => ⟨g2_, rfl⟩)
 apply AO_ex
 ·intro w_ g_; intro v1_ hv1_; intro v3_ hv3_; show OpG _ _ _ _ _ _; refine og rfl ?_; refine r_move (v := .bool true) rfl ?_; exact ⟨Grow.rfl' _, rfl⟩
 apply AO_ex
 ·intro w_ g_; intro v1_ hv1_; intro v3_ hv3_; show OpG _ _ _ _ _ _; refine og rfl ?_; refine r_move_slice rfl ?_; exact ⟨Grow.rfl' _, rfl⟩
 apply AO_ex
 ·intro w_ g_; intro v1_ hv1_; intro v3_ hv3_; show OpG _ _ _ _ _ _; refine og rfl ?_; exact r_gives (v := .bool (rightB L)) rfl (right_calls w_ hc hc2 (R.grow (G.tr g_)) (by omega)) (fun w2_ g2_ => ⟨g2_, rfl⟩)
 apply AO_ex
 ·intro w_ g_; intro v1_ hv1_; intro v3_ hv3_; show OpG _ _ _ _ _ _; refine og rfl ?_; refine r_move_slice rfl ?_; exact ⟨Grow.rfl' _, rfl⟩
 apply AO_ex
 ·intro w_ g_; intro v1_ hv1_; intro v3_ hv3_; show OpG _ _ _ _ _ _; refine og rfl ?_; exact r_gives (v := .bool (rightB L)) rfl (rright_calls w_ hc hc2 (R.grow (G.tr g_)) (by omega)) (fun w2_ g2_ => ⟨g2_, rfl⟩)
 apply AO_ex
 ·intro w_ g_; intro v1_ hv1_; intro v3_ hv3_; show OpG _ _ _ _ _ _; refine og rfl ?_; refine r_beq' (r := true) rfl rfl (beq_self_eq_true _) ?_; exact ⟨Grow.rfl' _, rfl⟩
 apply AO_ex
 ·intro w_ g_; intro v1_ hv1_; intro v3_ hv3_; show OpG _ _ _ _ _ _; refine og rfl ?_; refine r_pick_t (v := .bool true) rfl rfl rfl ?_; exact ⟨Grow.rfl' _, rfl⟩
 apply AO_ex
 ·intro w_ g_; intro v1_ hv1_; intro v3_ hv3_; show OpG _ _ _ _ _ _; refine og rfl ?_; refine r_move (v := .bool true) rfl ?_; exact ⟨Grow.rfl' _, rfl⟩
 apply AO_ex
 ·intro w_ g_; intro v1_ hv1_; intro v3_ hv3_; show OpG _ _ _ _ _ _; refine og rfl ?_; refine r_move_slice rfl ?_; exact ⟨Grow.rfl' _, rfl⟩
 apply AO_ex
 ·intro w_ g_; intro v1_ hv1_; intro v3_ hv3_; show OpG _ _ _ _ _ _; refine og rfl ?_; refine r_loadAll rfl (g_.heap hc4) (by rfl) ?_; exact ⟨Grow.rfl' _, rfl⟩
 apply AO_ex
 ·intro w_ g_; intro v1_ hv1_; intro v3_ hv3_; show OpG _ _ _ _ _ _; refine og rfl ?_; exact r_gives (v := .bool (hasB L (s1, s2))) rfl (has_calls w_ s1 s2 hc hc2 (R.grow (G.tr g_)) (by omega)) (fun w2_ g2_ => ⟨g2_, rfl⟩)
 apply AO_ex
 ·intro w_ g_; intro v1_ hv1_; intro v3_ hv3_; show OpG _ _ _ _ _ _; refine og rfl ?_; refine r_move_slice rfl ?_; exact ⟨Grow.rfl' _, rfl⟩
 apply AO_ex
 ·intro w_ g_; intro v1_ hv1_; intro v3_ hv3_; show OpG _ _ _ _ _ _; refine og rfl ?_; refine r_loadAll rfl (g_.heap hc4) (by rfl) ?_; exact ⟨Grow.rfl' _, rfl⟩
 apply AO_ex
 ·intro w_ g_; intro v1_ hv1_; intro v3_ hv3_; show OpG _ _ _ _ _ _; refine og rfl ?_; exact r_gives (v := .bool (hasB L (s1, s2))) rfl (rhas_calls w_ s1 s2 hc hc2 (R.grow (G.tr g_)) (by omega)) (fun w2_ g2_ => ⟨g2_, rfl⟩)
 apply AO_ex
 ·intro w_ g_; intro v1_ hv1_; intro v3_ hv3_; show OpG _ _ _ _ _ _; refine og rfl ?_; refine r_beq' (r := true) rfl rfl (beq_self_eq_true _) ?_; exact ⟨Grow.rfl' _, rfl⟩
 apply AO_ex
 ·intro w_ g_; intro v1_ hv1_; intro v3_ hv3_; show OpG _ _ _ _ _ _; refine og rfl ?_; refine r_pick_t (v := .bool true) rfl rfl rfl ?_; exact ⟨Grow.rfl' _, rfl⟩
 refine AO_nil ?_
 intro w9 g10
 replace hc4 := g10.heap hc4
 replace G := G.tr g10
 clear g10
 intro v_1 hv_1
 intro v_3 hv_3
 refine stp (r_assign (v := .bool true) rfl ?_)
 refine WL_nil ?_
 refine W_seq ?_
 refine W_any 17 [[], [0], [1, 0], [2, 1], [3, 2, 1, 0], [4, 3], [5, 4], [6, 5, 4, 3, 2, 1, 0], [7, 6, 5, 4, 3, 2, 1, 0], [8, 7, 6, 5, 4, 3, 2, 1, 0], [9, 8, 7, 6, 5, 4, 3, 2, 1, 0], [10, 9, 8, 7, 6, 5, 4, 3, 2, 1, 0], [11, 10, 9, 8, 7, 6, 5, 4, 3, 2, 1, 0], [12, 11, 10, 9, 8, 7, 6, 5, 4, 3, 2], [13, 12, 11, 10, 9, 8, 7, 6, 5, 4, 3, 2, 1, 0], [14, 13, 12, 11, 10, 9, 8, 7, 6, 5, 4, 3, 2, 1, 0], [15, 14, 13, 12, 11, 10, 9, 8, 7, 6, 5, 4, 3, 2, 1, 0]] mixed (by kernel_rfl) (by kernel_rfl) (by kernel_rfl) ?_
 intro w11 g12
 replace hc4 := g12.heap hc4
 replace G := G.tr g12
 clear g12
 apply AO_ex
 ·intro w_ g_; refine og rfl ?_; refine r_move (v := .bool true) rfl ?_; exact ⟨Grow.rfl' _, rfl⟩
 apply AO_ex
 ·intro w_ g_; refine og rfl ?_; refine r_move (v := .bool true) rfl ?_; exact ⟨Grow.rfl' _, rfl⟩
 apply AO_ex
 ·intro w_ g_; refine og rfl ?_; refine r_move_slice rfl ?_; exact ⟨Grow.rfl' _, rfl⟩
 apply AO_ex
 ·intro w_ g_; refine og rfl ?_; refine r_loadAll rfl (g_.heap hc4) (by rfl) ?_; exact ⟨Grow.rfl' _, rfl⟩
 refine AO_so (fun w_ v_ => Row w_ 2 v_ (hls L (s1, s2)).length (encL (hls L (s1, s2)))) (fun _ _ _ g_ h_ => h_.grow g_) ?_ ?_
 ·intro w_ g_
  refine og rfl ?_
  refine r_call rfl (holes_calls w_ s1 s2 hc hc2 (R.grow (G.tr g_)) (by omega)) ?_
  rintro v9_ w9_ ⟨own9_, g9_⟩
  exact ⟨g9_, own_row own9_ (by omega)⟩
 apply AO_ex
 ·intro w_ g_; refine og rfl ?_; refine r_move_slice rfl ?_; exact ⟨Grow.rfl' _, rfl⟩
 apply AO_ex
 ·intro w_ g_; refine og rfl ?_; refine r_loadAll rfl (g_.heap hc4) (by rfl) ?_; exact ⟨Grow.rfl' _, rfl⟩
 refine AO_so (fun w_ v_ => Row w_ 2 v_ (hls L (s1, s2)).length (encL (hls L (s1, s2)))) (fun _ _ _ g_ h_ => h_.grow g_) ?_ ?_
 ·intro w_ g_
  intro v4_ hv4_; show OpG _ _ _ _ _ _
  refine og rfl ?_
  refine r_call rfl (rholes_calls w_ s1 s2 hc hc2 (R.grow (G.tr g_)) (by omega)) ?_
  rintro v9_ w9_ ⟨own9_, g9_⟩
  exact ⟨g9_, own_row own9_ (by omega)⟩
 apply AO_ex
 ·intro w_ g_; intro v4_ hv4_; intro v7_ hv7_; show OpG _ _ _ _ _ _; refine og rfl ?_; obtain ⟨ax_, cx_, rfl, -, -, Rx_⟩ := hv4_; obtain ⟨ay_, cy_, rfl, -, -, Ry_⟩ := hv7_; exact r_gives (v := .bool true) rfl (by have h_ := same_calls w_ Rx_ Ry_ (c := cx_) (d := cy_); rw [decide_eq_true rfl] at h_; exact h_) (fun w2_ g2_ => ⟨g2_, rfl⟩)
 apply AO_ex
 ·intro w_ g_; intro v4_ hv4_; intro v7_ hv7_; show OpG _ _ _ _ _ _; refine og rfl ?_; refine r_pick_t (v := .bool true) rfl rfl rfl ?_; exact ⟨Grow.rfl' _, rfl⟩
 apply AO_ex
 ·intro w_ g_; intro v4_ hv4_; intro v7_ hv7_; show OpG _ _ _ _ _ _; refine og rfl ?_; refine r_move (v := .bool true) rfl ?_; exact ⟨Grow.rfl' _, rfl⟩
 apply AO_ex
 ·intro w_ g_; intro v4_ hv4_; intro v7_ hv7_; show OpG _ _ _ _ _ _; refine og rfl ?_; refine r_move_slice rfl ?_; exact ⟨Grow.rfl' _, rfl⟩
 apply AO_ex
 ·intro w_ g_; intro v4_ hv4_; intro v7_ hv7_; show OpG _ _ _ _ _ _; refine og rfl ?_; exact r_gives (v := .int .i64 (longS (nrm L))) rfl (long_calls w_ hc hc2 (R.grow (G.tr g_)) (by omega) hr) (fun w2_ g2_ => ⟨g2_, rfl⟩)
 apply AO_ex
 ·intro w_ g_; intro v4_ hv4_; intro v7_ hv7_; show OpG _ _ _ _ _ _; refine og rfl ?_; refine r_move_slice rfl ?_; exact ⟨Grow.rfl' _, rfl⟩
 apply AO_ex
 ·intro w_ g_; intro v4_ hv4_; intro v7_ hv7_; show OpG _ _ _ _ _ _; refine og rfl ?_; exact r_gives (v := .int .i64 (longS (nrm L))) rfl (rlong_calls w_ hc hc2 (R.grow (G.tr g_)) (by omega) hr) (fun w2_ g2_ => ⟨g2_, rfl⟩)
 apply AO_ex
 ·intro w_ g_; intro v4_ hv4_; intro v7_ hv7_; show OpG _ _ _ _ _ _; refine og rfl ?_; refine r_eql_t rfl rfl (rfl) ?_; exact ⟨Grow.rfl' _, rfl⟩
 apply AO_ex
 ·intro w_ g_; intro v4_ hv4_; intro v7_ hv7_; show OpG _ _ _ _ _ _; refine og rfl ?_; refine r_pick_t (v := .bool true) rfl rfl rfl ?_; exact ⟨Grow.rfl' _, rfl⟩
 refine AO_nil ?_
 intro w13 g14
 replace hc4 := g14.heap hc4
 replace G := G.tr g14
 clear g14
 intro v_4 hv_4
 intro v_7 hv_7
 refine stp (r_assign (v := .bool true) rfl ?_)
 refine WL_nil ?_
 refine W_ret ?_
 refine ret1 (res_tmp (v := .bool true) rfl) ⟨?_, G⟩
 rfl

set_option maxRecDepth 100000 in
theorem SpanNorms_calls (w : World) {ad : Option Addr} {c n : Nat} {L : List Spn} (hc : n ≤ c) (hc2 : c ≤ maxLen) (R : RowAt w 2 ad n (encL L)) (hr : ∀ s ∈ L, -9223372036854775808 ≤ s.1 ∧ s.2 ≤ 9223372036854775807) (s1 s2 : Int) {ad2 : Option Addr} {c2 n2 : Nat} {xs2 : List Int} (hx2 : ∀ x ∈ xs2, 0 ≤ x ∧ x < 256) (hcc2 : n2 ≤ c2) (hm2 : c2 ≤ maxLen) (R2 : RowAt w 1 ad2 n2 (xs2.map (.int .u8))) {ad3 : Option Addr} {c3 n3 : Nat} {xs3 : List Int} (hx3 : ∀ x ∈ xs3, 0 ≤ x ∧ x < 256) (hcc3 : n3 ≤ c3) (hm3 : c3 ≤ maxLen) (R3 : RowAt w 1 ad3 n3 (xs3.map (.int .u8))) {a4 : Int} (p4 : 0 ≤ a4) (q4 : a4 ≤ 255) : Gives Try.prog 8 #[.slice ad n c, .agg #[.int .i64 s1, .int .i64 s2], .slice ad2 n2 c2, .slice ad3 n3 c3, .int .u8 a4] w (.bool true) := by
 have G := Grow.rfl' w
 refine gives_of Try.func8 Try.ntmps8 Try.results8 rfl rfl ?_
 have hLn := row_lenS R
 have hnl := nrm_len L
 have lm := R.lim
 have lm3 := R3.lim
 have ln3 := R3.len
 simp only [List.length_map, Nat.mul_one] at ln3
 have hlA := rowS_len xs2
 have hrA := rowS_rng xs2
 have hol := ofS_len xs3
 refine W_seq (W_region rfl ?_)
 refine WL_some (og rfl ?_)
 (first | refine r_box_agg rfl ?_ | refine r_box_int rfl ?_ | refine r_box_slice rfl ?_ | refine r_box rfl rfl ?_)
 intro b1 w2 hb3 hc4 g5
 have hge6 := Nat.le_trans G.size hb3
 replace G := G.tr g5
 clear g5 hb3
 refine stp (r_assign (v := .bool false) rfl ?_)
 refine WL_nil ?_
 refine W_seq ?_
 refine W_seq (W_region rfl ?_)
 refine stp (r_move_slice rfl ?_)
 refine stp (r_len rfl rfl rfl ?_)
 refine stp (r_gtr rfl rfl ?_)
 refine stp (r_move_bool rfl ?_)
 refine WL_some (og_if (s := .bool (decide ((n : Int) > 60))) (b := false) (v := .slice ad3 n3 c3) rfl (wgb_f _) (fun hc7 => ?_) ?_)
 ·
  have hc7_ := hc7
  try simp only [Bool.and_eq_true, Bool.or_eq_true, Bool.not_eq_true', Bool.and_eq_false_iff, Bool.or_eq_false_iff, Bool.not_eq_false', decide_eq_true_eq, decide_eq_false_iff_not, Bool.not_true, Bool.not_false, Bool.not_eq_eq_eq_not, Bool.or_false, Bool.and_true, Bool.or_true, Bool.and_false, Bool.false_or, Bool.true_and, Bool.true_or, Bool.false_and, Bool.false_eq_true, Bool.true_eq_false] at hc7_
  refine r_move_slice rfl ?_
  exact ⟨rfl, rfl⟩
 refine WL_some (og_if (s := .bool (decide ((n : Int) > 60))) (b := false) (v := .int .i64 (n3 : Int)) rfl (wgb_f _) (fun hc8 => ?_) ?_)
 ·
  have hc8_ := hc8
  try simp only [Bool.and_eq_true, Bool.or_eq_true, Bool.not_eq_true', Bool.and_eq_false_iff, Bool.or_eq_false_iff, Bool.not_eq_false', decide_eq_true_eq, decide_eq_false_iff_not, Bool.not_true, Bool.not_false, Bool.not_eq_eq_eq_not, Bool.or_false, Bool.and_true, Bool.or_true, Bool.and_false, Bool.false_or, Bool.true_and, Bool.true_or, Bool.false_and, Bool.false_eq_true, Bool.true_eq_false] at hc8_
  refine r_len rfl rfl (gvt hc8) ?_
  exact ⟨rfl, rfl⟩
 refine WL_some (og_if (s := .bool (decide ((n : Int) > 60))) (b := false) (v := .bool (decide ((n3 : Int) > 60))) rfl (wgb_f _) (fun hc9 => ?_) ?_)
 ·
  have hc9_ := hc9
  try simp only [Bool.and_eq_true, Bool.or_eq_true, Bool.not_eq_true', Bool.and_eq_false_iff, Bool.or_eq_false_iff, Bool.not_eq_false', decide_eq_true_eq, decide_eq_false_iff_not, Bool.not_true, Bool.not_false, Bool.not_eq_eq_eq_not, Bool.or_false, Bool.and_true, Bool.or_true, Bool.and_false, Bool.false_or, Bool.true_and, Bool.true_or, Bool.false_and, Bool.false_eq_true, Bool.true_eq_false] at hc9_
  refine r_gtr (gvt hc9) rfl ?_
  exact ⟨rfl, rfl⟩
 refine stp (r_or2 rfl rfl rfl ?_)
 refine stp (r_move_bool rfl ?_)
 refine WL_some (og_ifg (s := .bool ((decide ((n : Int) > 60)) || (decide ((n3 : Int) > 60)))) (b := false) (v := .bool true) rfl (wgb_f _) (fun hc10 => ?_) ?_)
 ·
  have hc10_ := hc10
  try simp only [Bool.and_eq_true, Bool.or_eq_true, Bool.not_eq_true', Bool.and_eq_false_iff, Bool.or_eq_false_iff, Bool.not_eq_false', decide_eq_true_eq, decide_eq_false_iff_not, Bool.not_true, Bool.not_false, Bool.not_eq_eq_eq_not, Bool.or_false, Bool.and_true, Bool.or_true, Bool.and_false, Bool.false_or, Bool.true_and, Bool.true_or, Bool.false_and, Bool.false_eq_true, Bool.true_eq_false] at hc10_
  exact r_gives rfl (known_calls _) (fun w2_ g2_ => ⟨rfl, g2_⟩)
 intro w11 g12
 replace hc4 := g12.heap hc4
 replace G := G.tr g12
 clear g12
 refine WL_some (og_if (s := .bool ((decide ((n : Int) > 60)) || (decide ((n3 : Int) > 60)))) (b := false) (v := .bool false) rfl (wgb_f _) (fun hc13 => ?_) ?_)
 ·
  have hc13_ := hc13
  try simp only [Bool.and_eq_true, Bool.or_eq_true, Bool.not_eq_true', Bool.and_eq_false_iff, Bool.or_eq_false_iff, Bool.not_eq_false', decide_eq_true_eq, decide_eq_false_iff_not, Bool.not_true, Bool.not_false, Bool.not_eq_eq_eq_not, Bool.or_false, Bool.and_true, Bool.or_true, Bool.and_false, Bool.false_or, Bool.true_and, Bool.true_or, Bool.false_and, Bool.false_eq_true, Bool.true_eq_false] at hc13_
  refine r_not_f (gvt hc13) rfl ?_
  exact ⟨rfl, rfl⟩
 refine stp (r_or2 rfl rfl rfl ?_)
 refine WL_nil ?_
 refine W_cond2 (b := (((decide ((n : Int) > 60)) || (decide ((n3 : Int) > 60))) || false)) rfl (fun hb0 => ?_) (fun hb0 => ?_)
 ·-- true
  simp only [Bool.and_eq_true, Bool.or_eq_true, Bool.not_eq_true', Bool.and_eq_false_iff, Bool.or_eq_false_iff, Bool.not_eq_false', decide_eq_true_eq, decide_eq_false_iff_not, Bool.not_true, Bool.not_false, Bool.not_eq_eq_eq_not, Bool.or_false, Bool.and_true, Bool.or_true, Bool.and_false, Bool.false_or, Bool.true_and, Bool.true_or, Bool.false_and, Bool.false_eq_true, Bool.true_eq_false] at hb0
  refine W_seq (W_region rfl ?_)
  refine stp (r_gives (v := .bool true) rfl (known_calls _) ?_)
  intro w14 g15
  replace hc4 := g15.heap hc4
  replace G := G.tr g15
  clear g15
  refine stp (r_assign (v := .bool true) rfl ?_)
  refine WL_nil ?_
  refine W_ret ?_
  refine ret1 (res_tmp (v := .bool true) rfl) ⟨?_, G⟩
  rfl
 ·-- false
  simp only [Bool.and_eq_true, Bool.or_eq_true, Bool.not_eq_true', Bool.and_eq_false_iff, Bool.or_eq_false_iff, Bool.not_eq_false', decide_eq_true_eq, decide_eq_false_iff_not, Bool.not_true, Bool.not_false, Bool.not_eq_eq_eq_not, Bool.or_false, Bool.and_true, Bool.or_true, Bool.and_false, Bool.false_or, Bool.true_and, Bool.true_or, Bool.false_and, Bool.false_eq_true, Bool.true_eq_false] at hb0
  refine W_skip ?_
  refine W_seq ?_
  refine W_any 28 [[], [], [1, 0], [2, 1, 0], [3, 2, 1, 0], [4, 3, 2, 1, 0], [5, 4, 3, 2], [6, 5, 4, 3, 0], [7, 6, 5, 4, 1, 0], [8, 7, 6, 5], [9, 8, 7, 6, 0], [10, 9, 8, 7, 1, 0], [11, 10, 9, 8, 5, 4, 3, 2, 1, 0], [12, 11, 10, 9, 8, 7, 6, 5, 4, 3, 2, 1, 0], [13, 12, 11, 10, 9, 8, 7, 6, 5, 4, 3, 2, 1, 0], [14, 13, 12, 11, 10, 9, 8, 7, 6, 5, 4, 3, 2, 1, 0], [15, 14, 13, 12, 11, 10, 9, 8, 7, 6, 5, 4, 3, 2, 1, 0], [16, 15, 14, 13, 12, 11, 10, 9, 8, 7, 6, 5, 4, 3, 2, 1, 0], [17, 16, 15, 14, 13, 12, 11, 10, 9, 8, 7, 6, 5, 4, 3, 2], [18, 17, 16, 15, 14, 13, 12, 11, 10, 9, 8, 7, 6, 5, 4, 3, 2, 1, 0], [19, 18, 17, 16, 15, 14, 13, 12, 11, 10, 9, 8, 7, 6, 5, 4, 3, 2, 1, 0], [20, 19, 18, 17, 16, 15, 14, 13, 12, 11, 10, 9, 8, 7, 6, 5, 4, 3, 2, 1, 0], [21, 20, 19, 18, 17, 16, 15, 14, 13, 12, 11, 10, 9, 8, 7, 6, 5, 4, 3, 2, 1, 0], [22, 21, 20, 19, 18, 17, 16, 15, 14, 13, 12, 11, 10, 9, 8, 7, 6, 5, 4, 3, 2, 1, 0], [23, 22, 21, 20, 19, 18, 17, 16, 15, 14, 13, 12, 11, 10, 9, 8, 7, 6, 5, 4, 3, 2], [24, 23, 22, 21, 20, 19, 18, 17, 16, 15, 14, 13, 12, 11, 10, 9, 8, 7, 6, 5, 4, 3, 2, 1, 0], [25, 24, 23, 22, 21, 20, 19, 18, 17, 16, 15, 14, 13, 12, 11, 10, 9, 8, 7, 6, 5, 4, 3, 2, 1, 0], [26, 25, 24, 23, 22, 21, 20, 19, 18, 17, 16, 15, 14, 13, 12, 11, 10, 9, 8, 7, 6, 5, 4, 3, 2, 1, 0]] mixed (by kernel_rfl) (by kernel_rfl) (by kernel_rfl) ?_
  intro w16 g17
  replace hc4 := g17.heap hc4
  replace G := G.tr g17
  clear g17
  apply AO_ex
  ·intro w_ g_; refine og rfl ?_; refine r_move_slice rfl ?_; exact ⟨Grow.rfl' _, rfl⟩
  apply AO_ex
  ·intro w_ g_; refine og rfl ?_; refine r_loadAll rfl (g_.heap hc4) (by rfl) ?_; exact ⟨Grow.rfl' _, rfl⟩
  apply AO_ex
  ·intro w_ g_; refine og rfl ?_; exact r_gives (v := .bool true) rfl (norms_calls w_ s1 s2 hc hc2 (R.grow (G.tr g_)) (by omega) hr) (fun w2_ g2_ => ⟨g2_, rfl⟩)
  apply AO_ex
  ·intro w_ g_; refine og rfl ?_; refine r_move (v := .bool true) rfl ?_; exact ⟨Grow.rfl' _, rfl⟩
  apply AO_ex
  ·intro w_ g_; refine og rfl ?_; refine r_move_slice rfl ?_; exact ⟨Grow.rfl' _, rfl⟩
  refine AO_so (fun w_ v_ => Row w_ 2 v_ (rowS xs2).length (encL (rowS xs2))) (fun _ _ _ g_ h_ => h_.grow g_) ?_ ?_
  ·intro w_ g_
   refine og rfl ?_
   refine r_call rfl (rowc_calls w_ hx2 hcc2 hm2 (R2.grow (G.tr g_))) ?_
   rintro v9_ w9_ ⟨own9_, g9_⟩
   exact ⟨g9_, own_row own9_ (by omega)⟩
  apply AO_ex
  ·intro w_ g_; refine og rfl ?_; refine r_move_int rfl ?_; exact ⟨Grow.rfl' _, rfl⟩
  apply AO_ex
  ·intro w_ g_; refine og rfl ?_; refine r_rem rfl rfl ?_ ?_ ?_; omega; omega; exact ⟨Grow.rfl' _, rfl⟩
  apply AO_ex
  ·intro w_ g_; refine og rfl ?_; refine r_conv rfl ?_ ?_; constructor <;> omega; exact ⟨Grow.rfl' _, rfl⟩
  apply AO_ex
  ·intro w_ g_; refine og rfl ?_; refine r_move_int rfl ?_; exact ⟨Grow.rfl' _, rfl⟩
  apply AO_ex
  ·intro w_ g_; refine og rfl ?_; refine r_quo rfl rfl ?_ ?_ ?_ ?_; omega; omega; (constructor <;> omega); exact ⟨Grow.rfl' _, rfl⟩
  apply AO_ex
  ·intro w_ g_; refine og rfl ?_; refine r_conv rfl ?_ ?_; constructor <;> omega; exact ⟨Grow.rfl' _, rfl⟩
  apply AO_ex
  ·intro w_ g_; refine og rfl ?_; refine r_build (v := .agg #[.int .i64 (a4 % 64), .int .i64 (a4 / 4)]) (fun w => by kernel_rfl) ?_; exact ⟨Grow.rfl' _, rfl⟩
  apply AO_ex
  ·intro w_ g_; intro v5_ hv5_; show OpG _ _ _ _ _ _; refine og rfl ?_; obtain ⟨ax_, cx_, rfl, hcx_, hmx_, Rx_⟩ := hv5_; exact r_gives (v := .bool true) rfl (norms_calls w_ (a4 % 64) (a4 / 4) hcx_ hmx_ Rx_ (by omega) (fun s hs => by have := hrA s hs; omega)) (fun w2_ g2_ => ⟨g2_, rfl⟩)
  apply AO_ex
  ·intro w_ g_; intro v5_ hv5_; show OpG _ _ _ _ _ _; refine og rfl ?_; refine r_pick_t (v := .bool true) rfl rfl rfl ?_; exact ⟨Grow.rfl' _, rfl⟩
  apply AO_ex
  ·intro w_ g_; intro v5_ hv5_; show OpG _ _ _ _ _ _; refine og rfl ?_; refine r_move (v := .bool true) rfl ?_; exact ⟨Grow.rfl' _, rfl⟩
  apply AO_ex
  ·intro w_ g_; intro v5_ hv5_; show OpG _ _ _ _ _ _; refine og rfl ?_; refine r_move_slice rfl ?_; exact ⟨Grow.rfl' _, rfl⟩
  refine AO_so (fun w_ v_ => Row w_ 2 v_ (nrm L).length (encL (nrm L))) (fun _ _ _ g_ h_ => h_.grow g_) ?_ ?_
  ·intro w_ g_
   intro v5_ hv5_; show OpG _ _ _ _ _ _
   refine og rfl ?_
   refine r_call rfl (rnorm_calls w_ hc hc2 (R.grow (G.tr g_)) (by omega)) ?_
   rintro v9_ w9_ ⟨row9_, g9_⟩
   exact ⟨g9_, row9_⟩
  apply AO_ex
  ·intro w_ g_; intro v5_ hv5_; show OpG _ _ _ _ _ _; refine og rfl ?_; refine r_loadAll rfl (g_.heap hc4) (by rfl) ?_; exact ⟨Grow.rfl' _, rfl⟩
  apply AO_ex
  ·intro w_ g_; intro v5_ hv5_; intro v17_ hv17_; show OpG _ _ _ _ _ _; refine og rfl ?_; obtain ⟨ax_, cx_, rfl, hcx_, hmx_, Rx_⟩ := hv17_; exact r_gives (v := .bool true) rfl (norms_calls w_ s1 s2 hcx_ hmx_ Rx_ (by omega) (nrm_rng hr)) (fun w2_ g2_ => ⟨g2_, rfl⟩)
  apply AO_ex
  ·intro w_ g_; intro v5_ hv5_; intro v17_ hv17_; show OpG _ _ _ _ _ _; refine og rfl ?_; refine r_pick_t (v := .bool true) rfl rfl rfl ?_; exact ⟨Grow.rfl' _, rfl⟩
  apply AO_ex
  ·intro w_ g_; intro v5_ hv5_; intro v17_ hv17_; show OpG _ _ _ _ _ _; refine og rfl ?_; refine r_move (v := .bool true) rfl ?_; exact ⟨Grow.rfl' _, rfl⟩
  apply AO_ex
  ·intro w_ g_; intro v5_ hv5_; intro v17_ hv17_; show OpG _ _ _ _ _ _; refine og rfl ?_; refine r_move_slice rfl ?_; exact ⟨Grow.rfl' _, rfl⟩
  refine AO_so (fun w_ v_ => Row w_ 2 v_ (ofS xs3).length (encL (ofS xs3))) (fun _ _ _ g_ h_ => h_.grow g_) ?_ ?_
  ·intro w_ g_
   intro v5_ hv5_; intro v17_ hv17_; show OpG _ _ _ _ _ _
   refine og rfl ?_
   refine r_call rfl (of_calls w_ hx3 (R3.grow (G.tr g_)) (by omega)) ?_
   rintro v9_ w9_ ⟨own9_, g9_⟩
   exact ⟨g9_, own_row own9_ (by omega)⟩
  apply AO_ex
  ·intro w_ g_; intro v5_ hv5_; intro v17_ hv17_; show OpG _ _ _ _ _ _; refine og rfl ?_; refine r_move_slice rfl ?_; exact ⟨Grow.rfl' _, rfl⟩
  refine AO_so (fun w_ v_ => Row w_ 2 v_ (ofS xs3).length (encL (ofS xs3))) (fun _ _ _ g_ h_ => h_.grow g_) ?_ ?_
  ·intro w_ g_
   intro v5_ hv5_; intro v17_ hv17_; intro v23_ hv23_; show OpG _ _ _ _ _ _
   refine og rfl ?_
   refine r_call rfl (rof_calls w_ hx3 (R3.grow (G.tr g_)) (by omega)) ?_
   rintro v9_ w9_ ⟨row9_, g9_⟩
   exact ⟨g9_, row9_⟩
  apply AO_ex
  ·intro w_ g_; intro v5_ hv5_; intro v17_ hv17_; intro v23_ hv23_; intro v25_ hv25_; show OpG _ _ _ _ _ _; refine og rfl ?_; obtain ⟨ax_, cx_, rfl, -, -, Rx_⟩ := hv23_; obtain ⟨ay_, cy_, rfl, -, -, Ry_⟩ := hv25_; exact r_gives (v := .bool true) rfl (by have h_ := same_calls w_ Rx_ Ry_ (c := cx_) (d := cy_); rw [decide_eq_true rfl] at h_; exact h_) (fun w2_ g2_ => ⟨g2_, rfl⟩)
  apply AO_ex
  ·intro w_ g_; intro v5_ hv5_; intro v17_ hv17_; intro v23_ hv23_; intro v25_ hv25_; show OpG _ _ _ _ _ _; refine og rfl ?_; refine r_pick_t (v := .bool true) rfl rfl rfl ?_; exact ⟨Grow.rfl' _, rfl⟩
  refine AO_nil ?_
  intro w18 g19
  replace hc4 := g19.heap hc4
  replace G := G.tr g19
  clear g19
  intro v_5 hv_5
  intro v_17 hv_17
  intro v_23 hv_23
  intro v_25 hv_25
  refine stp (r_assign (v := .bool true) rfl ?_)
  refine WL_nil ?_
  refine W_ret ?_
  refine ret1 (res_tmp (v := .bool true) rfl) ⟨?_, G⟩
  rfl
end Go.Proofs.Ytldlfhodboigeaa.K
