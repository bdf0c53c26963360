/- the statements of chapter 04 (printed by lw04.py). -/
import Derived.Test.YtldlfhodboigeaaLA
set_option linter.unusedVariables false
set_option linter.unusedSimpArgs false
namespace Go.Proofs.Ytldlfhodboigeaa.K
open Go Go.RowKit Go.Proofs
attribute [local irreducible] Run1 OpG WL W AO Gives
set_option maxRecDepth 100000 in
theorem SpanOrder_calls (w : World) {ad : Option Addr} {c : Nat} {L : List Spn} (hc : L.length ≤ c) (hc2 : c ≤ maxLen) (R : RowAt w 2 ad L.length (encL L)) {a1 : Int} (p1 : 0 ≤ a1) (q1 : a1 ≤ 255) : Gives Try.prog 6 #[.slice ad L.length c, .int .u8 a1] w (.bool true) := by
 have G := Grow.rfl' w
 refine gives_of Try.func6 Try.ntmps6 Try.results6 rfl rfl ?_
 have lm := R.lim
 have hnl := nrm_len L
 refine W_seq (W_region rfl ?_)
 refine stp (r_assign (v := .bool false) rfl ?_)
 refine WL_nil ?_
 refine W_seq ?_
 refine W_seq (W_region rfl ?_)
 refine stp (r_move_slice rfl ?_)
 refine stp (r_len rfl rfl rfl ?_)
 refine stp (r_gtr rfl rfl ?_)
 refine stp (r_move_bool rfl ?_)
 refine WL_some (og_if (s := .bool (decide ((L.length : Int) > 60))) (b := false) (v := .slice ad L.length c) rfl (wgb_f _) (fun hc1 => ?_) ?_)
 ·
  have hc1_ := hc1
  try simp only [Bool.and_eq_true, Bool.or_eq_true, Bool.not_eq_true', Bool.and_eq_false_iff, Bool.or_eq_false_iff, Bool.not_eq_false', decide_eq_true_eq, decide_eq_false_iff_not, Bool.not_true, Bool.not_false, Bool.not_eq_eq_eq_not, Bool.or_false, Bool.and_true, Bool.or_true, Bool.and_false, Bool.false_or, Bool.true_and, Bool.true_or, Bool.false_and, Bool.false_eq_true, Bool.true_eq_false] at hc1_
  refine r_move_slice rfl ?_
  exact ⟨rfl, rfl⟩
 refine WL_some (og_if (s := .bool (decide ((L.length : Int) > 60))) (b := false) (v := .int .i64 (L.length : Int)) rfl (wgb_f _) (fun hc2 => ?_) ?_)
 ·
  have hc2_ := hc2
  try simp only [Bool.and_eq_true, Bool.or_eq_true, Bool.not_eq_true', Bool.and_eq_false_iff, Bool.or_eq_false_iff, Bool.not_eq_false', decide_eq_true_eq, decide_eq_false_iff_not, Bool.not_true, Bool.not_false, Bool.not_eq_eq_eq_not, Bool.or_false, Bool.and_true, Bool.or_true, Bool.and_false, Bool.false_or, Bool.true_and, Bool.true_or, Bool.false_and, Bool.false_eq_true, Bool.true_eq_false] at hc2_
  refine r_len rfl rfl (gvt hc2) ?_
  exact ⟨rfl, rfl⟩
 refine WL_some (og_if (s := .bool (decide ((L.length : Int) > 60))) (b := false) (v := .bool (decide ((L.length : Int) = 0))) rfl (wgb_f _) (fun hc3 => ?_) ?_)
 ·
  have hc3_ := hc3
  try simp only [Bool.and_eq_true, Bool.or_eq_true, Bool.not_eq_true', Bool.and_eq_false_iff, Bool.or_eq_false_iff, Bool.not_eq_false', decide_eq_true_eq, decide_eq_false_iff_not, Bool.not_true, Bool.not_false, Bool.not_eq_eq_eq_not, Bool.or_false, Bool.and_true, Bool.or_true, Bool.and_false, Bool.false_or, Bool.true_and, Bool.true_or, Bool.false_and, Bool.false_eq_true, Bool.true_eq_false] at hc3_
  refine r_eql (gvt hc3) rfl ?_
  exact ⟨rfl, rfl⟩
 refine stp (r_or2 rfl rfl rfl ?_)
 refine WL_nil ?_
 refine W_cond2 (b := ((decide ((L.length : Int) > 60)) || (decide ((L.length : Int) = 0)))) rfl (fun hb0 => ?_) (fun hb0 => ?_)
 ·-- true
  simp only [Bool.and_eq_true, Bool.or_eq_true, Bool.not_eq_true', Bool.and_eq_false_iff, Bool.or_eq_false_iff, Bool.not_eq_false', decide_eq_true_eq, decide_eq_false_iff_not, Bool.not_true, Bool.not_false, Bool.not_eq_eq_eq_not, Bool.or_false, Bool.and_true, Bool.or_true, Bool.and_false, Bool.false_or, Bool.true_and, Bool.true_or, Bool.false_and, Bool.false_eq_true, Bool.true_eq_false] at hb0
  refine W_seq (W_region rfl ?_)
  refine stp (r_gives (v := .bool true) rfl (known_calls _) ?_)
  intro w4 g5
  replace G := G.tr g5
  clear g5
  refine stp (r_assign (v := .bool true) rfl ?_)
  refine WL_nil ?_
  refine W_ret ?_
  refine ret1 (res_tmp (v := .bool true) rfl) ⟨?_, G⟩
  rfl
 ·-- false
  simp only [Bool.and_eq_true, Bool.or_eq_true, Bool.not_eq_true', Bool.and_eq_false_iff, Bool.or_eq_false_iff, Bool.not_eq_false', decide_eq_true_eq, decide_eq_false_iff_not, Bool.not_true, Bool.not_false, Bool.not_eq_eq_eq_not, Bool.or_false, Bool.and_true, Bool.or_true, Bool.and_false, Bool.false_or, Bool.true_and, Bool.true_or, Bool.false_and, Bool.false_eq_true, Bool.true_eq_false] at hb0
  have hi1 := Int.emod_nonneg a1 (show (L.length : Int) ≠ 0 by omega)
  have hi2 := Int.emod_lt_of_pos a1 (show (0 : Int) < L.length by omega)
  refine W_skip ?_
  refine W_seq (W_region rfl ?_)
  refine stp (r_assign_slice rfl ?_)
  refine WL_nil ?_
  have own0 : w.ownsRow w.heap.size 26 2 (.slice none 0 0) 0 (encL []) := World.ownsRow_nil _ _ _ _
  have RD := R.sliceLH (l := (a1 % (L.length : Int)).toNat) (m := L.length - (a1 % (L.length : Int)).toNat) hc (by omega) (by omega)
  have hdr : ((encL L).drop ((a1 % (L.length : Int)).toNat * 2)).take ((L.length - (a1 % (L.length : Int)).toNat) * 2) = encL (L.drop (a1 % (L.length : Int)).toNat) := by rw [List.take_of_length_le (by rw [List.length_drop, encL_len]; omega), encL_drop]
  rw [hdr] at RD
  refine W_seq (W_region rfl ?_)
  refine stp (r_move_int rfl ?_)
  refine stp (r_conv rfl ?_ ?_); constructor <;> omega
  refine stp (r_move_slice rfl ?_)
  refine stp (r_len rfl rfl rfl ?_)
  refine stp (r_rem rfl rfl ?_ ?_ ?_); omega; omega
  refine stp (r_assign_int rfl ?_)
  refine WL_nil ?_
  refine W_seq (W_region rfl ?_)
  refine stp (r_move_slice rfl ?_)
  refine stp (r_move_slice rfl ?_)
  refine stp (r_move_int rfl ?_)
  refine stp (r_sliceL rfl rfl ?_ ?_ ?_); omega; omega
  refine stp (r_append rfl rfl rfl rfl own0 ⟨_, c - (a1 % (L.length : Int)).toNat, rfl, by omega, by omega, RD.grow G⟩ encL_one (by simp only [maxLen]; omega) (by omega) G.size ?_)
  intro v5 w5 own5 gr5
  replace G := G.grown gr5 (own_ge own0)
  rw [Nat.zero_add, show encL [] ++ encL (L.drop (a1 % (L.length : Int)).toNat) = encL (L.drop (a1 % (L.length : Int)).toNat) from rfl, show L.length - (a1 % (L.length : Int)).toNat = (L.drop (a1 % (L.length : Int)).toNat).length from by rw [List.length_drop]] at own5
  refine stp (r_assign (v := v5) rfl ?_)
  refine WL_nil ?_
  refine W_seq (W_region rfl ?_)
  refine stp (r_move (v := v5) rfl ?_)
  refine stp (r_move_slice rfl ?_)
  refine stp (r_append rfl rfl rfl rfl own5 ⟨_, c, rfl, hc, hc2, R.grow G⟩ encL_one (by simp only [maxLen]; (try simp only [List.length_drop]); omega) (by (try simp only [List.length_drop]); omega) G.size ?_)
  intro v6 w6 own6 gr6
  replace G := G.grown gr6 (own_ge own5)
  replace own6 := own_cat own6
  have hml : (L.drop (a1 % (L.length : Int)).toNat ++ L).length ≤ 120 := by simp only [List.length_append, List.length_drop]; omega
  obtain ⟨ad6, c6, rfl, hc6, hm6, R6⟩ := own_row own6 (by omega)
  refine stp (r_assign_slice rfl ?_)
  refine WL_nil ?_
  refine W_seq (W_region rfl ?_)
  refine stp (r_move_slice rfl ?_)
  refine WL_some (og rfl ?_)
  refine r_call rfl (norm_calls _ hc hc2 (R.grow G) (by omega)) ?_
  rintro v6 w6 ⟨own6, g6⟩
  replace R6 := R6.grow g6
  replace G := G.tr g6
  clear g6
  obtain ⟨adM6, cM6, rfl, hcM6, hmM6, RM6⟩ := own_row own6 (by omega)
  refine stp (r_assign_slice rfl ?_)
  refine WL_nil ?_
  refine W_seq (W_region rfl ?_)
  refine stp (r_move_slice rfl ?_)
  refine WL_some (og rfl ?_)
  refine r_call rfl ((by have h_ := norm_calls w6 hc6 hm6 R6 (by omega); rw [order_same] at h_; exact h_)) ?_
  rintro v7 w7 ⟨own7, g7⟩
  replace R6 := R6.grow g7
  replace RM6 := RM6.grow g7
  replace G := G.tr g7
  clear g7
  obtain ⟨adM7, cM7, rfl, hcM7, hmM7, RM7⟩ := own_row own7 (by omega)
  refine stp (r_assign_slice rfl ?_)
  refine WL_nil ?_
  refine W_seq (W_region rfl ?_)
  refine stp (r_gives (v := .bool true) rfl (known_calls _) ?_)
  intro w8 g9
  replace R6 := R6.grow g9
  replace RM6 := RM6.grow g9
  replace RM7 := RM7.grow g9
  replace G := G.tr g9
  clear g9
  refine stp (r_move (v := .bool true) rfl ?_)
  refine stp (r_move_slice rfl ?_)
  refine stp (r_move_slice rfl ?_)
  refine stp (r_gives (v := .bool true) rfl ((by have h_ := same_calls w8 RM6 RM7 (c := cM6) (d := cM7); rw [decide_eq_true rfl] at h_; exact h_)) ?_)
  intro w10 g11
  replace R6 := R6.grow g11
  replace RM6 := RM6.grow g11
  replace RM7 := RM7.grow g11
  replace G := G.tr g11
  clear g11
  refine stp (r_pick_t (v := .bool true) rfl rfl rfl ?_)
  refine stp (r_move (v := .bool true) rfl ?_)
  refine stp (r_move_slice rfl ?_)
  refine stp (r_gives (v := .bool true) rfl ((by have h_ := right_calls w10 hcM6 hmM6 RM6 (by omega); rw [nrm_right] at h_; exact h_)) ?_)
  intro w12 g13
  replace R6 := R6.grow g13
  replace RM6 := RM6.grow g13
  replace RM7 := RM7.grow g13
  replace G := G.tr g13
  clear g13
  refine stp (r_pick_t (v := .bool true) rfl rfl rfl ?_)
  refine stp (r_move (v := .bool true) rfl ?_)
  refine stp (r_move_slice rfl ?_)
  refine WL_some (og rfl ?_)
  refine r_call rfl ((by have h_ := norm_calls w12 hcM6 hmM6 RM6 (by omega); rw [nrm_nrm] at h_; exact h_)) ?_
  rintro v14 w14 ⟨own14, g14⟩
  replace R6 := R6.grow g14
  replace RM6 := RM6.grow g14
  replace RM7 := RM7.grow g14
  replace G := G.tr g14
  clear g14
  obtain ⟨adM14, cM14, rfl, hcM14, hmM14, RM14⟩ := own_row own14 (by omega)
  refine stp (r_move_slice rfl ?_)
  refine stp (r_gives (v := .bool true) rfl ((by have h_ := same_calls w14 RM14 RM6 (c := cM14) (d := cM6); rw [decide_eq_true rfl] at h_; exact h_)) ?_)
  intro w15 g16
  replace R6 := R6.grow g16
  replace RM6 := RM6.grow g16
  replace RM7 := RM7.grow g16
  replace RM14 := RM14.grow g16
  replace G := G.tr g16
  clear g16
  refine stp (r_pick_t (v := .bool true) rfl rfl rfl ?_)
  refine stp (r_assign (v := .bool true) rfl ?_)
  refine WL_nil ?_
  refine W_ret ?_
  refine ret1 (res_tmp (v := .bool true) rfl) ⟨?_, G⟩
  rfl
end Go.Proofs.Ytldlfhodboigeaa.K
