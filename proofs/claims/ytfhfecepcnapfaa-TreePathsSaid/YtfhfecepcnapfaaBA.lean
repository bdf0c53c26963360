/- Contracts of chapter 08's functions (printed by a08.py). -/
import Derived.Test.YtfhfecepcnapfaaT
import Derived.Test.YtfhfecepcnapfaaM08
import Derived.Test.YtfhfecepcnapfaaJ11
set_option linter.unusedVariables false
set_option linter.unusedSimpArgs false
namespace Go.Proofs.Ytfhfecepcnapfaa.K
open Go Go.RowKit Go.Proofs
attribute [local irreducible] Run1 OpG WL W AO Gives
set_option maxRecDepth 100000 in
theorem ceil_calls (w : World) (n : Int) (h0 : 0 ≤ n) (h1 : n ≤ 140737488355328) : Gives Try.prog 54 #[.int .i64 n, .int .i64 8] w (.int .i64 ((n + 7) / 8)) := by
 have G := Grow.rfl' w
 refine gives_of Try.func54 Try.ntmps54 Try.results54 rfl rfl ?_
 refine W_seq (W_region rfl ?_)
 refine stp (r_assign_int rfl ?_)
 refine WL_nil ?_
 refine W_seq ?_
 refine W_seq (W_region rfl ?_)
 refine stp (r_move_int rfl ?_)
 refine stp (r_lss rfl rfl ?_)
 refine stp (r_move_bool rfl ?_)
 refine WL_some (og_if (s := .bool (decide (n < 0))) (b := false) (v := .int .i64 n) rfl (wgb_f _) (fun hc1 => ?_) ?_)
 ·
  have hc1_ := hc1
  try simp only [Bool.and_eq_true, Bool.or_eq_true, Bool.not_eq_true', Bool.and_eq_false_iff, Bool.or_eq_false_iff, Bool.not_eq_false', decide_eq_true_eq, decide_eq_false_iff_not, Bool.not_true, Bool.not_false, Bool.not_eq_eq_eq_not, Bool.or_false, Bool.and_true, Bool.or_true, Bool.and_false, Bool.false_or, Bool.true_and, Bool.true_or, Bool.false_and, Bool.false_eq_true, Bool.true_eq_false] at hc1_
  refine r_move_int rfl ?_
  exact ⟨rfl, rfl⟩
 refine WL_some (og_if (s := .bool (decide (n < 0))) (b := false) (v := .bool (decide (n > 9007199254740992))) rfl (wgb_f _) (fun hc2 => ?_) ?_)
 ·
  have hc2_ := hc2
  try simp only [Bool.and_eq_true, Bool.or_eq_true, Bool.not_eq_true', Bool.and_eq_false_iff, Bool.or_eq_false_iff, Bool.not_eq_false', decide_eq_true_eq, decide_eq_false_iff_not, Bool.not_true, Bool.not_false, Bool.not_eq_eq_eq_not, Bool.or_false, Bool.and_true, Bool.or_true, Bool.and_false, Bool.false_or, Bool.true_and, Bool.true_or, Bool.false_and, Bool.false_eq_true, Bool.true_eq_false] at hc2_
  refine r_gtr (gvt hc2) rfl ?_
  exact ⟨rfl, rfl⟩
 refine stp (r_or2 rfl rfl rfl ?_)
 refine stp (r_move_bool rfl ?_)
 refine WL_some (og_if (s := .bool ((decide (n < 0)) || (decide (n > 9007199254740992)))) (b := false) (v := .int .i64 8) rfl (wgb_f _) (fun hc3 => ?_) ?_)
 ·
  have hc3_ := hc3
  try simp only [Bool.and_eq_true, Bool.or_eq_true, Bool.not_eq_true', Bool.and_eq_false_iff, Bool.or_eq_false_iff, Bool.not_eq_false', decide_eq_true_eq, decide_eq_false_iff_not, Bool.not_true, Bool.not_false, Bool.not_eq_eq_eq_not, Bool.or_false, Bool.and_true, Bool.or_true, Bool.and_false, Bool.false_or, Bool.true_and, Bool.true_or, Bool.false_and, Bool.false_eq_true, Bool.true_eq_false] at hc3_
  refine r_move_int rfl ?_
  exact ⟨rfl, rfl⟩
 refine WL_some (og_if (s := .bool ((decide (n < 0)) || (decide (n > 9007199254740992)))) (b := false) (v := .bool false) rfl (wgb_f _) (fun hc4 => ?_) ?_)
 ·
  have hc4_ := hc4
  try simp only [Bool.and_eq_true, Bool.or_eq_true, Bool.not_eq_true', Bool.and_eq_false_iff, Bool.or_eq_false_iff, Bool.not_eq_false', decide_eq_true_eq, decide_eq_false_iff_not, Bool.not_true, Bool.not_false, Bool.not_eq_eq_eq_not, Bool.or_false, Bool.and_true, Bool.or_true, Bool.and_false, Bool.false_or, Bool.true_and, Bool.true_or, Bool.false_and, Bool.false_eq_true, Bool.true_eq_false] at hc4_
  refine r_lss_f (gvt hc4) rfl (by decide) ?_
  exact ⟨rfl, rfl⟩
 refine stp (r_or2 rfl rfl rfl ?_)
 refine stp (r_move_bool rfl ?_)
 refine WL_some (og_if (s := .bool (((decide (n < 0)) || (decide (n > 9007199254740992))) || false)) (b := false) (v := .int .i64 8) rfl (wgb_f _) (fun hc5 => ?_) ?_)
 ·
  have hc5_ := hc5
  try simp only [Bool.and_eq_true, Bool.or_eq_true, Bool.not_eq_true', Bool.and_eq_false_iff, Bool.or_eq_false_iff, Bool.not_eq_false', decide_eq_true_eq, decide_eq_false_iff_not, Bool.not_true, Bool.not_false, Bool.not_eq_eq_eq_not, Bool.or_false, Bool.and_true, Bool.or_true, Bool.and_false, Bool.false_or, Bool.true_and, Bool.true_or, Bool.false_and, Bool.false_eq_true, Bool.true_eq_false] at hc5_
  refine r_move_int rfl ?_
  exact ⟨rfl, rfl⟩
 refine WL_some (og_if (s := .bool (((decide (n < 0)) || (decide (n > 9007199254740992))) || false)) (b := false) (v := .bool false) rfl (wgb_f _) (fun hc6 => ?_) ?_)
 ·
  have hc6_ := hc6
  try simp only [Bool.and_eq_true, Bool.or_eq_true, Bool.not_eq_true', Bool.and_eq_false_iff, Bool.or_eq_false_iff, Bool.not_eq_false', decide_eq_true_eq, decide_eq_false_iff_not, Bool.not_true, Bool.not_false, Bool.not_eq_eq_eq_not, Bool.or_false, Bool.and_true, Bool.or_true, Bool.and_false, Bool.false_or, Bool.true_and, Bool.true_or, Bool.false_and, Bool.false_eq_true, Bool.true_eq_false] at hc6_
  refine r_gtr_f (gvt hc6) rfl (by decide) ?_
  exact ⟨rfl, rfl⟩
 refine stp (r_or2 rfl rfl rfl ?_)
 refine WL_nil ?_
 refine W_cond2 (b := ((((decide (n < 0)) || (decide (n > 9007199254740992))) || false) || false)) rfl (fun h1 => ?_) (fun h1 => ?_)
 ·-- true
  simp only [Bool.and_eq_true, Bool.or_eq_true, Bool.not_eq_true', Bool.and_eq_false_iff, Bool.or_eq_false_iff, Bool.not_eq_false', decide_eq_true_eq, decide_eq_false_iff_not, Bool.not_true, Bool.not_false, Bool.not_eq_eq_eq_not, Bool.or_false, Bool.and_true, Bool.or_true, Bool.and_false, Bool.false_or, Bool.true_and, Bool.true_or, Bool.false_and, Bool.false_eq_true, Bool.true_eq_false] at h1
  refine W_seq (W_region rfl ?_)
  refine stp (r_assign_int rfl ?_)
  refine WL_nil ?_
  refine W_ret ?_
  refine ret1 (res_tmp (v := .int .i64 0) rfl) ⟨?_, G⟩
  first | (exfalso; omega; done) | (congr 1; omega)
 ·-- false
  simp only [Bool.and_eq_true, Bool.or_eq_true, Bool.not_eq_true', Bool.and_eq_false_iff, Bool.or_eq_false_iff, Bool.not_eq_false', decide_eq_true_eq, decide_eq_false_iff_not, Bool.not_true, Bool.not_false, Bool.not_eq_eq_eq_not, Bool.or_false, Bool.and_true, Bool.or_true, Bool.and_false, Bool.false_or, Bool.true_and, Bool.true_or, Bool.false_and, Bool.false_eq_true, Bool.true_eq_false] at h1
  refine W_skip ?_
  refine W_seq (W_region rfl ?_)
  refine stp (r_move_int rfl ?_)
  refine stp (r_move_int rfl ?_)
  refine stp (r_add rfl rfl ?_ ?_); constructor <;> omega
  refine stp (r_sub rfl rfl ?_ ?_); constructor <;> omega
  refine stp (r_move_int rfl ?_)
  refine stp (r_quo rfl rfl ?_ ?_ ?_ ?_); omega; omega; (constructor <;> omega)
  refine stp (r_assign_int rfl ?_)
  refine WL_nil ?_
  refine W_ret ?_
  refine ret1 (res_tmp (v := .int .i64 (((n + 8) - 1) / 8)) rfl) ⟨?_, G⟩
  first | (exfalso; omega; done) | (congr 1; omega)

set_option maxRecDepth 100000 in
theorem need_calls (w : World) {c : List Value} {t : Nd} (T : NodeR w c t) : Gives Try.prog 33 #[.agg c.toArray] w (.int .i64 t.need) := by
 obtain @⟨kind, size, words, bytes, kids, ws, bs, ks, kc, hk, hs, hW, hwr, hB, hbr, hK, hKs⟩ := T
 obtain ⟨aw, cw, rfl, hcw, hcw2, RW⟩ := hW
 obtain ⟨ab, cb, rfl, hcb, hcb2, RB⟩ := hB
 obtain ⟨ak, ck, rfl, hck, hck2, RK⟩ := hK
 have lw := RW.lim
 have lb := RB.lim
 have lk := RK.lim
 simp only [inR] at hk hs
 have G := Grow.rfl' w
 refine gives_of Try.func33 Try.ntmps33 Try.results33 rfl rfl ?_
 refine W_seq (W_region rfl ?_)
 refine WL_some (og rfl ?_)
 (first | refine r_box_agg rfl ?_ | refine r_box_int rfl ?_ | refine r_box_slice rfl ?_ | refine r_box rfl rfl ?_)
 intro b1 w2 hb3 hc4 g5
 have hge6 := Nat.le_trans G.size hb3
 replace G := G.tr g5
 clear g5 hb3
 refine stp (r_assign_int rfl ?_)
 refine WL_nil ?_
 refine W_seq ?_
 refine W_seq (W_region rfl ?_)
 refine stp (r_fieldAddr rfl ?_)
 refine stp (r_load (v := .int .i64 kind) rfl hc4 rfl ?_)
 refine stp (r_neq rfl rfl ?_)
 refine stp (r_move_bool rfl ?_)
 refine WL_some (og_if (s := .bool (decide (kind ≠ 1))) (b := true) (v := .pointer (some ⟨b1, 0, none⟩)) rfl (wgb_t _) (fun hc7 => ?_) ?_)
 ·
  have hc7_ := of_decide_eq_true hc7
  refine r_fieldAddr rfl ?_
  exact ⟨rfl, rfl⟩
 refine WL_some (og_if (s := .bool (decide (kind ≠ 1))) (b := true) (v := .int .i64 kind) rfl (wgb_t _) (fun hc8 => ?_) ?_)
 ·
  have hc8_ := of_decide_eq_true hc8
  refine r_load (v := .int .i64 kind) (gvt hc8) hc4 rfl ?_
  exact ⟨rfl, rfl⟩
 refine WL_some (og_if (s := .bool (decide (kind ≠ 1))) (b := true) (v := .bool (decide (kind ≠ 2))) rfl (wgb_t _) (fun hc9 => ?_) ?_)
 ·
  have hc9_ := of_decide_eq_true hc9
  refine r_neq (gvt hc9) rfl ?_
  exact ⟨rfl, rfl⟩
 refine stp (r_and2 rfl rfl rfl ?_)
 refine WL_nil ?_
 refine W_cond2 (b := ((decide (kind ≠ 1)) && (decide (kind ≠ 2)))) rfl (fun h1 => ?_) (fun h1 => ?_)
 ·-- true
  simp only [Bool.and_eq_true, Bool.or_eq_true, Bool.not_eq_true', Bool.and_eq_false_iff, Bool.or_eq_false_iff, Bool.not_eq_false', decide_eq_true_eq, decide_eq_false_iff_not, Bool.not_true, Bool.not_false, Bool.not_eq_eq_eq_not, Bool.or_false, Bool.and_true, Bool.or_true, Bool.and_false, Bool.false_or, Bool.true_and, Bool.true_or, Bool.false_and, Bool.false_eq_true, Bool.true_eq_false] at h1
  refine W_seq (W_region rfl ?_)
  refine stp (r_assign_int rfl ?_)
  refine WL_nil ?_
  refine W_ret ?_
  refine ret1 (res_tmp (v := .int .i64 0) rfl) ⟨?_, G⟩
  simp [Nd.need, *] <;> omega
 ·-- false
  simp only [Bool.and_eq_true, Bool.or_eq_true, Bool.not_eq_true', Bool.and_eq_false_iff, Bool.or_eq_false_iff, Bool.not_eq_false', decide_eq_true_eq, decide_eq_false_iff_not, Bool.not_true, Bool.not_false, Bool.not_eq_eq_eq_not, Bool.or_false, Bool.and_true, Bool.or_true, Bool.and_false, Bool.false_or, Bool.true_and, Bool.true_or, Bool.false_and, Bool.false_eq_true, Bool.true_eq_false] at h1
  refine W_skip ?_
  refine W_seq (W_region rfl ?_)
  refine stp (r_fieldAddr rfl ?_)
  refine stp (r_load (v := .slice aw words.length cw) rfl hc4 rfl ?_)
  refine stp (r_len rfl rfl rfl ?_)
  refine stp (r_fieldAddr rfl ?_)
  refine stp (r_load (v := .slice ak kids.length ck) rfl hc4 rfl ?_)
  refine stp (r_len rfl rfl rfl ?_)
  refine stp (r_add rfl rfl ?_ ?_); constructor <;> omega
  refine stp (r_assign_int rfl ?_)
  refine WL_nil ?_
  refine W_seq ?_
  refine W_seq (W_region rfl ?_)
  refine stp (r_fieldAddr rfl ?_)
  refine stp (r_load (v := .int .i64 kind) rfl hc4 rfl ?_)
  refine stp (r_eql rfl rfl ?_)
  refine WL_nil ?_
  refine W_cond2 (b := (decide (kind = 2))) rfl (fun h2 => ?_) (fun h2 => ?_)
  ·-- true
   replace h2 := of_decide_eq_true h2
   refine W_region rfl ?_
   refine stp (r_move_int rfl ?_)
   refine stp (r_fieldAddr rfl ?_)
   refine stp (r_load (v := .slice ab bytes.length cb) rfl hc4 rfl ?_)
   refine stp (r_len rfl rfl rfl ?_)
   refine stp (r_gives (v := .int .i64 (((bytes.length : Int) + 7) / 8)) rfl (ceil_calls _ _ (by omega) (by omega)) ?_)
   intro w10 g11
   replace hc4 := g11.heap hc4
   replace G := G.tr g11
   clear g11
   refine stp (r_add rfl rfl ?_ ?_); constructor <;> omega
   refine stp (r_assign_int rfl ?_)
   refine WL_nil ?_
   refine W_seq (W_region rfl ?_)
   refine stp (r_move_int rfl ?_)
   refine stp (r_assign_int rfl ?_)
   refine WL_nil ?_
   refine W_ret ?_
   refine ret1 (res_tmp (v := .int .i64 (((words.length : Int) + (kids.length : Int)) + (((bytes.length : Int) + 7) / 8))) rfl) ⟨?_, G⟩
   simp [Nd.need, *] <;> omega
  ·-- false
   replace h2 := of_decide_eq_false h2
   refine W_skip ?_
   refine W_seq (W_region rfl ?_)
   refine stp (r_move_int rfl ?_)
   refine stp (r_assign_int rfl ?_)
   refine WL_nil ?_
   refine W_ret ?_
   refine ret1 (res_tmp (v := .int .i64 ((words.length : Int) + (kids.length : Int))) rfl) ⟨?_, G⟩
   simp [Nd.need, *] <;> omega

set_option maxRecDepth 100000 in
theorem rneed_calls (w : World) {c : List Value} {t : Nd} (T : NodeR w c t) : Gives Try.prog 34 #[.agg c.toArray] w (.int .i64 t.need) := by
 obtain @⟨kind, size, words, bytes, kids, ws, bs, ks, kc, hk, hs, hW, hwr, hB, hbr, hK, hKs⟩ := T
 obtain ⟨aw, cw, rfl, hcw, hcw2, RW⟩ := hW
 obtain ⟨ab, cb, rfl, hcb, hcb2, RB⟩ := hB
 obtain ⟨ak, ck, rfl, hck, hck2, RK⟩ := hK
 have lw := RW.lim
 have lb := RB.lim
 have lk := RK.lim
 simp only [inR] at hk hs
 have G := Grow.rfl' w
 refine gives_of Try.func34 Try.ntmps34 Try.results34 rfl rfl ?_
 refine W_seq (W_region rfl ?_)
 refine WL_some (og rfl ?_)
 (first | refine r_box_agg rfl ?_ | refine r_box_int rfl ?_ | refine r_box_slice rfl ?_ | refine r_box rfl rfl ?_)
 intro b1 w2 hb3 hc4 g5
 have hge6 := Nat.le_trans G.size hb3
 replace G := G.tr g5
 clear g5 hb3
 refine stp (r_assign_int rfl ?_)
 refine WL_nil ?_
 refine W_seq ?_
 refine W_seq (W_region rfl ?_)
 refine stp (r_fieldAddr rfl ?_)
 refine stp (r_load (v := .int .i64 kind) rfl hc4 rfl ?_)
 refine WL_nil ?_
 refine W_block ?_
 refine W_seq (W_region rfl ?_)
 refine stp (r_eql rfl rfl ?_)
 refine stp (r_assign_bool rfl ?_)
 refine WL_nil ?_
 refine W_cond2 (b := (decide (kind = 1))) rfl (fun h1 => ?_) (fun h1 => ?_)
 ·-- true
  replace h1 := of_decide_eq_true h1
  refine W_seq (W_region rfl ?_)
  refine stp (r_fieldAddr rfl ?_)
  refine stp (r_load (v := .slice aw words.length cw) rfl hc4 rfl ?_)
  refine stp (r_len rfl rfl rfl ?_)
  refine stp (r_fieldAddr rfl ?_)
  refine stp (r_load (v := .slice ak kids.length ck) rfl hc4 rfl ?_)
  refine stp (r_len rfl rfl rfl ?_)
  refine stp (r_add rfl rfl ?_ ?_); constructor <;> omega
  refine stp (r_assign_int rfl ?_)
  refine WL_nil ?_
  refine W_ret ?_
  refine ret1 (res_tmp (v := .int .i64 ((words.length : Int) + (kids.length : Int))) rfl) ⟨?_, G⟩
  simp [Nd.need, *]
 ·-- false
  replace h1 := of_decide_eq_false h1
  refine W_seq (W_region rfl ?_)
  refine stp (r_eql rfl rfl ?_)
  refine stp (r_assign_bool rfl ?_)
  refine WL_nil ?_
  refine W_cond2 (b := (decide (kind = 2))) rfl (fun h2 => ?_) (fun h2 => ?_)
  ·-- true
   replace h2 := of_decide_eq_true h2
   refine W_seq (W_region rfl ?_)
   refine stp (r_fieldAddr rfl ?_)
   refine stp (r_load (v := .slice aw words.length cw) rfl hc4 rfl ?_)
   refine stp (r_len rfl rfl rfl ?_)
   refine stp (r_fieldAddr rfl ?_)
   refine stp (r_load (v := .slice ak kids.length ck) rfl hc4 rfl ?_)
   refine stp (r_len rfl rfl rfl ?_)
   refine stp (r_add rfl rfl ?_ ?_); constructor <;> omega
   refine stp (r_fieldAddr rfl ?_)
   refine stp (r_load (v := .slice ab bytes.length cb) rfl hc4 rfl ?_)
   refine stp (r_len rfl rfl rfl ?_)
   refine stp (r_add rfl rfl ?_ ?_); constructor <;> omega
   refine stp (r_quo rfl rfl ?_ ?_ ?_ ?_); omega; omega; (constructor <;> omega)
   refine stp (r_add rfl rfl ?_ ?_); constructor <;> omega
   refine stp (r_assign_int rfl ?_)
   refine WL_nil ?_
   refine W_ret ?_
   refine ret1 (res_tmp (v := .int .i64 (((words.length : Int) + (kids.length : Int)) + (((bytes.length : Int) + 7) / 8))) rfl) ⟨?_, G⟩
   simp [Nd.need, *]
  ·-- false
   replace h2 := of_decide_eq_false h2
   refine W_skip ?_
   refine W_seq (W_region rfl ?_)
   refine stp (r_assign_int rfl ?_)
   refine WL_nil ?_
   refine W_ret ?_
   refine ret1 (res_tmp (v := .int .i64 0) rfl) ⟨?_, G⟩
   simp [Nd.need, *]

set_option maxRecDepth 100000 in
theorem deep_calls : ∀ (n_ : Nat) (w : World) {c : List Value} {t : Nd} (T : NodeR w c t) {left : Nat} (hl : left ≤ 32), t.sz ≤ n_ → Gives Try.prog 55 #[.agg c.toArray, .int .i64 (left : Int)] w (.bool (t.right left)) := by
 intro n_
 induction n_ with
 | zero => intro w c t T left hl hm_; exact absurd hm_ (by have := t.sz_pos; omega)
 | succ n_ ih_ =>
 intro w c t T left hl hm_
 have T0 := T
 obtain @⟨kind, size, words, bytes, kids, ws, bs, ks, kc, hk, hs, hW, hwr, hB, hbr, hK, hKs⟩ := T
 obtain ⟨aw, cw, rfl, hcw, hcw2, RW⟩ := hW
 obtain ⟨ab, cb, rfl, hcb, hcb2, RB⟩ := hB
 obtain ⟨ak, ck, rfl, hck, hck2, RK⟩ := hK
 have lw := RW.lim
 have lb := RB.lim
 have lk := RK.lim
 simp only [inR] at hk hs
 have G := Grow.rfl' w
 refine gives_of Try.func55 Try.ntmps55 Try.results55 rfl rfl ?_
 refine W_seq (W_region rfl ?_)
 refine WL_some (og rfl ?_)
 (first | refine r_box_agg rfl ?_ | refine r_box_int rfl ?_ | refine r_box_slice rfl ?_ | refine r_box rfl rfl ?_)
 intro b1 w2 hb3 hc4 g5
 have hge6 := Nat.le_trans G.size hb3
 replace G := G.tr g5
 clear g5 hb3
 refine stp (r_assign (v := .bool false) rfl ?_)
 refine WL_nil ?_
 refine W_seq ?_
 refine W_seq (W_region rfl ?_)
 refine stp (r_fieldAddr rfl ?_)
 refine stp (r_load (v := .int .i64 kind) rfl hc4 rfl ?_)
 refine stp (r_eql rfl rfl ?_)
 refine WL_nil ?_
 refine W_cond2 (b := (decide (kind = 0))) rfl (fun h1 => ?_) (fun h1 => ?_)
 ·-- true
  replace h1 := of_decide_eq_true h1
  refine W_seq (W_region rfl ?_)
  refine stp (r_fieldAddr rfl ?_)
  refine stp (r_load (v := .int .i64 size) rfl hc4 rfl ?_)
  refine stp (r_eql rfl rfl ?_)
  refine stp (r_move_bool rfl ?_)
  refine WL_some (og_if (s := .bool (decide (size = 0))) (b := true) (v := .pointer (some ⟨b1, 2, none⟩)) rfl (wgb_t _) (fun hc7 => ?_) ?_)
  ·
   have hc7_ := of_decide_eq_true hc7
   refine r_fieldAddr rfl ?_
   exact ⟨rfl, rfl⟩
  refine WL_some (og_if (s := .bool (decide (size = 0))) (b := true) (v := .slice aw words.length cw) rfl (wgb_t _) (fun hc8 => ?_) ?_)
  ·
   have hc8_ := of_decide_eq_true hc8
   refine r_load (v := .slice aw words.length cw) (gvt hc8) hc4 rfl ?_
   exact ⟨rfl, rfl⟩
  refine WL_some (og_if (s := .bool (decide (size = 0))) (b := true) (v := .int .i64 (words.length : Int)) rfl (wgb_t _) (fun hc9 => ?_) ?_)
  ·
   have hc9_ := of_decide_eq_true hc9
   refine r_len rfl rfl (gvt hc9) ?_
   exact ⟨rfl, rfl⟩
  refine WL_some (og_if (s := .bool (decide (size = 0))) (b := true) (v := .pointer (some ⟨b1, 3, none⟩)) rfl (wgb_t _) (fun hc10 => ?_) ?_)
  ·
   have hc10_ := of_decide_eq_true hc10
   refine r_fieldAddr rfl ?_
   exact ⟨rfl, rfl⟩
  refine WL_some (og_if (s := .bool (decide (size = 0))) (b := true) (v := .slice ab bytes.length cb) rfl (wgb_t _) (fun hc11 => ?_) ?_)
  ·
   have hc11_ := of_decide_eq_true hc11
   refine r_load (v := .slice ab bytes.length cb) (gvt hc11) hc4 rfl ?_
   exact ⟨rfl, rfl⟩
  refine WL_some (og_if (s := .bool (decide (size = 0))) (b := true) (v := .int .i64 (bytes.length : Int)) rfl (wgb_t _) (fun hc12 => ?_) ?_)
  ·
   have hc12_ := of_decide_eq_true hc12
   refine r_len rfl rfl (gvt hc12) ?_
   exact ⟨rfl, rfl⟩
  refine WL_some (og_if (s := .bool (decide (size = 0))) (b := true) (v := .int .i64 ((words.length : Int) + (bytes.length : Int))) rfl (wgb_t _) (fun hc13 => ?_) ?_)
  ·
   have hc13_ := of_decide_eq_true hc13
   refine r_add (gvt hc13) (gvt hc13) ?_ ?_; constructor <;> omega
   exact ⟨rfl, rfl⟩
  refine WL_some (og_if (s := .bool (decide (size = 0))) (b := true) (v := .pointer (some ⟨b1, 4, none⟩)) rfl (wgb_t _) (fun hc14 => ?_) ?_)
  ·
   have hc14_ := of_decide_eq_true hc14
   refine r_fieldAddr rfl ?_
   exact ⟨rfl, rfl⟩
  refine WL_some (og_if (s := .bool (decide (size = 0))) (b := true) (v := .slice ak kids.length ck) rfl (wgb_t _) (fun hc15 => ?_) ?_)
  ·
   have hc15_ := of_decide_eq_true hc15
   refine r_load (v := .slice ak kids.length ck) (gvt hc15) hc4 rfl ?_
   exact ⟨rfl, rfl⟩
  refine WL_some (og_if (s := .bool (decide (size = 0))) (b := true) (v := .int .i64 (kids.length : Int)) rfl (wgb_t _) (fun hc16 => ?_) ?_)
  ·
   have hc16_ := of_decide_eq_true hc16
   refine r_len rfl rfl (gvt hc16) ?_
   exact ⟨rfl, rfl⟩
  refine WL_some (og_if (s := .bool (decide (size = 0))) (b := true) (v := .int .i64 (((words.length : Int) + (bytes.length : Int)) + (kids.length : Int))) rfl (wgb_t _) (fun hc17 => ?_) ?_)
  ·
   have hc17_ := of_decide_eq_true hc17
   refine r_add (gvt hc17) (gvt hc17) ?_ ?_; constructor <;> omega
   exact ⟨rfl, rfl⟩
  refine WL_some (og_if (s := .bool (decide (size = 0))) (b := true) (v := .bool (decide ((((words.length : Int) + (bytes.length : Int)) + (kids.length : Int)) = 0))) rfl (wgb_t _) (fun hc18 => ?_) ?_)
  ·
   have hc18_ := of_decide_eq_true hc18
   refine r_eql (gvt hc18) rfl ?_
   exact ⟨rfl, rfl⟩
  refine stp (r_and2 rfl rfl rfl ?_)
  refine stp (r_assign_bool rfl ?_)
  refine WL_nil ?_
  refine W_ret ?_
  refine ret1 (res_tmp (v := .bool ((decide (size = 0)) && (decide ((((words.length : Int) + (bytes.length : Int)) + (kids.length : Int)) = 0)))) rfl) ⟨?_, G⟩
  by_cases hs0 : size = 0 <;> by_cases hz : (words.length : Int) + bytes.length + kids.length = 0
  ·have hk := own_kids_nil hz; subst hk; simp [Nd.right, Nd.rights, Nd.own, h1, hs0]
  ·simp only [Nd.right, Nd.own, h1, hs0, hz, if_true, decide_true, decide_false, Bool.and_false, Bool.false_and]
  ·simp [Nd.right, Nd.own, h1, hs0]
  ·simp [Nd.right, Nd.own, h1, hs0]
 ·-- false
  replace h1 := of_decide_eq_false h1
  refine W_skip ?_
  refine W_seq (W_region rfl ?_)
  refine stp (r_fieldAddr rfl ?_)
  refine stp (r_load (v := .slice aw words.length cw) rfl hc4 rfl ?_)
  refine stp (r_len rfl rfl rfl ?_)
  refine stp (r_assign_int rfl ?_)
  refine WL_nil ?_
  refine W_seq (W_region rfl ?_)
  refine stp (r_fieldAddr rfl ?_)
  refine stp (r_load (v := .slice ab bytes.length cb) rfl hc4 rfl ?_)
  refine stp (r_len rfl rfl rfl ?_)
  refine stp (r_assign_int rfl ?_)
  refine WL_nil ?_
  refine W_seq (W_region rfl ?_)
  refine stp (r_fieldAddr rfl ?_)
  refine stp (r_load (v := .slice ak kids.length ck) rfl hc4 rfl ?_)
  refine stp (r_len rfl rfl rfl ?_)
  refine stp (r_assign_int rfl ?_)
  refine WL_nil ?_
  refine W_cut2 (fun e_ w_ => Fr [(1, .int .i64 (left : Int)), (2, .pointer (some ⟨b1, 0, none⟩)), (4, .bool false), (7, .int .i64 (kids.length : Int)), (8, .bool ((Nd.mk kind size words bytes kids).own))] e_ ∧ (w_.heap[b1]? = some (.cells #[.int .i64 kind, .int .i64 size, .slice aw words.length cw, .slice ab bytes.length cb, .slice ak kids.length ck] 37 (0, 0))) ∧ Grow w w_) ?_ ?_
  ·-- the parts
   refine W_region rfl ?_
   refine stp (r_fieldAddr rfl ?_)
   refine stp (r_load (v := .int .i64 kind) rfl hc4 rfl ?_)
   refine stp (r_eql rfl rfl ?_)
   refine stp (r_move_bool rfl ?_)
   refine WL_some (og_if (s := .bool (decide (kind = 1))) (b := true) (v := .pointer (some ⟨b1, 1, none⟩)) rfl (wgb_t _) (fun hc19 => ?_) ?_)
   ·
    have hc19_ := of_decide_eq_true hc19
    refine r_fieldAddr rfl ?_
    exact ⟨rfl, rfl⟩
   refine WL_some (og_if (s := .bool (decide (kind = 1))) (b := true) (v := .int .i64 size) rfl (wgb_t _) (fun hc20 => ?_) ?_)
   ·
    have hc20_ := of_decide_eq_true hc20
    refine r_load (v := .int .i64 size) (gvt hc20) hc4 rfl ?_
    exact ⟨rfl, rfl⟩
   refine WL_some (og_if (s := .bool (decide (kind = 1))) (b := true) (v := .bool (decide (size = 0))) rfl (wgb_t _) (fun hc21 => ?_) ?_)
   ·
    have hc21_ := of_decide_eq_true hc21
    refine r_eql (gvt hc21) rfl ?_
    exact ⟨rfl, rfl⟩
   refine stp (r_and2 rfl rfl rfl ?_)
   refine stp (r_move_bool rfl ?_)
   refine WL_some (og_if (s := .bool ((decide (kind = 1)) && (decide (size = 0)))) (b := true) (v := .int .i64 (words.length : Int)) rfl (wgb_t _) (fun hc22 => ?_) ?_)
   ·
    obtain ⟨hc22a, hc22b⟩ := and_t hc22
    have hc22a_ := of_decide_eq_true hc22a
    have hc22b_ := of_decide_eq_true hc22b
    refine r_move_int rfl ?_
    exact ⟨rfl, rfl⟩
   refine WL_some (og_if (s := .bool ((decide (kind = 1)) && (decide (size = 0)))) (b := true) (v := .bool (decide ((words.length : Int) ≤ 100))) rfl (wgb_t _) (fun hc23 => ?_) ?_)
   ·
    obtain ⟨hc23a, hc23b⟩ := and_t hc23
    have hc23a_ := of_decide_eq_true hc23a
    have hc23b_ := of_decide_eq_true hc23b
    refine r_leq (gvt hc23) rfl ?_
    exact ⟨rfl, rfl⟩
   refine stp (r_and2 rfl rfl rfl ?_)
   refine stp (r_move_bool rfl ?_)
   refine WL_some (og_if (s := .bool (((decide (kind = 1)) && (decide (size = 0))) && (decide ((words.length : Int) ≤ 100)))) (b := true) (v := .int .i64 (bytes.length : Int)) rfl (wgb_t _) (fun hc24 => ?_) ?_)
   ·
    obtain ⟨hc24a, hc24b⟩ := and_t hc24
    obtain ⟨hc24aa, hc24ab⟩ := and_t hc24a
    have hc24aa_ := of_decide_eq_true hc24aa
    have hc24ab_ := of_decide_eq_true hc24ab
    have hc24b_ := of_decide_eq_true hc24b
    refine r_move_int rfl ?_
    exact ⟨rfl, rfl⟩
   refine WL_some (og_if (s := .bool (((decide (kind = 1)) && (decide (size = 0))) && (decide ((words.length : Int) ≤ 100)))) (b := true) (v := .bool (decide ((bytes.length : Int) = 0))) rfl (wgb_t _) (fun hc25 => ?_) ?_)
   ·
    obtain ⟨hc25a, hc25b⟩ := and_t hc25
    obtain ⟨hc25aa, hc25ab⟩ := and_t hc25a
    have hc25aa_ := of_decide_eq_true hc25aa
    have hc25ab_ := of_decide_eq_true hc25ab
    have hc25b_ := of_decide_eq_true hc25b
    refine r_eql (gvt hc25) rfl ?_
    exact ⟨rfl, rfl⟩
   refine stp (r_and2 rfl rfl rfl ?_)
   refine stp (r_move_bool rfl ?_)
   refine WL_some (og_if (s := .bool ((((decide (kind = 1)) && (decide (size = 0))) && (decide ((words.length : Int) ≤ 100))) && (decide ((bytes.length : Int) = 0)))) (b := true) (v := .int .i64 (kids.length : Int)) rfl (wgb_t _) (fun hc26 => ?_) ?_)
   ·
    obtain ⟨hc26a, hc26b⟩ := and_t hc26
    obtain ⟨hc26aa, hc26ab⟩ := and_t hc26a
    obtain ⟨hc26aaa, hc26aab⟩ := and_t hc26aa
    have hc26aaa_ := of_decide_eq_true hc26aaa
    have hc26aab_ := of_decide_eq_true hc26aab
    have hc26ab_ := of_decide_eq_true hc26ab
    have hc26b_ := of_decide_eq_true hc26b
    refine r_move_int rfl ?_
    exact ⟨rfl, rfl⟩
   refine WL_some (og_if (s := .bool ((((decide (kind = 1)) && (decide (size = 0))) && (decide ((words.length : Int) ≤ 100))) && (decide ((bytes.length : Int) = 0)))) (b := true) (v := .bool (decide ((kids.length : Int) ≤ 100))) rfl (wgb_t _) (fun hc27 => ?_) ?_)
   ·
    obtain ⟨hc27a, hc27b⟩ := and_t hc27
    obtain ⟨hc27aa, hc27ab⟩ := and_t hc27a
    obtain ⟨hc27aaa, hc27aab⟩ := and_t hc27aa
    have hc27aaa_ := of_decide_eq_true hc27aaa
    have hc27aab_ := of_decide_eq_true hc27aab
    have hc27ab_ := of_decide_eq_true hc27ab
    have hc27b_ := of_decide_eq_true hc27b
    refine r_leq (gvt hc27) rfl ?_
    exact ⟨rfl, rfl⟩
   refine stp (r_and2 rfl rfl rfl ?_)
   refine stp (r_assign_bool rfl ?_)
   refine WL_nil ?_
   refine W_seq (W_region rfl ?_)
   refine stp (r_fieldAddr rfl ?_)
   refine stp (r_load (v := .int .i64 kind) rfl hc4 rfl ?_)
   refine stp (r_eql rfl rfl ?_)
   refine WL_nil ?_
   refine W_cond2 (b := (decide (kind = 2))) rfl (fun h2 => ?_) (fun h2 => ?_)
   ·-- true
    replace h2 := of_decide_eq_true h2
    refine W_region rfl ?_
    refine stp (r_fieldAddr rfl ?_)
    refine stp (r_load (v := .int .i64 size) rfl hc4 rfl ?_)
    refine stp (r_eql rfl rfl ?_)
    refine stp (r_move_bool rfl ?_)
    refine WL_some (og_if (s := .bool (decide (size = 2))) (b := true) (v := .int .i64 (words.length : Int)) rfl (wgb_t _) (fun hc28 => ?_) ?_)
    ·
     have hc28_ := of_decide_eq_true hc28
     refine r_move_int rfl ?_
     exact ⟨rfl, rfl⟩
    refine WL_some (og_if (s := .bool (decide (size = 2))) (b := true) (v := .bool (decide ((words.length : Int) = 0))) rfl (wgb_t _) (fun hc29 => ?_) ?_)
    ·
     have hc29_ := of_decide_eq_true hc29
     refine r_eql (gvt hc29) rfl ?_
     exact ⟨rfl, rfl⟩
    refine stp (r_and2 rfl rfl rfl ?_)
    refine stp (r_move_bool rfl ?_)
    refine WL_some (og_if (s := .bool ((decide (size = 2)) && (decide ((words.length : Int) = 0)))) (b := true) (v := .int .i64 (kids.length : Int)) rfl (wgb_t _) (fun hc30 => ?_) ?_)
    ·
     obtain ⟨hc30a, hc30b⟩ := and_t hc30
     have hc30a_ := of_decide_eq_true hc30a
     have hc30b_ := of_decide_eq_true hc30b
     refine r_move_int rfl ?_
     exact ⟨rfl, rfl⟩
    refine WL_some (og_if (s := .bool ((decide (size = 2)) && (decide ((words.length : Int) = 0)))) (b := true) (v := .bool (decide ((kids.length : Int) = 0))) rfl (wgb_t _) (fun hc31 => ?_) ?_)
    ·
     obtain ⟨hc31a, hc31b⟩ := and_t hc31
     have hc31a_ := of_decide_eq_true hc31a
     have hc31b_ := of_decide_eq_true hc31b
     refine r_eql (gvt hc31) rfl ?_
     exact ⟨rfl, rfl⟩
    refine stp (r_and2 rfl rfl rfl ?_)
    refine stp (r_move_bool rfl ?_)
    refine WL_some (og_if (s := .bool (((decide (size = 2)) && (decide ((words.length : Int) = 0))) && (decide ((kids.length : Int) = 0)))) (b := true) (v := .int .i64 (bytes.length : Int)) rfl (wgb_t _) (fun hc32 => ?_) ?_)
    ·
     obtain ⟨hc32a, hc32b⟩ := and_t hc32
     obtain ⟨hc32aa, hc32ab⟩ := and_t hc32a
     have hc32aa_ := of_decide_eq_true hc32aa
     have hc32ab_ := of_decide_eq_true hc32ab
     have hc32b_ := of_decide_eq_true hc32b
     refine r_move_int rfl ?_
     exact ⟨rfl, rfl⟩
    refine WL_some (og_if (s := .bool (((decide (size = 2)) && (decide ((words.length : Int) = 0))) && (decide ((kids.length : Int) = 0)))) (b := true) (v := .bool (decide ((bytes.length : Int) ≤ 4096))) rfl (wgb_t _) (fun hc33 => ?_) ?_)
    ·
     obtain ⟨hc33a, hc33b⟩ := and_t hc33
     obtain ⟨hc33aa, hc33ab⟩ := and_t hc33a
     have hc33aa_ := of_decide_eq_true hc33aa
     have hc33ab_ := of_decide_eq_true hc33ab
     have hc33b_ := of_decide_eq_true hc33b
     refine r_leq (gvt hc33) rfl ?_
     exact ⟨rfl, rfl⟩
    refine stp (r_and2 rfl rfl rfl ?_)
    refine stp (r_move_bool rfl ?_)
    refine WL_some (og_if (s := .bool ((((decide (size = 2)) && (decide ((words.length : Int) = 0))) && (decide ((kids.length : Int) = 0))) && (decide ((bytes.length : Int) ≤ 4096)))) (b := false) (v := .pointer (some ⟨b1, 1, none⟩)) rfl (wgb_f _) (fun hc34 => ?_) ?_)
    ·
     have hc34_ := hc34
     try simp only [Bool.and_eq_true, Bool.or_eq_true, Bool.not_eq_true', Bool.and_eq_false_iff, Bool.or_eq_false_iff, Bool.not_eq_false', decide_eq_true_eq, decide_eq_false_iff_not, Bool.not_true, Bool.not_false, Bool.not_eq_eq_eq_not, Bool.or_false, Bool.and_true, Bool.or_true, Bool.and_false, Bool.false_or, Bool.true_and, Bool.true_or, Bool.false_and, Bool.false_eq_true, Bool.true_eq_false] at hc34_
     refine r_fieldAddr rfl ?_
     exact ⟨rfl, rfl⟩
    refine WL_some (og_if (s := .bool ((((decide (size = 2)) && (decide ((words.length : Int) = 0))) && (decide ((kids.length : Int) = 0))) && (decide ((bytes.length : Int) ≤ 4096)))) (b := false) (v := .int .i64 size) rfl (wgb_f _) (fun hc35 => ?_) ?_)
    ·
     have hc35_ := hc35
     try simp only [Bool.and_eq_true, Bool.or_eq_true, Bool.not_eq_true', Bool.and_eq_false_iff, Bool.or_eq_false_iff, Bool.not_eq_false', decide_eq_true_eq, decide_eq_false_iff_not, Bool.not_true, Bool.not_false, Bool.not_eq_eq_eq_not, Bool.or_false, Bool.and_true, Bool.or_true, Bool.and_false, Bool.false_or, Bool.true_and, Bool.true_or, Bool.false_and, Bool.false_eq_true, Bool.true_eq_false] at hc35_
     refine r_load (v := .int .i64 size) (gvt hc35) hc4 rfl ?_
     exact ⟨rfl, rfl⟩
    refine WL_some (og_if (s := .bool ((((decide (size = 2)) && (decide ((words.length : Int) = 0))) && (decide ((kids.length : Int) = 0))) && (decide ((bytes.length : Int) ≤ 4096)))) (b := false) (v := .bool (decide (size = 5))) rfl (wgb_f _) (fun hc36 => ?_) ?_)
    ·
     have hc36_ := hc36
     try simp only [Bool.and_eq_true, Bool.or_eq_true, Bool.not_eq_true', Bool.and_eq_false_iff, Bool.or_eq_false_iff, Bool.not_eq_false', decide_eq_true_eq, decide_eq_false_iff_not, Bool.not_true, Bool.not_false, Bool.not_eq_eq_eq_not, Bool.or_false, Bool.and_true, Bool.or_true, Bool.and_false, Bool.false_or, Bool.true_and, Bool.true_or, Bool.false_and, Bool.false_eq_true, Bool.true_eq_false] at hc36_
     refine r_eql (gvt hc36) rfl ?_
     exact ⟨rfl, rfl⟩
    refine WL_some (og_if (s := .bool ((((decide (size = 2)) && (decide ((words.length : Int) = 0))) && (decide ((kids.length : Int) = 0))) && (decide ((bytes.length : Int) ≤ 4096)))) (b := false) (v := .bool (decide (size = 5))) rfl (wgb_f _) (fun hc37 => ?_) ?_)
    ·
     have hc37_ := hc37
     try simp only [Bool.and_eq_true, Bool.or_eq_true, Bool.not_eq_true', Bool.and_eq_false_iff, Bool.or_eq_false_iff, Bool.not_eq_false', decide_eq_true_eq, decide_eq_false_iff_not, Bool.not_true, Bool.not_false, Bool.not_eq_eq_eq_not, Bool.or_false, Bool.and_true, Bool.or_true, Bool.and_false, Bool.false_or, Bool.true_and, Bool.true_or, Bool.false_and, Bool.false_eq_true, Bool.true_eq_false] at hc37_
     refine r_move (v := .bool (decide (size = 5))) (gvt hc37) ?_
     exact ⟨rfl, rfl⟩
    refine WL_some (og_if (s := gv (!((((decide (size = 2)) && (decide ((words.length : Int) = 0))) && (decide ((kids.length : Int) = 0))) && (decide ((bytes.length : Int) ≤ 4096)))) (.bool (decide (size = 5)))) (b := true) (v := .int .i64 (bytes.length : Int)) rfl (wgb_gt _ _) (fun hc38 => ?_) ?_)
    ·
     obtain ⟨hc38a, hc38b⟩ := and_t hc38
     have hc38a_ := hc38a
     try simp only [Bool.and_eq_true, Bool.or_eq_true, Bool.not_eq_true', Bool.and_eq_false_iff, Bool.or_eq_false_iff, Bool.not_eq_false', decide_eq_true_eq, decide_eq_false_iff_not, Bool.not_true, Bool.not_false, Bool.not_eq_eq_eq_not, Bool.or_false, Bool.and_true, Bool.or_true, Bool.and_false, Bool.false_or, Bool.true_and, Bool.true_or, Bool.false_and, Bool.false_eq_true, Bool.true_eq_false] at hc38a_
     have hc38b_ := of_decide_eq_true hc38b
     refine r_move_int rfl ?_
     exact ⟨rfl, rfl⟩
    refine WL_some (og_if (s := gv (!((((decide (size = 2)) && (decide ((words.length : Int) = 0))) && (decide ((kids.length : Int) = 0))) && (decide ((bytes.length : Int) ≤ 4096)))) (.bool (decide (size = 5)))) (b := true) (v := .bool (decide ((bytes.length : Int) = 0))) rfl (wgb_gt _ _) (fun hc39 => ?_) ?_)
    ·
     obtain ⟨hc39a, hc39b⟩ := and_t hc39
     have hc39a_ := hc39a
     try simp only [Bool.and_eq_true, Bool.or_eq_true, Bool.not_eq_true', Bool.and_eq_false_iff, Bool.or_eq_false_iff, Bool.not_eq_false', decide_eq_true_eq, decide_eq_false_iff_not, Bool.not_true, Bool.not_false, Bool.not_eq_eq_eq_not, Bool.or_false, Bool.and_true, Bool.or_true, Bool.and_false, Bool.false_or, Bool.true_and, Bool.true_or, Bool.false_and, Bool.false_eq_true, Bool.true_eq_false] at hc39a_
     have hc39b_ := of_decide_eq_true hc39b
     refine r_eql (gvt hc39) rfl ?_
     exact ⟨rfl, rfl⟩
    refine WL_some (og_if (s := .bool ((((decide (size = 2)) && (decide ((words.length : Int) = 0))) && (decide ((kids.length : Int) = 0))) && (decide ((bytes.length : Int) ≤ 4096)))) (b := false) (v := .bool ((decide (size = 5)) && (decide ((bytes.length : Int) = 0)))) rfl (wgb_f _) (fun hc40 => ?_) ?_)
    ·
     have hc40_ := hc40
     try simp only [Bool.and_eq_true, Bool.or_eq_true, Bool.not_eq_true', Bool.and_eq_false_iff, Bool.or_eq_false_iff, Bool.not_eq_false', decide_eq_true_eq, decide_eq_false_iff_not, Bool.not_true, Bool.not_false, Bool.not_eq_eq_eq_not, Bool.or_false, Bool.and_true, Bool.or_true, Bool.and_false, Bool.false_or, Bool.true_and, Bool.true_or, Bool.false_and, Bool.false_eq_true, Bool.true_eq_false] at hc40_
     refine r_and3 hc40 (gvt hc40) rfl rfl ?_
     exact ⟨rfl, rfl⟩
    refine WL_some (og_if (s := .bool ((((decide (size = 2)) && (decide ((words.length : Int) = 0))) && (decide ((kids.length : Int) = 0))) && (decide ((bytes.length : Int) ≤ 4096)))) (b := false) (v := .bool ((decide (size = 5)) && (decide ((bytes.length : Int) = 0)))) rfl (wgb_f _) (fun hc41 => ?_) ?_)
    ·
     have hc41_ := hc41
     try simp only [Bool.and_eq_true, Bool.or_eq_true, Bool.not_eq_true', Bool.and_eq_false_iff, Bool.or_eq_false_iff, Bool.not_eq_false', decide_eq_true_eq, decide_eq_false_iff_not, Bool.not_true, Bool.not_false, Bool.not_eq_eq_eq_not, Bool.or_false, Bool.and_true, Bool.or_true, Bool.and_false, Bool.false_or, Bool.true_and, Bool.true_or, Bool.false_and, Bool.false_eq_true, Bool.true_eq_false] at hc41_
     refine r_move (v := .bool ((decide (size = 5)) && (decide ((bytes.length : Int) = 0)))) (gvt hc41) ?_
     exact ⟨rfl, rfl⟩
    refine WL_some (og_if (s := gv (!((((decide (size = 2)) && (decide ((words.length : Int) = 0))) && (decide ((kids.length : Int) = 0))) && (decide ((bytes.length : Int) ≤ 4096)))) (.bool ((decide (size = 5)) && (decide ((bytes.length : Int) = 0))))) (b := true) (v := .int .i64 (kids.length : Int)) rfl (wgb_gt _ _) (fun hc42 => ?_) ?_)
    ·
     obtain ⟨hc42a, hc42b⟩ := and_t hc42
     have hc42a_ := hc42a
     try simp only [Bool.and_eq_true, Bool.or_eq_true, Bool.not_eq_true', Bool.and_eq_false_iff, Bool.or_eq_false_iff, Bool.not_eq_false', decide_eq_true_eq, decide_eq_false_iff_not, Bool.not_true, Bool.not_false, Bool.not_eq_eq_eq_not, Bool.or_false, Bool.and_true, Bool.or_true, Bool.and_false, Bool.false_or, Bool.true_and, Bool.true_or, Bool.false_and, Bool.false_eq_true, Bool.true_eq_false] at hc42a_
     obtain ⟨hc42ba, hc42bb⟩ := and_t hc42b
     have hc42ba_ := of_decide_eq_true hc42ba
     have hc42bb_ := of_decide_eq_true hc42bb
     refine r_move_int rfl ?_
     exact ⟨rfl, rfl⟩
    refine WL_some (og_if (s := gv (!((((decide (size = 2)) && (decide ((words.length : Int) = 0))) && (decide ((kids.length : Int) = 0))) && (decide ((bytes.length : Int) ≤ 4096)))) (.bool ((decide (size = 5)) && (decide ((bytes.length : Int) = 0))))) (b := true) (v := .bool (decide ((kids.length : Int) = 0))) rfl (wgb_gt _ _) (fun hc43 => ?_) ?_)
    ·
     obtain ⟨hc43a, hc43b⟩ := and_t hc43
     have hc43a_ := hc43a
     try simp only [Bool.and_eq_true, Bool.or_eq_true, Bool.not_eq_true', Bool.and_eq_false_iff, Bool.or_eq_false_iff, Bool.not_eq_false', decide_eq_true_eq, decide_eq_false_iff_not, Bool.not_true, Bool.not_false, Bool.not_eq_eq_eq_not, Bool.or_false, Bool.and_true, Bool.or_true, Bool.and_false, Bool.false_or, Bool.true_and, Bool.true_or, Bool.false_and, Bool.false_eq_true, Bool.true_eq_false] at hc43a_
     obtain ⟨hc43ba, hc43bb⟩ := and_t hc43b
     have hc43ba_ := of_decide_eq_true hc43ba
     have hc43bb_ := of_decide_eq_true hc43bb
     refine r_eql (gvt hc43) rfl ?_
     exact ⟨rfl, rfl⟩
    refine WL_some (og_if (s := .bool ((((decide (size = 2)) && (decide ((words.length : Int) = 0))) && (decide ((kids.length : Int) = 0))) && (decide ((bytes.length : Int) ≤ 4096)))) (b := false) (v := .bool (((decide (size = 5)) && (decide ((bytes.length : Int) = 0))) && (decide ((kids.length : Int) = 0)))) rfl (wgb_f _) (fun hc44 => ?_) ?_)
    ·
     have hc44_ := hc44
     try simp only [Bool.and_eq_true, Bool.or_eq_true, Bool.not_eq_true', Bool.and_eq_false_iff, Bool.or_eq_false_iff, Bool.not_eq_false', decide_eq_true_eq, decide_eq_false_iff_not, Bool.not_true, Bool.not_false, Bool.not_eq_eq_eq_not, Bool.or_false, Bool.and_true, Bool.or_true, Bool.and_false, Bool.false_or, Bool.true_and, Bool.true_or, Bool.false_and, Bool.false_eq_true, Bool.true_eq_false] at hc44_
     refine r_and3 hc44 (gvt hc44) rfl rfl ?_
     exact ⟨rfl, rfl⟩
    refine WL_some (og_if (s := .bool ((((decide (size = 2)) && (decide ((words.length : Int) = 0))) && (decide ((kids.length : Int) = 0))) && (decide ((bytes.length : Int) ≤ 4096)))) (b := false) (v := .bool (((decide (size = 5)) && (decide ((bytes.length : Int) = 0))) && (decide ((kids.length : Int) = 0)))) rfl (wgb_f _) (fun hc45 => ?_) ?_)
    ·
     have hc45_ := hc45
     try simp only [Bool.and_eq_true, Bool.or_eq_true, Bool.not_eq_true', Bool.and_eq_false_iff, Bool.or_eq_false_iff, Bool.not_eq_false', decide_eq_true_eq, decide_eq_false_iff_not, Bool.not_true, Bool.not_false, Bool.not_eq_eq_eq_not, Bool.or_false, Bool.and_true, Bool.or_true, Bool.and_false, Bool.false_or, Bool.true_and, Bool.true_or, Bool.false_and, Bool.false_eq_true, Bool.true_eq_false] at hc45_
     refine r_move (v := .bool (((decide (size = 5)) && (decide ((bytes.length : Int) = 0))) && (decide ((kids.length : Int) = 0)))) (gvt hc45) ?_
     exact ⟨rfl, rfl⟩
    refine WL_some (og_if (s := gv (!((((decide (size = 2)) && (decide ((words.length : Int) = 0))) && (decide ((kids.length : Int) = 0))) && (decide ((bytes.length : Int) ≤ 4096)))) (.bool (((decide (size = 5)) && (decide ((bytes.length : Int) = 0))) && (decide ((kids.length : Int) = 0))))) (b := true) (v := .int .i64 (words.length : Int)) rfl (wgb_gt _ _) (fun hc46 => ?_) ?_)
    ·
     obtain ⟨hc46a, hc46b⟩ := and_t hc46
     have hc46a_ := hc46a
     try simp only [Bool.and_eq_true, Bool.or_eq_true, Bool.not_eq_true', Bool.and_eq_false_iff, Bool.or_eq_false_iff, Bool.not_eq_false', decide_eq_true_eq, decide_eq_false_iff_not, Bool.not_true, Bool.not_false, Bool.not_eq_eq_eq_not, Bool.or_false, Bool.and_true, Bool.or_true, Bool.and_false, Bool.false_or, Bool.true_and, Bool.true_or, Bool.false_and, Bool.false_eq_true, Bool.true_eq_false] at hc46a_
     obtain ⟨hc46ba, hc46bb⟩ := and_t hc46b
     obtain ⟨hc46baa, hc46bab⟩ := and_t hc46ba
     have hc46baa_ := of_decide_eq_true hc46baa
     have hc46bab_ := of_decide_eq_true hc46bab
     have hc46bb_ := of_decide_eq_true hc46bb
     refine r_move_int rfl ?_
     exact ⟨rfl, rfl⟩
    refine WL_some (og_if (s := gv (!((((decide (size = 2)) && (decide ((words.length : Int) = 0))) && (decide ((kids.length : Int) = 0))) && (decide ((bytes.length : Int) ≤ 4096)))) (.bool (((decide (size = 5)) && (decide ((bytes.length : Int) = 0))) && (decide ((kids.length : Int) = 0))))) (b := true) (v := .bool (decide ((words.length : Int) ≤ 4096))) rfl (wgb_gt _ _) (fun hc47 => ?_) ?_)
    ·
     obtain ⟨hc47a, hc47b⟩ := and_t hc47
     have hc47a_ := hc47a
     try simp only [Bool.and_eq_true, Bool.or_eq_true, Bool.not_eq_true', Bool.and_eq_false_iff, Bool.or_eq_false_iff, Bool.not_eq_false', decide_eq_true_eq, decide_eq_false_iff_not, Bool.not_true, Bool.not_false, Bool.not_eq_eq_eq_not, Bool.or_false, Bool.and_true, Bool.or_true, Bool.and_false, Bool.false_or, Bool.true_and, Bool.true_or, Bool.false_and, Bool.false_eq_true, Bool.true_eq_false] at hc47a_
     obtain ⟨hc47ba, hc47bb⟩ := and_t hc47b
     obtain ⟨hc47baa, hc47bab⟩ := and_t hc47ba
     have hc47baa_ := of_decide_eq_true hc47baa
     have hc47bab_ := of_decide_eq_true hc47bab
     have hc47bb_ := of_decide_eq_true hc47bb
     refine r_leq (gvt hc47) rfl ?_
     exact ⟨rfl, rfl⟩
    refine WL_some (og_if (s := .bool ((((decide (size = 2)) && (decide ((words.length : Int) = 0))) && (decide ((kids.length : Int) = 0))) && (decide ((bytes.length : Int) ≤ 4096)))) (b := false) (v := .bool ((((decide (size = 5)) && (decide ((bytes.length : Int) = 0))) && (decide ((kids.length : Int) = 0))) && (decide ((words.length : Int) ≤ 4096)))) rfl (wgb_f _) (fun hc48 => ?_) ?_)
    ·
     have hc48_ := hc48
     try simp only [Bool.and_eq_true, Bool.or_eq_true, Bool.not_eq_true', Bool.and_eq_false_iff, Bool.or_eq_false_iff, Bool.not_eq_false', decide_eq_true_eq, decide_eq_false_iff_not, Bool.not_true, Bool.not_false, Bool.not_eq_eq_eq_not, Bool.or_false, Bool.and_true, Bool.or_true, Bool.and_false, Bool.false_or, Bool.true_and, Bool.true_or, Bool.false_and, Bool.false_eq_true, Bool.true_eq_false] at hc48_
     refine r_and3 hc48 (gvt hc48) rfl rfl ?_
     exact ⟨rfl, rfl⟩
    refine stp (r_or2 rfl rfl rfl ?_)
    refine stp (r_move_bool rfl ?_)
    refine WL_some (og_if (s := .bool (((((decide (size = 2)) && (decide ((words.length : Int) = 0))) && (decide ((kids.length : Int) = 0))) && (decide ((bytes.length : Int) ≤ 4096))) || ((((decide (size = 5)) && (decide ((bytes.length : Int) = 0))) && (decide ((kids.length : Int) = 0))) && (decide ((words.length : Int) ≤ 4096))))) (b := false) (v := .pointer (some ⟨b1, 1, none⟩)) rfl (wgb_f _) (fun hc49 => ?_) ?_)
    ·
     have hc49_ := hc49
     try simp only [Bool.and_eq_true, Bool.or_eq_true, Bool.not_eq_true', Bool.and_eq_false_iff, Bool.or_eq_false_iff, Bool.not_eq_false', decide_eq_true_eq, decide_eq_false_iff_not, Bool.not_true, Bool.not_false, Bool.not_eq_eq_eq_not, Bool.or_false, Bool.and_true, Bool.or_true, Bool.and_false, Bool.false_or, Bool.true_and, Bool.true_or, Bool.false_and, Bool.false_eq_true, Bool.true_eq_false] at hc49_
     refine r_fieldAddr rfl ?_
     exact ⟨rfl, rfl⟩
    refine WL_some (og_if (s := .bool (((((decide (size = 2)) && (decide ((words.length : Int) = 0))) && (decide ((kids.length : Int) = 0))) && (decide ((bytes.length : Int) ≤ 4096))) || ((((decide (size = 5)) && (decide ((bytes.length : Int) = 0))) && (decide ((kids.length : Int) = 0))) && (decide ((words.length : Int) ≤ 4096))))) (b := false) (v := .int .i64 size) rfl (wgb_f _) (fun hc50 => ?_) ?_)
    ·
     have hc50_ := hc50
     try simp only [Bool.and_eq_true, Bool.or_eq_true, Bool.not_eq_true', Bool.and_eq_false_iff, Bool.or_eq_false_iff, Bool.not_eq_false', decide_eq_true_eq, decide_eq_false_iff_not, Bool.not_true, Bool.not_false, Bool.not_eq_eq_eq_not, Bool.or_false, Bool.and_true, Bool.or_true, Bool.and_false, Bool.false_or, Bool.true_and, Bool.true_or, Bool.false_and, Bool.false_eq_true, Bool.true_eq_false] at hc50_
     refine r_load (v := .int .i64 size) (gvt hc50) hc4 rfl ?_
     exact ⟨rfl, rfl⟩
    refine WL_some (og_if (s := .bool (((((decide (size = 2)) && (decide ((words.length : Int) = 0))) && (decide ((kids.length : Int) = 0))) && (decide ((bytes.length : Int) ≤ 4096))) || ((((decide (size = 5)) && (decide ((bytes.length : Int) = 0))) && (decide ((kids.length : Int) = 0))) && (decide ((words.length : Int) ≤ 4096))))) (b := false) (v := .bool (decide (size = 6))) rfl (wgb_f _) (fun hc51 => ?_) ?_)
    ·
     have hc51_ := hc51
     try simp only [Bool.and_eq_true, Bool.or_eq_true, Bool.not_eq_true', Bool.and_eq_false_iff, Bool.or_eq_false_iff, Bool.not_eq_false', decide_eq_true_eq, decide_eq_false_iff_not, Bool.not_true, Bool.not_false, Bool.not_eq_eq_eq_not, Bool.or_false, Bool.and_true, Bool.or_true, Bool.and_false, Bool.false_or, Bool.true_and, Bool.true_or, Bool.false_and, Bool.false_eq_true, Bool.true_eq_false] at hc51_
     refine r_eql (gvt hc51) rfl ?_
     exact ⟨rfl, rfl⟩
    refine WL_some (og_if (s := .bool (((((decide (size = 2)) && (decide ((words.length : Int) = 0))) && (decide ((kids.length : Int) = 0))) && (decide ((bytes.length : Int) ≤ 4096))) || ((((decide (size = 5)) && (decide ((bytes.length : Int) = 0))) && (decide ((kids.length : Int) = 0))) && (decide ((words.length : Int) ≤ 4096))))) (b := false) (v := .bool (decide (size = 6))) rfl (wgb_f _) (fun hc52 => ?_) ?_)
    ·
     have hc52_ := hc52
     try simp only [Bool.and_eq_true, Bool.or_eq_true, Bool.not_eq_true', Bool.and_eq_false_iff, Bool.or_eq_false_iff, Bool.not_eq_false', decide_eq_true_eq, decide_eq_false_iff_not, Bool.not_true, Bool.not_false, Bool.not_eq_eq_eq_not, Bool.or_false, Bool.and_true, Bool.or_true, Bool.and_false, Bool.false_or, Bool.true_and, Bool.true_or, Bool.false_and, Bool.false_eq_true, Bool.true_eq_false] at hc52_
     refine r_move (v := .bool (decide (size = 6))) (gvt hc52) ?_
     exact ⟨rfl, rfl⟩
    refine WL_some (og_if (s := gv (!(((((decide (size = 2)) && (decide ((words.length : Int) = 0))) && (decide ((kids.length : Int) = 0))) && (decide ((bytes.length : Int) ≤ 4096))) || ((((decide (size = 5)) && (decide ((bytes.length : Int) = 0))) && (decide ((kids.length : Int) = 0))) && (decide ((words.length : Int) ≤ 4096))))) (.bool (decide (size = 6)))) (b := true) (v := .int .i64 (bytes.length : Int)) rfl (wgb_gt _ _) (fun hc53 => ?_) ?_)
    ·
     obtain ⟨hc53a, hc53b⟩ := and_t hc53
     have hc53a_ := hc53a
     try simp only [Bool.and_eq_true, Bool.or_eq_true, Bool.not_eq_true', Bool.and_eq_false_iff, Bool.or_eq_false_iff, Bool.not_eq_false', decide_eq_true_eq, decide_eq_false_iff_not, Bool.not_true, Bool.not_false, Bool.not_eq_eq_eq_not, Bool.or_false, Bool.and_true, Bool.or_true, Bool.and_false, Bool.false_or, Bool.true_and, Bool.true_or, Bool.false_and, Bool.false_eq_true, Bool.true_eq_false] at hc53a_
     have hc53b_ := of_decide_eq_true hc53b
     refine r_move_int rfl ?_
     exact ⟨rfl, rfl⟩
    refine WL_some (og_if (s := gv (!(((((decide (size = 2)) && (decide ((words.length : Int) = 0))) && (decide ((kids.length : Int) = 0))) && (decide ((bytes.length : Int) ≤ 4096))) || ((((decide (size = 5)) && (decide ((bytes.length : Int) = 0))) && (decide ((kids.length : Int) = 0))) && (decide ((words.length : Int) ≤ 4096))))) (.bool (decide (size = 6)))) (b := true) (v := .bool (decide ((bytes.length : Int) = 0))) rfl (wgb_gt _ _) (fun hc54 => ?_) ?_)
    ·
     obtain ⟨hc54a, hc54b⟩ := and_t hc54
     have hc54a_ := hc54a
     try simp only [Bool.and_eq_true, Bool.or_eq_true, Bool.not_eq_true', Bool.and_eq_false_iff, Bool.or_eq_false_iff, Bool.not_eq_false', decide_eq_true_eq, decide_eq_false_iff_not, Bool.not_true, Bool.not_false, Bool.not_eq_eq_eq_not, Bool.or_false, Bool.and_true, Bool.or_true, Bool.and_false, Bool.false_or, Bool.true_and, Bool.true_or, Bool.false_and, Bool.false_eq_true, Bool.true_eq_false] at hc54a_
     have hc54b_ := of_decide_eq_true hc54b
     refine r_eql (gvt hc54) rfl ?_
     exact ⟨rfl, rfl⟩
    refine WL_some (og_if (s := .bool (((((decide (size = 2)) && (decide ((words.length : Int) = 0))) && (decide ((kids.length : Int) = 0))) && (decide ((bytes.length : Int) ≤ 4096))) || ((((decide (size = 5)) && (decide ((bytes.length : Int) = 0))) && (decide ((kids.length : Int) = 0))) && (decide ((words.length : Int) ≤ 4096))))) (b := false) (v := .bool ((decide (size = 6)) && (decide ((bytes.length : Int) = 0)))) rfl (wgb_f _) (fun hc55 => ?_) ?_)
    ·
     have hc55_ := hc55
     try simp only [Bool.and_eq_true, Bool.or_eq_true, Bool.not_eq_true', Bool.and_eq_false_iff, Bool.or_eq_false_iff, Bool.not_eq_false', decide_eq_true_eq, decide_eq_false_iff_not, Bool.not_true, Bool.not_false, Bool.not_eq_eq_eq_not, Bool.or_false, Bool.and_true, Bool.or_true, Bool.and_false, Bool.false_or, Bool.true_and, Bool.true_or, Bool.false_and, Bool.false_eq_true, Bool.true_eq_false] at hc55_
     refine r_and3 hc55 (gvt hc55) rfl rfl ?_
     exact ⟨rfl, rfl⟩
    refine WL_some (og_if (s := .bool (((((decide (size = 2)) && (decide ((words.length : Int) = 0))) && (decide ((kids.length : Int) = 0))) && (decide ((bytes.length : Int) ≤ 4096))) || ((((decide (size = 5)) && (decide ((bytes.length : Int) = 0))) && (decide ((kids.length : Int) = 0))) && (decide ((words.length : Int) ≤ 4096))))) (b := false) (v := .bool ((decide (size = 6)) && (decide ((bytes.length : Int) = 0)))) rfl (wgb_f _) (fun hc56 => ?_) ?_)
    ·
     have hc56_ := hc56
     try simp only [Bool.and_eq_true, Bool.or_eq_true, Bool.not_eq_true', Bool.and_eq_false_iff, Bool.or_eq_false_iff, Bool.not_eq_false', decide_eq_true_eq, decide_eq_false_iff_not, Bool.not_true, Bool.not_false, Bool.not_eq_eq_eq_not, Bool.or_false, Bool.and_true, Bool.or_true, Bool.and_false, Bool.false_or, Bool.true_and, Bool.true_or, Bool.false_and, Bool.false_eq_true, Bool.true_eq_false] at hc56_
     refine r_move (v := .bool ((decide (size = 6)) && (decide ((bytes.length : Int) = 0)))) (gvt hc56) ?_
     exact ⟨rfl, rfl⟩
    refine WL_some (og_if (s := gv (!(((((decide (size = 2)) && (decide ((words.length : Int) = 0))) && (decide ((kids.length : Int) = 0))) && (decide ((bytes.length : Int) ≤ 4096))) || ((((decide (size = 5)) && (decide ((bytes.length : Int) = 0))) && (decide ((kids.length : Int) = 0))) && (decide ((words.length : Int) ≤ 4096))))) (.bool ((decide (size = 6)) && (decide ((bytes.length : Int) = 0))))) (b := true) (v := .int .i64 (words.length : Int)) rfl (wgb_gt _ _) (fun hc57 => ?_) ?_)
    ·
     obtain ⟨hc57a, hc57b⟩ := and_t hc57
     have hc57a_ := hc57a
     try simp only [Bool.and_eq_true, Bool.or_eq_true, Bool.not_eq_true', Bool.and_eq_false_iff, Bool.or_eq_false_iff, Bool.not_eq_false', decide_eq_true_eq, decide_eq_false_iff_not, Bool.not_true, Bool.not_false, Bool.not_eq_eq_eq_not, Bool.or_false, Bool.and_true, Bool.or_true, Bool.and_false, Bool.false_or, Bool.true_and, Bool.true_or, Bool.false_and, Bool.false_eq_true, Bool.true_eq_false] at hc57a_
     obtain ⟨hc57ba, hc57bb⟩ := and_t hc57b
     have hc57ba_ := of_decide_eq_true hc57ba
     have hc57bb_ := of_decide_eq_true hc57bb
     refine r_move_int rfl ?_
     exact ⟨rfl, rfl⟩
    refine WL_some (og_if (s := gv (!(((((decide (size = 2)) && (decide ((words.length : Int) = 0))) && (decide ((kids.length : Int) = 0))) && (decide ((bytes.length : Int) ≤ 4096))) || ((((decide (size = 5)) && (decide ((bytes.length : Int) = 0))) && (decide ((kids.length : Int) = 0))) && (decide ((words.length : Int) ≤ 4096))))) (.bool ((decide (size = 6)) && (decide ((bytes.length : Int) = 0))))) (b := true) (v := .bool (decide ((words.length : Int) = 0))) rfl (wgb_gt _ _) (fun hc58 => ?_) ?_)
    ·
     obtain ⟨hc58a, hc58b⟩ := and_t hc58
     have hc58a_ := hc58a
     try simp only [Bool.and_eq_true, Bool.or_eq_true, Bool.not_eq_true', Bool.and_eq_false_iff, Bool.or_eq_false_iff, Bool.not_eq_false', decide_eq_true_eq, decide_eq_false_iff_not, Bool.not_true, Bool.not_false, Bool.not_eq_eq_eq_not, Bool.or_false, Bool.and_true, Bool.or_true, Bool.and_false, Bool.false_or, Bool.true_and, Bool.true_or, Bool.false_and, Bool.false_eq_true, Bool.true_eq_false] at hc58a_
     obtain ⟨hc58ba, hc58bb⟩ := and_t hc58b
     have hc58ba_ := of_decide_eq_true hc58ba
     have hc58bb_ := of_decide_eq_true hc58bb
     refine r_eql (gvt hc58) rfl ?_
     exact ⟨rfl, rfl⟩
    refine WL_some (og_if (s := .bool (((((decide (size = 2)) && (decide ((words.length : Int) = 0))) && (decide ((kids.length : Int) = 0))) && (decide ((bytes.length : Int) ≤ 4096))) || ((((decide (size = 5)) && (decide ((bytes.length : Int) = 0))) && (decide ((kids.length : Int) = 0))) && (decide ((words.length : Int) ≤ 4096))))) (b := false) (v := .bool (((decide (size = 6)) && (decide ((bytes.length : Int) = 0))) && (decide ((words.length : Int) = 0)))) rfl (wgb_f _) (fun hc59 => ?_) ?_)
    ·
     have hc59_ := hc59
     try simp only [Bool.and_eq_true, Bool.or_eq_true, Bool.not_eq_true', Bool.and_eq_false_iff, Bool.or_eq_false_iff, Bool.not_eq_false', decide_eq_true_eq, decide_eq_false_iff_not, Bool.not_true, Bool.not_false, Bool.not_eq_eq_eq_not, Bool.or_false, Bool.and_true, Bool.or_true, Bool.and_false, Bool.false_or, Bool.true_and, Bool.true_or, Bool.false_and, Bool.false_eq_true, Bool.true_eq_false] at hc59_
     refine r_and3 hc59 (gvt hc59) rfl rfl ?_
     exact ⟨rfl, rfl⟩
    refine WL_some (og_if (s := .bool (((((decide (size = 2)) && (decide ((words.length : Int) = 0))) && (decide ((kids.length : Int) = 0))) && (decide ((bytes.length : Int) ≤ 4096))) || ((((decide (size = 5)) && (decide ((bytes.length : Int) = 0))) && (decide ((kids.length : Int) = 0))) && (decide ((words.length : Int) ≤ 4096))))) (b := false) (v := .bool (((decide (size = 6)) && (decide ((bytes.length : Int) = 0))) && (decide ((words.length : Int) = 0)))) rfl (wgb_f _) (fun hc60 => ?_) ?_)
    ·
     have hc60_ := hc60
     try simp only [Bool.and_eq_true, Bool.or_eq_true, Bool.not_eq_true', Bool.and_eq_false_iff, Bool.or_eq_false_iff, Bool.not_eq_false', decide_eq_true_eq, decide_eq_false_iff_not, Bool.not_true, Bool.not_false, Bool.not_eq_eq_eq_not, Bool.or_false, Bool.and_true, Bool.or_true, Bool.and_false, Bool.false_or, Bool.true_and, Bool.true_or, Bool.false_and, Bool.false_eq_true, Bool.true_eq_false] at hc60_
     refine r_move (v := .bool (((decide (size = 6)) && (decide ((bytes.length : Int) = 0))) && (decide ((words.length : Int) = 0)))) (gvt hc60) ?_
     exact ⟨rfl, rfl⟩
    refine WL_some (og_if (s := gv (!(((((decide (size = 2)) && (decide ((words.length : Int) = 0))) && (decide ((kids.length : Int) = 0))) && (decide ((bytes.length : Int) ≤ 4096))) || ((((decide (size = 5)) && (decide ((bytes.length : Int) = 0))) && (decide ((kids.length : Int) = 0))) && (decide ((words.length : Int) ≤ 4096))))) (.bool (((decide (size = 6)) && (decide ((bytes.length : Int) = 0))) && (decide ((words.length : Int) = 0))))) (b := true) (v := .int .i64 (kids.length : Int)) rfl (wgb_gt _ _) (fun hc61 => ?_) ?_)
    ·
     obtain ⟨hc61a, hc61b⟩ := and_t hc61
     have hc61a_ := hc61a
     try simp only [Bool.and_eq_true, Bool.or_eq_true, Bool.not_eq_true', Bool.and_eq_false_iff, Bool.or_eq_false_iff, Bool.not_eq_false', decide_eq_true_eq, decide_eq_false_iff_not, Bool.not_true, Bool.not_false, Bool.not_eq_eq_eq_not, Bool.or_false, Bool.and_true, Bool.or_true, Bool.and_false, Bool.false_or, Bool.true_and, Bool.true_or, Bool.false_and, Bool.false_eq_true, Bool.true_eq_false] at hc61a_
     obtain ⟨hc61ba, hc61bb⟩ := and_t hc61b
     obtain ⟨hc61baa, hc61bab⟩ := and_t hc61ba
     have hc61baa_ := of_decide_eq_true hc61baa
     have hc61bab_ := of_decide_eq_true hc61bab
     have hc61bb_ := of_decide_eq_true hc61bb
     refine r_move_int rfl ?_
     exact ⟨rfl, rfl⟩
    refine WL_some (og_if (s := gv (!(((((decide (size = 2)) && (decide ((words.length : Int) = 0))) && (decide ((kids.length : Int) = 0))) && (decide ((bytes.length : Int) ≤ 4096))) || ((((decide (size = 5)) && (decide ((bytes.length : Int) = 0))) && (decide ((kids.length : Int) = 0))) && (decide ((words.length : Int) ≤ 4096))))) (.bool (((decide (size = 6)) && (decide ((bytes.length : Int) = 0))) && (decide ((words.length : Int) = 0))))) (b := true) (v := .bool (decide ((kids.length : Int) ≤ 4096))) rfl (wgb_gt _ _) (fun hc62 => ?_) ?_)
    ·
     obtain ⟨hc62a, hc62b⟩ := and_t hc62
     have hc62a_ := hc62a
     try simp only [Bool.and_eq_true, Bool.or_eq_true, Bool.not_eq_true', Bool.and_eq_false_iff, Bool.or_eq_false_iff, Bool.not_eq_false', decide_eq_true_eq, decide_eq_false_iff_not, Bool.not_true, Bool.not_false, Bool.not_eq_eq_eq_not, Bool.or_false, Bool.and_true, Bool.or_true, Bool.and_false, Bool.false_or, Bool.true_and, Bool.true_or, Bool.false_and, Bool.false_eq_true, Bool.true_eq_false] at hc62a_
     obtain ⟨hc62ba, hc62bb⟩ := and_t hc62b
     obtain ⟨hc62baa, hc62bab⟩ := and_t hc62ba
     have hc62baa_ := of_decide_eq_true hc62baa
     have hc62bab_ := of_decide_eq_true hc62bab
     have hc62bb_ := of_decide_eq_true hc62bb
     refine r_leq (gvt hc62) rfl ?_
     exact ⟨rfl, rfl⟩
    refine WL_some (og_if (s := .bool (((((decide (size = 2)) && (decide ((words.length : Int) = 0))) && (decide ((kids.length : Int) = 0))) && (decide ((bytes.length : Int) ≤ 4096))) || ((((decide (size = 5)) && (decide ((bytes.length : Int) = 0))) && (decide ((kids.length : Int) = 0))) && (decide ((words.length : Int) ≤ 4096))))) (b := false) (v := .bool ((((decide (size = 6)) && (decide ((bytes.length : Int) = 0))) && (decide ((words.length : Int) = 0))) && (decide ((kids.length : Int) ≤ 4096)))) rfl (wgb_f _) (fun hc63 => ?_) ?_)
    ·
     have hc63_ := hc63
     try simp only [Bool.and_eq_true, Bool.or_eq_true, Bool.not_eq_true', Bool.and_eq_false_iff, Bool.or_eq_false_iff, Bool.not_eq_false', decide_eq_true_eq, decide_eq_false_iff_not, Bool.not_true, Bool.not_false, Bool.not_eq_eq_eq_not, Bool.or_false, Bool.and_true, Bool.or_true, Bool.and_false, Bool.false_or, Bool.true_and, Bool.true_or, Bool.false_and, Bool.false_eq_true, Bool.true_eq_false] at hc63_
     refine r_and3 hc63 (gvt hc63) rfl rfl ?_
     exact ⟨rfl, rfl⟩
    refine stp (r_or2 rfl rfl rfl ?_)
    refine stp (r_assign_bool rfl ?_)
    refine WL_nil ?_
    exact ⟨fr_of ⟨rfl, rfl, rfl, rfl, congrArg Value.bool (by first | exact ownk_two h2 | exact ownk_one h1 h2), trivial⟩, hc4, G⟩
   ·-- false
    replace h2 := of_decide_eq_false h2
    refine W_skip ?_
    exact ⟨fr_of ⟨rfl, rfl, rfl, rfl, congrArg Value.bool (by first | exact ownk_two h2 | exact ownk_one h1 h2), trivial⟩, hc4, G⟩
  ·-- behind them
   clear hc4
   clear G
   rintro e_ w64 ⟨⟨e65, rfl⟩, hc4, G⟩
   refine W_seq ?_
   refine W_seq (W_region rfl ?_)
   refine stp (r_move_bool rfl ?_)
   refine stp (r_not rfl ?_)
   refine stp (r_move_bool rfl ?_)
   refine WL_some (og_if (s := .bool (!((Nd.mk kind size words bytes kids).own))) (b := false) (v := .int .i64 (left : Int)) rfl (wgb_f _) (fun hc66 => ?_) ?_)
   ·
    have hc66_ := hc66
    try simp only [Bool.and_eq_true, Bool.or_eq_true, Bool.not_eq_true', Bool.and_eq_false_iff, Bool.or_eq_false_iff, Bool.not_eq_false', decide_eq_true_eq, decide_eq_false_iff_not, Bool.not_true, Bool.not_false, Bool.not_eq_eq_eq_not, Bool.or_false, Bool.and_true, Bool.or_true, Bool.and_false, Bool.false_or, Bool.true_and, Bool.true_or, Bool.false_and, Bool.false_eq_true, Bool.true_eq_false] at hc66_
    refine r_move_int rfl ?_
    exact ⟨rfl, rfl⟩
   refine WL_some (og_if (s := .bool (!((Nd.mk kind size words bytes kids).own))) (b := false) (v := .bool (decide ((left : Int) = 0))) rfl (wgb_f _) (fun hc67 => ?_) ?_)
   ·
    have hc67_ := hc67
    try simp only [Bool.and_eq_true, Bool.or_eq_true, Bool.not_eq_true', Bool.and_eq_false_iff, Bool.or_eq_false_iff, Bool.not_eq_false', decide_eq_true_eq, decide_eq_false_iff_not, Bool.not_true, Bool.not_false, Bool.not_eq_eq_eq_not, Bool.or_false, Bool.and_true, Bool.or_true, Bool.and_false, Bool.false_or, Bool.true_and, Bool.true_or, Bool.false_and, Bool.false_eq_true, Bool.true_eq_false] at hc67_
    refine r_eql (gvt hc67) rfl ?_
    exact ⟨rfl, rfl⟩
   refine stp (r_or2 rfl rfl rfl ?_)
   refine WL_nil ?_
   refine W_cond2 (b := ((!((Nd.mk kind size words bytes kids).own)) || (decide ((left : Int) = 0)))) rfl (fun h4 => ?_) (fun h4 => ?_)
   ·-- true
    simp only [Bool.and_eq_true, Bool.or_eq_true, Bool.not_eq_true', Bool.and_eq_false_iff, Bool.or_eq_false_iff, Bool.not_eq_false', decide_eq_true_eq, decide_eq_false_iff_not, Bool.not_true, Bool.not_false, Bool.not_eq_eq_eq_not, Bool.or_false, Bool.and_true, Bool.or_true, Bool.and_false, Bool.false_or, Bool.true_and, Bool.true_or, Bool.false_and, Bool.false_eq_true, Bool.true_eq_false] at h4
    refine W_seq (W_region rfl ?_)
    refine stp (r_assign (v := .bool false) rfl ?_)
    refine WL_nil ?_
    refine W_ret ?_
    refine ret1 (res_tmp (v := .bool false) rfl) ⟨?_, G⟩
    rcases h4 with h | h
    ·simp [Nd.right, h]
    ·simp [Nd.right, h1, show left = 0 from by omega]
   ·-- false
    simp only [Bool.and_eq_true, Bool.or_eq_true, Bool.not_eq_true', Bool.and_eq_false_iff, Bool.or_eq_false_iff, Bool.not_eq_false', decide_eq_true_eq, decide_eq_false_iff_not, Bool.not_true, Bool.not_false, Bool.not_eq_eq_eq_not, Bool.or_false, Bool.and_true, Bool.or_true, Bool.and_false, Bool.false_or, Bool.true_and, Bool.true_or, Bool.false_and, Bool.false_eq_true, Bool.true_eq_false] at h4
    refine W_skip ?_
    refine W_seq ?_
    refine W_seq (W_region rfl ?_)
    refine stp (r_assign_int rfl ?_)
    refine WL_nil ?_
    refine W_block ?_
    refine W_loop (fun m_ e_ w_ => ∃ (k : Nat), m_ = kids.length - k ∧ Fr [(1, .int .i64 (left : Int)), (2, .pointer (some ⟨b1, 0, none⟩)), (7, .int .i64 (kids.length : Int)), (9, .int .i64 (k : Int))] e_ ∧ (k ≤ kids.length) ∧ (Nd.rights (kids.take k) (left - 1) = true) ∧ (w_.heap[b1]? = some (.cells #[.int .i64 kind, .int .i64 size, .slice aw words.length cw, .slice ab bytes.length cb, .slice ak kids.length ck] 37 (0, 0))) ∧ Grow w w_) _ ⟨0, rfl, fr_of ⟨rfl, rfl, rfl, rfl, trivial⟩, by omega, by simp [Nd.rights], hc4, G⟩ ?_
    clear hc4
    clear G
    rintro m_ e_ w68 ⟨k, rfl, ⟨e69, rfl⟩, hk2, hyes, hc4, G⟩
    refine W_seq ?_
    refine W_seq (W_region rfl ?_)
    refine stp (r_move_int rfl ?_)
    refine stp (r_move_int rfl ?_)
    refine stp (r_lss rfl rfl ?_)
    refine WL_nil ?_
    refine W_cond2 (b := (decide ((k : Int) < (kids.length : Int)))) rfl (fun hlt => ?_) (fun hlt => ?_)
    ·-- true
     replace hlt := of_decide_eq_true hlt
     have hi : k < kids.length := by omega
     have hat := KidsR.at_ k kids[k] hKs (by simp [hi])
     have hsz := Nd.szs_at kids k kids[k] (by simp [hi])
     refine W_skip ?_
     refine W_seq ?_
     refine W_block ?_
     refine W_seq (W_region rfl ?_)
     refine stp (r_fieldAddr rfl ?_)
     refine stp (r_load (v := .slice ak kids.length ck) rfl hc4 rfl ?_)
     refine stp (r_move_int rfl ?_)
     refine stp (r_indexN (RK.grow G) rfl rfl ?_ ?_); omega
     refine stp (r_loadNR (RK.grow G) rfl (by decide) (by rw [RK.len]; omega) rfl ?_)
     refine stp (r_move_int rfl ?_)
     refine stp (r_sub rfl rfl ?_ ?_); constructor <;> omega
     refine stp (r_gives (v := .bool (kids[k].right (left - 1))) rfl ((by have h := ih_ _ (hat.grow G) (left := left - 1) (by omega) (by simp only [Nd.sz] at hm_; omega); rw [← show ((left : Int) - 1) = ((left - 1 : Nat) : Int) from by omega] at h; exact h)) ?_)
     intro w70 g71
     replace hc4 := g71.heap hc4
     replace G := G.tr g71
     clear g71
     refine stp (r_not rfl ?_)
     refine WL_nil ?_
     refine W_cond2 (b := (!(kids[k].right (left - 1)))) rfl (fun h7 => ?_) (fun h7 => ?_)
     ·-- true
      simp only [Bool.and_eq_true, Bool.or_eq_true, Bool.not_eq_true', Bool.and_eq_false_iff, Bool.or_eq_false_iff, Bool.not_eq_false', decide_eq_true_eq, decide_eq_false_iff_not, Bool.not_true, Bool.not_false, Bool.not_eq_eq_eq_not, Bool.or_false, Bool.and_true, Bool.or_true, Bool.and_false, Bool.false_or, Bool.true_and, Bool.true_or, Bool.false_and, Bool.false_eq_true, Bool.true_eq_false] at h7
      refine W_seq (W_region rfl ?_)
      refine stp (r_assign (v := .bool false) rfl ?_)
      refine WL_nil ?_
      refine W_ret ?_
      refine ret1 (res_tmp (v := .bool false) rfl) ⟨?_, G⟩
      have := rights_false hi h7
      simp [Nd.right, this]
     ·-- false
      simp only [Bool.and_eq_true, Bool.or_eq_true, Bool.not_eq_true', Bool.and_eq_false_iff, Bool.or_eq_false_iff, Bool.not_eq_false', decide_eq_true_eq, decide_eq_false_iff_not, Bool.not_true, Bool.not_false, Bool.not_eq_eq_eq_not, Bool.or_false, Bool.and_true, Bool.or_true, Bool.and_false, Bool.false_or, Bool.true_and, Bool.true_or, Bool.false_and, Bool.false_eq_true, Bool.true_eq_false] at h7
      refine W_skip ?_
      refine W_region rfl ?_
      refine stp (r_move_int rfl ?_)
      refine stp (r_add rfl rfl ?_ ?_); constructor <;> omega
      refine stp (r_assign_int rfl ?_)
      refine WL_nil ?_
      refine ⟨_, ?_, k + 1, rfl, fr_of ⟨rfl, rfl, rfl, rfl, trivial⟩, by omega, (by rw [List.take_add_one, List.getElem?_eq_getElem hi, rights_append, hyes]; simp [Nd.rights, h7]), hc4, G⟩
      omega
    ·-- false
     replace hlt := of_decide_eq_false hlt
     have hk2 : k = kids.length := by omega
     subst hk2
     rw [List.take_length] at hyes
     refine W_exit ?_
     refine W_seq (W_region rfl ?_)
     refine stp (r_assign (v := .bool true) rfl ?_)
     refine WL_nil ?_
     refine W_ret ?_
     refine ret1 (res_tmp (v := .bool true) rfl) ⟨?_, G⟩
     simp [Nd.right, h4, h1, hyes]
     omega

set_option maxRecDepth 100000 in
theorem rRight_calls (w : World) {c : List Value} {t : Nd} (T : NodeR w c t) : Gives Try.prog 35 #[.agg c.toArray] w (.bool (t.right 32)) := by
 have h5 := T.len
 obtain ⟨x0, x1, x2, x3, x4, rfl⟩ := five h5
 have G := Grow.rfl' w
 refine gives_of Try.func35 Try.ntmps35 Try.results35 rfl rfl ?_
 refine W_seq (W_region rfl ?_)
 refine WL_some (og rfl ?_)
 (first | refine r_box_agg rfl ?_ | refine r_box_int rfl ?_ | refine r_box_slice rfl ?_ | refine r_box rfl rfl ?_)
 intro b1 w2 hb3 hc4 g5
 have hge6 := Nat.le_trans G.size hb3
 replace G := G.tr g5
 clear g5 hb3
 refine stp (r_assign (v := .bool false) rfl ?_)
 refine WL_nil ?_
 refine W_seq (W_region rfl ?_)
 refine stp (r_loadAll rfl hc4 (by rfl) ?_)
 refine stp (r_gives (v := .bool (t.right 32)) rfl (deep_calls _ _ (T.grow G) (left := 32) (by omega) (Nat.le_refl _)) ?_)
 intro w7 g8
 replace hc4 := g8.heap hc4
 replace G := G.tr g8
 clear g8
 refine stp (r_assign_bool rfl ?_)
 refine WL_nil ?_
 refine W_ret ?_
 refine ret1 (res_tmp (v := .bool (t.right 32)) rfl) ⟨?_, G⟩
 rfl
end Go.Proofs.Ytfhfecepcnapfaa.K
