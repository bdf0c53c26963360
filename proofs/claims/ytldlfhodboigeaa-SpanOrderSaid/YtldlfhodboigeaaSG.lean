/- package span (printed by sp04.py). -/
import Derived.Test.YtldlfhodboigeaaSF
import Derived.Test.YtldlfhodboigeaaF04
set_option linter.unusedVariables false
set_option linter.unusedSimpArgs false
namespace Go.Proofs.Ytldlfhodboigeaa.K
open Go Go.RowKit Go.Proofs
attribute [local irreducible] Run1 OpG WL W AO Gives
set_option maxRecDepth 100000 in
theorem bget_calls (w : World) {ad : Option Addr} {c n : Nat} {xs : List Int} (hx : ∀ x ∈ xs, 0 ≤ x ∧ x < 256) (R : RowAt w 1 ad n (xs.map (.int .u8))) (i : Int) (hi1 : -1000000000000 ≤ i) (hi2 : i ≤ 1000000000000) : Gives Try.prog 35 #[.slice ad n c, .int .i64 i] w (.bool (getB xs i)) := by
 have ln := R.len
 simp only [List.length_map, Nat.mul_one] at ln
 have hg := getD_rng hx (i / 8).toNat
 have hd := div_rng hg.1 hg.2 (i % 8).toNat
 have G := Grow.rfl' w
 refine gives_of Try.func35 Try.ntmps35 Try.results35 rfl rfl ?_
 refine W_seq (W_region rfl ?_)
 refine stp (r_assign (v := .bool false) rfl ?_)
 refine WL_nil ?_
 refine W_seq (W_region rfl ?_)
 refine stp (r_move_int rfl ?_)
 refine stp (r_geq rfl rfl ?_)
 refine stp (r_move_bool rfl ?_)
 refine WL_some (og_if (s := .bool (decide (i ≥ 0))) (b := true) (v := .int .i64 i) rfl (wgb_t _) (fun hc1 => ?_) ?_)
 ·
  have hc1_ := of_decide_eq_true hc1
  refine r_move_int rfl ?_
  exact ⟨rfl, rfl⟩
 refine WL_some (og_if (s := .bool (decide (i ≥ 0))) (b := true) (v := .int .i64 (i / 8)) rfl (wgb_t _) (fun hc2 => ?_) ?_)
 ·
  have hc2_ := of_decide_eq_true hc2
  refine r_quo (gvt hc2) rfl ?_ ?_ ?_ ?_; omega; omega; (constructor <;> omega)
  exact ⟨rfl, rfl⟩
 refine WL_some (og_if (s := .bool (decide (i ≥ 0))) (b := true) (v := .slice ad n c) rfl (wgb_t _) (fun hc3 => ?_) ?_)
 ·
  have hc3_ := of_decide_eq_true hc3
  refine r_move_slice rfl ?_
  exact ⟨rfl, rfl⟩
 refine WL_some (og_if (s := .bool (decide (i ≥ 0))) (b := true) (v := .int .i64 (n : Int)) rfl (wgb_t _) (fun hc4 => ?_) ?_)
 ·
  have hc4_ := of_decide_eq_true hc4
  refine r_len rfl rfl (gvt hc4) ?_
  exact ⟨rfl, rfl⟩
 refine WL_some (og_if (s := .bool (decide (i ≥ 0))) (b := true) (v := .bool (decide ((i / 8) < (n : Int)))) rfl (wgb_t _) (fun hc5 => ?_) ?_)
 ·
  have hc5_ := of_decide_eq_true hc5
  refine r_lss (gvt hc5) (gvt hc5) ?_
  exact ⟨rfl, rfl⟩
 refine stp (r_and2 rfl rfl rfl ?_)
 refine stp (r_move_bool rfl ?_)
 refine WL_some (og_if (s := .bool ((decide (i ≥ 0)) && (decide ((i / 8) < (n : Int))))) (b := true) (v := .slice ad n c) rfl (wgb_t _) (fun hc6 => ?_) ?_)
 ·
  obtain ⟨hc6a, hc6b⟩ := and_t hc6
  have hc6a_ := of_decide_eq_true hc6a
  have hc6b_ := of_decide_eq_true hc6b
  refine r_move_slice rfl ?_
  exact ⟨rfl, rfl⟩
 refine WL_some (og_if (s := .bool ((decide (i ≥ 0)) && (decide ((i / 8) < (n : Int))))) (b := true) (v := .int .i64 i) rfl (wgb_t _) (fun hc7 => ?_) ?_)
 ·
  obtain ⟨hc7a, hc7b⟩ := and_t hc7
  have hc7a_ := of_decide_eq_true hc7a
  have hc7b_ := of_decide_eq_true hc7b
  refine r_move_int rfl ?_
  exact ⟨rfl, rfl⟩
 refine WL_some (og_if (s := .bool ((decide (i ≥ 0)) && (decide ((i / 8) < (n : Int))))) (b := true) (v := .int .i64 (i / 8)) rfl (wgb_t _) (fun hc8 => ?_) ?_)
 ·
  obtain ⟨hc8a, hc8b⟩ := and_t hc8
  have hc8a_ := of_decide_eq_true hc8a
  have hc8b_ := of_decide_eq_true hc8b
  refine r_quo (gvt hc8) rfl ?_ ?_ ?_ ?_; omega; omega; (constructor <;> omega)
  exact ⟨rfl, rfl⟩
 refine WL_some (og_if (s := .bool ((decide (i ≥ 0)) && (decide ((i / 8) < (n : Int))))) (b := true) (v := .pointer (some (eadr ad ((i / 8).toNat * 1)))) rfl (wgb_t _) (fun hc9 => ?_) ?_)
 ·
  obtain ⟨hc9a, hc9b⟩ := and_t hc9
  have hc9a_ := of_decide_eq_true hc9a
  have hc9b_ := of_decide_eq_true hc9b
  refine r_indexR (R.grow G) (gvt hc9) (gvt hc9) ?_ ?_ ?_; omega; omega
  exact ⟨rfl, rfl⟩
 refine WL_some (og_if (s := .bool ((decide (i ≥ 0)) && (decide ((i / 8) < (n : Int))))) (b := true) (v := .int .u8 (xs.getD ((i / 8).toNat) 0)) rfl (wgb_t _) (fun hc10 => ?_) ?_)
 ·
  obtain ⟨hc10a, hc10b⟩ := and_t hc10
  have hc10a_ := of_decide_eq_true hc10a
  have hc10b_ := of_decide_eq_true hc10b
  refine r_loadR (v := .int .u8 (xs.getD ((i / 8).toNat) 0)) (m := 0) (R.grow G) (gvt hc10) (map_get1 0 (by omega)) ?_
  exact ⟨rfl, rfl⟩
 refine WL_some (og_if (s := .bool ((decide (i ≥ 0)) && (decide ((i / 8) < (n : Int))))) (b := true) (v := .int .i64 i) rfl (wgb_t _) (fun hc11 => ?_) ?_)
 ·
  obtain ⟨hc11a, hc11b⟩ := and_t hc11
  have hc11a_ := of_decide_eq_true hc11a
  have hc11b_ := of_decide_eq_true hc11b
  refine r_move_int rfl ?_
  exact ⟨rfl, rfl⟩
 refine WL_some (og_if (s := .bool ((decide (i ≥ 0)) && (decide ((i / 8) < (n : Int))))) (b := true) (v := .int .i64 (i % 8)) rfl (wgb_t _) (fun hc12 => ?_) ?_)
 ·
  obtain ⟨hc12a, hc12b⟩ := and_t hc12
  have hc12a_ := of_decide_eq_true hc12a
  have hc12b_ := of_decide_eq_true hc12b
  refine r_rem (gvt hc12) rfl ?_ ?_ ?_; omega; omega
  exact ⟨rfl, rfl⟩
 refine WL_some (og_if (s := .bool ((decide (i ≥ 0)) && (decide ((i / 8) < (n : Int))))) (b := true) (v := .int .u8 (xs.getD (i / 8).toNat 0 / 2 ^ (i % 8).toNat)) rfl (wgb_t _) (fun hc13 => ?_) ?_)
 ·
  obtain ⟨hc13a, hc13b⟩ := and_t hc13
  have hc13a_ := of_decide_eq_true hc13a
  have hc13b_ := of_decide_eq_true hc13b
  refine r_shr (gvt hc13) (gvt hc13) ?_ ?_; omega
  rw [show min (i % 8).toNat (IntKind.bits .u8) = (i % 8).toNat from by simp only [IntKind.bits]; omega]
  exact ⟨rfl, rfl⟩
 refine WL_some (og_if (s := .bool ((decide (i ≥ 0)) && (decide ((i / 8) < (n : Int))))) (b := true) (v := .int .u8 ((xs.getD (i / 8).toNat 0 / 2 ^ (i % 8).toNat) % 2)) rfl (wgb_t _) (fun hc14 => ?_) ?_)
 ·
  obtain ⟨hc14a, hc14b⟩ := and_t hc14
  have hc14a_ := of_decide_eq_true hc14a
  have hc14b_ := of_decide_eq_true hc14b
  refine r_and (gvt hc14) rfl ?_
  rw [and_one hd.1 hd.2]
  exact ⟨rfl, rfl⟩
 refine WL_some (og_if (s := .bool ((decide (i ≥ 0)) && (decide ((i / 8) < (n : Int))))) (b := true) (v := .bool (decide (((xs.getD (i / 8).toNat 0 / 2 ^ (i % 8).toNat) % 2) = 1))) rfl (wgb_t _) (fun hc15 => ?_) ?_)
 ·
  obtain ⟨hc15a, hc15b⟩ := and_t hc15
  have hc15a_ := of_decide_eq_true hc15a
  have hc15b_ := of_decide_eq_true hc15b
  refine r_eql (gvt hc15) rfl ?_
  exact ⟨rfl, rfl⟩
 refine stp (r_and2 rfl rfl rfl ?_)
 refine stp (r_assign_bool rfl ?_)
 refine WL_nil ?_
 refine W_ret ?_
 refine ret1 (res_tmp (v := .bool (((decide (i ≥ 0)) && (decide ((i / 8) < (n : Int)))) && (decide (((xs.getD (i / 8).toNat 0 / 2 ^ (i % 8).toNat) % 2) = 1)))) rfl) ⟨?_, G⟩
 unfold getB bitP; rw [ln, ← Bool.and_assoc]

set_option maxRecDepth 100000 in
theorem rbget_calls (w : World) {ad : Option Addr} {c n : Nat} {xs : List Int} (hx : ∀ x ∈ xs, 0 ≤ x ∧ x < 256) (R : RowAt w 1 ad n (xs.map (.int .u8))) (i : Int) (hi1 : -1000000000000 ≤ i) (hi2 : i ≤ 1000000000000) : Gives Try.prog 36 #[.slice ad n c, .int .i64 i] w (.bool (getB xs i)) := by
 have ln := R.len
 simp only [List.length_map, Nat.mul_one] at ln
 have hg := getD_rng hx (i / 8).toNat
 have G := Grow.rfl' w
 refine gives_of Try.func36 Try.ntmps36 Try.results36 rfl rfl ?_
 refine W_seq (W_region rfl ?_)
 refine stp (r_assign (v := .bool false) rfl ?_)
 refine WL_nil ?_
 refine W_seq ?_
 refine W_seq (W_region rfl ?_)
 refine stp (r_move_int rfl ?_)
 refine stp (r_lss rfl rfl ?_)
 refine stp (r_move_bool rfl ?_)
 refine WL_some (og_if (s := .bool (decide (i < 0))) (b := false) (v := .int .i64 i) rfl (wgb_f _) (fun hc1 => ?_) ?_)
 ·
  have hc1_ := hc1
  try simp only [Bool.and_eq_true, Bool.or_eq_true, Bool.not_eq_true', Bool.and_eq_false_iff, Bool.or_eq_false_iff, Bool.not_eq_false', decide_eq_true_eq, decide_eq_false_iff_not, Bool.not_true, Bool.not_false, Bool.not_eq_eq_eq_not, Bool.or_false, Bool.and_true, Bool.or_true, Bool.and_false, Bool.false_or, Bool.true_and, Bool.true_or, Bool.false_and, Bool.false_eq_true, Bool.true_eq_false] at hc1_
  refine r_move_int rfl ?_
  exact ⟨rfl, rfl⟩
 refine WL_some (og_if (s := .bool (decide (i < 0))) (b := false) (v := .int .i64 (i / 8)) rfl (wgb_f _) (fun hc2 => ?_) ?_)
 ·
  have hc2_ := hc2
  try simp only [Bool.and_eq_true, Bool.or_eq_true, Bool.not_eq_true', Bool.and_eq_false_iff, Bool.or_eq_false_iff, Bool.not_eq_false', decide_eq_true_eq, decide_eq_false_iff_not, Bool.not_true, Bool.not_false, Bool.not_eq_eq_eq_not, Bool.or_false, Bool.and_true, Bool.or_true, Bool.and_false, Bool.false_or, Bool.true_and, Bool.true_or, Bool.false_and, Bool.false_eq_true, Bool.true_eq_false] at hc2_
  refine r_quo (gvt hc2) rfl ?_ ?_ ?_ ?_; omega; omega; (constructor <;> omega)
  exact ⟨rfl, rfl⟩
 refine WL_some (og_if (s := .bool (decide (i < 0))) (b := false) (v := .slice ad n c) rfl (wgb_f _) (fun hc3 => ?_) ?_)
 ·
  have hc3_ := hc3
  try simp only [Bool.and_eq_true, Bool.or_eq_true, Bool.not_eq_true', Bool.and_eq_false_iff, Bool.or_eq_false_iff, Bool.not_eq_false', decide_eq_true_eq, decide_eq_false_iff_not, Bool.not_true, Bool.not_false, Bool.not_eq_eq_eq_not, Bool.or_false, Bool.and_true, Bool.or_true, Bool.and_false, Bool.false_or, Bool.true_and, Bool.true_or, Bool.false_and, Bool.false_eq_true, Bool.true_eq_false] at hc3_
  refine r_move_slice rfl ?_
  exact ⟨rfl, rfl⟩
 refine WL_some (og_if (s := .bool (decide (i < 0))) (b := false) (v := .int .i64 (n : Int)) rfl (wgb_f _) (fun hc4 => ?_) ?_)
 ·
  have hc4_ := hc4
  try simp only [Bool.and_eq_true, Bool.or_eq_true, Bool.not_eq_true', Bool.and_eq_false_iff, Bool.or_eq_false_iff, Bool.not_eq_false', decide_eq_true_eq, decide_eq_false_iff_not, Bool.not_true, Bool.not_false, Bool.not_eq_eq_eq_not, Bool.or_false, Bool.and_true, Bool.or_true, Bool.and_false, Bool.false_or, Bool.true_and, Bool.true_or, Bool.false_and, Bool.false_eq_true, Bool.true_eq_false] at hc4_
  refine r_len rfl rfl (gvt hc4) ?_
  exact ⟨rfl, rfl⟩
 refine WL_some (og_if (s := .bool (decide (i < 0))) (b := false) (v := .bool (decide ((i / 8) ≥ (n : Int)))) rfl (wgb_f _) (fun hc5 => ?_) ?_)
 ·
  have hc5_ := hc5
  try simp only [Bool.and_eq_true, Bool.or_eq_true, Bool.not_eq_true', Bool.and_eq_false_iff, Bool.or_eq_false_iff, Bool.not_eq_false', decide_eq_true_eq, decide_eq_false_iff_not, Bool.not_true, Bool.not_false, Bool.not_eq_eq_eq_not, Bool.or_false, Bool.and_true, Bool.or_true, Bool.and_false, Bool.false_or, Bool.true_and, Bool.true_or, Bool.false_and, Bool.false_eq_true, Bool.true_eq_false] at hc5_
  refine r_geq (gvt hc5) (gvt hc5) ?_
  exact ⟨rfl, rfl⟩
 refine stp (r_or2 rfl rfl rfl ?_)
 refine WL_nil ?_
 refine W_cond2 (b := ((decide (i < 0)) || (decide ((i / 8) ≥ (n : Int))))) rfl (fun h1 => ?_) (fun h1 => ?_)
 ·-- true
  simp only [Bool.and_eq_true, Bool.or_eq_true, Bool.not_eq_true', Bool.and_eq_false_iff, Bool.or_eq_false_iff, Bool.not_eq_false', decide_eq_true_eq, decide_eq_false_iff_not, Bool.not_true, Bool.not_false, Bool.not_eq_eq_eq_not, Bool.or_false, Bool.and_true, Bool.or_true, Bool.and_false, Bool.false_or, Bool.true_and, Bool.true_or, Bool.false_and, Bool.false_eq_true, Bool.true_eq_false] at h1
  refine W_seq (W_region rfl ?_)
  refine stp (r_assign (v := .bool false) rfl ?_)
  refine WL_nil ?_
  refine W_ret ?_
  refine ret1 (res_tmp (v := .bool false) rfl) ⟨?_, G⟩
  unfold getB; rw [ln]; rcases h1 with h | h; rw [decide_eq_false (show ¬ 0 ≤ i by omega)]; rfl; rw [decide_eq_false (show ¬ i / 8 < (n : Int) by omega)]; simp
 ·-- false
  simp only [Bool.and_eq_true, Bool.or_eq_true, Bool.not_eq_true', Bool.and_eq_false_iff, Bool.or_eq_false_iff, Bool.not_eq_false', decide_eq_true_eq, decide_eq_false_iff_not, Bool.not_true, Bool.not_false, Bool.not_eq_eq_eq_not, Bool.or_false, Bool.and_true, Bool.or_true, Bool.and_false, Bool.false_or, Bool.true_and, Bool.true_or, Bool.false_and, Bool.false_eq_true, Bool.true_eq_false] at h1
  refine W_skip ?_
  refine W_seq (W_region rfl ?_)
  refine stp (r_move_slice rfl ?_)
  refine stp (r_move_int rfl ?_)
  refine stp (r_quo rfl rfl ?_ ?_ ?_ ?_); omega; omega; (constructor <;> omega)
  refine stp (r_indexR (R.grow G) rfl rfl ?_ ?_ ?_); omega; omega
  refine stp (r_loadR (v := .int .u8 (xs.getD ((i / 8).toNat) 0)) (m := 0) (R.grow G) rfl (map_get1 0 (by omega)) ?_)
  refine stp (r_conv rfl ?_ ?_); constructor <;> omega
  refine stp (r_assign_int rfl ?_)
  refine WL_nil ?_
  refine W_seq ?_
  refine W_seq (W_region rfl ?_)
  refine stp (r_assign_int rfl ?_)
  refine WL_nil ?_
  refine W_block ?_
  refine W_loop (fun m_ e_ w_ => ∃ (k : Nat), m_ = 8 - k ∧ Fr [(1, .int .i64 i), (4, .bool false), (6, .int .i64 (k : Int)), (5, .int .i64 (xs.getD (i / 8).toNat 0 / 2 ^ k))] e_ ∧ ((k : Int) ≤ i % 8) ∧ Grow w w_) _ ⟨0, rfl, fr_of ⟨rfl, rfl, rfl, congrArg (Value.int .i64) (by simp), trivial⟩, by omega, G⟩ ?_
  clear G
  rintro m_ e_ w6 ⟨k, rfl, ⟨e7, rfl⟩, hk, G⟩
  have hd := div_rng hg.1 hg.2 k
  refine W_seq ?_
  refine W_seq (W_region rfl ?_)
  refine stp (r_move_int rfl ?_)
  refine stp (r_move_int rfl ?_)
  refine stp (r_rem rfl rfl ?_ ?_ ?_); omega; omega
  refine stp (r_lss rfl rfl ?_)
  refine WL_nil ?_
  refine W_cond2 (b := (decide ((k : Int) < (i % 8)))) rfl (fun hlt => ?_) (fun hlt => ?_)
  ·-- true
   replace hlt := of_decide_eq_true hlt
   refine W_skip ?_
   refine W_seq ?_
   refine W_block ?_
   refine W_region rfl ?_
   refine stp (r_move_int rfl ?_)
   refine stp (r_quo rfl rfl ?_ ?_ ?_ ?_); omega; omega; (constructor <;> omega)
   refine stp (r_assign_int rfl ?_)
   refine WL_nil ?_
   refine W_region rfl ?_
   refine stp (r_move_int rfl ?_)
   refine stp (r_add rfl rfl ?_ ?_); constructor <;> omega
   refine stp (r_assign_int rfl ?_)
   refine WL_nil ?_
   refine ⟨_, ?_, k + 1, rfl, fr_of ⟨rfl, rfl, rfl, congrArg (Value.int .i64) (div_pow2s k), trivial⟩, by omega, G⟩
   omega
  ·-- false
   replace hlt := of_decide_eq_false hlt
   have hk9 : (i % 8).toNat = k := by omega
   refine W_exit ?_
   refine W_seq (W_region rfl ?_)
   refine stp (r_move_int rfl ?_)
   refine stp (r_rem rfl rfl ?_ ?_ ?_); omega; omega
   refine stp (r_eql rfl rfl ?_)
   refine stp (r_assign_bool rfl ?_)
   refine WL_nil ?_
   refine W_ret ?_
   refine ret1 (res_tmp (v := .bool (decide (((xs.getD (i / 8).toNat 0 / 2 ^ k) % 2) = 1))) rfl) ⟨?_, G⟩
   unfold getB bitP; rw [ln, hk9, decide_eq_true (show 0 ≤ i by omega), decide_eq_true (show i / 8 < (n : Int) by omega)]; rfl

set_option maxRecDepth 100000 in
theorem of_calls (w : World) {ad : Option Addr} {c n : Nat} {xs : List Int} (hx : ∀ x ∈ xs, 0 ≤ x ∧ x < 256) (R : RowAt w 1 ad n (xs.map (.int .u8))) (hb : n ≤ 1073741824) : Calls Try.prog 20 #[.slice ad n c] w (Ret fun v w' => w'.ownsRow w.heap.size 26 2 v (ofS xs).length (encL (ofS xs)) ∧ Grow w w') := by
 have ln := R.len
 simp only [List.length_map, Nat.mul_one] at ln
 have G := Grow.rfl' w
 refine calls_ret Try.func20 Try.ntmps20 Try.results20 rfl rfl ?_
 refine W_seq (W_region rfl ?_)
 refine stp (r_assign_slice rfl ?_)
 refine WL_nil ?_
 refine W_seq (W_region rfl ?_)
 refine stp (r_assign_slice rfl ?_)
 refine WL_nil ?_
 have ownO : w.ownsRow w.heap.size 26 2 (.slice none 0 0) 0 (encL []) := World.ownsRow_nil _ _ _ _
 have hB1 := Nat.le_refl w.heap.size
 refine W_seq ?_
 refine W_seq (W_region rfl ?_)
 refine stp (r_move_slice rfl ?_)
 refine stp (r_len rfl rfl rfl ?_)
 refine stp (r_mul rfl rfl ?_ ?_); constructor <;> omega
 refine stp (r_move_int rfl ?_)
 refine WL_nil ?_
 refine W_block ?_
 refine W_loop (fun m_ e_ w_ => ∃ (k : Nat) (ado : Option Addr) (co : Nat), m_ = 8 * n - k ∧ Fr [(0, .slice ad n c), (2, .slice none 0 0), (7, .int .i64 (8 * (n : Int))), (8, .int .i64 (k : Int)), (3, .slice ado ((ofL xs k).length) co)] e_ ∧ (k ≤ 8 * n) ∧ (w.heap.size ≤ w_.heap.size) ∧ (w_.ownsRow w.heap.size 26 2 (.slice ado (ofL xs k).length co) (ofL xs k).length (encL (ofL xs k))) ∧ Grow w w_) _ ⟨0, _, _, rfl, fr_of ⟨rfl, rfl, rfl, rfl, rfl, trivial⟩, by omega, hB1, ownO, G⟩ ?_
 clear ownO hB1
 clear G
 rintro m_ e_ w1 ⟨k, ado, co, rfl, ⟨e2, rfl⟩, hk, hB1, ownO, G⟩
 refine W_seq (W_region rfl ?_)
 refine stp (r_lss rfl rfl ?_)
 refine WL_nil ?_
 refine W_seq ?_
 refine W_cond2 (b := (decide ((k : Int) < (8 * (n : Int))))) rfl (fun hlt => ?_) (fun hlt => ?_)
 ·-- true
  replace hlt := of_decide_eq_true hlt
  have hol := ofL_len xs k
  refine W_skip ?_
  refine W_seq ?_
  refine W_block ?_
  refine W_seq (W_region rfl ?_)
  refine stp (r_move_int rfl ?_)
  refine stp (r_assign_int rfl ?_)
  refine WL_nil ?_
  refine W_seq (W_region rfl ?_)
  refine stp (r_move_slice rfl ?_)
  refine stp (r_move_int rfl ?_)
  refine stp (r_gives (v := .bool (getB xs (k : Int))) rfl (bget_calls _ hx (R.grow G) _ (by omega) (by omega)) ?_)
  intro w3 g4
  replace hB1 := Nat.le_trans hB1 g4.size
  replace ownO := own_grow ownO g4
  replace G := G.tr g4
  clear g4
  refine WL_nil ?_
  refine W_cond2 (b := (getB xs (k : Int))) rfl (fun hg => ?_) (fun hg => ?_)
  ·-- true
   refine W_region rfl ?_
   refine stp (r_move_slice rfl ?_)
   refine stp (r_move_int rfl ?_)
   refine stp (r_move_int rfl ?_)
   refine stp (r_add rfl rfl ?_ ?_); constructor <;> omega
   refine stp (r_build (v := .agg #[.int .i64 (k : Int), .int .i64 ((k : Int) + 1)]) (fun w => by kernel_rfl) ?_)
   refine stp (r_buildSlice (cs := #[.int .i64 (k : Int), .int .i64 ((k : Int) + 1)]) (el := 26) (fun w => by kernel_rfl) ?_)
   intro bs5 w6 hb7 hc8 g9
   have hge10 := Nat.le_trans G.size hb7
   replace hB1 := Nat.le_trans hB1 g9.size
   replace ownO := own_grow ownO g9
   replace G := G.tr g9
   clear g9
   refine stp (r_append rfl rfl rfl rfl ownO (Row.of_block (n := 1) hc8 rfl rfl (by omega)) (fun q_ hq_ => by simp at hq_; rcases hq_ with rfl | rfl <;> rfl) (by simp only [maxLen]; omega) (by omega) hB1 ?_)
   intro v11 w11 own11 gr11
   have own11' := own_snoc (s := ((k : Int), (k : Int) + 1)) own11
   obtain ⟨ad11, n11, c11, rfl⟩ := own_slice own11'
   have hn11 := own_lenS own11'
   subst hn11
   have hl11 : (ofL xs k ++ [((k : Int), (k : Int) + 1)]).length = (ofL xs k).length + 1 := by simp
   replace G := G.grown gr11 (fun k_ hk_ => Nat.le_trans (Nat.le_refl _) (own_ge ownO k_ hk_))
   replace hB1 := Nat.le_trans hB1 gr11.size
   refine stp (r_assign_slice rfl ?_)
   refine WL_nil ?_
   refine W_region rfl ?_
   refine stp (r_add rfl rfl ?_ ?_); constructor <;> omega
   refine stp (r_move_int rfl ?_)
   refine WL_nil ?_
   have hoe : ofL xs (k + 1) = ofL xs k ++ [((k : Int), (k : Int) + 1)] := by rw [ofL, if_pos (by simpa using hg)]
   refine ⟨_, ?_, k + 1, _, _, rfl, fr_of ⟨rfl, rfl, rfl, congrArg (Value.int .i64) (by omega), by rw [hoe]; rfl, trivial⟩, by omega, hB1, (by rw [hoe]; exact own11'), G⟩
   omega
  ·-- false
   refine W_skip ?_
   refine W_region rfl ?_
   refine stp (r_add rfl rfl ?_ ?_); constructor <;> omega
   refine stp (r_move_int rfl ?_)
   refine WL_nil ?_
   have hoe : ofL xs (k + 1) = ofL xs k := by rw [ofL, if_neg (by simpa using hg)]
   refine ⟨_, ?_, k + 1, _, _, rfl, fr_of ⟨rfl, rfl, rfl, congrArg (Value.int .i64) (by omega), by rw [hoe]; rfl, trivial⟩, by omega, hB1, (by rw [hoe]; exact ownO), G⟩
   omega
 ·-- false
  replace hlt := of_decide_eq_false hlt
  have hk9 : k = 8 * xs.length := by omega
  have hol := ofL_len xs k
  obtain ⟨ad9, c9, he9, hc9, hc92, R9⟩ := own_row ownO (by omega)
  simp only [Value.slice.injEq, true_and] at he9
  obtain ⟨rfl, rfl⟩ := he9
  have hsz9 := G.size
  refine W_exit ?_
  refine W_seq (W_region rfl ?_)
  refine stp (r_move_slice rfl ?_)
  refine WL_some (og rfl ?_)
  refine r_call rfl (norm_calls _ hc9 hc92 R9 (by omega)) ?_
  rintro v12 w12 ⟨own12, g12⟩
  replace hB1 := Nat.le_trans hB1 g12.size
  replace ownO := own_grow ownO g12
  replace G := G.tr g12
  obtain ⟨ad13, n12, c12, rfl⟩ := own_slice own12
  have hn12 := own_lenS own12
  subst hn12
  refine stp (r_assign_slice rfl ?_)
  refine WL_nil ?_
  refine W_ret ?_
  unfold ofS
  rw [← hk9]
  refine ret1 (res_tmp (v := .slice ad13 ((nrm (ofL xs k)).length) c12) rfl) ⟨own_base own12 hsz9, G⟩
end Go.Proofs.Ytldlfhodboigeaa.K
