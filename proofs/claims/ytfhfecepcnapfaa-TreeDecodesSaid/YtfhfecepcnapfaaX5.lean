/- Laid together: BR, CA, RR. Each part is plain law, a rule, or a walk of the functions that its names tell. -/
import Derived.Test.YtfhfecepcnapfaaX4
set_option linter.unusedVariables false
set_option linter.unusedSimpArgs false
namespace Go.Proofs.Ytfhfecepcnapfaa.K
open Go Go.RowKit Go.Proofs
attribute [local irreducible] Run1 OpG WL W AO Gives
instance : IfcI Try.prog 82 := ⟨⟨_, Try.underlying82⟩⟩
theorem meth_wholeWord : MethI Try.prog 118 "Word" 134 := ⟨fun v args w => by kernel_rfl⟩
theorem meth_wholeSizes : MethI Try.prog 118 "Sizes" 133 := ⟨fun v args w => by kernel_rfl⟩
set_option maxRecDepth 100000 in
theorem addg_calls (w : World) {a b m : Int} (ha : inR .i64 a) (hb : inR .i64 b) (hm : inR .i64 m) : Gives Try.prog 85 #[.int .i64 a, .int .i64 b, .int .i64 m] w (.tuple #[.int .i64 (if addOk a b m then a + b else 0), .bool (addOk a b m)]) := by
 simp only [inR] at ha hb hm
 have G := Grow.rfl' w
 refine gives_of Try.func85 Try.ntmps85 Try.results85 rfl rfl ?_
 refine W_seq (W_region rfl ?_)
 refine stp (r_assign_int rfl ?_)
 refine stp (r_assign (v := .bool false) rfl ?_)
 refine WL_nil ?_
 refine W_seq ?_
 refine W_seq (W_region rfl ?_)
 refine stp (r_move_int rfl ?_)
 refine stp (r_move_int rfl ?_)
 refine stp (r_min rfl rfl rfl ?_)
 refine stp (r_lss rfl rfl ?_)
 refine stp (r_move_bool rfl ?_)
 refine WL_some (og_if (s := .bool (decide ((if b < a then b else a) < 0))) (b := false) (v := .int .i64 a) rfl (wgb_f _) (fun hc1 => ?_) ?_)
 ·
  have hc1_ := hc1
  try simp only [sb] at hc1_
  refine r_move_int rfl ?_
  exact ⟨rfl, rfl⟩
 refine WL_some (og_if (s := .bool (decide ((if b < a then b else a) < 0))) (b := false) (v := .int .i64 m) rfl (wgb_f _) (fun hc2 => ?_) ?_)
 ·
  have hc2_ := hc2
  try simp only [sb] at hc2_
  refine r_move_int rfl ?_
  exact ⟨rfl, rfl⟩
 refine WL_some (og_if (s := .bool (decide ((if b < a then b else a) < 0))) (b := false) (v := .bool (decide (a > m))) rfl (wgb_f _) (fun hc3 => ?_) ?_)
 ·
  have hc3_ := hc3
  try simp only [sb] at hc3_
  refine r_gtr (gvt hc3) (gvt hc3) ?_
  exact ⟨rfl, rfl⟩
 refine stp (r_or2 rfl rfl rfl ?_)
 refine stp (r_move_bool rfl ?_)
 refine WL_some (og_if (s := .bool ((decide ((if b < a then b else a) < 0)) || (decide (a > m)))) (b := false) (v := .int .i64 b) rfl (wgb_f _) (fun hc4 => ?_) ?_)
 ·
  have hc4_ := hc4
  try simp only [sb] at hc4_
  refine r_move_int rfl ?_
  exact ⟨rfl, rfl⟩
 refine WL_some (og_if (s := .bool ((decide ((if b < a then b else a) < 0)) || (decide (a > m)))) (b := false) (v := .int .i64 m) rfl (wgb_f _) (fun hc5 => ?_) ?_)
 ·
  have hc5_ := hc5
  try simp only [sb] at hc5_
  refine r_move_int rfl ?_
  exact ⟨rfl, rfl⟩
 refine WL_some (og_if (s := .bool ((decide ((if b < a then b else a) < 0)) || (decide (a > m)))) (b := false) (v := .int .i64 a) rfl (wgb_f _) (fun hc6 => ?_) ?_)
 ·
  have hc6_ := hc6
  try simp only [sb] at hc6_
  refine r_move_int rfl ?_
  exact ⟨rfl, rfl⟩
 refine WL_some (og_if (s := .bool ((decide ((if b < a then b else a) < 0)) || (decide (a > m)))) (b := false) (v := .int .i64 (m - a)) rfl (wgb_f _) (fun hc7 => ?_) ?_)
 ·
  have hc7_ := hc7
  try simp only [sb] at hc7_
  refine r_sub (gvt hc7) (gvt hc7) ?_ ?_; constructor <;> omega
  exact ⟨rfl, rfl⟩
 refine WL_some (og_if (s := .bool ((decide ((if b < a then b else a) < 0)) || (decide (a > m)))) (b := false) (v := .bool (decide (b > (m - a)))) rfl (wgb_f _) (fun hc8 => ?_) ?_)
 ·
  have hc8_ := hc8
  try simp only [sb] at hc8_
  refine r_gtr (gvt hc8) (gvt hc8) ?_
  exact ⟨rfl, rfl⟩
 refine stp (r_or2 rfl rfl rfl ?_)
 refine WL_nil ?_
 refine W_cond2 (b := (((decide ((if b < a then b else a) < 0)) || (decide (a > m))) || (decide (b > (m - a))))) rfl (fun h1 => ?_) (fun h1 => ?_)
 ·-- true
  simp only [sb] at h1
  refine W_seq (W_region rfl ?_)
  refine stp (r_assign_int rfl ?_)
  refine stp (r_assign (v := .bool false) rfl ?_)
  refine WL_nil ?_
  refine W_ret ?_
  refine ret2 (res_tmp (v := .int .i64 0) rfl) (res_tmp (v := .bool false) rfl) ⟨?_, G⟩
  have h9 : addOk a b m = false := by simp only [addOk]; exact decide_eq_false (by omega)
  rw [h9]; rfl
 ·-- false
  simp only [sb] at h1
  have h9 : addOk a b m = true := by simp only [addOk]; exact decide_eq_true (by omega)
  refine W_skip ?_
  refine W_seq (W_region rfl ?_)
  refine stp (r_move_int rfl ?_)
  refine stp (r_move_int rfl ?_)
  refine stp (r_add rfl rfl ?_ ?_); constructor <;> omega
  refine stp (r_assign_int rfl ?_)
  refine stp (r_assign (v := .bool true) rfl ?_)
  refine WL_nil ?_
  refine W_ret ?_
  refine ret2 (res_tmp (v := .int .i64 (a + b)) rfl) (res_tmp (v := .bool true) rfl) ⟨?_, G⟩
  rw [h9]; rfl

set_option maxRecDepth 100000 in
theorem within_calls (w : World) {ad : Option Addr} {c : Nat} {sz : List Int} {seg a n : Int} (R : RowAt w 1 ad sz.length (sz.map (.int .i64))) (hs : ∀ i, i < sz.length → 0 ≤ sz.getD i 0 ∧ sz.getD i 0 ≤ 140737488355328) (ha : inR .i64 a) (hn : inR .i64 n) : Gives Try.prog 104 #[.slice ad sz.length c, .int .i64 seg, .int .i64 a, .int .i64 n] w (.bool (withinP sz seg a n)) := by
 have ll := R.lim
 have G := Grow.rfl' w
 refine gives_of Try.func104 Try.ntmps104 Try.results104 rfl rfl ?_
 refine W_seq (W_region rfl ?_)
 refine stp (r_assign (v := .bool false) rfl ?_)
 refine WL_nil ?_
 refine W_seq ?_
 refine W_seq (W_region rfl ?_)
 refine stp (r_move_int rfl ?_)
 refine stp (r_lss rfl rfl ?_)
 refine stp (r_move_bool rfl ?_)
 refine WL_some (og_if (s := .bool (decide (seg < 0))) (b := false) (v := .int .i64 seg) rfl (wgb_f _) (fun hc1 => ?_) ?_)
 ·
  have hc1_ := hc1
  try simp only [sb] at hc1_
  refine r_move_int rfl ?_
  exact ⟨rfl, rfl⟩
 refine WL_some (og_if (s := .bool (decide (seg < 0))) (b := false) (v := .slice ad sz.length c) rfl (wgb_f _) (fun hc2 => ?_) ?_)
 ·
  have hc2_ := hc2
  try simp only [sb] at hc2_
  refine r_move_slice rfl ?_
  exact ⟨rfl, rfl⟩
 refine WL_some (og_if (s := .bool (decide (seg < 0))) (b := false) (v := .int .i64 (sz.length : Int)) rfl (wgb_f _) (fun hc3 => ?_) ?_)
 ·
  have hc3_ := hc3
  try simp only [sb] at hc3_
  refine r_len rfl rfl (gvt hc3) ?_
  exact ⟨rfl, rfl⟩
 refine WL_some (og_if (s := .bool (decide (seg < 0))) (b := false) (v := .bool (decide (seg ≥ (sz.length : Int)))) rfl (wgb_f _) (fun hc4 => ?_) ?_)
 ·
  have hc4_ := hc4
  try simp only [sb] at hc4_
  refine r_geq (gvt hc4) (gvt hc4) ?_
  exact ⟨rfl, rfl⟩
 refine stp (r_or2 rfl rfl rfl ?_)
 refine WL_nil ?_
 refine W_cond2 (b := ((decide (seg < 0)) || (decide (seg ≥ (sz.length : Int))))) rfl (fun h1 => ?_) (fun h1 => ?_)
 ·-- true
  simp only [sb] at h1
  refine W_seq (W_region rfl ?_)
  refine stp (r_assign (v := .bool false) rfl ?_)
  refine WL_nil ?_
  refine W_ret ?_
  refine ret1 (res_tmp (v := .bool false) rfl) ⟨?_, G⟩
  have h9 : withinP sz seg a n = false := by unfold withinP; rw [decide_eq_false (by omega), Bool.false_and]
  rw [h9]
 ·-- false
  simp only [sb] at h1
  have h9 := hs seg.toNat (by omega)
  refine W_skip ?_
  refine W_seq (W_region rfl ?_)
  refine stp (r_move_int rfl ?_)
  refine stp (r_move_int rfl ?_)
  refine stp (r_move_slice rfl ?_)
  refine stp (r_move_int rfl ?_)
  refine stp (r_indexR (R.grow G) rfl rfl ?_ ?_ ?_); omega; omega
  refine stp (r_loadR (v := .int .i64 (sz.getD seg.toNat 0)) (m := 0) (R.grow G) rfl (by rw [Nat.mul_one]; exact map_get 0 (by omega)) ?_)
  refine stp (r_gives (v := .tuple #[.int .i64 (if addOk a n (sz.getD seg.toNat 0) then a + n else 0), .bool (addOk a n (sz.getD seg.toNat 0))]) rfl (addg_calls _ ha hn (m := sz.getD seg.toNat 0) (by simp only [inR]; omega)) ?_)
  intro w5 g6
  replace G := G.tr g6
  clear g6
  refine stp (r_move (v := .tuple #[.int .i64 (if addOk a n (sz.getD seg.toNat 0) then a + n else 0), .bool (addOk a n (sz.getD seg.toNat 0))]) rfl ?_)
  refine stp (r_extract (v := .int .i64 (if addOk a n (sz.getD seg.toNat 0) then a + n else 0)) rfl rfl ?_)
  refine stp (r_extract (v := .bool (addOk a n (sz.getD seg.toNat 0))) rfl rfl ?_)
  refine stp (r_assign_int rfl ?_)
  refine stp (r_assign_bool rfl ?_)
  refine WL_nil ?_
  refine W_seq (W_region rfl ?_)
  refine stp (r_move_bool rfl ?_)
  refine stp (r_assign_bool rfl ?_)
  refine WL_nil ?_
  refine W_ret ?_
  refine ret1 (res_tmp (v := .bool (addOk a n (sz.getD seg.toNat 0))) rfl) ⟨?_, G⟩
  unfold withinP; rw [decide_eq_true (by omega), Bool.true_and]

set_option maxRecDepth 100000 in
theorem aword_calls (w : World) {u : Value} {A : List (List Int)} {seg a : Int} (hA : ArenaR w u A) : Gives Try.prog 135 #[u, .int .i64 seg, .int .i64 a] w (.tuple #[.int .u64 ((wordA A seg a).1), .int .u16 ((wordA A seg a).2)]) := by
 obtain ⟨ada, ca, segsa, sa, sca, rfl, -, -, RA, hsa, hra⟩ := hA.fn
 have la := RA.lim
 have G := Grow.rfl' w
 refine gives_of Try.func135 Try.ntmps135 Try.results135 rfl rfl ?_
 refine W_seq (W_region rfl ?_)
 refine stp (r_assign_int rfl ?_)
 refine stp (r_assign_int rfl ?_)
 refine WL_nil ?_
 refine W_seq ?_
 refine W_seq (W_region rfl ?_)
 refine stp (r_move_int rfl ?_)
 refine stp (r_lss rfl rfl ?_)
 refine stp (r_move_bool rfl ?_)
 refine WL_some (og_if (s := .bool (decide (seg < 0))) (b := false) (v := .int .i64 seg) rfl (wgb_f _) (fun hc1 => ?_) ?_)
 ·
  have hc1_ := hc1
  try simp only [sb] at hc1_
  refine r_move_int rfl ?_
  exact ⟨rfl, rfl⟩
 refine WL_some (og_if (s := .bool (decide (seg < 0))) (b := false) (v := .slice ada A.length ca) rfl (wgb_f _) (fun hc2 => ?_) ?_)
 ·
  have hc2_ := hc2
  try simp only [sb] at hc2_
  refine r_move_slice rfl ?_
  exact ⟨rfl, rfl⟩
 refine WL_some (og_if (s := .bool (decide (seg < 0))) (b := false) (v := .int .i64 (A.length : Int)) rfl (wgb_f _) (fun hc3 => ?_) ?_)
 ·
  have hc3_ := hc3
  try simp only [sb] at hc3_
  refine r_len rfl rfl (gvt hc3) ?_
  exact ⟨rfl, rfl⟩
 refine WL_some (og_if (s := .bool (decide (seg < 0))) (b := false) (v := .bool (decide (seg ≥ (A.length : Int)))) rfl (wgb_f _) (fun hc4 => ?_) ?_)
 ·
  have hc4_ := hc4
  try simp only [sb] at hc4_
  refine r_geq (gvt hc4) (gvt hc4) ?_
  exact ⟨rfl, rfl⟩
 refine stp (r_or2 rfl rfl rfl ?_)
 refine stp (r_move_bool rfl ?_)
 refine WL_some (og_if (s := .bool ((decide (seg < 0)) || (decide (seg ≥ (A.length : Int))))) (b := false) (v := .int .i64 a) rfl (wgb_f _) (fun hc5 => ?_) ?_)
 ·
  have hc5_ := hc5
  try simp only [sb] at hc5_
  refine r_move_int rfl ?_
  exact ⟨rfl, rfl⟩
 refine WL_some (og_if (s := .bool ((decide (seg < 0)) || (decide (seg ≥ (A.length : Int))))) (b := false) (v := .bool (decide (a < 0))) rfl (wgb_f _) (fun hc6 => ?_) ?_)
 ·
  have hc6_ := hc6
  try simp only [sb] at hc6_
  refine r_lss (gvt hc6) rfl ?_
  exact ⟨rfl, rfl⟩
 refine stp (r_or2 rfl rfl rfl ?_)
 refine stp (r_move_bool rfl ?_)
 refine WL_some (og_if (s := .bool (((decide (seg < 0)) || (decide (seg ≥ (A.length : Int)))) || (decide (a < 0)))) (b := false) (v := .int .i64 a) rfl (wgb_f _) (fun hc7 => ?_) ?_)
 ·
  have hc7_ := hc7
  try simp only [sb] at hc7_
  refine r_move_int rfl ?_
  exact ⟨rfl, rfl⟩
 refine WL_some (og_if (s := .bool (((decide (seg < 0)) || (decide (seg ≥ (A.length : Int)))) || (decide (a < 0)))) (b := false) (v := .slice ada A.length ca) rfl (wgb_f _) (fun hc8 => ?_) ?_)
 ·
  have hc8_ := hc8
  try simp only [sb] at hc8_
  refine r_move_slice rfl ?_
  exact ⟨rfl, rfl⟩
 refine WL_some (og_if (s := .bool (((decide (seg < 0)) || (decide (seg ≥ (A.length : Int)))) || (decide (a < 0)))) (b := false) (v := .int .i64 seg) rfl (wgb_f _) (fun hc9 => ?_) ?_)
 ·
  have hc9_ := hc9
  try simp only [sb] at hc9_
  refine r_move_int rfl ?_
  exact ⟨rfl, rfl⟩
 refine WL_some (og_if (s := .bool (((decide (seg < 0)) || (decide (seg ≥ (A.length : Int)))) || (decide (a < 0)))) (b := false) (v := .pointer (some (eadr ada ((seg).toNat * 1)))) rfl (wgb_f _) (fun hc10 => ?_) ?_)
 ·
  have hc10_ := hc10
  try simp only [sb] at hc10_
  refine r_indexR (RA.grow G) (gvt hc10) (gvt hc10) ?_ ?_ ?_; omega; omega
  exact ⟨rfl, rfl⟩
 refine WL_some (og_if (s := .bool (((decide (seg < 0)) || (decide (seg ≥ (A.length : Int)))) || (decide (a < 0)))) (b := false) (v := .slice (sa seg.toNat) (len2 A seg.toNat) (sca seg.toNat)) rfl (wgb_f _) (fun hc11 => ?_) ?_)
 ·
  have hc11_ := hc11
  try simp only [sb] at hc11_
  refine r_loadR (v := .slice (sa seg.toNat) (len2 A seg.toNat) (sca seg.toNat)) (m := 0) (RA.grow G) (gvt hc11) (by rw [Nat.mul_one]; exact hsa _ (by omega)) ?_
  exact ⟨rfl, rfl⟩
 refine WL_some (og_if (s := .bool (((decide (seg < 0)) || (decide (seg ≥ (A.length : Int)))) || (decide (a < 0)))) (b := false) (v := .int .i64 ((len2 A seg.toNat) : Int)) rfl (wgb_f _) (fun hc12 => ?_) ?_)
 ·
  have hc12_ := hc12
  try simp only [sb] at hc12_
  refine r_len rfl rfl (gvt hc12) ?_
  exact ⟨rfl, rfl⟩
 refine WL_some (og_if (s := .bool (((decide (seg < 0)) || (decide (seg ≥ (A.length : Int)))) || (decide (a < 0)))) (b := false) (v := .bool (decide (a ≥ ((len2 A seg.toNat) : Int)))) rfl (wgb_f _) (fun hc13 => ?_) ?_)
 ·
  have hc13_ := hc13
  try simp only [sb] at hc13_
  refine r_geq (gvt hc13) (gvt hc13) ?_
  exact ⟨rfl, rfl⟩
 refine stp (r_or2 rfl rfl rfl ?_)
 refine WL_nil ?_
 refine W_cond2 (b := ((((decide (seg < 0)) || (decide (seg ≥ (A.length : Int)))) || (decide (a < 0))) || (decide (a ≥ ((len2 A seg.toNat) : Int))))) rfl (fun h1 => ?_) (fun h1 => ?_)
 ·-- true
  simp only [sb] at h1
  refine W_seq (W_region rfl ?_)
  refine stp (r_assign_int rfl ?_)
  refine stp (r_assign_int rfl ?_)
  refine WL_nil ?_
  refine W_ret ?_
  refine ret2 (res_tmp (v := .int .u64 0) rfl) (res_tmp (v := .int .u16 20) rfl) ⟨?_, G⟩
  have h9 : wordA A seg a = (0, 20) := by unfold wordA; rw [if_neg (by omega)]
  rw [h9]
 ·-- false
  simp only [sb] at h1
  obtain ⟨-, -, Rk⟩ := hra seg.toNat (by omega)
  have lk := Rk.lim
  refine W_skip ?_
  refine W_seq (W_region rfl ?_)
  refine stp (r_move_slice rfl ?_)
  refine stp (r_move_int rfl ?_)
  refine stp (r_indexR (RA.grow G) rfl rfl ?_ ?_ ?_); omega; omega
  refine stp (r_loadR (v := .slice (sa seg.toNat) (len2 A seg.toNat) (sca seg.toNat)) (m := 0) (RA.grow G) rfl (by rw [Nat.mul_one]; exact hsa _ (by omega)) ?_)
  refine stp (r_move_int rfl ?_)
  refine stp (r_indexR (Rk.grow G) rfl rfl ?_ ?_ ?_); omega; omega
  refine stp (r_loadR (v := .int .u64 ((A.getD seg.toNat []).getD a.toNat 0)) (m := 0) (Rk.grow G) rfl (by rw [Nat.mul_one]; exact map_get 0 (by simp only [len2] at *; omega)) ?_)
  refine stp (r_assign_int rfl ?_)
  refine stp (r_assign_int rfl ?_)
  refine WL_nil ?_
  refine W_ret ?_
  refine ret2 (res_tmp (v := .int .u64 ((A.getD seg.toNat []).getD a.toNat 0)) rfl) (res_tmp (v := .int .u16 0) rfl) ⟨?_, G⟩
  have h9 : wordA A seg a = ((A.getD seg.toNat []).getD a.toNat 0, 0) := by unfold wordA; rw [if_pos (by omega)]
  rw [h9]

set_option maxRecDepth 100000 in
theorem isnear_calls (w : World) (p : Pt) : Gives Try.prog 87 #[.agg #[.int .i64 p.kind, .int .i64 p.off, .int .i64 p.data, .int .i64 p.ptrs, .int .i64 p.size, .int .i64 p.count, .int .i64 p.seg, .bool p.dbl]] w (.bool (nearP p)) := by
 have G := Grow.rfl' w
 refine gives_of Try.func87 Try.ntmps87 Try.results87 rfl rfl ?_
 refine W_seq (W_region rfl ?_)
 refine WL_some (og rfl ?_)
 (first | refine r_box_agg rfl ?_ | refine r_box_int rfl ?_ | refine r_box_slice rfl ?_ | refine r_box rfl rfl ?_)
 intro b1 w2 hb3 hc4 g5
 have hge6 := Nat.le_trans G.size hb3
 replace G := G.tr g5
 clear g5 hb3
 refine stp (r_assign (v := .bool false) rfl ?_)
 refine WL_nil ?_
 refine W_seq (W_region rfl ?_)
 refine stp (r_fieldAddr rfl ?_)
 refine stp (r_load (v := .int .i64 p.kind) rfl hc4 rfl ?_)
 refine stp (r_eql rfl rfl ?_)
 refine stp (r_move_bool rfl ?_)
 refine WL_some (og_if (s := .bool (decide (p.kind = 1))) (b := false) (v := .pointer (some ⟨b1, 0, none⟩)) rfl (wgb_f _) (fun hc7 => ?_) ?_)
 ·
  have hc7_ := hc7
  try simp only [sb] at hc7_
  refine r_fieldAddr rfl ?_
  exact ⟨rfl, rfl⟩
 refine WL_some (og_if (s := .bool (decide (p.kind = 1))) (b := false) (v := .int .i64 p.kind) rfl (wgb_f _) (fun hc8 => ?_) ?_)
 ·
  have hc8_ := hc8
  try simp only [sb] at hc8_
  refine r_load (v := .int .i64 p.kind) (gvt hc8) hc4 rfl ?_
  exact ⟨rfl, rfl⟩
 refine WL_some (og_if (s := .bool (decide (p.kind = 1))) (b := false) (v := .bool (decide (p.kind = 2))) rfl (wgb_f _) (fun hc9 => ?_) ?_)
 ·
  have hc9_ := hc9
  try simp only [sb] at hc9_
  refine r_eql (gvt hc9) rfl ?_
  exact ⟨rfl, rfl⟩
 refine stp (r_or2 rfl rfl rfl ?_)
 refine stp (r_assign_bool rfl ?_)
 refine WL_nil ?_
 refine W_ret ?_
 refine ret1 (res_tmp (v := .bool ((decide (p.kind = 1)) || (decide (p.kind = 2)))) rfl) ⟨?_, G⟩
 rfl

set_option maxRecDepth 100000 in
theorem of_calls (w : World) (o : Ob) : Gives Try.prog 92 #[.agg #[.int .i64 o.kind, .int .i64 o.seg, .int .i64 o.at_, .int .i64 o.data, .int .i64 o.ptrs, .int .i64 o.size, .int .i64 o.count]] w (.agg #[.int .i64 o.kind, .int .i64 0, .int .i64 o.data, .int .i64 o.ptrs, .int .i64 o.size, .int .i64 o.count, .int .i64 0, .bool false]) := by
 have G := Grow.rfl' w
 refine gives_of Try.func92 Try.ntmps92 Try.results92 rfl rfl ?_
 refine W_seq (W_region rfl ?_)
 refine WL_some (og rfl ?_)
 (first | refine r_box_agg rfl ?_ | refine r_box_int rfl ?_ | refine r_box_slice rfl ?_ | refine r_box rfl rfl ?_)
 intro b1 w2 hb3 hc4 g5
 have hge6 := Nat.le_trans G.size hb3
 replace G := G.tr g5
 clear g5 hb3
 refine stp (r_alloc ?_)
 intro b7 w8 hb9 hc10 g11
 refine WL_nil ?_
 refine W_seq (W_region rfl ?_)
 refine stp (r_fieldAddr rfl ?_)
 have hge12 := Nat.le_trans G.size hb9
 have ne13 := Nat.ne_of_lt (Nat.lt_of_lt_of_le (lt_of_heap hc4) hb9)
 replace hc4 := g11.heap hc4
 replace G := G.tr g11
 clear g11 hb9
 refine stp (r_load (v := .int .i64 o.kind) rfl hc4 rfl ?_)
 refine stp (r_fieldAddr rfl ?_)
 refine stp (r_load (v := .int .i64 o.data) rfl hc4 rfl ?_)
 refine stp (r_fieldAddr rfl ?_)
 refine stp (r_load (v := .int .i64 o.ptrs) rfl hc4 rfl ?_)
 refine stp (r_fieldAddr rfl ?_)
 refine stp (r_load (v := .int .i64 o.size) rfl hc4 rfl ?_)
 refine stp (r_fieldAddr rfl ?_)
 refine stp (r_load (v := .int .i64 o.count) rfl hc4 rfl ?_)
 refine stp (r_build (v := .agg #[.int .i64 o.kind, .int .i64 0, .int .i64 o.data, .int .i64 o.ptrs, .int .i64 o.size, .int .i64 o.count, .int .i64 0, .bool false]) (fun w => by kernel_rfl) ?_)
 refine stn (r_storeAll rfl rfl hc10 (by rfl) (by rfl) (by rfl) ?_)
 intro w14 hc15 u16
 replace hc4 := u16.heap hc4 ne13
 replace G := G.upd u16 hge12
 clear u16 hc10
 refine WL_nil ?_
 refine W_ret ?_
 refine ret1 (res_all rfl hc15 (by rfl)) ⟨?_, G⟩
 rfl

set_option maxRecDepth 100000 in
theorem owords_calls (w : World) (o : Ob) : Gives Try.prog 64 #[.agg #[.int .i64 o.kind, .int .i64 o.seg, .int .i64 o.at_, .int .i64 o.data, .int .i64 o.ptrs, .int .i64 o.size, .int .i64 o.count]] w (.int .i64 (wordsO o)) := by
 have G := Grow.rfl' w
 refine gives_of Try.func64 Try.ntmps64 Try.results64 rfl rfl ?_
 refine W_seq (W_region rfl ?_)
 refine WL_some (og rfl ?_)
 (first | refine r_box_agg rfl ?_ | refine r_box_int rfl ?_ | refine r_box_slice rfl ?_ | refine r_box rfl rfl ?_)
 intro b1 w2 hb3 hc4 g5
 have hge6 := Nat.le_trans G.size hb3
 replace G := G.tr g5
 clear g5 hb3
 refine stp (r_assign_int rfl ?_)
 refine WL_nil ?_
 refine W_seq ?_
 refine W_seq (W_region rfl ?_)
 refine stp (r_fieldAddr rfl ?_)
 refine stp (r_load (v := .int .i64 o.kind) rfl hc4 rfl ?_)
 refine stp (r_eql rfl rfl ?_)
 refine WL_nil ?_
 refine W_cond2 (b := (decide (o.kind = 3))) rfl (fun h1 => ?_) (fun h1 => ?_)
 ·-- true
  replace h1 := of_decide_eq_true h1
  refine W_seq (W_region rfl ?_)
  refine stp (r_assign_int rfl ?_)
  refine WL_nil ?_
  refine W_ret ?_
  refine ret1 (res_tmp (v := .int .i64 0) rfl) ⟨?_, G⟩
  simp [wordsO, Ob.pt, *]
 ·-- false
  replace h1 := of_decide_eq_false h1
  refine W_skip ?_
  refine W_seq (W_region rfl ?_)
  refine stp (r_loadAll rfl hc4 (by rfl) ?_)
  refine stp (r_gives (v := .agg #[.int .i64 o.kind, .int .i64 0, .int .i64 o.data, .int .i64 o.ptrs, .int .i64 o.size, .int .i64 o.count, .int .i64 0, .bool false]) rfl (of_calls _ ⟨o.kind, o.seg, o.at_, o.data, o.ptrs, o.size, o.count⟩) ?_)
  intro w7 g8
  replace hc4 := g8.heap hc4
  replace G := G.tr g8
  clear g8
  refine stp (r_gives (v := .tuple #[.int .i64 (wordsN ⟨o.kind, 0, o.data, o.ptrs, o.size, o.count, 0, false⟩), .int .u16 (wordsE ⟨o.kind, 0, o.data, o.ptrs, o.size, o.count, 0, false⟩)]) rfl (words_calls _ ⟨o.kind, 0, o.data, o.ptrs, o.size, o.count, 0, false⟩) ?_)
  intro w9 g10
  replace hc4 := g10.heap hc4
  replace G := G.tr g10
  clear g10
  refine stp (r_move (v := .tuple #[.int .i64 (wordsN ⟨o.kind, 0, o.data, o.ptrs, o.size, o.count, 0, false⟩), .int .u16 (wordsE ⟨o.kind, 0, o.data, o.ptrs, o.size, o.count, 0, false⟩)]) rfl ?_)
  refine stp (r_extract (v := .int .i64 (wordsN ⟨o.kind, 0, o.data, o.ptrs, o.size, o.count, 0, false⟩)) rfl rfl ?_)
  refine stp (r_extract (v := .int .u16 (wordsE ⟨o.kind, 0, o.data, o.ptrs, o.size, o.count, 0, false⟩)) rfl rfl ?_)
  refine stp (r_assign_int rfl ?_)
  refine stp (r_assign_int rfl ?_)
  refine WL_nil ?_
  refine W_seq (W_region rfl ?_)
  refine stp (r_move_int rfl ?_)
  refine stp (r_assign_int rfl ?_)
  refine WL_nil ?_
  refine W_ret ?_
  refine ret1 (res_tmp (v := .int .i64 (wordsN ⟨o.kind, 0, o.data, o.ptrs, o.size, o.count, 0, false⟩)) rfl) ⟨?_, G⟩
  simp [wordsO, Ob.pt, *]

set_option maxRecDepth 100000 in
theorem wholeWord_calls (w : World) {u : Value} {A : List (List Int)} (hA : ArenaR w u A) (seg a : Int) : Gives Try.prog 134 #[.agg #[u], .int .i64 seg, .int .i64 a] w (.tuple #[.int .u64 ((wordA A seg a).1), .int .u16 ((wordA A seg a).2)]) := by
 obtain ⟨ada, ca, segsa, sa, sca, rfl, -, -, RA, hsa, hra⟩ := hA.fn
 have G := Grow.rfl' w
 refine gives_of Try.func134 Try.ntmps134 Try.results134 rfl rfl ?_
 refine W_seq (W_region rfl ?_)
 refine WL_some (og rfl ?_)
 (first | refine r_box_agg rfl ?_ | refine r_box_int rfl ?_ | refine r_box_slice rfl ?_ | refine r_box rfl rfl ?_)
 intro b1 w2 hb3 hc4 g5
 have hge6 := Nat.le_trans G.size hb3
 replace G := G.tr g5
 clear g5 hb3
 refine stp (r_assign_int rfl ?_)
 refine stp (r_assign_int rfl ?_)
 refine WL_nil ?_
 refine W_seq (W_region rfl ?_)
 refine stp (r_fieldAddr rfl ?_)
 refine stp (r_load (v := .slice ada A.length ca) rfl hc4 rfl ?_)
 refine stp (r_move_int rfl ?_)
 refine stp (r_move_int rfl ?_)
 refine stp (r_gives (v := .tuple #[.int .u64 ((wordA A seg a).1), .int .u16 ((wordA A seg a).2)]) rfl (aword_calls _ (hA.grow G)) ?_)
 intro w7 g8
 replace hc4 := g8.heap hc4
 replace G := G.tr g8
 clear g8
 refine stp (r_extract (v := .int .u64 ((wordA A seg a).1)) rfl rfl ?_)
 refine stp (r_extract (v := .int .u16 ((wordA A seg a).2)) rfl rfl ?_)
 refine stp (r_assign_int rfl ?_)
 refine stp (r_assign_int rfl ?_)
 refine WL_nil ?_
 refine W_ret ?_
 refine ret2 (res_tmp (v := .int .u64 ((wordA A seg a).1)) rfl) (res_tmp (v := .int .u16 ((wordA A seg a).2)) rfl) ⟨?_, G⟩
 rfl

set_option maxRecDepth 100000 in
theorem wholeSizes_calls (w : World) {u : Value} {A : List (List Int)} (hA : ArenaR w u A) (hl : A.length ≤ 1000) : Calls Try.prog 133 #[.agg #[u]] w (Ret fun r w2 => ∃ ad c, r = .slice ad A.length c ∧ RowAt w2 1 ad A.length (A.map fun s => .int .i64 (s.length : Int)) ∧ Grow w w2) := by
 obtain ⟨segs_, ⟨ada, ca, rfl, hc1_, hc2_, RA⟩, hrows⟩ := hA
 have G := Grow.rfl' w
 refine calls_ret Try.func133 Try.ntmps133 Try.results133 rfl rfl ?_
 refine W_seq (W_region rfl ?_)
 refine WL_some (og rfl ?_)
 (first | refine r_box_agg rfl ?_ | refine r_box_int rfl ?_ | refine r_box_slice rfl ?_ | refine r_box rfl rfl ?_)
 intro b1 w2 hb3 hc4 g5
 have hge6 := Nat.le_trans G.size hb3
 replace G := G.tr g5
 clear g5 hb3
 refine stp (r_assign_slice rfl ?_)
 refine WL_nil ?_
 refine W_seq (W_region rfl ?_)
 refine stp (r_fieldAddr rfl ?_)
 refine stp (r_load (v := .slice ada A.length ca) rfl hc4 rfl ?_)
 refine WL_some (og rfl ?_)
 refine r_call rfl (sizes_calls _ (RA.grow G) rfl (fun i q hq => by obtain ⟨v, h1, h2⟩ := hrows i q hq; exact ⟨v, h1, h2.grow G⟩) (by omega)) ?_
 rintro v_ w7 ⟨own, g_⟩
 replace hc4 := g_.heap hc4
 replace G := G.tr g_
 clear g_
 obtain ⟨ad5, c5, rfl, hc5, hc6, RS⟩ := own_row own (by omega)
 refine stp (r_assign_slice rfl ?_)
 refine WL_nil ?_
 refine W_ret ?_
 refine ret1 (res_tmp (v := .slice ad5 A.length c5) rfl) ⟨_, _, rfl, RS, G⟩

set_option maxRecDepth 100000 in
theorem pointer_calls (w : World) {src : Value} {s : Src} (H : SrcOk Try.prog w src s) (seg a : Int) : Gives Try.prog 86 #[src, .int .i64 seg, .int .i64 a] w (.tuple #[.agg #[.int .i64 ((ptrS s seg a).1.kind), .int .i64 ((ptrS s seg a).1.off), .int .i64 ((ptrS s seg a).1.data), .int .i64 ((ptrS s seg a).1.ptrs), .int .i64 ((ptrS s seg a).1.size), .int .i64 ((ptrS s seg a).1.count), .int .i64 ((ptrS s seg a).1.seg), .bool ((ptrS s seg a).1.dbl)], .int .u16 ((ptrS s seg a).2)]) := by
 have G := Grow.rfl' w
 refine gives_of Try.func86 Try.ntmps86 Try.results86 rfl rfl ?_
 refine W_seq (W_region rfl ?_)
 refine stp (r_alloc ?_)
 intro b1 w2 hb3 hc4 g5
 refine stp (r_assign_int rfl ?_)
 refine WL_nil ?_
 refine W_seq (W_region rfl ?_)
 refine stp (r_move (v := src) rfl ?_)
 refine stp (r_move_int rfl ?_)
 refine stp (r_move_int rfl ?_)
 have hge6 := Nat.le_trans G.size hb3
 replace G := G.tr g5
 clear g5 hb3
 refine stp (r_srcWord H G rfl rfl rfl ?_)
 intro w7 g8
 replace hc4 := g8.heap hc4
 replace G := G.tr g8
 clear g8
 refine stp (r_move (v := .tuple #[.int .u64 ((s.word seg a).1), .int .u16 ((s.word seg a).2)]) rfl ?_)
 refine stp (r_extract (v := .int .u64 ((s.word seg a).1)) rfl rfl ?_)
 refine stp (r_extract (v := .int .u16 ((s.word seg a).2)) rfl rfl ?_)
 refine stp (r_assign_int rfl ?_)
 refine stp (r_assign_int rfl ?_)
 refine WL_nil ?_
 refine W_seq ?_
 refine W_seq (W_region rfl ?_)
 refine stp (r_move_int rfl ?_)
 refine stp (r_neq rfl rfl ?_)
 refine WL_nil ?_
 refine W_cond2 (b := (decide (((s.word seg a).2) ≠ 0))) rfl (fun h1 => ?_) (fun h1 => ?_)
 ·-- true
  replace h1 := of_decide_eq_true h1
  refine W_seq (W_region rfl ?_)
  refine stp (r_build (v := .agg #[.int .i64 0, .int .i64 0, .int .i64 0, .int .i64 0, .int .i64 0, .int .i64 0, .int .i64 0, .bool false]) (fun w => by kernel_rfl) ?_)
  refine stp (r_move_int rfl ?_)
  refine stn (r_storeAll rfl rfl hc4 (by rfl) (by rfl) (by rfl) ?_)
  intro w9 hc10 u11
  replace G := G.upd u11 hge6
  clear u11 hc4
  refine stp (r_assign_int rfl ?_)
  refine WL_nil ?_
  refine W_ret ?_
  refine ret2 (res_all rfl hc10 (by rfl)) (res_tmp (v := .int .u16 ((s.word seg a).2)) rfl) ⟨?_, G⟩
  have h9 : ptrS s seg a = (Pt0, (s.word seg a).2) := by unfold ptrS; rw [if_pos h1]
  rw [h9]; rfl
 ·-- false
  replace h1 := of_decide_eq_false h1
  refine W_skip ?_
  refine W_seq (W_region rfl ?_)
  refine stp (r_move_int rfl ?_)
  refine stp (r_gives (v := .tuple #[.agg #[.int .i64 ((decP (s.word seg a).1).kind), .int .i64 ((decP (s.word seg a).1).off), .int .i64 ((decP (s.word seg a).1).data), .int .i64 ((decP (s.word seg a).1).ptrs), .int .i64 ((decP (s.word seg a).1).size), .int .i64 ((decP (s.word seg a).1).count), .int .i64 ((decP (s.word seg a).1).seg), .bool ((decP (s.word seg a).1).dbl)], .int .u16 (decE (s.word seg a).1)]) rfl (decode_calls _ _ (H.num seg a).1 (H.num seg a).2.1) ?_)
  intro w12 g13
  replace hc4 := g13.heap hc4
  replace G := G.tr g13
  clear g13
  refine stp (r_extract (v := .agg #[.int .i64 ((decP (s.word seg a).1).kind), .int .i64 ((decP (s.word seg a).1).off), .int .i64 ((decP (s.word seg a).1).data), .int .i64 ((decP (s.word seg a).1).ptrs), .int .i64 ((decP (s.word seg a).1).size), .int .i64 ((decP (s.word seg a).1).count), .int .i64 ((decP (s.word seg a).1).seg), .bool ((decP (s.word seg a).1).dbl)]) rfl rfl ?_)
  refine stp (r_extract (v := .int .u16 (decE (s.word seg a).1)) rfl rfl ?_)
  refine stn (r_storeAll rfl rfl hc4 (by rfl) (by rfl) (by rfl) ?_)
  intro w14 hc15 u16
  replace G := G.upd u16 hge6
  clear u16 hc4
  refine stp (r_assign_int rfl ?_)
  refine WL_nil ?_
  refine W_ret ?_
  refine ret2 (res_all rfl hc15 (by rfl)) (res_tmp (v := .int .u16 (decE (s.word seg a).1)) rfl) ⟨?_, G⟩
  have h9 : ptrS s seg a = (decP (s.word seg a).1, decE (s.word seg a).1) := by unfold ptrS; rw [if_neg h1]
  rw [h9]

set_option maxRecDepth 100000 in
theorem found_calls (w : World) {src : Value} {s : Src} (H : SrcOk Try.prog w src s) (p : Pt) (seg a : Int) (hp : PtR p) (ha : inR .i64 a) : Gives Try.prog 88 #[src, .agg #[.int .i64 p.kind, .int .i64 p.off, .int .i64 p.data, .int .i64 p.ptrs, .int .i64 p.size, .int .i64 p.count, .int .i64 p.seg, .bool p.dbl], .int .i64 seg, .int .i64 a] w (.tuple #[.agg #[.int .i64 ((foundS s p seg a).1.kind), .int .i64 ((foundS s p seg a).1.seg), .int .i64 ((foundS s p seg a).1.at_), .int .i64 ((foundS s p seg a).1.data), .int .i64 ((foundS s p seg a).1.ptrs), .int .i64 ((foundS s p seg a).1.size), .int .i64 ((foundS s p seg a).1.count)], .int .u16 ((foundS s p seg a).2)]) := by
 have hw9 := wordsN_range hp.of
 have G := Grow.rfl' w
 refine gives_of Try.func88 Try.ntmps88 Try.results88 rfl rfl ?_
 refine W_seq (W_region rfl ?_)
 refine WL_some (og rfl ?_)
 (first | refine r_box_agg rfl ?_ | refine r_box_int rfl ?_ | refine r_box_slice rfl ?_ | refine r_box rfl rfl ?_)
 intro b1 w2 hb3 hc4 g5
 have hge6 := Nat.le_trans G.size hb3
 replace G := G.tr g5
 clear g5 hb3
 refine stp (r_alloc ?_)
 intro b7 w8 hb9 hc10 g11
 refine stp (r_assign_int rfl ?_)
 refine WL_nil ?_
 refine W_seq (W_region rfl ?_)
 refine stp (r_fieldAddr rfl ?_)
 have hge12 := Nat.le_trans G.size hb9
 have ne13 := Nat.ne_of_lt (Nat.lt_of_lt_of_le (lt_of_heap hc4) hb9)
 replace hc4 := g11.heap hc4
 replace G := G.tr g11
 clear g11 hb9
 refine stp (r_load (v := .int .i64 p.kind) rfl hc4 rfl ?_)
 refine stp (r_move_int rfl ?_)
 refine stp (r_move_int rfl ?_)
 refine stp (r_fieldAddr rfl ?_)
 refine stp (r_load (v := .int .i64 p.data) rfl hc4 rfl ?_)
 refine stp (r_fieldAddr rfl ?_)
 refine stp (r_load (v := .int .i64 p.ptrs) rfl hc4 rfl ?_)
 refine stp (r_fieldAddr rfl ?_)
 refine stp (r_load (v := .int .i64 p.size) rfl hc4 rfl ?_)
 refine stp (r_fieldAddr rfl ?_)
 refine stp (r_load (v := .int .i64 p.count) rfl hc4 rfl ?_)
 refine stp (r_build (v := .agg #[.int .i64 p.kind, .int .i64 seg, .int .i64 a, .int .i64 p.data, .int .i64 p.ptrs, .int .i64 p.size, .int .i64 p.count]) (fun w => by kernel_rfl) ?_)
 refine stp (r_alloc ?_)
 intro b14 w15 hb16 hc17 g18
 refine stn (r_storeAll rfl rfl hc17 (by rfl) (by rfl) (by rfl) ?_)
 intro w19 hc20 u21
 have g22 := g18.upd u21 hb16
 have hge23 := Nat.le_trans G.size hb16
 have ne24 := Nat.ne_of_lt (Nat.lt_of_lt_of_le (lt_of_heap hc4) hb16)
 have ne25 := Nat.ne_of_lt (Nat.lt_of_lt_of_le (lt_of_heap hc10) hb16)
 replace hc4 := g22.heap hc4
 replace hc10 := g22.heap hc10
 replace G := G.tr g22
 clear u21 g18 hb16 hc17
 refine WL_nil ?_
 refine W_seq (W_region rfl ?_)
 refine stp (r_loadAll rfl hc20 (by rfl) ?_)
 refine stp (r_gives (v := .agg #[.int .i64 p.kind, .int .i64 0, .int .i64 p.data, .int .i64 p.ptrs, .int .i64 p.size, .int .i64 p.count, .int .i64 0, .bool false]) rfl (of_calls _ ⟨p.kind, seg, a, p.data, p.ptrs, p.size, p.count⟩) ?_)
 intro w26 g27
 replace hc4 := g27.heap hc4
 replace hc10 := g27.heap hc10
 replace hc20 := g27.heap hc20
 replace G := G.tr g27
 clear g27
 refine stp (r_gives (v := .tuple #[.int .i64 (wordsN ⟨p.kind, 0, p.data, p.ptrs, p.size, p.count, 0, false⟩), .int .u16 (wordsE ⟨p.kind, 0, p.data, p.ptrs, p.size, p.count, 0, false⟩)]) rfl (words_calls _ ⟨p.kind, 0, p.data, p.ptrs, p.size, p.count, 0, false⟩) ?_)
 intro w28 g29
 replace hc4 := g29.heap hc4
 replace hc10 := g29.heap hc10
 replace hc20 := g29.heap hc20
 replace G := G.tr g29
 clear g29
 refine stp (r_move (v := .tuple #[.int .i64 (wordsN ⟨p.kind, 0, p.data, p.ptrs, p.size, p.count, 0, false⟩), .int .u16 (wordsE ⟨p.kind, 0, p.data, p.ptrs, p.size, p.count, 0, false⟩)]) rfl ?_)
 refine stp (r_extract (v := .int .i64 (wordsN ⟨p.kind, 0, p.data, p.ptrs, p.size, p.count, 0, false⟩)) rfl rfl ?_)
 refine stp (r_extract (v := .int .u16 (wordsE ⟨p.kind, 0, p.data, p.ptrs, p.size, p.count, 0, false⟩)) rfl rfl ?_)
 refine stp (r_assign_int rfl ?_)
 refine stp (r_assign_int rfl ?_)
 refine WL_nil ?_
 refine W_seq ?_
 refine W_block ?_
 refine W_seq (W_region rfl ?_)
 refine stp (r_move_int rfl ?_)
 refine stp (r_neq rfl rfl ?_)
 refine stp (r_assign_bool rfl ?_)
 refine WL_nil ?_
 refine W_cond2 (b := (decide ((wordsE ⟨p.kind, 0, p.data, p.ptrs, p.size, p.count, 0, false⟩) ≠ 0))) rfl (fun h1 => ?_) (fun h1 => ?_)
 ·-- true
  replace h1 := of_decide_eq_true h1
  refine W_seq (W_region rfl ?_)
  refine stp (r_build (v := .agg #[.int .i64 0, .int .i64 0, .int .i64 0, .int .i64 0, .int .i64 0, .int .i64 0, .int .i64 0]) (fun w => by kernel_rfl) ?_)
  refine stp (r_move_int rfl ?_)
  refine stn (r_storeAll rfl rfl hc10 (by rfl) (by rfl) (by rfl) ?_)
  intro w30 hc31 u32
  replace hc4 := u32.heap hc4 ne13
  replace hc20 := u32.heap hc20 ne25.symm
  replace G := G.upd u32 hge12
  clear u32 hc10
  refine stp (r_assign_int rfl ?_)
  refine WL_nil ?_
  refine W_ret ?_
  refine ret2 (res_all rfl hc31 (by rfl)) (res_tmp (v := .int .u16 (wordsE ⟨p.kind, 0, p.data, p.ptrs, p.size, p.count, 0, false⟩)) rfl) ⟨?_, G⟩
  have h9 : foundS s p seg a = (Ob0, wordsE ⟨p.kind, 0, p.data, p.ptrs, p.size, p.count, 0, false⟩) := by unfold foundS; exact if_pos h1
  rw [h9]; rfl
 ·-- false
  replace h1 := of_decide_eq_false h1
  refine W_seq (W_region rfl ?_)
  refine stp (r_move (v := src) rfl ?_)
  refine stp (r_srcSizes H G rfl ?_)
  intro adz cz w33 g34 Rz
  replace hc4 := g34.heap hc4
  replace hc10 := g34.heap hc10
  replace hc20 := g34.heap hc20
  replace G := G.tr g34
  clear g34
  refine stp (r_move_int rfl ?_)
  refine stp (r_move_int rfl ?_)
  refine stp (r_move_int rfl ?_)
  refine stp (r_gives (v := .bool (withinP s.sizes seg a (wordsN ⟨p.kind, 0, p.data, p.ptrs, p.size, p.count, 0, false⟩))) rfl (within_calls _ Rz H.each ha (by simp only [inR]; omega)) ?_)
  intro w35 g36
  replace hc4 := g36.heap hc4
  replace hc10 := g36.heap hc10
  replace hc20 := g36.heap hc20
  replace Rz := Rz.grow g36
  replace G := G.tr g36
  clear g36
  refine stp (r_not rfl ?_)
  refine stp (r_assign_bool rfl ?_)
  refine WL_nil ?_
  refine W_cond2 (b := (!(withinP s.sizes seg a (wordsN ⟨p.kind, 0, p.data, p.ptrs, p.size, p.count, 0, false⟩)))) rfl (fun h2 => ?_) (fun h2 => ?_)
  ·-- true
   simp only [sb] at h2
   refine W_seq (W_region rfl ?_)
   refine stp (r_build (v := .agg #[.int .i64 0, .int .i64 0, .int .i64 0, .int .i64 0, .int .i64 0, .int .i64 0, .int .i64 0]) (fun w => by kernel_rfl) ?_)
   refine stn (r_storeAll rfl rfl hc10 (by rfl) (by rfl) (by rfl) ?_)
   intro w37 hc38 u39
   replace hc4 := u39.heap hc4 ne13
   replace hc20 := u39.heap hc20 ne25.symm
   replace G := G.upd u39 hge12
   clear u39 hc10
   refine stp (r_assign_int rfl ?_)
   refine WL_nil ?_
   refine W_ret ?_
   refine ret2 (res_all rfl hc38 (by rfl)) (res_tmp (v := .int .u16 20) rfl) ⟨?_, G⟩
   have h9 : foundS s p seg a = (Ob0, 20) := by unfold foundS; exact (if_neg h1).trans (if_pos (show withinP s.sizes seg a (wordsN ⟨p.kind, 0, p.data, p.ptrs, p.size, p.count, 0, false⟩) = false from by simpa using h2))
   rw [h9]; rfl
  ·-- false
   simp only [sb] at h2
   refine W_skip ?_
   refine W_seq (W_region rfl ?_)
   refine stp (r_loadAll rfl hc20 (by rfl) ?_)
   refine stn (r_storeAll rfl rfl hc10 (by rfl) (by rfl) (by rfl) ?_)
   intro w40 hc41 u42
   replace hc4 := u42.heap hc4 ne13
   replace hc20 := u42.heap hc20 ne25.symm
   replace G := G.upd u42 hge12
   clear u42 hc10
   refine stp (r_assign_int rfl ?_)
   refine WL_nil ?_
   refine W_ret ?_
   refine ret2 (res_all rfl hc41 (by rfl)) (res_tmp (v := .int .u16 0) rfl) ⟨?_, G⟩
   have h9 : foundS s p seg a = (objP p seg a, 0) := by unfold foundS; exact (if_neg h1).trans (if_neg (show ¬ withinP s.sizes seg a (wordsN ⟨p.kind, 0, p.data, p.ptrs, p.size, p.count, 0, false⟩) = false from by simpa using h2))
   rw [h9]; rfl

set_option maxRecDepth 100000 in
theorem landed_calls (w : World) {src : Value} {s : Src} (H : SrcOk Try.prog w src s) (p : Pt) (hp : PtR p) : Gives Try.prog 90 #[src, .agg #[.int .i64 p.kind, .int .i64 p.off, .int .i64 p.data, .int .i64 p.ptrs, .int .i64 p.size, .int .i64 p.count, .int .i64 p.seg, .bool p.dbl]] w (.tuple #[.agg #[.int .i64 ((landedS s p).1.kind), .int .i64 ((landedS s p).1.seg), .int .i64 ((landedS s p).1.at_), .int .i64 ((landedS s p).1.data), .int .i64 ((landedS s p).1.ptrs), .int .i64 ((landedS s p).1.size), .int .i64 ((landedS s p).1.count)], .int .u16 ((landedS s p).2)]) := by
 have hq := ptrS_range H p.seg p.off
 have hqo := hq.off
 have hpo := hp.off
 have G := Grow.rfl' w
 refine gives_of Try.func90 Try.ntmps90 Try.results90 rfl rfl ?_
 refine W_seq (W_region rfl ?_)
 refine WL_some (og rfl ?_)
 (first | refine r_box_agg rfl ?_ | refine r_box_int rfl ?_ | refine r_box_slice rfl ?_ | refine r_box rfl rfl ?_)
 intro b1 w2 hb3 hc4 g5
 have hge6 := Nat.le_trans G.size hb3
 replace G := G.tr g5
 clear g5 hb3
 refine stp (r_alloc ?_)
 intro b7 w8 hb9 hc10 g11
 refine stp (r_assign_int rfl ?_)
 refine WL_nil ?_
 refine W_seq (W_region rfl ?_)
 refine stp (r_move (v := src) rfl ?_)
 refine stp (r_fieldAddr rfl ?_)
 have hge12 := Nat.le_trans G.size hb9
 have ne13 := Nat.ne_of_lt (Nat.lt_of_lt_of_le (lt_of_heap hc4) hb9)
 replace hc4 := g11.heap hc4
 replace G := G.tr g11
 clear g11 hb9
 refine stp (r_load (v := .int .i64 p.seg) rfl hc4 rfl ?_)
 refine stp (r_fieldAddr rfl ?_)
 refine stp (r_load (v := .int .i64 p.off) rfl hc4 rfl ?_)
 refine stp (r_gives (v := .tuple #[.agg #[.int .i64 ((ptrS s p.seg p.off).1.kind), .int .i64 ((ptrS s p.seg p.off).1.off), .int .i64 ((ptrS s p.seg p.off).1.data), .int .i64 ((ptrS s p.seg p.off).1.ptrs), .int .i64 ((ptrS s p.seg p.off).1.size), .int .i64 ((ptrS s p.seg p.off).1.count), .int .i64 ((ptrS s p.seg p.off).1.seg), .bool ((ptrS s p.seg p.off).1.dbl)], .int .u16 ((ptrS s p.seg p.off).2)]) rfl (pointer_calls _ (H.grow G) p.seg p.off) ?_)
 intro w14 g15
 replace hc4 := g15.heap hc4
 replace hc10 := g15.heap hc10
 replace G := G.tr g15
 clear g15
 refine stp (r_move (v := .tuple #[.agg #[.int .i64 ((ptrS s p.seg p.off).1.kind), .int .i64 ((ptrS s p.seg p.off).1.off), .int .i64 ((ptrS s p.seg p.off).1.data), .int .i64 ((ptrS s p.seg p.off).1.ptrs), .int .i64 ((ptrS s p.seg p.off).1.size), .int .i64 ((ptrS s p.seg p.off).1.count), .int .i64 ((ptrS s p.seg p.off).1.seg), .bool ((ptrS s p.seg p.off).1.dbl)], .int .u16 ((ptrS s p.seg p.off).2)]) rfl ?_)
 refine stp (r_extract (v := .agg #[.int .i64 ((ptrS s p.seg p.off).1.kind), .int .i64 ((ptrS s p.seg p.off).1.off), .int .i64 ((ptrS s p.seg p.off).1.data), .int .i64 ((ptrS s p.seg p.off).1.ptrs), .int .i64 ((ptrS s p.seg p.off).1.size), .int .i64 ((ptrS s p.seg p.off).1.count), .int .i64 ((ptrS s p.seg p.off).1.seg), .bool ((ptrS s p.seg p.off).1.dbl)]) rfl rfl ?_)
 refine stp (r_extract (v := .int .u16 ((ptrS s p.seg p.off).2)) rfl rfl ?_)
 refine stp (r_alloc ?_)
 intro b16 w17 hb18 hc19 g20
 refine stn (r_storeAll rfl rfl hc19 (by rfl) (by rfl) (by rfl) ?_)
 intro w21 hc22 u23
 have g24 := g20.upd u23 hb18
 have hge25 := Nat.le_trans G.size hb18
 have ne26 := Nat.ne_of_lt (Nat.lt_of_lt_of_le (lt_of_heap hc4) hb18)
 have ne27 := Nat.ne_of_lt (Nat.lt_of_lt_of_le (lt_of_heap hc10) hb18)
 replace hc4 := g24.heap hc4
 replace hc10 := g24.heap hc10
 replace G := G.tr g24
 clear u23 g20 hb18 hc19
 refine stp (r_assign_int rfl ?_)
 refine WL_nil ?_
 refine W_seq ?_
 refine W_block ?_
 refine W_seq (W_region rfl ?_)
 refine stp (r_move_int rfl ?_)
 refine stp (r_neq rfl rfl ?_)
 refine stp (r_assign_bool rfl ?_)
 refine WL_nil ?_
 refine W_cond2 (b := (decide (((ptrS s p.seg p.off).2) ≠ 0))) rfl (fun h1 => ?_) (fun h1 => ?_)
 ·-- true
  replace h1 := of_decide_eq_true h1
  refine W_seq (W_region rfl ?_)
  refine stp (r_build (v := .agg #[.int .i64 0, .int .i64 0, .int .i64 0, .int .i64 0, .int .i64 0, .int .i64 0, .int .i64 0]) (fun w => by kernel_rfl) ?_)
  refine stp (r_move_int rfl ?_)
  refine stn (r_storeAll rfl rfl hc10 (by rfl) (by rfl) (by rfl) ?_)
  intro w28 hc29 u30
  replace hc4 := u30.heap hc4 ne13
  replace hc22 := u30.heap hc22 ne27.symm
  replace G := G.upd u30 hge12
  clear u30 hc10
  refine stp (r_assign_int rfl ?_)
  refine WL_nil ?_
  refine W_ret ?_
  refine ret2 (res_all rfl hc29 (by rfl)) (res_tmp (v := .int .u16 ((ptrS s p.seg p.off).2)) rfl) ⟨?_, G⟩
  have h9 : landedS s p = (Ob0, (ptrS s p.seg p.off).2) := by unfold landedS; rw [if_pos h1]
  rw [h9]; rfl
 ·-- false
  replace h1 := of_decide_eq_false h1
  refine W_seq (W_region rfl ?_)
  refine stp (r_loadAll rfl hc22 (by rfl) ?_)
  refine stp (r_gives (v := .bool (nearP ((ptrS s p.seg p.off).1))) rfl (isnear_calls _ ((ptrS s p.seg p.off).1)) ?_)
  intro w31 g32
  replace hc4 := g32.heap hc4
  replace hc10 := g32.heap hc10
  replace hc22 := g32.heap hc22
  replace G := G.tr g32
  clear g32
  refine stp (r_not rfl ?_)
  refine stp (r_assign_bool rfl ?_)
  refine WL_nil ?_
  refine W_cond2 (b := (!(nearP ((ptrS s p.seg p.off).1)))) rfl (fun h2 => ?_) (fun h2 => ?_)
  ·-- true
   simp only [sb] at h2
   refine W_seq (W_region rfl ?_)
   refine stp (r_build (v := .agg #[.int .i64 0, .int .i64 0, .int .i64 0, .int .i64 0, .int .i64 0, .int .i64 0, .int .i64 0]) (fun w => by kernel_rfl) ?_)
   refine stn (r_storeAll rfl rfl hc10 (by rfl) (by rfl) (by rfl) ?_)
   intro w33 hc34 u35
   replace hc4 := u35.heap hc4 ne13
   replace hc22 := u35.heap hc22 ne27.symm
   replace G := G.upd u35 hge12
   clear u35 hc10
   refine stp (r_assign_int rfl ?_)
   refine WL_nil ?_
   refine W_ret ?_
   refine ret2 (res_all rfl hc34 (by rfl)) (res_tmp (v := .int .u16 23) rfl) ⟨?_, G⟩
   have h9 : landedS s p = (Ob0, 23) := by unfold landedS; rw [if_neg h1, if_pos (by simpa using h2)]
   rw [h9]; rfl
  ·-- false
   simp only [sb] at h2
   refine W_skip ?_
   refine W_seq (W_region rfl ?_)
   refine stp (r_move (v := src) rfl ?_)
   refine stp (r_loadAll rfl hc22 (by rfl) ?_)
   refine stp (r_fieldAddr rfl ?_)
   refine stp (r_load (v := .int .i64 p.seg) rfl hc4 rfl ?_)
   refine stp (r_fieldAddr rfl ?_)
   refine stp (r_load (v := .int .i64 p.off) rfl hc4 rfl ?_)
   refine stp (r_add rfl rfl ?_ ?_); constructor <;> omega
   refine stp (r_fieldAddr rfl ?_)
   refine stp (r_load (v := .int .i64 ((ptrS s p.seg p.off).1.off)) rfl hc22 rfl ?_)
   refine stp (r_add rfl rfl ?_ ?_); constructor <;> omega
   refine stp (r_gives (v := .tuple #[.agg #[.int .i64 ((foundS s ((ptrS s p.seg p.off).1) p.seg ((p.off + 1) + ((ptrS s p.seg p.off).1.off))).1.kind), .int .i64 ((foundS s ((ptrS s p.seg p.off).1) p.seg ((p.off + 1) + ((ptrS s p.seg p.off).1.off))).1.seg), .int .i64 ((foundS s ((ptrS s p.seg p.off).1) p.seg ((p.off + 1) + ((ptrS s p.seg p.off).1.off))).1.at_), .int .i64 ((foundS s ((ptrS s p.seg p.off).1) p.seg ((p.off + 1) + ((ptrS s p.seg p.off).1.off))).1.data), .int .i64 ((foundS s ((ptrS s p.seg p.off).1) p.seg ((p.off + 1) + ((ptrS s p.seg p.off).1.off))).1.ptrs), .int .i64 ((foundS s ((ptrS s p.seg p.off).1) p.seg ((p.off + 1) + ((ptrS s p.seg p.off).1.off))).1.size), .int .i64 ((foundS s ((ptrS s p.seg p.off).1) p.seg ((p.off + 1) + ((ptrS s p.seg p.off).1.off))).1.count)], .int .u16 ((foundS s ((ptrS s p.seg p.off).1) p.seg ((p.off + 1) + ((ptrS s p.seg p.off).1.off))).2)]) rfl (found_calls _ (H.grow G) ((ptrS s p.seg p.off).1) p.seg ((p.off + 1) + ((ptrS s p.seg p.off).1.off)) hq (by simp only [inR]; omega)) ?_)
   intro w36 g37
   replace hc4 := g37.heap hc4
   replace hc10 := g37.heap hc10
   replace hc22 := g37.heap hc22
   replace G := G.tr g37
   clear g37
   refine stp (r_extract (v := .agg #[.int .i64 ((foundS s ((ptrS s p.seg p.off).1) p.seg ((p.off + 1) + ((ptrS s p.seg p.off).1.off))).1.kind), .int .i64 ((foundS s ((ptrS s p.seg p.off).1) p.seg ((p.off + 1) + ((ptrS s p.seg p.off).1.off))).1.seg), .int .i64 ((foundS s ((ptrS s p.seg p.off).1) p.seg ((p.off + 1) + ((ptrS s p.seg p.off).1.off))).1.at_), .int .i64 ((foundS s ((ptrS s p.seg p.off).1) p.seg ((p.off + 1) + ((ptrS s p.seg p.off).1.off))).1.data), .int .i64 ((foundS s ((ptrS s p.seg p.off).1) p.seg ((p.off + 1) + ((ptrS s p.seg p.off).1.off))).1.ptrs), .int .i64 ((foundS s ((ptrS s p.seg p.off).1) p.seg ((p.off + 1) + ((ptrS s p.seg p.off).1.off))).1.size), .int .i64 ((foundS s ((ptrS s p.seg p.off).1) p.seg ((p.off + 1) + ((ptrS s p.seg p.off).1.off))).1.count)]) rfl rfl ?_)
   refine stp (r_extract (v := .int .u16 ((foundS s ((ptrS s p.seg p.off).1) p.seg ((p.off + 1) + ((ptrS s p.seg p.off).1.off))).2)) rfl rfl ?_)
   refine stn (r_storeAll rfl rfl hc10 (by rfl) (by rfl) (by rfl) ?_)
   intro w38 hc39 u40
   replace hc4 := u40.heap hc4 ne13
   replace hc22 := u40.heap hc22 ne27.symm
   replace G := G.upd u40 hge12
   clear u40 hc10
   refine stp (r_assign_int rfl ?_)
   refine WL_nil ?_
   refine W_ret ?_
   refine ret2 (res_all rfl hc39 (by rfl)) (res_tmp (v := .int .u16 ((foundS s ((ptrS s p.seg p.off).1) p.seg ((p.off + 1) + ((ptrS s p.seg p.off).1.off))).2)) rfl) ⟨?_, G⟩
   have h9 : landedS s p = foundS s (ptrS s p.seg p.off).1 p.seg (p.off + 1 + (ptrS s p.seg p.off).1.off) := by unfold landedS; rw [if_neg h1, if_neg (by simpa using h2)]
   rw [h9]

set_option maxRecDepth 100000 in
theorem twice_calls (w : World) {src : Value} {s : Src} (H : SrcOk Try.prog w src s) (p : Pt) (hp : PtR p) : Gives Try.prog 89 #[src, .agg #[.int .i64 p.kind, .int .i64 p.off, .int .i64 p.data, .int .i64 p.ptrs, .int .i64 p.size, .int .i64 p.count, .int .i64 p.seg, .bool p.dbl]] w (.tuple #[.agg #[.int .i64 ((twiceS s p).1.kind), .int .i64 ((twiceS s p).1.seg), .int .i64 ((twiceS s p).1.at_), .int .i64 ((twiceS s p).1.data), .int .i64 ((twiceS s p).1.ptrs), .int .i64 ((twiceS s p).1.size), .int .i64 ((twiceS s p).1.count)], .int .u16 ((twiceS s p).2)]) := by
 have hpo := hp.off
 obtain ⟨n1, n2, -, -⟩ := H.num p.seg p.off
 obtain ⟨n3, n4, -, -⟩ := H.num p.seg (p.off + 1)
 have hq := decP_range _ n1 n2
 have hr := decP_range _ n3 n4
 have hqo := hq.off
 have G := Grow.rfl' w
 refine gives_of Try.func89 Try.ntmps89 Try.results89 rfl rfl ?_
 refine W_seq (W_region rfl ?_)
 refine WL_some (og rfl ?_)
 (first | refine r_box_agg rfl ?_ | refine r_box_int rfl ?_ | refine r_box_slice rfl ?_ | refine r_box rfl rfl ?_)
 intro b1 w2 hb3 hc4 g5
 have hge6 := Nat.le_trans G.size hb3
 replace G := G.tr g5
 clear g5 hb3
 refine stp (r_alloc ?_)
 intro b7 w8 hb9 hc10 g11
 refine stp (r_assign_int rfl ?_)
 refine WL_nil ?_
 refine W_seq (W_region rfl ?_)
 refine stp (r_move (v := src) rfl ?_)
 refine stp (r_fieldAddr rfl ?_)
 have hge12 := Nat.le_trans G.size hb9
 have ne13 := Nat.ne_of_lt (Nat.lt_of_lt_of_le (lt_of_heap hc4) hb9)
 replace hc4 := g11.heap hc4
 replace G := G.tr g11
 clear g11 hb9
 refine stp (r_load (v := .int .i64 p.seg) rfl hc4 rfl ?_)
 refine stp (r_fieldAddr rfl ?_)
 refine stp (r_load (v := .int .i64 p.off) rfl hc4 rfl ?_)
 refine stp (r_srcWord H G rfl rfl rfl ?_)
 intro w14 g15
 replace hc4 := g15.heap hc4
 replace hc10 := g15.heap hc10
 replace G := G.tr g15
 clear g15
 refine stp (r_move (v := .tuple #[.int .u64 ((s.word p.seg p.off).1), .int .u16 ((s.word p.seg p.off).2)]) rfl ?_)
 refine stp (r_extract (v := .int .u64 ((s.word p.seg p.off).1)) rfl rfl ?_)
 refine stp (r_extract (v := .int .u16 ((s.word p.seg p.off).2)) rfl rfl ?_)
 refine stp (r_assign_int rfl ?_)
 refine stp (r_assign_int rfl ?_)
 refine WL_nil ?_
 refine W_seq ?_
 refine W_seq (W_region rfl ?_)
 refine stp (r_move_int rfl ?_)
 refine stp (r_neq rfl rfl ?_)
 refine WL_nil ?_
 refine W_cond2 (b := (decide (((s.word p.seg p.off).2) ≠ 0))) rfl (fun h1 => ?_) (fun h1 => ?_)
 ·-- true
  replace h1 := of_decide_eq_true h1
  refine W_seq (W_region rfl ?_)
  refine stp (r_build (v := .agg #[.int .i64 0, .int .i64 0, .int .i64 0, .int .i64 0, .int .i64 0, .int .i64 0, .int .i64 0]) (fun w => by kernel_rfl) ?_)
  refine stp (r_move_int rfl ?_)
  refine stn (r_storeAll rfl rfl hc10 (by rfl) (by rfl) (by rfl) ?_)
  intro w16 hc17 u18
  replace hc4 := u18.heap hc4 ne13
  replace G := G.upd u18 hge12
  clear u18 hc10
  refine stp (r_assign_int rfl ?_)
  refine WL_nil ?_
  refine W_ret ?_
  refine ret2 (res_all rfl hc17 (by rfl)) (res_tmp (v := .int .u16 ((s.word p.seg p.off).2)) rfl) ⟨?_, G⟩
  have h9 : twiceS s p = (Ob0, (s.word p.seg p.off).2) := by unfold twiceS; rw [if_pos h1]
  rw [h9]; rfl
 ·-- false
  replace h1 := of_decide_eq_false h1
  refine W_skip ?_
  refine W_seq (W_region rfl ?_)
  refine stp (r_move (v := src) rfl ?_)
  refine stp (r_fieldAddr rfl ?_)
  refine stp (r_load (v := .int .i64 p.seg) rfl hc4 rfl ?_)
  refine stp (r_fieldAddr rfl ?_)
  refine stp (r_load (v := .int .i64 p.off) rfl hc4 rfl ?_)
  refine stp (r_add rfl rfl ?_ ?_); constructor <;> omega
  refine stp (r_srcWord H G rfl rfl rfl ?_)
  intro w19 g20
  replace hc4 := g20.heap hc4
  replace hc10 := g20.heap hc10
  replace G := G.tr g20
  clear g20
  refine stp (r_move (v := .tuple #[.int .u64 ((s.word p.seg (p.off + 1)).1), .int .u16 ((s.word p.seg (p.off + 1)).2)]) rfl ?_)
  refine stp (r_extract (v := .int .u64 ((s.word p.seg (p.off + 1)).1)) rfl rfl ?_)
  refine stp (r_extract (v := .int .u16 ((s.word p.seg (p.off + 1)).2)) rfl rfl ?_)
  refine stp (r_assign_int rfl ?_)
  refine stp (r_assign_int rfl ?_)
  refine WL_nil ?_
  refine W_seq ?_
  refine W_seq (W_region rfl ?_)
  refine stp (r_move_int rfl ?_)
  refine stp (r_neq rfl rfl ?_)
  refine WL_nil ?_
  refine W_cond2 (b := (decide (((s.word p.seg (p.off + 1)).2) ≠ 0))) rfl (fun h2 => ?_) (fun h2 => ?_)
  ·-- true
   replace h2 := of_decide_eq_true h2
   refine W_seq (W_region rfl ?_)
   refine stp (r_build (v := .agg #[.int .i64 0, .int .i64 0, .int .i64 0, .int .i64 0, .int .i64 0, .int .i64 0, .int .i64 0]) (fun w => by kernel_rfl) ?_)
   refine stp (r_move_int rfl ?_)
   refine stn (r_storeAll rfl rfl hc10 (by rfl) (by rfl) (by rfl) ?_)
   intro w21 hc22 u23
   replace hc4 := u23.heap hc4 ne13
   replace G := G.upd u23 hge12
   clear u23 hc10
   refine stp (r_assign_int rfl ?_)
   refine WL_nil ?_
   refine W_ret ?_
   refine ret2 (res_all rfl hc22 (by rfl)) (res_tmp (v := .int .u16 ((s.word p.seg (p.off + 1)).2)) rfl) ⟨?_, G⟩
   have h9 : twiceS s p = (Ob0, (s.word p.seg (p.off + 1)).2) := by unfold twiceS; rw [if_neg h1, if_pos h2]
   rw [h9]; rfl
  ·-- false
   replace h2 := of_decide_eq_false h2
   refine W_skip ?_
   refine W_seq (W_region rfl ?_)
   refine stp (r_move_int rfl ?_)
   refine stp (r_gives (v := .tuple #[.agg #[.int .i64 ((decP (s.word p.seg p.off).1).kind), .int .i64 ((decP (s.word p.seg p.off).1).off), .int .i64 ((decP (s.word p.seg p.off).1).data), .int .i64 ((decP (s.word p.seg p.off).1).ptrs), .int .i64 ((decP (s.word p.seg p.off).1).size), .int .i64 ((decP (s.word p.seg p.off).1).count), .int .i64 ((decP (s.word p.seg p.off).1).seg), .bool ((decP (s.word p.seg p.off).1).dbl)], .int .u16 (decE (s.word p.seg p.off).1)]) rfl (decode_calls _ _ (H.num p.seg p.off).1 (H.num p.seg p.off).2.1) ?_)
   intro w24 g25
   replace hc4 := g25.heap hc4
   replace hc10 := g25.heap hc10
   replace G := G.tr g25
   clear g25
   refine stp (r_move (v := .tuple #[.agg #[.int .i64 ((decP (s.word p.seg p.off).1).kind), .int .i64 ((decP (s.word p.seg p.off).1).off), .int .i64 ((decP (s.word p.seg p.off).1).data), .int .i64 ((decP (s.word p.seg p.off).1).ptrs), .int .i64 ((decP (s.word p.seg p.off).1).size), .int .i64 ((decP (s.word p.seg p.off).1).count), .int .i64 ((decP (s.word p.seg p.off).1).seg), .bool ((decP (s.word p.seg p.off).1).dbl)], .int .u16 (decE (s.word p.seg p.off).1)]) rfl ?_)
   refine stp (r_extract (v := .agg #[.int .i64 ((decP (s.word p.seg p.off).1).kind), .int .i64 ((decP (s.word p.seg p.off).1).off), .int .i64 ((decP (s.word p.seg p.off).1).data), .int .i64 ((decP (s.word p.seg p.off).1).ptrs), .int .i64 ((decP (s.word p.seg p.off).1).size), .int .i64 ((decP (s.word p.seg p.off).1).count), .int .i64 ((decP (s.word p.seg p.off).1).seg), .bool ((decP (s.word p.seg p.off).1).dbl)]) rfl rfl ?_)
   refine stp (r_extract (v := .int .u16 (decE (s.word p.seg p.off).1)) rfl rfl ?_)
   refine stp (r_alloc ?_)
   intro b26 w27 hb28 hc29 g30
   refine stn (r_storeAll rfl rfl hc29 (by rfl) (by rfl) (by rfl) ?_)
   intro w31 hc32 u33
   have g34 := g30.upd u33 hb28
   have hge35 := Nat.le_trans G.size hb28
   have ne36 := Nat.ne_of_lt (Nat.lt_of_lt_of_le (lt_of_heap hc4) hb28)
   have ne37 := Nat.ne_of_lt (Nat.lt_of_lt_of_le (lt_of_heap hc10) hb28)
   replace hc4 := g34.heap hc4
   replace hc10 := g34.heap hc10
   replace G := G.tr g34
   clear u33 g30 hb28 hc29
   refine stp (r_assign_int rfl ?_)
   refine WL_nil ?_
   refine W_seq ?_
   refine W_seq (W_region rfl ?_)
   refine stp (r_move_int rfl ?_)
   refine stp (r_neq rfl rfl ?_)
   refine WL_nil ?_
   refine W_cond2 (b := (decide ((decE (s.word p.seg p.off).1) ≠ 0))) rfl (fun h3 => ?_) (fun h3 => ?_)
   ·-- true
    replace h3 := of_decide_eq_true h3
    refine W_seq (W_region rfl ?_)
    refine stp (r_build (v := .agg #[.int .i64 0, .int .i64 0, .int .i64 0, .int .i64 0, .int .i64 0, .int .i64 0, .int .i64 0]) (fun w => by kernel_rfl) ?_)
    refine stp (r_move_int rfl ?_)
    refine stn (r_storeAll rfl rfl hc10 (by rfl) (by rfl) (by rfl) ?_)
    intro w38 hc39 u40
    replace hc4 := u40.heap hc4 ne13
    replace hc32 := u40.heap hc32 ne37.symm
    replace G := G.upd u40 hge12
    clear u40 hc10
    refine stp (r_assign_int rfl ?_)
    refine WL_nil ?_
    refine W_ret ?_
    refine ret2 (res_all rfl hc39 (by rfl)) (res_tmp (v := .int .u16 (decE (s.word p.seg p.off).1)) rfl) ⟨?_, G⟩
    have h9 : twiceS s p = (Ob0, decE (s.word p.seg p.off).1) := by unfold twiceS; rw [if_neg h1, if_neg h2, if_pos h3]
    rw [h9]; rfl
   ·-- false
    replace h3 := of_decide_eq_false h3
    refine W_skip ?_
    refine W_seq (W_region rfl ?_)
    refine stp (r_move_int rfl ?_)
    refine stp (r_gives (v := .tuple #[.agg #[.int .i64 ((decP (s.word p.seg (p.off + 1)).1).kind), .int .i64 ((decP (s.word p.seg (p.off + 1)).1).off), .int .i64 ((decP (s.word p.seg (p.off + 1)).1).data), .int .i64 ((decP (s.word p.seg (p.off + 1)).1).ptrs), .int .i64 ((decP (s.word p.seg (p.off + 1)).1).size), .int .i64 ((decP (s.word p.seg (p.off + 1)).1).count), .int .i64 ((decP (s.word p.seg (p.off + 1)).1).seg), .bool ((decP (s.word p.seg (p.off + 1)).1).dbl)], .int .u16 (decE (s.word p.seg (p.off + 1)).1)]) rfl (decode_calls _ _ (H.num p.seg (p.off + 1)).1 (H.num p.seg (p.off + 1)).2.1) ?_)
    intro w41 g42
    replace hc4 := g42.heap hc4
    replace hc10 := g42.heap hc10
    replace hc32 := g42.heap hc32
    replace G := G.tr g42
    clear g42
    refine stp (r_move (v := .tuple #[.agg #[.int .i64 ((decP (s.word p.seg (p.off + 1)).1).kind), .int .i64 ((decP (s.word p.seg (p.off + 1)).1).off), .int .i64 ((decP (s.word p.seg (p.off + 1)).1).data), .int .i64 ((decP (s.word p.seg (p.off + 1)).1).ptrs), .int .i64 ((decP (s.word p.seg (p.off + 1)).1).size), .int .i64 ((decP (s.word p.seg (p.off + 1)).1).count), .int .i64 ((decP (s.word p.seg (p.off + 1)).1).seg), .bool ((decP (s.word p.seg (p.off + 1)).1).dbl)], .int .u16 (decE (s.word p.seg (p.off + 1)).1)]) rfl ?_)
    refine stp (r_extract (v := .agg #[.int .i64 ((decP (s.word p.seg (p.off + 1)).1).kind), .int .i64 ((decP (s.word p.seg (p.off + 1)).1).off), .int .i64 ((decP (s.word p.seg (p.off + 1)).1).data), .int .i64 ((decP (s.word p.seg (p.off + 1)).1).ptrs), .int .i64 ((decP (s.word p.seg (p.off + 1)).1).size), .int .i64 ((decP (s.word p.seg (p.off + 1)).1).count), .int .i64 ((decP (s.word p.seg (p.off + 1)).1).seg), .bool ((decP (s.word p.seg (p.off + 1)).1).dbl)]) rfl rfl ?_)
    refine stp (r_extract (v := .int .u16 (decE (s.word p.seg (p.off + 1)).1)) rfl rfl ?_)
    refine stp (r_alloc ?_)
    intro b43 w44 hb45 hc46 g47
    refine stn (r_storeAll rfl rfl hc46 (by rfl) (by rfl) (by rfl) ?_)
    intro w48 hc49 u50
    have g51 := g47.upd u50 hb45
    have hge52 := Nat.le_trans G.size hb45
    have ne53 := Nat.ne_of_lt (Nat.lt_of_lt_of_le (lt_of_heap hc4) hb45)
    have ne54 := Nat.ne_of_lt (Nat.lt_of_lt_of_le (lt_of_heap hc10) hb45)
    have ne55 := Nat.ne_of_lt (Nat.lt_of_lt_of_le (lt_of_heap hc32) hb45)
    replace hc4 := g51.heap hc4
    replace hc10 := g51.heap hc10
    replace hc32 := g51.heap hc32
    replace G := G.tr g51
    clear u50 g47 hb45 hc46
    refine stp (r_assign_int rfl ?_)
    refine WL_nil ?_
    refine W_seq ?_
    refine W_block ?_
    refine W_seq (W_region rfl ?_)
    refine stp (r_move_int rfl ?_)
    refine stp (r_neq rfl rfl ?_)
    refine stp (r_assign_bool rfl ?_)
    refine WL_nil ?_
    refine W_cond2 (b := (decide ((decE (s.word p.seg (p.off + 1)).1) ≠ 0))) rfl (fun h4 => ?_) (fun h4 => ?_)
    ·-- true
     replace h4 := of_decide_eq_true h4
     refine W_seq (W_region rfl ?_)
     refine stp (r_build (v := .agg #[.int .i64 0, .int .i64 0, .int .i64 0, .int .i64 0, .int .i64 0, .int .i64 0, .int .i64 0]) (fun w => by kernel_rfl) ?_)
     refine stp (r_move_int rfl ?_)
     refine stn (r_storeAll rfl rfl hc10 (by rfl) (by rfl) (by rfl) ?_)
     intro w56 hc57 u58
     replace hc4 := u58.heap hc4 ne13
     replace hc32 := u58.heap hc32 ne37.symm
     replace hc49 := u58.heap hc49 ne54.symm
     replace G := G.upd u58 hge12
     clear u58 hc10
     refine stp (r_assign_int rfl ?_)
     refine WL_nil ?_
     refine W_ret ?_
     refine ret2 (res_all rfl hc57 (by rfl)) (res_tmp (v := .int .u16 (decE (s.word p.seg (p.off + 1)).1)) rfl) ⟨?_, G⟩
     have h9 : twiceS s p = (Ob0, decE (s.word p.seg (p.off + 1)).1) := by unfold twiceS; rw [if_neg h1, if_neg h2, if_neg h3, if_pos h4]
     rw [h9]; rfl
    ·-- false
     replace h4 := of_decide_eq_false h4
     refine W_seq (W_region rfl ?_)
     refine stp (r_fieldAddr rfl ?_)
     refine stp (r_load (v := .int .i64 ((decP (s.word p.seg p.off).1).kind)) rfl hc32 rfl ?_)
     refine stp (r_neq rfl rfl ?_)
     refine stp (r_move_bool rfl ?_)
     refine WL_some (og_if (s := .bool (decide (((decP (s.word p.seg p.off).1).kind) ≠ 3))) (b := false) (v := .pointer (some ⟨b26, 7, none⟩)) rfl (wgb_f _) (fun hc59 => ?_) ?_)
     ·
      have hc59_ := hc59
      try simp only [sb] at hc59_
      refine r_fieldAddr rfl ?_
      exact ⟨rfl, rfl⟩
     refine WL_some (og_if (s := .bool (decide (((decP (s.word p.seg p.off).1).kind) ≠ 3))) (b := false) (v := .bool ((decP (s.word p.seg p.off).1).dbl)) rfl (wgb_f _) (fun hc60 => ?_) ?_)
     ·
      have hc60_ := hc60
      try simp only [sb] at hc60_
      refine r_load (v := .bool ((decP (s.word p.seg p.off).1).dbl)) (gvt hc60) hc32 rfl ?_
      exact ⟨rfl, rfl⟩
     refine stp (r_or2 rfl rfl rfl ?_)
     refine stp (r_move_bool rfl ?_)
     refine WL_some (og_if (s := .bool ((decide (((decP (s.word p.seg p.off).1).kind) ≠ 3)) || ((decP (s.word p.seg p.off).1).dbl))) (b := false) (v := .agg #[.int .i64 ((decP (s.word p.seg (p.off + 1)).1).kind), .int .i64 ((decP (s.word p.seg (p.off + 1)).1).off), .int .i64 ((decP (s.word p.seg (p.off + 1)).1).data), .int .i64 ((decP (s.word p.seg (p.off + 1)).1).ptrs), .int .i64 ((decP (s.word p.seg (p.off + 1)).1).size), .int .i64 ((decP (s.word p.seg (p.off + 1)).1).count), .int .i64 ((decP (s.word p.seg (p.off + 1)).1).seg), .bool ((decP (s.word p.seg (p.off + 1)).1).dbl)]) rfl (wgb_f _) (fun hc61 => ?_) ?_)
     ·
      have hc61_ := hc61
      try simp only [sb] at hc61_
      refine r_loadAll rfl hc49 (by rfl) ?_
      exact ⟨rfl, rfl⟩
     refine WL_some (og_ifg (s := .bool ((decide (((decP (s.word p.seg p.off).1).kind) ≠ 3)) || ((decP (s.word p.seg p.off).1).dbl))) (b := false) (v := .bool (nearP (decP (s.word p.seg (p.off + 1)).1))) rfl (wgb_f _) (fun hc62 => ?_) ?_)
     ·
      have hc62_ := hc62
      try simp only [sb] at hc62_
      exact r_givesA (l := ([.agg #[.int .i64 ((decP (s.word p.seg (p.off + 1)).1).kind), .int .i64 ((decP (s.word p.seg (p.off + 1)).1).off), .int .i64 ((decP (s.word p.seg (p.off + 1)).1).data), .int .i64 ((decP (s.word p.seg (p.off + 1)).1).ptrs), .int .i64 ((decP (s.word p.seg (p.off + 1)).1).size), .int .i64 ((decP (s.word p.seg (p.off + 1)).1).count), .int .i64 ((decP (s.word p.seg (p.off + 1)).1).seg), .bool ((decP (s.word p.seg (p.off + 1)).1).dbl)]] : List Value)) rfl (by show ([gv (!((decide (((decP (s.word p.seg p.off).1).kind) ≠ 3)) || ((decP (s.word p.seg p.off).1).dbl))) (.agg #[.int .i64 ((decP (s.word p.seg (p.off + 1)).1).kind), .int .i64 ((decP (s.word p.seg (p.off + 1)).1).off), .int .i64 ((decP (s.word p.seg (p.off + 1)).1).data), .int .i64 ((decP (s.word p.seg (p.off + 1)).1).ptrs), .int .i64 ((decP (s.word p.seg (p.off + 1)).1).size), .int .i64 ((decP (s.word p.seg (p.off + 1)).1).count), .int .i64 ((decP (s.word p.seg (p.off + 1)).1).seg), .bool ((decP (s.word p.seg (p.off + 1)).1).dbl)])] : List Value) = _; rw [gvt hc62]) (isnear_calls _ (decP (s.word p.seg (p.off + 1)).1)) (fun w2_ g2_ => ⟨rfl, g2_⟩)
     intro w63 g64
     replace hc4 := g64.heap hc4
     replace hc10 := g64.heap hc10
     replace hc32 := g64.heap hc32
     replace hc49 := g64.heap hc49
     replace G := G.tr g64
     clear g64
     refine WL_some (og_if (s := .bool ((decide (((decP (s.word p.seg p.off).1).kind) ≠ 3)) || ((decP (s.word p.seg p.off).1).dbl))) (b := false) (v := .bool (!(nearP (decP (s.word p.seg (p.off + 1)).1)))) rfl (wgb_f _) (fun hc65 => ?_) ?_)
     ·
      have hc65_ := hc65
      try simp only [sb] at hc65_
      refine r_not (gvt hc65) ?_
      exact ⟨rfl, rfl⟩
     refine stp (r_or2 rfl rfl rfl ?_)
     refine stp (r_move_bool rfl ?_)
     refine WL_some (og_if (s := .bool (((decide (((decP (s.word p.seg p.off).1).kind) ≠ 3)) || ((decP (s.word p.seg p.off).1).dbl)) || (!(nearP (decP (s.word p.seg (p.off + 1)).1))))) (b := false) (v := .pointer (some ⟨b43, 1, none⟩)) rfl (wgb_f _) (fun hc66 => ?_) ?_)
     ·
      have hc66_ := hc66
      try simp only [sb] at hc66_
      refine r_fieldAddr rfl ?_
      exact ⟨rfl, rfl⟩
     refine WL_some (og_if (s := .bool (((decide (((decP (s.word p.seg p.off).1).kind) ≠ 3)) || ((decP (s.word p.seg p.off).1).dbl)) || (!(nearP (decP (s.word p.seg (p.off + 1)).1))))) (b := false) (v := .int .i64 ((decP (s.word p.seg (p.off + 1)).1).off)) rfl (wgb_f _) (fun hc67 => ?_) ?_)
     ·
      have hc67_ := hc67
      try simp only [sb] at hc67_
      refine r_load (v := .int .i64 ((decP (s.word p.seg (p.off + 1)).1).off)) (gvt hc67) hc49 rfl ?_
      exact ⟨rfl, rfl⟩
     refine WL_some (og_if (s := .bool (((decide (((decP (s.word p.seg p.off).1).kind) ≠ 3)) || ((decP (s.word p.seg p.off).1).dbl)) || (!(nearP (decP (s.word p.seg (p.off + 1)).1))))) (b := false) (v := .bool (decide (((decP (s.word p.seg (p.off + 1)).1).off) ≠ 0))) rfl (wgb_f _) (fun hc68 => ?_) ?_)
     ·
      have hc68_ := hc68
      try simp only [sb] at hc68_
      refine r_neq (gvt hc68) rfl ?_
      exact ⟨rfl, rfl⟩
     refine stp (r_or2 rfl rfl rfl ?_)
     refine stp (r_assign_bool rfl ?_)
     refine WL_nil ?_
     refine W_cond2 (b := ((((decide (((decP (s.word p.seg p.off).1).kind) ≠ 3)) || ((decP (s.word p.seg p.off).1).dbl)) || (!(nearP (decP (s.word p.seg (p.off + 1)).1)))) || (decide (((decP (s.word p.seg (p.off + 1)).1).off) ≠ 0)))) rfl (fun h5 => ?_) (fun h5 => ?_)
     ·-- true
      simp only [sb] at h5
      have h8 : (decP (s.word p.seg p.off).1).kind ≠ 3 ∨ (decP (s.word p.seg p.off).1).dbl = true ∨ nearP (decP (s.word p.seg (p.off + 1)).1) = false ∨ (decP (s.word p.seg (p.off + 1)).1).off ≠ 0 := by simpa [or_assoc] using h5
      refine W_seq (W_region rfl ?_)
      refine stp (r_build (v := .agg #[.int .i64 0, .int .i64 0, .int .i64 0, .int .i64 0, .int .i64 0, .int .i64 0, .int .i64 0]) (fun w => by kernel_rfl) ?_)
      refine stn (r_storeAll rfl rfl hc10 (by rfl) (by rfl) (by rfl) ?_)
      intro w69 hc70 u71
      replace hc4 := u71.heap hc4 ne13
      replace hc32 := u71.heap hc32 ne37.symm
      replace hc49 := u71.heap hc49 ne54.symm
      replace G := G.upd u71 hge12
      clear u71 hc10
      refine stp (r_assign_int rfl ?_)
      refine WL_nil ?_
      refine W_ret ?_
      refine ret2 (res_all rfl hc70 (by rfl)) (res_tmp (v := .int .u16 23) rfl) ⟨?_, G⟩
      have h9 : twiceS s p = (Ob0, 23) := by unfold twiceS; rw [if_neg h1, if_neg h2, if_neg h3, if_neg h4, if_pos h8]
      rw [h9]; rfl
     ·-- false
      simp only [sb] at h5
      have h8 : ¬ ((decP (s.word p.seg p.off).1).kind ≠ 3 ∨ (decP (s.word p.seg p.off).1).dbl = true ∨ nearP (decP (s.word p.seg (p.off + 1)).1) = false ∨ (decP (s.word p.seg (p.off + 1)).1).off ≠ 0) := by simpa [and_assoc] using h5
      refine W_skip ?_
      refine W_seq (W_region rfl ?_)
      refine stp (r_move (v := src) rfl ?_)
      refine stp (r_loadAll rfl hc49 (by rfl) ?_)
      refine stp (r_fieldAddr rfl ?_)
      refine stp (r_load (v := .int .i64 ((decP (s.word p.seg p.off).1).seg)) rfl hc32 rfl ?_)
      refine stp (r_fieldAddr rfl ?_)
      refine stp (r_load (v := .int .i64 ((decP (s.word p.seg p.off).1).off)) rfl hc32 rfl ?_)
      refine stp (r_gives (v := .tuple #[.agg #[.int .i64 ((foundS s (decP (s.word p.seg (p.off + 1)).1) ((decP (s.word p.seg p.off).1).seg) ((decP (s.word p.seg p.off).1).off)).1.kind), .int .i64 ((foundS s (decP (s.word p.seg (p.off + 1)).1) ((decP (s.word p.seg p.off).1).seg) ((decP (s.word p.seg p.off).1).off)).1.seg), .int .i64 ((foundS s (decP (s.word p.seg (p.off + 1)).1) ((decP (s.word p.seg p.off).1).seg) ((decP (s.word p.seg p.off).1).off)).1.at_), .int .i64 ((foundS s (decP (s.word p.seg (p.off + 1)).1) ((decP (s.word p.seg p.off).1).seg) ((decP (s.word p.seg p.off).1).off)).1.data), .int .i64 ((foundS s (decP (s.word p.seg (p.off + 1)).1) ((decP (s.word p.seg p.off).1).seg) ((decP (s.word p.seg p.off).1).off)).1.ptrs), .int .i64 ((foundS s (decP (s.word p.seg (p.off + 1)).1) ((decP (s.word p.seg p.off).1).seg) ((decP (s.word p.seg p.off).1).off)).1.size), .int .i64 ((foundS s (decP (s.word p.seg (p.off + 1)).1) ((decP (s.word p.seg p.off).1).seg) ((decP (s.word p.seg p.off).1).off)).1.count)], .int .u16 ((foundS s (decP (s.word p.seg (p.off + 1)).1) ((decP (s.word p.seg p.off).1).seg) ((decP (s.word p.seg p.off).1).off)).2)]) rfl (found_calls _ (H.grow G) (decP (s.word p.seg (p.off + 1)).1) ((decP (s.word p.seg p.off).1).seg) ((decP (s.word p.seg p.off).1).off) hr (by simp only [inR]; omega)) ?_)
      intro w72 g73
      replace hc4 := g73.heap hc4
      replace hc10 := g73.heap hc10
      replace hc32 := g73.heap hc32
      replace hc49 := g73.heap hc49
      replace G := G.tr g73
      clear g73
      refine stp (r_extract (v := .agg #[.int .i64 ((foundS s (decP (s.word p.seg (p.off + 1)).1) ((decP (s.word p.seg p.off).1).seg) ((decP (s.word p.seg p.off).1).off)).1.kind), .int .i64 ((foundS s (decP (s.word p.seg (p.off + 1)).1) ((decP (s.word p.seg p.off).1).seg) ((decP (s.word p.seg p.off).1).off)).1.seg), .int .i64 ((foundS s (decP (s.word p.seg (p.off + 1)).1) ((decP (s.word p.seg p.off).1).seg) ((decP (s.word p.seg p.off).1).off)).1.at_), .int .i64 ((foundS s (decP (s.word p.seg (p.off + 1)).1) ((decP (s.word p.seg p.off).1).seg) ((decP (s.word p.seg p.off).1).off)).1.data), .int .i64 ((foundS s (decP (s.word p.seg (p.off + 1)).1) ((decP (s.word p.seg p.off).1).seg) ((decP (s.word p.seg p.off).1).off)).1.ptrs), .int .i64 ((foundS s (decP (s.word p.seg (p.off + 1)).1) ((decP (s.word p.seg p.off).1).seg) ((decP (s.word p.seg p.off).1).off)).1.size), .int .i64 ((foundS s (decP (s.word p.seg (p.off + 1)).1) ((decP (s.word p.seg p.off).1).seg) ((decP (s.word p.seg p.off).1).off)).1.count)]) rfl rfl ?_)
      refine stp (r_extract (v := .int .u16 ((foundS s (decP (s.word p.seg (p.off + 1)).1) ((decP (s.word p.seg p.off).1).seg) ((decP (s.word p.seg p.off).1).off)).2)) rfl rfl ?_)
      refine stn (r_storeAll rfl rfl hc10 (by rfl) (by rfl) (by rfl) ?_)
      intro w74 hc75 u76
      replace hc4 := u76.heap hc4 ne13
      replace hc32 := u76.heap hc32 ne37.symm
      replace hc49 := u76.heap hc49 ne54.symm
      replace G := G.upd u76 hge12
      clear u76 hc10
      refine stp (r_assign_int rfl ?_)
      refine WL_nil ?_
      refine W_ret ?_
      refine ret2 (res_all rfl hc75 (by rfl)) (res_tmp (v := .int .u16 ((foundS s (decP (s.word p.seg (p.off + 1)).1) ((decP (s.word p.seg p.off).1).seg) ((decP (s.word p.seg p.off).1).off)).2)) rfl) ⟨?_, G⟩
      have h9 : twiceS s p = foundS s (decP (s.word p.seg (p.off + 1)).1) (decP (s.word p.seg p.off).1).seg (decP (s.word p.seg p.off).1).off := by unfold twiceS; rw [if_neg h1, if_neg h2, if_neg h3, if_neg h4, if_neg h8]
      rw [h9]

set_option maxRecDepth 100000 in
theorem follow_calls (w : World) {src : Value} {s : Src} (H : SrcOk Try.prog w src s) (seg a : Int) : Gives Try.prog 63 #[src, .int .i64 seg, .int .i64 a] w (.tuple #[.agg #[.int .i64 ((followS s seg a).1.kind), .int .i64 ((followS s seg a).1.seg), .int .i64 ((followS s seg a).1.at_), .int .i64 ((followS s seg a).1.data), .int .i64 ((followS s seg a).1.ptrs), .int .i64 ((followS s seg a).1.size), .int .i64 ((followS s seg a).1.count)], .int .u16 ((followS s seg a).2)]) := by
 obtain ⟨t_, u_, f_, hsrc, -, -⟩ := H.word
 have hq := ptrS_range H seg a
 have hqo := hq.off
 have G := Grow.rfl' w
 refine gives_of Try.func63 Try.ntmps63 Try.results63 rfl rfl ?_
 refine W_seq (W_region rfl ?_)
 refine stp (r_alloc ?_)
 intro b1 w2 hb3 hc4 g5
 refine stp (r_assign_int rfl ?_)
 refine WL_nil ?_
 refine W_seq ?_
 refine W_seq (W_region rfl ?_)
 refine stp (r_move (v := src) rfl ?_)
 refine stp (r_eqlIfc (T := t_) (v := u_) hsrc rfl ?_)
 refine WL_nil ?_
 have hge6 := Nat.le_trans G.size hb3
 replace G := G.tr g5
 clear g5 hb3
 refine W_false rfl ?_
 refine W_skip ?_
 refine W_seq (W_region rfl ?_)
 refine stp (r_move (v := src) rfl ?_)
 refine stp (r_move_int rfl ?_)
 refine stp (r_move_int rfl ?_)
 refine stp (r_gives (v := .tuple #[.agg #[.int .i64 ((ptrS s seg a).1.kind), .int .i64 ((ptrS s seg a).1.off), .int .i64 ((ptrS s seg a).1.data), .int .i64 ((ptrS s seg a).1.ptrs), .int .i64 ((ptrS s seg a).1.size), .int .i64 ((ptrS s seg a).1.count), .int .i64 ((ptrS s seg a).1.seg), .bool ((ptrS s seg a).1.dbl)], .int .u16 ((ptrS s seg a).2)]) rfl (pointer_calls _ (H.grow G) seg a) ?_)
 intro w7 g8
 replace hc4 := g8.heap hc4
 replace G := G.tr g8
 clear g8
 refine stp (r_move (v := .tuple #[.agg #[.int .i64 ((ptrS s seg a).1.kind), .int .i64 ((ptrS s seg a).1.off), .int .i64 ((ptrS s seg a).1.data), .int .i64 ((ptrS s seg a).1.ptrs), .int .i64 ((ptrS s seg a).1.size), .int .i64 ((ptrS s seg a).1.count), .int .i64 ((ptrS s seg a).1.seg), .bool ((ptrS s seg a).1.dbl)], .int .u16 ((ptrS s seg a).2)]) rfl ?_)
 refine stp (r_extract (v := .agg #[.int .i64 ((ptrS s seg a).1.kind), .int .i64 ((ptrS s seg a).1.off), .int .i64 ((ptrS s seg a).1.data), .int .i64 ((ptrS s seg a).1.ptrs), .int .i64 ((ptrS s seg a).1.size), .int .i64 ((ptrS s seg a).1.count), .int .i64 ((ptrS s seg a).1.seg), .bool ((ptrS s seg a).1.dbl)]) rfl rfl ?_)
 refine stp (r_extract (v := .int .u16 ((ptrS s seg a).2)) rfl rfl ?_)
 refine stp (r_alloc ?_)
 intro b9 w10 hb11 hc12 g13
 refine stn (r_storeAll rfl rfl hc12 (by rfl) (by rfl) (by rfl) ?_)
 intro w14 hc15 u16
 have g17 := g13.upd u16 hb11
 have hge18 := Nat.le_trans G.size hb11
 have ne19 := Nat.ne_of_lt (Nat.lt_of_lt_of_le (lt_of_heap hc4) hb11)
 replace hc4 := g17.heap hc4
 replace G := G.tr g17
 clear u16 g13 hb11 hc12
 refine stp (r_assign_int rfl ?_)
 refine WL_nil ?_
 refine W_seq ?_
 refine W_block ?_
 refine W_seq (W_region rfl ?_)
 refine stp (r_move_int rfl ?_)
 refine stp (r_neq rfl rfl ?_)
 refine stp (r_move_bool rfl ?_)
 refine WL_some (og_if (s := .bool (decide (((ptrS s seg a).2) ≠ 0))) (b := false) (v := .pointer (some ⟨b9, 0, none⟩)) rfl (wgb_f _) (fun hc20 => ?_) ?_)
 ·
  have hc20_ := hc20
  try simp only [sb] at hc20_
  refine r_fieldAddr rfl ?_
  exact ⟨rfl, rfl⟩
 refine WL_some (og_if (s := .bool (decide (((ptrS s seg a).2) ≠ 0))) (b := false) (v := .int .i64 ((ptrS s seg a).1.kind)) rfl (wgb_f _) (fun hc21 => ?_) ?_)
 ·
  have hc21_ := hc21
  try simp only [sb] at hc21_
  refine r_load (v := .int .i64 ((ptrS s seg a).1.kind)) (gvt hc21) hc15 rfl ?_
  exact ⟨rfl, rfl⟩
 refine WL_some (og_if (s := .bool (decide (((ptrS s seg a).2) ≠ 0))) (b := false) (v := .bool (decide (((ptrS s seg a).1.kind) = 0))) rfl (wgb_f _) (fun hc22 => ?_) ?_)
 ·
  have hc22_ := hc22
  try simp only [sb] at hc22_
  refine r_eql (gvt hc22) rfl ?_
  exact ⟨rfl, rfl⟩
 refine stp (r_or2 rfl rfl rfl ?_)
 refine stp (r_assign_bool rfl ?_)
 refine WL_nil ?_
 refine W_cond2 (b := ((decide (((ptrS s seg a).2) ≠ 0)) || (decide (((ptrS s seg a).1.kind) = 0)))) rfl (fun h1 => ?_) (fun h1 => ?_)
 ·-- true
  simp only [sb] at h1
  refine W_seq (W_region rfl ?_)
  refine stp (r_build (v := .agg #[.int .i64 0, .int .i64 0, .int .i64 0, .int .i64 0, .int .i64 0, .int .i64 0, .int .i64 0]) (fun w => by kernel_rfl) ?_)
  refine stp (r_move_int rfl ?_)
  refine stn (r_storeAll rfl rfl hc4 (by rfl) (by rfl) (by rfl) ?_)
  intro w23 hc24 u25
  replace hc15 := u25.heap hc15 ne19.symm
  replace G := G.upd u25 hge6
  clear u25 hc4
  refine stp (r_assign_int rfl ?_)
  refine WL_nil ?_
  refine W_ret ?_
  refine ret2 (res_all rfl hc24 (by rfl)) (res_tmp (v := .int .u16 ((ptrS s seg a).2)) rfl) ⟨?_, G⟩
  have h9 : followS s seg a = (Ob0, (ptrS s seg a).2) := by unfold followS; rw [if_pos h1]
  rw [h9]; rfl
 ·-- false
  simp only [sb] at h1
  have hz : (ptrS s seg a).2 = 0 := by omega
  have hb := ptrS_at H hz
  have h1n : ¬ ((ptrS s seg a).2 ≠ 0 ∨ (ptrS s seg a).1.kind = 0) := by omega
  refine W_seq (W_region rfl ?_)
  refine stp (r_loadAll rfl hc15 (by rfl) ?_)
  refine stp (r_gives (v := .bool (nearP ((ptrS s seg a).1))) rfl (isnear_calls _ ((ptrS s seg a).1)) ?_)
  intro w26 g27
  replace hc4 := g27.heap hc4
  replace hc15 := g27.heap hc15
  replace G := G.tr g27
  clear g27
  refine stp (r_assign_bool rfl ?_)
  refine WL_nil ?_
  refine W_cond2 (b := (nearP ((ptrS s seg a).1))) rfl (fun h2 => ?_) (fun h2 => ?_)
  ·-- true
   refine W_seq (W_region rfl ?_)
   refine stp (r_move (v := src) rfl ?_)
   refine stp (r_loadAll rfl hc15 (by rfl) ?_)
   refine stp (r_move_int rfl ?_)
   refine stp (r_move_int rfl ?_)
   refine stp (r_add rfl rfl ?_ ?_); constructor <;> omega
   refine stp (r_fieldAddr rfl ?_)
   refine stp (r_load (v := .int .i64 ((ptrS s seg a).1.off)) rfl hc15 rfl ?_)
   refine stp (r_add rfl rfl ?_ ?_); constructor <;> omega
   refine stp (r_gives (v := .tuple #[.agg #[.int .i64 ((foundS s ((ptrS s seg a).1) seg ((a + 1) + ((ptrS s seg a).1.off))).1.kind), .int .i64 ((foundS s ((ptrS s seg a).1) seg ((a + 1) + ((ptrS s seg a).1.off))).1.seg), .int .i64 ((foundS s ((ptrS s seg a).1) seg ((a + 1) + ((ptrS s seg a).1.off))).1.at_), .int .i64 ((foundS s ((ptrS s seg a).1) seg ((a + 1) + ((ptrS s seg a).1.off))).1.data), .int .i64 ((foundS s ((ptrS s seg a).1) seg ((a + 1) + ((ptrS s seg a).1.off))).1.ptrs), .int .i64 ((foundS s ((ptrS s seg a).1) seg ((a + 1) + ((ptrS s seg a).1.off))).1.size), .int .i64 ((foundS s ((ptrS s seg a).1) seg ((a + 1) + ((ptrS s seg a).1.off))).1.count)], .int .u16 ((foundS s ((ptrS s seg a).1) seg ((a + 1) + ((ptrS s seg a).1.off))).2)]) rfl (found_calls _ (H.grow G) ((ptrS s seg a).1) seg ((a + 1) + ((ptrS s seg a).1.off)) hq (by simp only [inR]; omega)) ?_)
   intro w28 g29
   replace hc4 := g29.heap hc4
   replace hc15 := g29.heap hc15
   replace G := G.tr g29
   clear g29
   refine stp (r_extract (v := .agg #[.int .i64 ((foundS s ((ptrS s seg a).1) seg ((a + 1) + ((ptrS s seg a).1.off))).1.kind), .int .i64 ((foundS s ((ptrS s seg a).1) seg ((a + 1) + ((ptrS s seg a).1.off))).1.seg), .int .i64 ((foundS s ((ptrS s seg a).1) seg ((a + 1) + ((ptrS s seg a).1.off))).1.at_), .int .i64 ((foundS s ((ptrS s seg a).1) seg ((a + 1) + ((ptrS s seg a).1.off))).1.data), .int .i64 ((foundS s ((ptrS s seg a).1) seg ((a + 1) + ((ptrS s seg a).1.off))).1.ptrs), .int .i64 ((foundS s ((ptrS s seg a).1) seg ((a + 1) + ((ptrS s seg a).1.off))).1.size), .int .i64 ((foundS s ((ptrS s seg a).1) seg ((a + 1) + ((ptrS s seg a).1.off))).1.count)]) rfl rfl ?_)
   refine stp (r_extract (v := .int .u16 ((foundS s ((ptrS s seg a).1) seg ((a + 1) + ((ptrS s seg a).1.off))).2)) rfl rfl ?_)
   refine stn (r_storeAll rfl rfl hc4 (by rfl) (by rfl) (by rfl) ?_)
   intro w30 hc31 u32
   replace hc15 := u32.heap hc15 ne19.symm
   replace G := G.upd u32 hge6
   clear u32 hc4
   refine stp (r_assign_int rfl ?_)
   refine WL_nil ?_
   refine W_ret ?_
   refine ret2 (res_all rfl hc31 (by rfl)) (res_tmp (v := .int .u16 ((foundS s ((ptrS s seg a).1) seg ((a + 1) + ((ptrS s seg a).1.off))).2)) rfl) ⟨?_, G⟩
   have h9 : followS s seg a = foundS s (ptrS s seg a).1 seg (a + 1 + (ptrS s seg a).1.off) := by unfold followS; rw [if_neg h1n, if_pos h2]
   rw [h9]
  ·-- false
   refine W_seq (W_region rfl ?_)
   refine stp (r_fieldAddr rfl ?_)
   refine stp (r_load (v := .bool ((ptrS s seg a).1.dbl)) rfl hc15 rfl ?_)
   refine stp (r_assign_bool rfl ?_)
   refine WL_nil ?_
   refine W_cond2 (b := ((ptrS s seg a).1.dbl)) rfl (fun h3 => ?_) (fun h3 => ?_)
   ·-- true
    refine W_seq (W_region rfl ?_)
    refine stp (r_move (v := src) rfl ?_)
    refine stp (r_loadAll rfl hc15 (by rfl) ?_)
    refine stp (r_gives (v := .tuple #[.agg #[.int .i64 ((twiceS s (ptrS s seg a).1).1.kind), .int .i64 ((twiceS s (ptrS s seg a).1).1.seg), .int .i64 ((twiceS s (ptrS s seg a).1).1.at_), .int .i64 ((twiceS s (ptrS s seg a).1).1.data), .int .i64 ((twiceS s (ptrS s seg a).1).1.ptrs), .int .i64 ((twiceS s (ptrS s seg a).1).1.size), .int .i64 ((twiceS s (ptrS s seg a).1).1.count)], .int .u16 ((twiceS s (ptrS s seg a).1).2)]) rfl (twice_calls _ (H.grow G) (ptrS s seg a).1 hq) ?_)
    intro w33 g34
    replace hc4 := g34.heap hc4
    replace hc15 := g34.heap hc15
    replace G := G.tr g34
    clear g34
    refine stp (r_extract (v := .agg #[.int .i64 ((twiceS s (ptrS s seg a).1).1.kind), .int .i64 ((twiceS s (ptrS s seg a).1).1.seg), .int .i64 ((twiceS s (ptrS s seg a).1).1.at_), .int .i64 ((twiceS s (ptrS s seg a).1).1.data), .int .i64 ((twiceS s (ptrS s seg a).1).1.ptrs), .int .i64 ((twiceS s (ptrS s seg a).1).1.size), .int .i64 ((twiceS s (ptrS s seg a).1).1.count)]) rfl rfl ?_)
    refine stp (r_extract (v := .int .u16 ((twiceS s (ptrS s seg a).1).2)) rfl rfl ?_)
    refine stn (r_storeAll rfl rfl hc4 (by rfl) (by rfl) (by rfl) ?_)
    intro w35 hc36 u37
    replace hc15 := u37.heap hc15 ne19.symm
    replace G := G.upd u37 hge6
    clear u37 hc4
    refine stp (r_assign_int rfl ?_)
    refine WL_nil ?_
    refine W_ret ?_
    refine ret2 (res_all rfl hc36 (by rfl)) (res_tmp (v := .int .u16 ((twiceS s (ptrS s seg a).1).2)) rfl) ⟨?_, G⟩
    have h9 : followS s seg a = twiceS s (ptrS s seg a).1 := by unfold followS; rw [if_neg h1n, if_neg (by simp [h2]), if_pos h3]
    rw [h9]
   ·-- false
    refine W_skip ?_
    refine W_seq (W_region rfl ?_)
    refine stp (r_move (v := src) rfl ?_)
    refine stp (r_loadAll rfl hc15 (by rfl) ?_)
    refine stp (r_gives (v := .tuple #[.agg #[.int .i64 ((landedS s (ptrS s seg a).1).1.kind), .int .i64 ((landedS s (ptrS s seg a).1).1.seg), .int .i64 ((landedS s (ptrS s seg a).1).1.at_), .int .i64 ((landedS s (ptrS s seg a).1).1.data), .int .i64 ((landedS s (ptrS s seg a).1).1.ptrs), .int .i64 ((landedS s (ptrS s seg a).1).1.size), .int .i64 ((landedS s (ptrS s seg a).1).1.count)], .int .u16 ((landedS s (ptrS s seg a).1).2)]) rfl (landed_calls _ (H.grow G) (ptrS s seg a).1 hq) ?_)
    intro w38 g39
    replace hc4 := g39.heap hc4
    replace hc15 := g39.heap hc15
    replace G := G.tr g39
    clear g39
    refine stp (r_extract (v := .agg #[.int .i64 ((landedS s (ptrS s seg a).1).1.kind), .int .i64 ((landedS s (ptrS s seg a).1).1.seg), .int .i64 ((landedS s (ptrS s seg a).1).1.at_), .int .i64 ((landedS s (ptrS s seg a).1).1.data), .int .i64 ((landedS s (ptrS s seg a).1).1.ptrs), .int .i64 ((landedS s (ptrS s seg a).1).1.size), .int .i64 ((landedS s (ptrS s seg a).1).1.count)]) rfl rfl ?_)
    refine stp (r_extract (v := .int .u16 ((landedS s (ptrS s seg a).1).2)) rfl rfl ?_)
    refine stn (r_storeAll rfl rfl hc4 (by rfl) (by rfl) (by rfl) ?_)
    intro w40 hc41 u42
    replace hc15 := u42.heap hc15 ne19.symm
    replace G := G.upd u42 hge6
    clear u42 hc4
    refine stp (r_assign_int rfl ?_)
    refine WL_nil ?_
    refine W_ret ?_
    refine ret2 (res_all rfl hc41 (by rfl)) (res_tmp (v := .int .u16 ((landedS s (ptrS s seg a).1).2)) rfl) ⟨?_, G⟩
    have h9 : followS s seg a = landedS s (ptrS s seg a).1 := by unfold followS; rw [if_neg h1n, if_neg (by simp [h2]), if_neg (by simp [h3])]
    rw [h9]

set_option maxRecDepth 100000 in
theorem whole_calls (w : World) {ad : Option Addr} {n c : Nat} : Gives Try.prog 38 #[.slice ad n c] w (.iface 118 (.agg #[.slice ad n c])) := by
 have G := Grow.rfl' w
 refine gives_of Try.func38 Try.ntmps38 Try.results38 rfl rfl ?_
 refine W_seq (W_region rfl ?_)
 refine stp (r_assign (v := .nilIface) rfl ?_)
 refine WL_nil ?_
 refine W_seq (W_region rfl ?_)
 refine stp (r_move_slice rfl ?_)
 refine stp (r_build (v := .agg #[.slice ad n c]) (fun w => by kernel_rfl) ?_)
 refine stp (r_makeIface (v := .agg #[.slice ad n c]) rfl ?_)
 refine stp (r_assign (v := .iface 118 (.agg #[.slice ad n c])) rfl ?_)
 refine WL_nil ?_
 refine W_ret ?_
 refine ret1 (res_tmp (v := .iface 118 (.agg #[.slice ad n c])) rfl) ⟨?_, G⟩
 rfl

theorem whole_ok {w : World} {u : Value} {A : List (List Int)} (hA : ArenaR w u A) (hr : OkA A) : SrcOk Try.prog w (.iface 118 (.agg #[u])) (wholeS A) :=
  whole_src hr meth_wholeWord meth_wholeSizes (fun w' g seg a => wholeWord_calls w' (hA.grow g) seg a) (fun w' g => wholeSizes_calls w' (hA.grow g) (by have := hr.most; omega))
end Go.Proofs.Ytfhfecepcnapfaa.K

namespace Go.Proofs.Ytfhfecepcnapfaa.K
open Go Go.RowKit Go.Proofs
attribute [local irreducible] Run1 OpG WL W AO Gives
set_option maxRecDepth 100000 in
theorem tstep_calls (w : World) {w0 : World} {c : List Value} {t : Nd} (T : NodeR w0 c t) (g0 : Grow w0 w) {k : Int} (k0 : 0 ≤ k) : Calls Try.prog 43 #[.agg c.toArray, .int .i64 k] w (Ret fun v w' => ∃ cells, v = .tuple #[.agg cells.toArray, .int .u16 (tstep t k).2] ∧ NodeR w0 cells (tstep t k).1 ∧ Grow w w') := by
 obtain @⟨kind, size, words, bytes, kids, ws, bs, ks, kc, hk, hs, hW, hwr, hB, hbr, hK, hKs⟩ := T
 obtain ⟨aw, cw, rfl, hcw, hcw2, RW⟩ := hW
 obtain ⟨ab, cb, rfl, hcb, hcb2, RB⟩ := hB
 obtain ⟨ak, ck, rfl, hck, hck2, RK⟩ := hK
 have lw := RW.lim
 have lb := RB.lim
 have lk := RK.lim
 simp only [inR] at hk hs
 have G := Grow.rfl' w
 refine calls_ret Try.func43 Try.ntmps43 Try.results43 rfl rfl ?_
 refine W_seq (W_region rfl ?_)
 refine WL_some (og rfl ?_)
 (first | refine r_box_agg rfl ?_ | refine r_box_int rfl ?_ | refine r_box_slice rfl ?_ | refine r_box rfl rfl ?_)
 intro b1 w2 hb3 hc4 g5
 have hge6 := Nat.le_trans G.size hb3
 replace G := G.tr g5
 clear g5 hb3
 refine stp (r_alloc ?_)
 intro b7 w8 hb9 hc10 g11
 refine stp (r_assign_int rfl ?_)
 refine WL_nil ?_
 refine W_seq (W_region rfl ?_)
 refine stp (r_fieldAddr rfl ?_)
 have hge12 := Nat.le_trans G.size hb9
 have ne13 := Nat.ne_of_lt (Nat.lt_of_lt_of_le (lt_of_heap hc4) hb9)
 replace hc4 := g11.heap hc4
 replace G := G.tr g11
 clear g11 hb9
 refine stp (r_load (v := .int .i64 kind) rfl hc4 rfl ?_)
 refine stp (r_neq rfl rfl ?_)
 refine stp (r_move_bool rfl ?_)
 refine WL_some (og_if (s := .bool (decide (kind ≠ 0))) (b := true) (v := .pointer (some ⟨b1, 0, none⟩)) rfl (wgb_t _) (fun hc14 => ?_) ?_)
 ·
  have hc14_ := of_decide_eq_true hc14
  refine r_fieldAddr rfl ?_
  exact ⟨rfl, rfl⟩
 refine WL_some (og_if (s := .bool (decide (kind ≠ 0))) (b := true) (v := .int .i64 kind) rfl (wgb_t _) (fun hc15 => ?_) ?_)
 ·
  have hc15_ := of_decide_eq_true hc15
  refine r_load (v := .int .i64 kind) (gvt hc15) hc4 rfl ?_
  exact ⟨rfl, rfl⟩
 refine WL_some (og_if (s := .bool (decide (kind ≠ 0))) (b := true) (v := .bool (decide (kind ≠ 1))) rfl (wgb_t _) (fun hc16 => ?_) ?_)
 ·
  have hc16_ := of_decide_eq_true hc16
  refine r_neq (gvt hc16) rfl ?_
  exact ⟨rfl, rfl⟩
 refine stp (r_and2 rfl rfl rfl ?_)
 refine stp (r_assign_bool rfl ?_)
 refine WL_nil ?_
 refine W_seq ?_
 refine W_block ?_
 refine W_seq (W_region rfl ?_)
 refine stp (r_move_bool rfl ?_)
 refine stp (r_move_bool rfl ?_)
 refine WL_some (og_if (s := .bool ((decide (kind ≠ 0)) && (decide (kind ≠ 1)))) (b := true) (v := .pointer (some ⟨b1, 1, none⟩)) rfl (wgb_t _) (fun hc17 => ?_) ?_)
 ·
  obtain ⟨hc17a, hc17b⟩ := and_t hc17
  have hc17a_ := of_decide_eq_true hc17a
  have hc17b_ := of_decide_eq_true hc17b
  refine r_fieldAddr rfl ?_
  exact ⟨rfl, rfl⟩
 refine WL_some (og_if (s := .bool ((decide (kind ≠ 0)) && (decide (kind ≠ 1)))) (b := true) (v := .int .i64 size) rfl (wgb_t _) (fun hc18 => ?_) ?_)
 ·
  obtain ⟨hc18a, hc18b⟩ := and_t hc18
  have hc18a_ := of_decide_eq_true hc18a
  have hc18b_ := of_decide_eq_true hc18b
  refine r_load (v := .int .i64 size) (gvt hc18) hc4 rfl ?_
  exact ⟨rfl, rfl⟩
 refine WL_some (og_if (s := .bool ((decide (kind ≠ 0)) && (decide (kind ≠ 1)))) (b := true) (v := .bool (decide (size ≠ 6))) rfl (wgb_t _) (fun hc19 => ?_) ?_)
 ·
  obtain ⟨hc19a, hc19b⟩ := and_t hc19
  have hc19a_ := of_decide_eq_true hc19a
  have hc19b_ := of_decide_eq_true hc19b
  refine r_neq (gvt hc19) rfl ?_
  exact ⟨rfl, rfl⟩
 refine stp (r_and2 rfl rfl rfl ?_)
 refine stp (r_assign_bool rfl ?_)
 refine WL_nil ?_
 refine W_cond2 (b := (((decide (kind ≠ 0)) && (decide (kind ≠ 1))) && (decide (size ≠ 6)))) rfl (fun h1 => ?_) (fun h1 => ?_)
 ·-- true
  simp only [sb] at h1
  refine W_seq (W_region rfl ?_)
  refine stp (r_build (v := .agg #[.int .i64 0, .int .i64 0, .slice none 0 0, .slice none 0 0, .slice none 0 0]) (fun w => by kernel_rfl) ?_)
  refine stn (r_storeAll rfl rfl hc10 (by rfl) (by rfl) (by rfl) ?_)
  intro w20 hc21 u22
  replace hc4 := u22.heap hc4 ne13
  replace G := G.upd u22 hge12
  clear u22 hc10
  refine stp (r_assign_int rfl ?_)
  refine WL_nil ?_
  refine W_ret ?_
  have h9 : tstep (Nd.mk kind size words bytes kids) k = (.nil, 23) := by rw [tstep_mk]; rw [if_pos (by first | assumption | omega | simp_all)]
  rw [h9]
  refine ret2 (res_all rfl hc21 (by rfl)) (res_tmp (v := .int .u16 23) rfl) ⟨[_, _, _, _, _], rfl, NodeR.zero _, G⟩
 ·-- false
  simp only [sb] at h1
  refine W_seq (W_region rfl ?_)
  refine stp (r_fieldAddr rfl ?_)
  refine stp (r_load (v := .int .i64 kind) rfl hc4 rfl ?_)
  refine stp (r_neq rfl rfl ?_)
  refine stp (r_move_bool rfl ?_)
  refine WL_some (og_if (s := .bool (decide (kind ≠ 0))) (b := true) (v := .int .i64 k) rfl (wgb_t _) (fun hc23 => ?_) ?_)
  ·
   have hc23_ := of_decide_eq_true hc23
   refine r_move_int rfl ?_
   exact ⟨rfl, rfl⟩
  refine WL_some (og_if (s := .bool (decide (kind ≠ 0))) (b := true) (v := .pointer (some ⟨b1, 4, none⟩)) rfl (wgb_t _) (fun hc24 => ?_) ?_)
  ·
   have hc24_ := of_decide_eq_true hc24
   refine r_fieldAddr rfl ?_
   exact ⟨rfl, rfl⟩
  refine WL_some (og_if (s := .bool (decide (kind ≠ 0))) (b := true) (v := .slice ak kids.length ck) rfl (wgb_t _) (fun hc25 => ?_) ?_)
  ·
   have hc25_ := of_decide_eq_true hc25
   refine r_load (v := .slice ak kids.length ck) (gvt hc25) hc4 rfl ?_
   exact ⟨rfl, rfl⟩
  refine WL_some (og_if (s := .bool (decide (kind ≠ 0))) (b := true) (v := .int .i64 (kids.length : Int)) rfl (wgb_t _) (fun hc26 => ?_) ?_)
  ·
   have hc26_ := of_decide_eq_true hc26
   refine r_len rfl rfl (gvt hc26) ?_
   exact ⟨rfl, rfl⟩
  refine WL_some (og_if (s := .bool (decide (kind ≠ 0))) (b := true) (v := .bool (decide (k < (kids.length : Int)))) rfl (wgb_t _) (fun hc27 => ?_) ?_)
  ·
   have hc27_ := of_decide_eq_true hc27
   refine r_lss (gvt hc27) (gvt hc27) ?_
   exact ⟨rfl, rfl⟩
  refine stp (r_and2 rfl rfl rfl ?_)
  refine stp (r_assign_bool rfl ?_)
  refine WL_nil ?_
  refine W_cond2 (b := ((decide (kind ≠ 0)) && (decide (k < (kids.length : Int))))) rfl (fun h2 => ?_) (fun h2 => ?_)
  ·-- true
   simp only [sb] at h2
   obtain ⟨j, rfl⟩ : ∃ j : Nat, k = (j : Int) := ⟨k.toNat, by omega⟩
   have hj : j < kids.length := by omega
   have hat := KidsR.at_ j kids[j] hKs (by simp [hj])
   obtain ⟨y0, y1, ya, yn, yc, za, zn, zc, ua, un, uc, hy⟩ := hat.cells
   rw [hy] at hat
   refine W_seq (W_region rfl ?_)
   refine stp (r_fieldAddr rfl ?_)
   refine stp (r_load (v := .slice ak kids.length ck) rfl hc4 rfl ?_)
   refine stp (r_move_int rfl ?_)
   refine stp (r_indexN ((RK.grow g0).grow G) rfl rfl ?_ ?_); omega
   refine stp (r_loadNR ((RK.grow g0).grow G) rfl (by decide) (by rw [RK.len]; omega) hy ?_)
   refine stn (r_storeAll rfl rfl hc10 (by rfl) (by rfl) (by rfl) ?_)
   intro w28 hc29 u30
   replace hc4 := u30.heap hc4 ne13
   replace G := G.upd u30 hge12
   clear u30 hc10
   refine stp (r_assign_int rfl ?_)
   refine WL_nil ?_
   refine W_ret ?_
   have h9 : tstep (Nd.mk kind size words bytes kids) (j : Int) = (kids[j], 0) := by rw [tstep_mk]; rw [if_neg (by first | assumption | omega | simp_all), if_pos (by first | assumption | omega | simp_all), Int.toNat_natCast, List.getD_eq_getElem?_getD, List.getElem?_eq_getElem hj]; rfl
   rw [h9]
   refine ret2 (res_all rfl hc29 (by rfl)) (res_tmp (v := .int .u16 0) rfl) ⟨[_, _, _, _, _], rfl, hat, G⟩
  ·-- false
   simp only [sb] at h2
   refine W_seq (W_region rfl ?_)
   refine stp (r_move_bool rfl ?_)
   refine stp (r_assign_bool rfl ?_)
   refine WL_nil ?_
   refine W_cond2 (b := ((decide (kind ≠ 0)) && (decide (kind ≠ 1)))) rfl (fun h3 => ?_) (fun h3 => ?_)
   ·-- true
    simp only [sb] at h3
    refine W_seq (W_region rfl ?_)
    refine stp (r_build (v := .agg #[.int .i64 0, .int .i64 0, .slice none 0 0, .slice none 0 0, .slice none 0 0]) (fun w => by kernel_rfl) ?_)
    refine stn (r_storeAll rfl rfl hc10 (by rfl) (by rfl) (by rfl) ?_)
    intro w31 hc32 u33
    replace hc4 := u33.heap hc4 ne13
    replace G := G.upd u33 hge12
    clear u33 hc10
    refine stp (r_assign_int rfl ?_)
    refine WL_nil ?_
    refine W_ret ?_
    have h9 : tstep (Nd.mk kind size words bytes kids) k = (.nil, 20) := by rw [tstep_mk]; rw [if_neg (by first | assumption | omega | simp_all), if_neg (by first | assumption | omega | simp_all), if_pos (by first | assumption | omega | simp_all)]
    rw [h9]
    refine ret2 (res_all rfl hc32 (by rfl)) (res_tmp (v := .int .u16 20) rfl) ⟨[_, _, _, _, _], rfl, NodeR.zero _, G⟩
   ·-- false
    simp only [sb] at h3
    refine W_skip ?_
    refine W_seq (W_region rfl ?_)
    refine stp (r_build (v := .agg #[.int .i64 0, .int .i64 0, .slice none 0 0, .slice none 0 0, .slice none 0 0]) (fun w => by kernel_rfl) ?_)
    refine stn (r_storeAll rfl rfl hc10 (by rfl) (by rfl) (by rfl) ?_)
    intro w34 hc35 u36
    replace hc4 := u36.heap hc4 ne13
    replace G := G.upd u36 hge12
    clear u36 hc10
    refine stp (r_assign_int rfl ?_)
    refine WL_nil ?_
    refine W_ret ?_
    have h9 : tstep (Nd.mk kind size words bytes kids) k = (.nil, 0) := by rw [tstep_mk]; rw [if_neg (by first | assumption | omega | simp_all), if_neg (by first | assumption | omega | simp_all), if_neg (by first | assumption | omega | simp_all)]
    rw [h9]
    refine ret2 (res_all rfl hc35 (by rfl)) (res_tmp (v := .int .u16 0) rfl) ⟨[_, _, _, _, _], rfl, NodeR.zero _, G⟩

set_option maxRecDepth 100000 in
theorem tat_calls (w : World) {c : List Value} {t : Nd} (T : NodeR w c t) {k : Int} (k0 : 0 ≤ k) : Gives Try.prog 44 #[.agg c.toArray, .int .i64 k] w (.tuple #[.int .u64 ((tat t k).1), .int .u16 ((tat t k).2)]) := by
 obtain @⟨kind, size, words, bytes, kids, ws, bs, ks, kc, hk, hs, hW, hwr, hB, hbr, hK, hKs⟩ := T
 obtain ⟨aw, cw, rfl, hcw, hcw2, RW⟩ := hW
 obtain ⟨ab, cb, rfl, hcb, hcb2, RB⟩ := hB
 obtain ⟨ak, ck, rfl, hck, hck2, RK⟩ := hK
 have lw := RW.lim
 have lb := RB.lim
 have lk := RK.lim
 simp only [inR] at hk hs
 obtain ⟨k, rfl⟩ : ∃ j : Nat, k = (j : Int) := ⟨k.toNat, by omega⟩
 have hgb := getD_u8 hbr k
 have G := Grow.rfl' w
 refine gives_of Try.func44 Try.ntmps44 Try.results44 rfl rfl ?_
 refine W_seq (W_region rfl ?_)
 refine WL_some (og rfl ?_)
 (first | refine r_box_agg rfl ?_ | refine r_box_int rfl ?_ | refine r_box_slice rfl ?_ | refine r_box rfl rfl ?_)
 intro b1 w2 hb3 hc4 g5
 have hge6 := Nat.le_trans G.size hb3
 replace G := G.tr g5
 clear g5 hb3
 refine stp (r_assign_int rfl ?_)
 refine stp (r_assign_int rfl ?_)
 refine WL_nil ?_
 refine W_seq (W_region rfl ?_)
 refine stp (r_fieldAddr rfl ?_)
 refine stp (r_load (v := .int .i64 kind) rfl hc4 rfl ?_)
 refine stp (r_neq rfl rfl ?_)
 refine stp (r_move_bool rfl ?_)
 refine WL_some (og_if (s := .bool (decide (kind ≠ 0))) (b := true) (v := .pointer (some ⟨b1, 0, none⟩)) rfl (wgb_t _) (fun hc7 => ?_) ?_)
 ·
  have hc7_ := of_decide_eq_true hc7
  refine r_fieldAddr rfl ?_
  exact ⟨rfl, rfl⟩
 refine WL_some (og_if (s := .bool (decide (kind ≠ 0))) (b := true) (v := .int .i64 kind) rfl (wgb_t _) (fun hc8 => ?_) ?_)
 ·
  have hc8_ := of_decide_eq_true hc8
  refine r_load (v := .int .i64 kind) (gvt hc8) hc4 rfl ?_
  exact ⟨rfl, rfl⟩
 refine WL_some (og_if (s := .bool (decide (kind ≠ 0))) (b := true) (v := .bool (decide (kind ≠ 1))) rfl (wgb_t _) (fun hc9 => ?_) ?_)
 ·
  have hc9_ := of_decide_eq_true hc9
  refine r_neq (gvt hc9) rfl ?_
  exact ⟨rfl, rfl⟩
 refine stp (r_and2 rfl rfl rfl ?_)
 refine stp (r_assign_bool rfl ?_)
 refine WL_nil ?_
 refine W_seq ?_
 refine W_block ?_
 refine W_seq (W_region rfl ?_)
 refine stp (r_move_bool rfl ?_)
 refine stp (r_move_bool rfl ?_)
 refine WL_some (og_if (s := .bool ((decide (kind ≠ 0)) && (decide (kind ≠ 1)))) (b := true) (v := .pointer (some ⟨b1, 1, none⟩)) rfl (wgb_t _) (fun hc10 => ?_) ?_)
 ·
  obtain ⟨hc10a, hc10b⟩ := and_t hc10
  have hc10a_ := of_decide_eq_true hc10a
  have hc10b_ := of_decide_eq_true hc10b
  refine r_fieldAddr rfl ?_
  exact ⟨rfl, rfl⟩
 refine WL_some (og_if (s := .bool ((decide (kind ≠ 0)) && (decide (kind ≠ 1)))) (b := true) (v := .int .i64 size) rfl (wgb_t _) (fun hc11 => ?_) ?_)
 ·
  obtain ⟨hc11a, hc11b⟩ := and_t hc11
  have hc11a_ := of_decide_eq_true hc11a
  have hc11b_ := of_decide_eq_true hc11b
  refine r_load (v := .int .i64 size) (gvt hc11) hc4 rfl ?_
  exact ⟨rfl, rfl⟩
 refine WL_some (og_if (s := .bool ((decide (kind ≠ 0)) && (decide (kind ≠ 1)))) (b := true) (v := .bool (decide (size = 6))) rfl (wgb_t _) (fun hc12 => ?_) ?_)
 ·
  obtain ⟨hc12a, hc12b⟩ := and_t hc12
  have hc12a_ := of_decide_eq_true hc12a
  have hc12b_ := of_decide_eq_true hc12b
  refine r_eql (gvt hc12) rfl ?_
  exact ⟨rfl, rfl⟩
 refine stp (r_and2 rfl rfl rfl ?_)
 refine stp (r_assign_bool rfl ?_)
 refine WL_nil ?_
 refine W_cond2 (b := (((decide (kind ≠ 0)) && (decide (kind ≠ 1))) && (decide (size = 6)))) rfl (fun h1 => ?_) (fun h1 => ?_)
 ·-- true
  simp only [sb] at h1
  refine W_seq (W_region rfl ?_)
  refine stp (r_assign_int rfl ?_)
  refine stp (r_assign_int rfl ?_)
  refine WL_nil ?_
  refine W_ret ?_
  have h9 : tat (Nd.mk kind size words bytes kids) (k : Int) = (0, 23) := by rw [tat_mk]; (repeat' split) <;> first | rfl | (exfalso; omega) | (exfalso; simp_all; done) | (exfalso; simp_all; omega)
  refine ret2 (res_tmp (v := .int .u64 0) rfl) (res_tmp (v := .int .u16 23) rfl) ⟨?_, G⟩
  rw [h9]
 ·-- false
  simp only [sb] at h1
  refine W_seq (W_region rfl ?_)
  refine stp (r_fieldAddr rfl ?_)
  refine stp (r_load (v := .int .i64 kind) rfl hc4 rfl ?_)
  refine stp (r_neq rfl rfl ?_)
  refine stp (r_move_bool rfl ?_)
  refine WL_some (og_if (s := .bool (decide (kind ≠ 0))) (b := true) (v := .int .i64 (k : Int)) rfl (wgb_t _) (fun hc13 => ?_) ?_)
  ·
   have hc13_ := of_decide_eq_true hc13
   refine r_move_int rfl ?_
   exact ⟨rfl, rfl⟩
  refine WL_some (og_if (s := .bool (decide (kind ≠ 0))) (b := true) (v := .pointer (some ⟨b1, 2, none⟩)) rfl (wgb_t _) (fun hc14 => ?_) ?_)
  ·
   have hc14_ := of_decide_eq_true hc14
   refine r_fieldAddr rfl ?_
   exact ⟨rfl, rfl⟩
  refine WL_some (og_if (s := .bool (decide (kind ≠ 0))) (b := true) (v := .slice aw words.length cw) rfl (wgb_t _) (fun hc15 => ?_) ?_)
  ·
   have hc15_ := of_decide_eq_true hc15
   refine r_load (v := .slice aw words.length cw) (gvt hc15) hc4 rfl ?_
   exact ⟨rfl, rfl⟩
  refine WL_some (og_if (s := .bool (decide (kind ≠ 0))) (b := true) (v := .int .i64 (words.length : Int)) rfl (wgb_t _) (fun hc16 => ?_) ?_)
  ·
   have hc16_ := of_decide_eq_true hc16
   refine r_len rfl rfl (gvt hc16) ?_
   exact ⟨rfl, rfl⟩
  refine WL_some (og_if (s := .bool (decide (kind ≠ 0))) (b := true) (v := .bool (decide ((k : Int) < (words.length : Int)))) rfl (wgb_t _) (fun hc17 => ?_) ?_)
  ·
   have hc17_ := of_decide_eq_true hc17
   refine r_lss (gvt hc17) (gvt hc17) ?_
   exact ⟨rfl, rfl⟩
  refine stp (r_and2 rfl rfl rfl ?_)
  refine stp (r_assign_bool rfl ?_)
  refine WL_nil ?_
  refine W_cond2 (b := ((decide (kind ≠ 0)) && (decide ((k : Int) < (words.length : Int))))) rfl (fun h2 => ?_) (fun h2 => ?_)
  ·-- true
   simp only [sb] at h2
   refine W_seq (W_region rfl ?_)
   refine stp (r_fieldAddr rfl ?_)
   refine stp (r_load (v := .slice aw words.length cw) rfl hc4 rfl ?_)
   refine stp (r_move_int rfl ?_)
   refine stp (r_indexN (RW.grow G) rfl rfl ?_ ?_); omega
   refine stp (r_loadR (v := .int .u64 (words.getD k 0)) (m := 0) (RW.grow G) rfl (map_get1 0 (by omega)) ?_)
   refine stp (r_assign_int rfl ?_)
   refine stp (r_assign_int rfl ?_)
   refine WL_nil ?_
   refine W_ret ?_
   have h9 : tat (Nd.mk kind size words bytes kids) (k : Int) = (words.getD k 0, 0) := by rw [tat_mk]; (repeat' split) <;> first | rfl | (exfalso; omega) | (exfalso; simp_all; done) | (exfalso; simp_all; omega)
   refine ret2 (res_tmp (v := .int .u64 (words.getD k 0)) rfl) (res_tmp (v := .int .u16 0) rfl) ⟨?_, G⟩
   rw [h9]
  ·-- false
   simp only [sb] at h2
   refine W_seq (W_region rfl ?_)
   refine stp (r_move_bool rfl ?_)
   refine stp (r_move_bool rfl ?_)
   refine WL_some (og_if (s := .bool ((decide (kind ≠ 0)) && (decide (kind ≠ 1)))) (b := true) (v := .pointer (some ⟨b1, 1, none⟩)) rfl (wgb_t _) (fun hc18 => ?_) ?_)
   ·
    obtain ⟨hc18a, hc18b⟩ := and_t hc18
    have hc18a_ := of_decide_eq_true hc18a
    have hc18b_ := of_decide_eq_true hc18b
    refine r_fieldAddr rfl ?_
    exact ⟨rfl, rfl⟩
   refine WL_some (og_if (s := .bool ((decide (kind ≠ 0)) && (decide (kind ≠ 1)))) (b := true) (v := .int .i64 size) rfl (wgb_t _) (fun hc19 => ?_) ?_)
   ·
    obtain ⟨hc19a, hc19b⟩ := and_t hc19
    have hc19a_ := of_decide_eq_true hc19a
    have hc19b_ := of_decide_eq_true hc19b
    refine r_load (v := .int .i64 size) (gvt hc19) hc4 rfl ?_
    exact ⟨rfl, rfl⟩
   refine WL_some (og_if (s := .bool ((decide (kind ≠ 0)) && (decide (kind ≠ 1)))) (b := true) (v := .bool (decide (size = 2))) rfl (wgb_t _) (fun hc20 => ?_) ?_)
   ·
    obtain ⟨hc20a, hc20b⟩ := and_t hc20
    have hc20a_ := of_decide_eq_true hc20a
    have hc20b_ := of_decide_eq_true hc20b
    refine r_eql (gvt hc20) rfl ?_
    exact ⟨rfl, rfl⟩
   refine stp (r_and2 rfl rfl rfl ?_)
   refine stp (r_move_bool rfl ?_)
   refine WL_some (og_if (s := .bool (((decide (kind ≠ 0)) && (decide (kind ≠ 1))) && (decide (size = 2)))) (b := true) (v := .int .i64 (k : Int)) rfl (wgb_t _) (fun hc21 => ?_) ?_)
   ·
    obtain ⟨hc21a, hc21b⟩ := and_t hc21
    obtain ⟨hc21aa, hc21ab⟩ := and_t hc21a
    have hc21aa_ := of_decide_eq_true hc21aa
    have hc21ab_ := of_decide_eq_true hc21ab
    have hc21b_ := of_decide_eq_true hc21b
    refine r_move_int rfl ?_
    exact ⟨rfl, rfl⟩
   refine WL_some (og_if (s := .bool (((decide (kind ≠ 0)) && (decide (kind ≠ 1))) && (decide (size = 2)))) (b := true) (v := .pointer (some ⟨b1, 3, none⟩)) rfl (wgb_t _) (fun hc22 => ?_) ?_)
   ·
    obtain ⟨hc22a, hc22b⟩ := and_t hc22
    obtain ⟨hc22aa, hc22ab⟩ := and_t hc22a
    have hc22aa_ := of_decide_eq_true hc22aa
    have hc22ab_ := of_decide_eq_true hc22ab
    have hc22b_ := of_decide_eq_true hc22b
    refine r_fieldAddr rfl ?_
    exact ⟨rfl, rfl⟩
   refine WL_some (og_if (s := .bool (((decide (kind ≠ 0)) && (decide (kind ≠ 1))) && (decide (size = 2)))) (b := true) (v := .slice ab bytes.length cb) rfl (wgb_t _) (fun hc23 => ?_) ?_)
   ·
    obtain ⟨hc23a, hc23b⟩ := and_t hc23
    obtain ⟨hc23aa, hc23ab⟩ := and_t hc23a
    have hc23aa_ := of_decide_eq_true hc23aa
    have hc23ab_ := of_decide_eq_true hc23ab
    have hc23b_ := of_decide_eq_true hc23b
    refine r_load (v := .slice ab bytes.length cb) (gvt hc23) hc4 rfl ?_
    exact ⟨rfl, rfl⟩
   refine WL_some (og_if (s := .bool (((decide (kind ≠ 0)) && (decide (kind ≠ 1))) && (decide (size = 2)))) (b := true) (v := .int .i64 (bytes.length : Int)) rfl (wgb_t _) (fun hc24 => ?_) ?_)
   ·
    obtain ⟨hc24a, hc24b⟩ := and_t hc24
    obtain ⟨hc24aa, hc24ab⟩ := and_t hc24a
    have hc24aa_ := of_decide_eq_true hc24aa
    have hc24ab_ := of_decide_eq_true hc24ab
    have hc24b_ := of_decide_eq_true hc24b
    refine r_len rfl rfl (gvt hc24) ?_
    exact ⟨rfl, rfl⟩
   refine WL_some (og_if (s := .bool (((decide (kind ≠ 0)) && (decide (kind ≠ 1))) && (decide (size = 2)))) (b := true) (v := .bool (decide ((k : Int) < (bytes.length : Int)))) rfl (wgb_t _) (fun hc25 => ?_) ?_)
   ·
    obtain ⟨hc25a, hc25b⟩ := and_t hc25
    obtain ⟨hc25aa, hc25ab⟩ := and_t hc25a
    have hc25aa_ := of_decide_eq_true hc25aa
    have hc25ab_ := of_decide_eq_true hc25ab
    have hc25b_ := of_decide_eq_true hc25b
    refine r_lss (gvt hc25) (gvt hc25) ?_
    exact ⟨rfl, rfl⟩
   refine stp (r_and2 rfl rfl rfl ?_)
   refine stp (r_assign_bool rfl ?_)
   refine WL_nil ?_
   refine W_cond2 (b := ((((decide (kind ≠ 0)) && (decide (kind ≠ 1))) && (decide (size = 2))) && (decide ((k : Int) < (bytes.length : Int))))) rfl (fun h3 => ?_) (fun h3 => ?_)
   ·-- true
    simp only [sb] at h3
    refine W_seq (W_region rfl ?_)
    refine stp (r_fieldAddr rfl ?_)
    refine stp (r_load (v := .slice ab bytes.length cb) rfl hc4 rfl ?_)
    refine stp (r_move_int rfl ?_)
    refine stp (r_indexN (RB.grow G) rfl rfl ?_ ?_); omega
    refine stp (r_loadR (v := .int .u8 (bytes.getD k 0)) (m := 0) (RB.grow G) rfl (map_get1 0 (by omega)) ?_)
    refine stp (r_conv rfl ?_ ?_); constructor <;> omega
    refine stp (r_assign_int rfl ?_)
    refine stp (r_assign_int rfl ?_)
    refine WL_nil ?_
    refine W_ret ?_
    have h9 : tat (Nd.mk kind size words bytes kids) (k : Int) = (bytes.getD k 0, 0) := by rw [tat_mk]; (repeat' split) <;> first | rfl | (exfalso; omega) | (exfalso; simp_all; done) | (exfalso; simp_all; omega)
    refine ret2 (res_tmp (v := .int .u64 (bytes.getD k 0)) rfl) (res_tmp (v := .int .u16 0) rfl) ⟨?_, G⟩
    rw [h9]
   ·-- false
    simp only [sb] at h3
    refine W_seq (W_region rfl ?_)
    refine stp (r_move_bool rfl ?_)
    refine stp (r_assign_bool rfl ?_)
    refine WL_nil ?_
    refine W_cond2 (b := ((decide (kind ≠ 0)) && (decide (kind ≠ 1)))) rfl (fun h4 => ?_) (fun h4 => ?_)
    ·-- true
     simp only [sb] at h4
     refine W_seq (W_region rfl ?_)
     refine stp (r_assign_int rfl ?_)
     refine stp (r_assign_int rfl ?_)
     refine WL_nil ?_
     refine W_ret ?_
     have h9 : tat (Nd.mk kind size words bytes kids) (k : Int) = (0, 20) := by rw [tat_mk]; (repeat' split) <;> first | rfl | (exfalso; omega) | (exfalso; simp_all; done) | (exfalso; simp_all; omega)
     refine ret2 (res_tmp (v := .int .u64 0) rfl) (res_tmp (v := .int .u16 20) rfl) ⟨?_, G⟩
     rw [h9]
    ·-- false
     simp only [sb] at h4
     refine W_skip ?_
     refine W_seq (W_region rfl ?_)
     refine stp (r_assign_int rfl ?_)
     refine stp (r_assign_int rfl ?_)
     refine WL_nil ?_
     refine W_ret ?_
     have h9 : tat (Nd.mk kind size words bytes kids) (k : Int) = (0, 0) := by rw [tat_mk]; (repeat' split) <;> first | rfl | (exfalso; omega) | (exfalso; simp_all; done) | (exfalso; simp_all; omega)
     refine ret2 (res_tmp (v := .int .u64 0) rfl) (res_tmp (v := .int .u16 0) rfl) ⟨?_, G⟩
     rw [h9]

set_option maxRecDepth 100000 in
theorem indexI_calls (w : World) {ad : Option Addr} {c n fid : Nat} {fst cap : Array Value} {xs : List Int} [FuncI Try.prog fid] (R : RowAt w 1 ad n (xs.map (.int .i64))) (hn : n = xs.length) (p : Nat → Bool) (hf : ∀ i, i < n → ∀ w', Grow w w' → Gives Try.prog fid (fst.toList ++ ([Value.int .i64 (xs.getD i 0)] ++ cap.toList)).toArray w' (.bool (p i))) : Gives Try.prog 69 #[.slice ad n c, .func (.func fid) fst cap] w (.int .i64 (findI p n 0)) := by
 have ln := R.lim
 have G := Grow.rfl' w
 refine gives_of Try.func69 Try.ntmps69 Try.results69 rfl rfl ?_
 refine W_seq (W_region rfl ?_)
 refine stp (r_assign_int rfl ?_)
 refine WL_nil ?_
 refine W_seq ?_
 refine W_seq (W_region rfl ?_)
 refine stp (r_move_slice rfl ?_)
 refine stp (r_len rfl rfl rfl ?_)
 refine stp (r_move_int rfl ?_)
 refine WL_nil ?_
 refine W_block ?_
 refine W_loop (fun m_ e_ w_ => ∃ (k : Nat), m_ = n - k ∧ Fr [(0, .slice ad n c), (1, .func (.func fid) fst cap), (7, .int .i64 (n : Int)), (8, .int .i64 (k : Int))] e_ ∧ (k ≤ n) ∧ (∀ j, j < k → p j = false) ∧ Grow w w_) _ ⟨0, rfl, fr_of ⟨rfl, rfl, rfl, rfl, trivial⟩, by omega, fun j hj => by omega, G⟩ ?_
 clear G
 rintro m_ e_ w1 ⟨k, rfl, ⟨e2, rfl⟩, hk, hno, G⟩
 refine W_seq (W_region rfl ?_)
 refine stp (r_lss rfl rfl ?_)
 refine WL_nil ?_
 refine W_seq ?_
 refine W_cond2 (b := (decide ((k : Int) < (n : Int)))) rfl (fun hlt => ?_) (fun hlt => ?_)
 ·-- true
  replace hlt := of_decide_eq_true hlt
  refine W_skip ?_
  refine W_seq ?_
  refine W_block ?_
  refine W_seq (W_region rfl ?_)
  refine stp (r_move_int rfl ?_)
  refine stp (r_assign_int rfl ?_)
  refine WL_nil ?_
  refine W_seq (W_region rfl ?_)
  refine stp (r_move (v := .func (.func fid) fst cap) rfl ?_)
  refine stp (r_move_slice rfl ?_)
  refine stp (r_move_int rfl ?_)
  refine stp (r_indexN (R.grow G) rfl rfl ?_ ?_); omega
  refine stp (r_loadR (v := .int .i64 (xs.getD k 0)) (m := 0) (R.grow G) rfl (map_get1 0 (by omega)) ?_)
  refine stp (r_gives (v := .bool (p k)) rfl (hf k (by omega) _ G) ?_)
  intro w3 g4
  replace G := G.tr g4
  clear g4
  refine WL_nil ?_
  refine W_cond2 (b := (p k)) rfl (fun hpk => ?_) (fun hpk => ?_)
  ·-- true
   refine W_seq (W_region rfl ?_)
   refine stp (r_move_int rfl ?_)
   refine stp (r_assign_int rfl ?_)
   refine WL_nil ?_
   refine W_ret ?_
   refine ret1 (res_tmp (v := .int .i64 (k : Int)) rfl) ⟨?_, G⟩
   rw [findI_some n 0 k (by omega) (by omega) hpk (fun j _ hj => hno j hj)]
  ·-- false
   refine W_skip ?_
   refine W_region rfl ?_
   refine stp (r_add rfl rfl ?_ ?_); constructor <;> omega
   refine stp (r_move_int rfl ?_)
   refine WL_nil ?_
   refine ⟨_, ?_, k + 1, rfl, fr_of ⟨rfl, rfl, rfl, rfl, trivial⟩, by omega, fun j hj => by rcases Nat.lt_succ_iff_lt_or_eq.1 hj with h | h; exact hno j h; subst h; exact hpk, G⟩
   omega
 ·-- false
  replace hlt := of_decide_eq_false hlt
  have hk2 : k = n := by omega
  subst hk2
  refine W_exit ?_
  refine W_seq (W_region rfl ?_)
  refine stp (r_assign_int rfl ?_)
  refine WL_nil ?_
  refine W_ret ?_
  refine ret1 (res_tmp (v := .int .i64 (-1)) rfl) ⟨?_, G⟩
  rw [findI_none _ _ (fun j _ hj => hno j (by omega))]

set_option maxRecDepth 100000 in
theorem containsI_calls (w : World) {ad : Option Addr} {c n fid : Nat} {fst cap : Array Value} {xs : List Int} [FuncI Try.prog fid] (R : RowAt w 1 ad n (xs.map (.int .i64))) (hn : n = xs.length) (p : Nat → Bool) (hf : ∀ i, i < n → ∀ w', Grow w w' → Gives Try.prog fid (fst.toList ++ ([Value.int .i64 (xs.getD i 0)] ++ cap.toList)).toArray w' (.bool (p i))) : Gives Try.prog 41 #[.slice ad n c, .func (.func fid) fst cap] w (.bool ((List.range' 0 n).any p)) := by
 have G := Grow.rfl' w
 refine gives_of Try.func41 Try.ntmps41 Try.results41 rfl rfl ?_
 refine W_seq (W_region rfl ?_)
 refine stp (r_assign (v := .bool false) rfl ?_)
 refine WL_nil ?_
 refine W_seq (W_region rfl ?_)
 refine stp (r_move_slice rfl ?_)
 refine stp (r_move (v := .func (.func fid) fst cap) rfl ?_)
 refine stp (r_gives (v := .int .i64 (findI p n 0)) rfl (indexI_calls _ (R.grow G) hn p (fun i hi w' g' => hf i hi w' (G.tr g'))) ?_)
 intro w1 g2
 replace G := G.tr g2
 clear g2
 refine stp (r_geq rfl rfl ?_)
 refine stp (r_assign_bool rfl ?_)
 refine WL_nil ?_
 refine W_ret ?_
 refine ret1 (res_tmp (v := .bool (decide ((findI p n 0) ≥ 0))) rfl) ⟨?_, G⟩
 rw [← findI_any]

set_option maxRecDepth 100000 in
theorem ask1_calls (w : World) (x : Int) : Gives Try.prog 42 #[.int .i64 x] w (.bool (decide (x < 0))) := by
 have G := Grow.rfl' w
 refine gives_of Try.func42 Try.ntmps42 Try.results42 rfl rfl ?_
 refine W_seq (W_region rfl ?_)
 refine stp (r_assign (v := .bool false) rfl ?_)
 refine WL_nil ?_
 refine W_seq (W_region rfl ?_)
 refine stp (r_move_int rfl ?_)
 refine stp (r_lss rfl rfl ?_)
 refine stp (r_assign_bool rfl ?_)
 refine WL_nil ?_
 refine W_ret ?_
 refine ret1 (res_tmp (v := .bool (decide (x < 0))) rfl) ⟨?_, G⟩
 rfl

set_option maxRecDepth 100000 in
theorem cost_calls : ∀ (n_ : Nat) (w : World) {c : List Value} {t : Nd} (T : NodeR w c t), t.sz ≤ n_ → Gives Try.prog 19 #[.agg c.toArray] w (.int .i64 t.cost) := by
 intro n_
 induction n_ with
 | zero => intro w c t T hm_; exact absurd hm_ (by have := t.sz_pos; omega)
 | succ n_ ih_ =>
 intro w c t T hm_
 have T0 := T
 have hnd := T.need_le
 obtain @⟨kind, size, words, bytes, kids, ws, bs, ks, kc, hk, hs, hW, hwr, hB, hbr, hK, hKs⟩ := T
 obtain ⟨aw, cw, rfl, hcw, hcw2, RW⟩ := hW
 obtain ⟨ab, cb, rfl, hcb, hcb2, RB⟩ := hB
 obtain ⟨ak, ck, rfl, hck, hck2, RK⟩ := hK
 have lw := RW.lim
 have lb := RB.lim
 have lk := RK.lim
 simp only [inR] at hk hs
 have hn0 := Nd.need_nn (Nd.mk kind size words bytes kids)
 have G := Grow.rfl' w
 refine gives_of Try.func19 Try.ntmps19 Try.results19 rfl rfl ?_
 refine W_seq (W_region rfl ?_)
 refine WL_some (og rfl ?_)
 (first | refine r_box_agg rfl ?_ | refine r_box_int rfl ?_ | refine r_box_slice rfl ?_ | refine r_box rfl rfl ?_)
 intro b1 w2 hb3 hc4 g5
 have hge6 := Nat.le_trans G.size hb3
 replace G := G.tr g5
 clear g5 hb3
 refine stp (r_assign_int rfl ?_)
 refine WL_nil ?_
 refine W_seq (W_region rfl ?_)
 refine stp (r_loadAll rfl hc4 (by rfl) ?_)
 refine stp (r_gives (v := .int .i64 ((Nd.mk kind size words bytes kids).need)) rfl (need_calls _ (T0.grow G)) ?_)
 intro w7 g8
 replace hc4 := g8.heap hc4
 replace G := G.tr g8
 clear g8
 refine stp (r_add rfl rfl ?_ ?_); constructor <;> omega
 refine stp (r_assign_int rfl ?_)
 refine WL_nil ?_
 refine W_seq ?_
 refine W_seq (W_region rfl ?_)
 refine stp (r_fieldAddr rfl ?_)
 refine stp (r_load (v := .slice ak kids.length ck) rfl hc4 rfl ?_)
 refine stp (r_len rfl rfl rfl ?_)
 refine stp (r_move_int rfl ?_)
 refine WL_nil ?_
 refine W_block ?_
 refine W_loop (fun m_ e_ w_ => ∃ (k : Nat), m_ = kids.length - k ∧ Fr [(2, .int .i64 0), (10, .slice ak kids.length ck), (11, .int .i64 (kids.length : Int)), (3, .int .i64 (Nd.costL (kids.take k) (1 + (Nd.mk kind size words bytes kids).need))), (12, .int .i64 (k : Int))] e_ ∧ (k ≤ kids.length) ∧ (w_.heap[b1]? = some (.cells #[.int .i64 kind, .int .i64 size, .slice aw words.length cw, .slice ab bytes.length cb, .slice ak kids.length ck] 37 (0, 0))) ∧ Grow w w_) _ ⟨0, rfl, fr_of ⟨rfl, rfl, rfl, congrArg (Value.int .i64) (by simp [Nd.costL]), rfl, trivial⟩, by omega, hc4, G⟩ ?_
 clear hc4
 clear G
 rintro m_ e_ w9 ⟨k, rfl, ⟨e10, rfl⟩, hk2, hc4, G⟩
 refine W_seq (W_region rfl ?_)
 refine stp (r_lss rfl rfl ?_)
 refine WL_nil ?_
 refine W_seq ?_
 refine W_cond2 (b := (decide ((k : Int) < (kids.length : Int)))) rfl (fun hlt => ?_) (fun hlt => ?_)
 ·-- true
  replace hlt := of_decide_eq_true hlt
  have hi : k < kids.length := by omega
  have hat := KidsR.at_ k kids[k] hKs (by simp [hi])
  obtain ⟨y0, y1, ya, yn, yc, za, zn, zc, ua, un, uc, hy⟩ := hat.cells
  rw [hy] at hat
  have hsz := Nd.szs_at kids k kids[k] (by simp [hi])
  simp only [Nd.sz] at hm_
  have c0 := Nd.costL_pos (kids.take k) (1 + (Nd.mk kind size words bytes kids).need) (by omega)
  have c1 := Nd.costL_le (kids.take k) (1 + (Nd.mk kind size words bytes kids).need) (by omega)
  have c2 := kids[k].cost_pos
  have c3 := Nd.cost_le hat.need_le
  refine W_skip ?_
  refine W_seq ?_
  refine W_block ?_
  refine W_seq (W_region rfl ?_)
  refine stp (r_indexN (RK.grow G) rfl rfl ?_ ?_); omega
  refine stp (r_loadNR (RK.grow G) rfl (by decide) (by rw [RK.len]; omega) hy ?_)
  refine stp (r_alloc ?_)
  intro b11 w12 hb13 hc14 g15
  refine stn (r_storeAll rfl rfl hc14 (by rfl) (by rfl) (by rfl) ?_)
  intro w16 hc17 u18
  have g19 := g15.upd u18 hb13
  have hge20 := Nat.le_trans G.size hb13
  have ne21 := Nat.ne_of_lt (Nat.lt_of_lt_of_le (lt_of_heap hc4) hb13)
  replace hc4 := g19.heap hc4
  replace G := G.tr g19
  clear u18 g15 hb13 hc14
  refine WL_nil ?_
  refine W_region rfl ?_
  refine stp (r_move_int rfl ?_)
  refine stp (r_loadAll rfl hc17 (by rfl) ?_)
  refine stp (r_gives (v := .int .i64 (kids[k].cost)) rfl ((by have h := ih_ _ (hat.grow G) (by omega); exact h)) ?_)
  intro w22 g23
  replace hc4 := g23.heap hc4
  replace hc17 := g23.heap hc17
  replace G := G.tr g23
  clear g23
  refine stp (r_add rfl rfl ?_ ?_); constructor <;> omega
  refine stp (r_min rfl rfl rfl ?_)
  refine stp (r_assign_int rfl ?_)
  refine WL_nil ?_
  refine W_region rfl ?_
  refine stp (r_add rfl rfl ?_ ?_); constructor <;> omega
  refine stp (r_move_int rfl ?_)
  refine WL_nil ?_
  refine ⟨_, ?_, k + 1, rfl, fr_of ⟨rfl, rfl, rfl, congrArg (Value.int .i64) (by rw [Nd.costL_take _ hi]; rfl), rfl, trivial⟩, by omega, hc4, G⟩
  omega
 ·-- false
  replace hlt := of_decide_eq_false hlt
  have hk3 : k = kids.length := by omega
  refine W_exit ?_
  refine W_seq (W_region rfl ?_)
  refine stp (r_move_int rfl ?_)
  refine stp (r_assign_int rfl ?_)
  refine WL_nil ?_
  refine W_ret ?_
  refine ret1 (res_tmp (v := .int .i64 (Nd.costL (kids.take k) (1 + (Nd.mk kind size words bytes kids).need))) rfl) ⟨?_, G⟩
  rw [Nd.cost, hk3, List.take_length]

set_option maxRecDepth 100000 in
theorem ask_calls (w : World) {c : List Value} {t : Nd} (T : NodeR w c t) {ad : Option Addr} {c2 : Nat} {steps : List Int} {a : Int} (R : RowAt w 1 ad steps.length (steps.map (.int .i64))) (ha : inR .i64 a) : Gives Try.prog 25 #[.agg c.toArray, .agg #[.slice ad steps.length c2, .int .i64 a]] w (.tuple #[.agg #[.int .i64 ((askT t steps a).1.kind), .int .i64 ((askT t steps a).1.size), .int .i64 ((askT t steps a).1.words), .int .i64 ((askT t steps a).1.kids), .int .u64 ((askT t steps a).1.word)], .int .u16 ((askT t steps a).2)]) := by
 have T0 := T
 have ll := R.lim
 simp only [inR] at ha
 obtain @⟨kind, size, words, bytes, kids, ws, bs, ks, kc, hk, hs, hW, hwr, hB, hbr, hK, hKs⟩ := T
 obtain ⟨aw, cw, rfl, hcw, hcw2, RW⟩ := hW
 obtain ⟨ab, cb, rfl, hcb, hcb2, RB⟩ := hB
 obtain ⟨ak, ck, rfl, hck, hck2, RK⟩ := hK
 have lw := RW.lim
 have lb := RB.lim
 have lk := RK.lim
 simp only [inR] at hk hs
 have G := Grow.rfl' w
 refine gives_of Try.func25 Try.ntmps25 Try.results25 rfl rfl ?_
 refine W_seq (W_region rfl ?_)
 refine WL_some (og rfl ?_)
 (first | refine r_box_agg rfl ?_ | refine r_box_int rfl ?_ | refine r_box_slice rfl ?_ | refine r_box rfl rfl ?_)
 intro b1 w2 hb3 hc4 g5
 have hge6 := Nat.le_trans G.size hb3
 replace G := G.tr g5
 clear g5 hb3
 refine WL_some (og rfl ?_)
 (first | refine r_box_agg rfl ?_ | refine r_box_int rfl ?_ | refine r_box_slice rfl ?_ | refine r_box rfl rfl ?_)
 intro b7 w8 hb9 hc10 g11
 have hge12 := Nat.le_trans G.size hb9
 have ne13 := Nat.ne_of_lt (Nat.lt_of_lt_of_le (lt_of_heap hc4) hb9)
 replace hc4 := g11.heap hc4
 replace G := G.tr g11
 clear g11 hb9
 refine stp (r_alloc ?_)
 intro b14 w15 hb16 hc17 g18
 refine stp (r_assign_int rfl ?_)
 refine WL_nil ?_
 refine W_seq ?_
 refine W_block ?_
 refine W_seq (W_region rfl ?_)
 refine stp (r_fieldAddr rfl ?_)
 have hge19 := Nat.le_trans G.size hb16
 have ne20 := Nat.ne_of_lt (Nat.lt_of_lt_of_le (lt_of_heap hc4) hb16)
 have ne21 := Nat.ne_of_lt (Nat.lt_of_lt_of_le (lt_of_heap hc10) hb16)
 replace hc4 := g18.heap hc4
 replace hc10 := g18.heap hc10
 replace G := G.tr g18
 clear g18 hb16
 refine stp (r_load (v := .slice ad steps.length c2) rfl hc10 rfl ?_)
 refine stp (r_gives (v := .bool ((List.range' 0 steps.length).any fun i => decide (steps.getD i 0 < 0))) rfl (containsI_calls _ (R.grow G) rfl (fun i => decide (steps.getD i 0 < 0)) (fun i hi w' g' => ask1_calls _ _)) ?_)
 intro w22 g23
 replace hc4 := g23.heap hc4
 replace hc10 := g23.heap hc10
 replace hc17 := g23.heap hc17
 replace G := G.tr g23
 clear g23
 refine stp (r_assign_bool rfl ?_)
 refine WL_nil ?_
 refine W_cond2 (b := ((List.range' 0 steps.length).any fun i => decide (steps.getD i 0 < 0))) rfl (fun h1 => ?_) (fun h1 => ?_)
 ·-- true
  refine W_seq (W_region rfl ?_)
  refine stp (r_build (v := .agg #[.int .i64 0, .int .i64 0, .int .i64 0, .int .i64 0, .int .u64 0]) (fun w => by kernel_rfl) ?_)
  refine stn (r_storeAll rfl rfl hc17 (by rfl) (by rfl) (by rfl) ?_)
  intro w24 hc25 u26
  replace hc4 := u26.heap hc4 ne20
  replace hc10 := u26.heap hc10 ne21
  replace G := G.upd u26 hge19
  clear u26 hc17
  refine stp (r_assign_int rfl ?_)
  refine WL_nil ?_
  refine W_ret ?_
  have h9 : (askT (Nd.mk kind size words bytes kids) steps a) = (Vl0, 1) := by unfold askT; rw [if_pos (any_neg.1 h1)]
  refine ret2 (res_all rfl hc25 (by rfl)) (res_tmp (v := .int .u16 1) rfl) ⟨?_, G⟩
  rw [h9] <;> rfl
 ·-- false
  have hno : ¬ ∃ k ∈ steps, k < 0 := fun h_ => by rw [any_neg.2 h_] at h1; cases h1
  refine W_seq (W_region rfl ?_)
  refine stp (r_fieldAddr rfl ?_)
  refine stp (r_load (v := .slice ad steps.length c2) rfl hc10 rfl ?_)
  refine stp (r_len rfl rfl rfl ?_)
  refine stp (r_gtr rfl rfl ?_)
  refine stp (r_assign_bool rfl ?_)
  refine WL_nil ?_
  refine W_cond2 (b := (decide ((steps.length : Int) > 32))) rfl (fun h2 => ?_) (fun h2 => ?_)
  ·-- true
   replace h2 := of_decide_eq_true h2
   refine W_seq (W_region rfl ?_)
   refine stp (r_build (v := .agg #[.int .i64 0, .int .i64 0, .int .i64 0, .int .i64 0, .int .u64 0]) (fun w => by kernel_rfl) ?_)
   refine stn (r_storeAll rfl rfl hc17 (by rfl) (by rfl) (by rfl) ?_)
   intro w27 hc28 u29
   replace hc4 := u29.heap hc4 ne20
   replace hc10 := u29.heap hc10 ne21
   replace G := G.upd u29 hge19
   clear u29 hc17
   refine stp (r_assign_int rfl ?_)
   refine WL_nil ?_
   refine W_ret ?_
   have h9 : (askT (Nd.mk kind size words bytes kids) steps a) = (Vl0, 3) := by unfold askT; rw [if_neg hno, if_pos h2]
   refine ret2 (res_all rfl hc28 (by rfl)) (res_tmp (v := .int .u16 3) rfl) ⟨?_, G⟩
   rw [h9] <;> rfl
  ·-- false
   replace h2 := of_decide_eq_false h2
   refine W_skip ?_
   refine W_seq ?_
   refine W_seq (W_region rfl ?_)
   refine stp (r_fieldAddr rfl ?_)
   refine stp (r_load (v := .slice ad steps.length c2) rfl hc10 rfl ?_)
   refine stp (r_len rfl rfl rfl ?_)
   refine stp (r_move_int rfl ?_)
   refine WL_nil ?_
   refine W_block ?_
   refine W_loop (fun m_ e_ w_ => ∃ (k : Nat) (y0 : Int) (y1 : Int) (ya : Option Addr) (yn : Nat) (yc : Nat) (za : Option Addr) (zn : Nat) (zc : Nat) (ua : Option Addr) (un : Nat) (uc : Nat) (u : Nd), m_ = steps.length - k ∧ Fr [(2, .pointer (some ⟨b1, 0, none⟩)), (3, .pointer (some ⟨b7, 0, none⟩)), (4, .pointer (some ⟨b14, 0, none⟩)), (24, .slice ad steps.length c2), (25, .int .i64 (steps.length : Int)), (26, .int .i64 (k : Int))] e_ ∧ (k ≤ steps.length) ∧ (NodeR w [.int .i64 y0, .int .i64 y1, .slice ya yn yc, .slice za zn zc, .slice ua un uc] u) ∧ (tgo steps (Nd.mk kind size words bytes kids) = tgo (steps.drop k) u) ∧ (w_.heap[b7]? = some (.cells #[.slice ad steps.length c2, .int .i64 a] 33 (0, 0))) ∧ (w_.heap[b14]? = some (.cells #[.int .i64 0, .int .i64 0, .int .i64 0, .int .i64 0, .int .u64 0] 57 (0, 0))) ∧ (w_.heap[b1]? = some (.cells #[.int .i64 y0, .int .i64 y1, .slice ya yn yc, .slice za zn zc, .slice ua un uc] 37 (0, 0))) ∧ Grow w w_) _ ⟨0, kind, size, aw, words.length, cw, ab, bytes.length, cb, ak, kids.length, ck, (Nd.mk kind size words bytes kids), rfl, fr_of ⟨rfl, rfl, rfl, rfl, rfl, rfl, trivial⟩, by omega, T0, rfl, hc10, hc17, hc4, G⟩ ?_
   clear hc4 hc10 hc17
   clear G
   rintro m_ e_ w30 ⟨k, y0, y1, ya, yn, yc, za, zn, zc, ua, un, uc, u, rfl, ⟨e31, rfl⟩, hk2, hT, hw, hc10, hc17, hc4, G⟩
   refine W_seq (W_region rfl ?_)
   refine stp (r_lss rfl rfl ?_)
   refine WL_nil ?_
   refine W_seq ?_
   refine W_cond2 (b := (decide ((k : Int) < (steps.length : Int)))) rfl (fun hlt => ?_) (fun hlt => ?_)
   ·-- true
    replace hlt := of_decide_eq_true hlt
    have hi : k < steps.length := by omega
    have hkk : 0 ≤ (steps.getD k 0) := Int.not_lt.1 fun h_ => hno ⟨_, getD_mem hi, h_⟩
    have hd := tgo_drop hi u
    refine W_skip ?_
    refine W_seq ?_
    refine W_block ?_
    refine W_seq (W_region rfl ?_)
    refine stp (r_indexN (R.grow G) rfl rfl ?_ ?_); omega
    refine stp (r_loadR (v := .int .i64 (steps.getD k 0)) (m := 0) (R.grow G) rfl (map_get1 0 (by omega)) ?_)
    refine stp (r_assign_int rfl ?_)
    refine WL_nil ?_
    refine W_seq (W_region rfl ?_)
    refine stp (r_loadAll rfl hc4 (by rfl) ?_)
    refine stp (r_move_int rfl ?_)
    refine WL_some (og rfl ?_)
    refine r_call rfl (tstep_calls _ hT G hkk) ?_
    rintro v_ w32 ⟨cells, rfl, hT9, g_⟩
    replace hc10 := g_.heap hc10
    replace hc17 := g_.heap hc17
    replace hc4 := g_.heap hc4
    replace G := G.tr g_
    clear g_
    obtain ⟨x0, x1, xa, xn, xc, pa, pn, pc, qa, qn, qc, rfl⟩ := hT9.cells
    refine stp (r_move (v := .tuple #[.agg #[.int .i64 x0, .int .i64 x1, .slice xa xn xc, .slice pa pn pc, .slice qa qn qc], .int .u16 ((tstep u (steps.getD k 0)).2)]) rfl ?_)
    refine stp (r_extract (v := .agg #[.int .i64 x0, .int .i64 x1, .slice xa xn xc, .slice pa pn pc, .slice qa qn qc]) rfl rfl ?_)
    refine stp (r_extract (v := .int .u16 ((tstep u (steps.getD k 0)).2)) rfl rfl ?_)
    refine stp (r_alloc ?_)
    intro b33 w34 hb35 hc36 g37
    refine stn (r_storeAll rfl rfl hc36 (by rfl) (by rfl) (by rfl) ?_)
    intro w38 hc39 u40
    have g41 := g37.upd u40 hb35
    have hge42 := Nat.le_trans G.size hb35
    have ne43 := Nat.ne_of_lt (Nat.lt_of_lt_of_le (lt_of_heap hc10) hb35)
    have ne44 := Nat.ne_of_lt (Nat.lt_of_lt_of_le (lt_of_heap hc17) hb35)
    have ne45 := Nat.ne_of_lt (Nat.lt_of_lt_of_le (lt_of_heap hc4) hb35)
    replace hc10 := g41.heap hc10
    replace hc17 := g41.heap hc17
    replace hc4 := g41.heap hc4
    replace G := G.tr g41
    clear u40 g37 hb35 hc36
    refine stp (r_assign_int rfl ?_)
    refine WL_nil ?_
    refine W_seq ?_
    refine W_seq (W_region rfl ?_)
    refine stp (r_move_int rfl ?_)
    refine stp (r_neq rfl rfl ?_)
    refine WL_nil ?_
    refine W_cond2 (b := (decide (((tstep u (steps.getD k 0)).2) ≠ 0))) rfl (fun h4 => ?_) (fun h4 => ?_)
    ·-- true
     replace h4 := of_decide_eq_true h4
     refine W_seq (W_region rfl ?_)
     refine stp (r_build (v := .agg #[.int .i64 0, .int .i64 0, .int .i64 0, .int .i64 0, .int .u64 0]) (fun w => by kernel_rfl) ?_)
     refine stp (r_move_int rfl ?_)
     refine stn (r_storeAll rfl rfl hc17 (by rfl) (by rfl) (by rfl) ?_)
     intro w46 hc47 u48
     replace hc10 := u48.heap hc10 ne21
     replace hc4 := u48.heap hc4 ne20
     replace hc39 := u48.heap hc39 ne44.symm
     replace G := G.upd u48 hge19
     clear u48 hc17
     refine stp (r_assign_int rfl ?_)
     refine WL_nil ?_
     refine W_ret ?_
     have h9 : (askT (Nd.mk kind size words bytes kids) steps a) = (Vl0, (tstep u (steps.getD k 0)).2) := by unfold askT; rw [if_neg hno, if_neg h2, hw, hd, if_pos h4, if_pos h4]
     refine ret2 (res_all rfl hc47 (by rfl)) (res_tmp (v := .int .u16 ((tstep u (steps.getD k 0)).2)) rfl) ⟨?_, G⟩
     rw [h9] <;> rfl
    ·-- false
     replace h4 := of_decide_eq_false h4
     refine W_skip ?_
     refine W_region rfl ?_
     refine stp (r_loadAll rfl hc39 (by rfl) ?_)
     refine stn (r_storeAll rfl rfl hc4 (by rfl) (by rfl) (by rfl) ?_)
     intro w49 hc50 u51
     replace hc10 := u51.heap hc10 ne13.symm
     replace hc17 := u51.heap hc17 ne20.symm
     replace hc39 := u51.heap hc39 ne45.symm
     replace G := G.upd u51 hge6
     clear u51 hc4
     refine WL_nil ?_
     refine W_region rfl ?_
     refine stp (r_add rfl rfl ?_ ?_); constructor <;> omega
     refine stp (r_move_int rfl ?_)
     refine WL_nil ?_
     refine ⟨_, ?_, k + 1, x0, x1, xa, xn, xc, pa, pn, pc, qa, qn, qc, (tstep u (steps.getD k 0)).1, rfl, fr_of ⟨rfl, rfl, rfl, rfl, rfl, rfl, trivial⟩, by omega, hT9, (by rw [hw, hd, if_neg h4]), hc10, hc17, hc50, G⟩
     omega
   ·-- false
    replace hlt := of_decide_eq_false hlt
    have hk9 : k = steps.length := by omega
    rw [hk9, List.drop_length, tgo] at hw
    obtain ⟨hl1, hl2, hl3, hl4, hl5, hl6, hl7, hl8⟩ := hT.lens
    have hv : (askT (Nd.mk kind size words bytes kids) steps a) = tval u a := by unfold askT; rw [if_neg hno, if_neg h2, hw, if_neg (by simp)]
    refine W_exit ?_
    refine W_seq ?_
    refine W_seq (W_region rfl ?_)
    refine stp (r_fieldAddr rfl ?_)
    refine stp (r_load (v := .int .i64 a) rfl hc10 rfl ?_)
    refine stp (r_lss rfl rfl ?_)
    refine WL_nil ?_
    refine W_cond2 (b := (decide (a < 0))) rfl (fun h3 => ?_) (fun h3 => ?_)
    ·-- true
     replace h3 := of_decide_eq_true h3
     refine W_seq (W_region rfl ?_)
     refine stp (r_fieldAddr rfl ?_)
     refine stp (r_load (v := .int .i64 y0) rfl hc4 rfl ?_)
     refine stp (r_fieldAddr rfl ?_)
     refine stp (r_load (v := .int .i64 y1) rfl hc4 rfl ?_)
     refine stp (r_fieldAddr rfl ?_)
     refine stp (r_load (v := .slice ya yn yc) rfl hc4 rfl ?_)
     refine stp (r_len rfl rfl rfl ?_)
     refine stp (r_fieldAddr rfl ?_)
     refine stp (r_load (v := .slice za zn zc) rfl hc4 rfl ?_)
     refine stp (r_len rfl rfl rfl ?_)
     refine stp (r_add rfl rfl ?_ ?_); constructor <;> omega
     refine stp (r_fieldAddr rfl ?_)
     refine stp (r_load (v := .slice ua un uc) rfl hc4 rfl ?_)
     refine stp (r_len rfl rfl rfl ?_)
     refine stp (r_build (v := .agg #[.int .i64 y0, .int .i64 y1, .int .i64 ((yn : Int) + (zn : Int)), .int .i64 (un : Int), .int .u64 0]) (fun w => by kernel_rfl) ?_)
     refine stn (r_storeAll rfl rfl hc17 (by rfl) (by rfl) (by rfl) ?_)
     intro w52 hc53 u54
     replace hc10 := u54.heap hc10 ne21
     replace hc4 := u54.heap hc4 ne20
     replace G := G.upd u54 hge19
     clear u54 hc17
     refine stp (r_assign_int rfl ?_)
     refine WL_nil ?_
     refine W_ret ?_
     have h9 : (askT (Nd.mk kind size words bytes kids) steps a) = (⟨y0, y1, (yn : Int) + zn, un, 0⟩, 0) := by rw [hv, tval, if_pos h3, hl1, hl2, hl3, hl4, hl5]
     refine ret2 (res_all rfl hc53 (by rfl)) (res_tmp (v := .int .u16 0) rfl) ⟨?_, G⟩
     rw [h9] <;> rfl
    ·-- false
     replace h3 := of_decide_eq_false h3
     refine W_skip ?_
     refine W_seq (W_region rfl ?_)
     refine stp (r_loadAll rfl hc4 (by rfl) ?_)
     refine stp (r_fieldAddr rfl ?_)
     refine stp (r_load (v := .int .i64 a) rfl hc10 rfl ?_)
     refine stp (r_gives (v := .tuple #[.int .u64 ((tat u a).1), .int .u16 ((tat u a).2)]) rfl (tat_calls _ (hT.grow G) (by omega)) ?_)
     intro w55 g56
     replace hc10 := g56.heap hc10
     replace hc17 := g56.heap hc17
     replace hc4 := g56.heap hc4
     replace G := G.tr g56
     clear g56
     refine stp (r_move (v := .tuple #[.int .u64 ((tat u a).1), .int .u16 ((tat u a).2)]) rfl ?_)
     refine stp (r_extract (v := .int .u64 ((tat u a).1)) rfl rfl ?_)
     refine stp (r_extract (v := .int .u16 ((tat u a).2)) rfl rfl ?_)
     refine stp (r_assign_int rfl ?_)
     refine stp (r_assign_int rfl ?_)
     refine WL_nil ?_
     refine W_seq ?_
     refine W_seq (W_region rfl ?_)
     refine stp (r_move_int rfl ?_)
     refine stp (r_neq rfl rfl ?_)
     refine WL_nil ?_
     refine W_cond2 (b := (decide (((tat u a).2) ≠ 0))) rfl (fun h4 => ?_) (fun h4 => ?_)
     ·-- true
      replace h4 := of_decide_eq_true h4
      refine W_seq (W_region rfl ?_)
      refine stp (r_build (v := .agg #[.int .i64 0, .int .i64 0, .int .i64 0, .int .i64 0, .int .u64 0]) (fun w => by kernel_rfl) ?_)
      refine stp (r_move_int rfl ?_)
      refine stn (r_storeAll rfl rfl hc17 (by rfl) (by rfl) (by rfl) ?_)
      intro w57 hc58 u59
      replace hc10 := u59.heap hc10 ne21
      replace hc4 := u59.heap hc4 ne20
      replace G := G.upd u59 hge19
      clear u59 hc17
      refine stp (r_assign_int rfl ?_)
      refine WL_nil ?_
      refine W_ret ?_
      have h9 : (askT (Nd.mk kind size words bytes kids) steps a) = (Vl0, (tat u a).2) := by rw [hv, tval, if_neg h3, if_pos h4]
      refine ret2 (res_all rfl hc58 (by rfl)) (res_tmp (v := .int .u16 ((tat u a).2)) rfl) ⟨?_, G⟩
      rw [h9] <;> rfl
     ·-- false
      replace h4 := of_decide_eq_false h4
      refine W_skip ?_
      refine W_seq (W_region rfl ?_)
      refine stp (r_fieldAddr rfl ?_)
      refine stp (r_load (v := .int .i64 y0) rfl hc4 rfl ?_)
      refine stp (r_move_int rfl ?_)
      refine stp (r_build (v := .agg #[.int .i64 y0, .int .i64 0, .int .i64 0, .int .i64 0, .int .u64 ((tat u a).1)]) (fun w => by kernel_rfl) ?_)
      refine stn (r_storeAll rfl rfl hc17 (by rfl) (by rfl) (by rfl) ?_)
      intro w60 hc61 u62
      replace hc10 := u62.heap hc10 ne21
      replace hc4 := u62.heap hc4 ne20
      replace G := G.upd u62 hge19
      clear u62 hc17
      refine stp (r_assign_int rfl ?_)
      refine WL_nil ?_
      refine W_ret ?_
      have h9 : (askT (Nd.mk kind size words bytes kids) steps a) = (⟨y0, 0, 0, 0, (tat u a).1⟩, 0) := by rw [hv, tval, if_neg h3, if_neg h4, hl1]
      refine ret2 (res_all rfl hc61 (by rfl)) (res_tmp (v := .int .u16 0) rfl) ⟨?_, G⟩
      rw [h9] <;> rfl

set_option maxRecDepth 100000 in
theorem dwords_calls (w : World) {t_ : TypeId} {u_ : Value} {s : Src} (H : SrcOk Try.prog w (.iface t_ u_) s) {bd : Nat} {paid : Int} (hb : w.heap[bd]? = some (.cells #[.iface t_ u_, .int .i64 paid] 85 (0, 0))) (seg : Int) {a : Int} (a0 : 0 ≤ a) (a1 : a ≤ 140737488355328) {n : Nat} (hn : n ≤ 10000) : Calls Try.prog 65 #[.pointer (some ⟨bd, 0, none⟩), .int .i64 seg, .int .i64 a, .int .i64 (n : Int)] w (Ret fun v w' => Row (hide w.heap.size w') 1 v n ((wordsS s seg a n).map (.int .u64)) ∧ Grow w w') := by
 have G := Grow.rfl' w
 refine calls_ret Try.func65 Try.ntmps65 Try.results65 rfl rfl ?_
 refine W_seq (W_region rfl ?_)
 refine stp (r_assign_slice rfl ?_)
 refine WL_nil ?_
 refine W_seq (W_region rfl ?_)
 refine stp (r_assign_slice rfl ?_)
 refine WL_nil ?_
 refine W_seq ?_
 refine W_seq (W_region rfl ?_)
 refine stp (r_move_int rfl ?_)
 refine stp (r_move_int rfl ?_)
 refine WL_nil ?_
 refine W_block ?_
 refine W_loop (fun m_ e_ w_ => ∃ (m : Nat) (ad3 : Option Addr) (n3 : Nat) (c3 : Nat), m_ = n - m ∧ Fr [(0, .pointer (some ⟨bd, 0, none⟩)), (1, .int .i64 seg), (2, .int .i64 a), (8, .slice none 0 0), (13, .int .i64 (n : Int)), (9, .slice ad3 n3 c3), (14, .int .i64 (m : Int))] e_ ∧ (m ≤ n) ∧ (w_.heap[bd]? = some (.cells #[.iface t_ u_, .int .i64 paid] 85 (0, 0))) ∧ (w_.ownsRow w.heap.size 55 1 (.slice ad3 n3 c3) m ((wordsS s seg a m).map (.int .u64))) ∧ Grow w w_) _ ⟨0, none, 0, 0, rfl, fr_of ⟨rfl, rfl, rfl, rfl, rfl, rfl, rfl, trivial⟩, by omega, hb, World.ownsRow_nil _ _ _ _, G⟩ ?_
 clear hb
 clear G
 rintro m_ e_ w1 ⟨m, ad3, n3, c3, rfl, ⟨e2, rfl⟩, hm, hb, own, G⟩
 refine W_seq (W_region rfl ?_)
 refine stp (r_lss rfl rfl ?_)
 refine WL_nil ?_
 refine W_seq ?_
 refine W_cond2 (b := (decide ((m : Int) < (n : Int)))) rfl (fun hlt => ?_) (fun hlt => ?_)
 ·-- true
  replace hlt := of_decide_eq_true hlt
  have hnum := H.num seg (a + (m : Int))
  refine W_skip ?_
  refine W_seq ?_
  refine W_block ?_
  refine W_seq (W_region rfl ?_)
  refine stp (r_move_int rfl ?_)
  refine stp (r_assign_int rfl ?_)
  refine WL_nil ?_
  refine W_seq (W_region rfl ?_)
  refine stp (r_move_ptr rfl ?_)
  refine stp (r_nilCheck rfl ?_)
  refine stp (r_fieldAddr rfl ?_)
  refine stp (r_load (v := .iface t_ u_) rfl hb rfl ?_)
  refine stp (r_move_int rfl ?_)
  refine stp (r_move_int rfl ?_)
  refine stp (r_move_int rfl ?_)
  refine stp (r_add rfl rfl ?_ ?_); constructor <;> omega
  refine stp (r_srcWord H G rfl rfl rfl ?_)
  intro w3 g4
  replace hb := g4.heap hb
  replace own := own_grow own g4
  replace G := G.tr g4
  clear g4
  refine stp (r_move (v := .tuple #[.int .u64 ((s.word seg (a + (m : Int))).1), .int .u16 ((s.word seg (a + (m : Int))).2)]) rfl ?_)
  refine stp (r_extract (v := .int .u64 ((s.word seg (a + (m : Int))).1)) rfl rfl ?_)
  refine stp (r_extract (v := .int .u16 ((s.word seg (a + (m : Int))).2)) rfl rfl ?_)
  refine stp (r_assign_int rfl ?_)
  refine stp (r_assign_int rfl ?_)
  refine WL_nil ?_
  refine W_region rfl ?_
  refine stp (r_move_slice rfl ?_)
  refine stp (r_move_int rfl ?_)
  refine stp (r_buildSlice (cs := #[.int .u64 ((s.word seg (a + (m : Int))).1)]) (el := 55) (fun w => by kernel_rfl) ?_)
  intro bs5 w6 hb7 hc8 g9
  have hge10 := Nat.le_trans G.size hb7
  replace hb := g9.heap hb
  replace own := own_grow own g9
  replace G := G.tr g9
  clear g9
  refine stp (r_append rfl rfl rfl rfl own (Row.of_block (n := 1) hc8 rfl rfl (by omega)) (fun q_ hq_ => by simp at hq_; subst hq_; rfl) (by simp only [maxLen]; omega) (by omega) G.size ?_)
  intro v11 w12 own6 gr6
  replace G := G.grown gr6 (own_ge own)
  replace hb := gr_heap gr6 hb (own_ne own hb (by decide))
  clear own gr6
  obtain ⟨ad4, n4, c4, rfl⟩ := own_slice own6
  refine stp (r_assign_slice rfl ?_)
  refine WL_nil ?_
  refine W_region rfl ?_
  refine stp (r_add rfl rfl ?_ ?_); constructor <;> omega
  refine stp (r_move_int rfl ?_)
  refine WL_nil ?_
  refine ⟨_, ?_, m + 1, ad4, n4, c4, rfl, fr_of ⟨rfl, rfl, rfl, rfl, rfl, rfl, congrArg (Value.int .i64) (by omega), trivial⟩, by omega, hb, (by rw [wordsS_succ, List.map_append]; exact own6), G⟩
  omega
 ·-- false
  replace hlt := of_decide_eq_false hlt
  have hm2 : m = n := by omega
  subst hm2
  refine W_exit ?_
  refine W_seq (W_region rfl ?_)
  refine stp (r_move_slice rfl ?_)
  refine stp (r_assign_slice rfl ?_)
  refine WL_nil ?_
  refine W_ret ?_
  refine ret1 (res_tmp (v := .slice ad3 n3 c3) rfl) ⟨own_hide_range own (wordsS_len _ _ _ _) (by omega), G⟩

set_option maxRecDepth 100000 in
theorem put8_calls (w : World) {x : Int} (h0 : 0 ≤ x) (h1 : x ≤ 18446744073709551615) : Calls Try.prog 93 #[.int .u64 x, .int .i64 8] w (Ret fun v w' => Row w' 1 v 8 ((byt8 x).map (.int .u8)) ∧ Grow w w') := by
 have G := Grow.rfl' w
 refine calls_ret Try.func93 Try.ntmps93 Try.results93 rfl rfl ?_
 refine W_seq (W_region rfl ?_)
 refine stp (r_assign_slice rfl ?_)
 refine WL_nil ?_
 refine W_seq (W_region rfl ?_)
 refine stp (r_move_int rfl ?_)
 refine WL_some (og rfl ?_)
 refine r_min rfl rfl rfl ?_
 rw [show (if (8 : Int) < 8 then 8 else 8) = (8 : Int) from rfl]
 refine WL_some (og rfl ?_)
 refine r_max rfl rfl rfl ?_
 rw [show (if (8 : Int) > 0 then 8 else 0) = (8 : Int) from rfl]
 refine stp (r_make (n := 8) (base := w.heap.size) rfl rfl (by first | omega | (simp only [maxLen]; omega)) (by first | omega | (simp only [maxLen]; omega)) G.size ?_)
 intro bm4 w1 hb2 own5 g3
 rw [show (madeCells (Value.cells (.int .u8 0 : Value)) (8 * 1)).toList = List.replicate 8 (.int .u8 0) from by rw [Nat.mul_one]; exact toList_madeCells_one _ _] at own5
 replace G := G.tr g3
 clear g3
 refine stp (r_assign_slice rfl ?_)
 refine WL_nil ?_
 refine W_seq ?_
 refine W_seq (W_region rfl ?_)
 refine stp (r_move_slice rfl ?_)
 refine stp (r_len rfl rfl rfl ?_)
 refine stp (r_move_int rfl ?_)
 refine WL_nil ?_
 refine W_block ?_
 obtain ⟨hge_, cur0, hc0_, hsz0, hcur0⟩ := own_made' own5
 clear own5
 refine W_loop (fun m_ e_ w_ => ∃ (k : Nat) (cur : Array Value), m_ = 8 - k ∧ Fr [(0, .int .u64 x), (4, .slice none 0 0), (5, .slice (some ⟨bm4, 0, none⟩) 8 8), (12, .int .i64 8), (13, .int .i64 (k : Int))] e_ ∧ (k ≤ 8) ∧ (cur.toList = putCells x k) ∧ (w_.heap[bm4]? = some (.cells cur 5 (0, 0))) ∧ Grow w w_) _ ⟨0, cur0, rfl, fr_of ⟨rfl, rfl, rfl, rfl, rfl, trivial⟩, by omega, hcur0, hc0_, G⟩ ?_
 clear G
 rintro m_ e_ w6 ⟨k, cur, rfl, ⟨e7, rfl⟩, hk, hcur, hc_, G⟩
 refine W_seq (W_region rfl ?_)
 refine stp (r_lss rfl rfl ?_)
 refine WL_nil ?_
 refine W_seq ?_
 refine W_cond2 (b := (decide ((k : Int) < 8))) rfl (fun hlt => ?_) (fun hlt => ?_)
 ·-- true
  replace hlt := of_decide_eq_true hlt
  have hszc : cur.size = 8 := by rw [← Array.length_toList, hcur]; exact putCells_len x k (by omega)
  refine W_skip ?_
  refine W_seq ?_
  refine W_block ?_
  refine W_seq (W_region rfl ?_)
  refine stp (r_move_int rfl ?_)
  refine stp (r_assign_int rfl ?_)
  refine WL_nil ?_
  refine W_region rfl ?_
  refine stp (r_move_slice rfl ?_)
  refine stp (r_move_int rfl ?_)
  refine stp (r_move_int rfl ?_)
  refine stp (r_move_int rfl ?_)
  refine stp (r_mul rfl rfl ?_ ?_); constructor <;> omega
  refine stp (r_shr rfl rfl ?_ ?_); omega
  refine WL_some (og rfl ?_)
  refine r_convw rfl ?_
  rw [put_byte x k h0 h1 (by omega)]
  refine WL_some (og rfl ?_)
  refine r_indexAddr rfl rfl (by omega) (by omega) ?_
  rw [show 0 + ((k : Int)).toNat * 1 = k from by omega]
  refine stn (r_store1 (v := .int .u8 (byt1 x k)) rfl rfl (by rfl) hc_ (Nat.ble_eq_true_of_le (by omega)) (by rfl) ?_)
  intro w8 hc9 u10
  replace G := G.upd u10 hge_
  clear u10 hc_
  refine WL_nil ?_
  refine W_region rfl ?_
  refine stp (r_add rfl rfl ?_ ?_); constructor <;> omega
  refine stp (r_move_int rfl ?_)
  refine WL_nil ?_
  refine ⟨_, ?_, k + 1, _, rfl, fr_of ⟨rfl, rfl, rfl, rfl, congrArg (Value.int .i64) (by omega), trivial⟩, by omega, (by simp only [hcur]; exact putCells_set x k (by omega)), hc9, G⟩
  omega
 ·-- false
  replace hlt := of_decide_eq_false hlt
  have hk8 : k = 8 := by omega
  subst hk8
  refine W_exit ?_
  refine W_seq (W_region rfl ?_)
  refine stp (r_move_slice rfl ?_)
  refine stp (r_assign_slice rfl ?_)
  refine WL_nil ?_
  refine W_ret ?_
  refine ret1 (res_tmp (v := .slice (some ⟨bm4, 0, none⟩) 8 8) rfl) ⟨Row.of_block (n := 8) hc_ (by rw [hcur]; exact putCells_all x) (by simp [byt8]) (by omega), G⟩

set_option maxRecDepth 100000 in
theorem dbytes_calls (w : World) {t_ : TypeId} {u_ : Value} {s : Src} (H : SrcOk Try.prog w (.iface t_ u_) s) {bd : Nat} {paid : Int} (hb : w.heap[bd]? = some (.cells #[.iface t_ u_, .int .i64 paid] 85 (0, 0))) (seg : Int) {a : Int} (a0 : 0 ≤ a) (a1 : a ≤ 140737488355328) {n : Nat} (hn : n ≤ 80000) : Calls Try.prog 66 #[.pointer (some ⟨bd, 0, none⟩), .int .i64 seg, .int .i64 a, .int .i64 (n : Int)] w (Ret fun v w' => Row (hide w.heap.size w') 1 v n ((bytesS s seg a n).map (.int .u8)) ∧ Grow w w') := by
 have G := Grow.rfl' w
 refine calls_ret Try.func66 Try.ntmps66 Try.results66 rfl rfl ?_
 refine W_seq (W_region rfl ?_)
 refine stp (r_assign_slice rfl ?_)
 refine WL_nil ?_
 refine W_seq (W_region rfl ?_)
 refine stp (r_assign_slice rfl ?_)
 refine WL_nil ?_
 refine W_seq ?_
 refine W_seq (W_region rfl ?_)
 refine stp (r_move_ptr rfl ?_)
 refine stp (r_move_int rfl ?_)
 refine stp (r_move_int rfl ?_)
 refine stp (r_move_int rfl ?_)
 refine stp (r_gives (v := .int .i64 (((n + 7) / 8 : Nat) : Int)) rfl (gives_eq (ceil_calls _ _ (by omega) (by omega)) (y := .int .i64 (((n + 7) / 8 : Nat) : Int)) (by congr 1 <;> omega)) ?_)
 intro w1 g2
 replace hb := g2.heap hb
 replace G := G.tr g2
 clear g2
 refine WL_some (og rfl ?_)
 refine r_call rfl (dwords_calls _ (H.grow G) hb seg a0 a1 (n := (n + 7) / 8) (by omega)) ?_
 rintro v_ w3 ⟨⟨ad5, c5, rfl, -, -, R5⟩, g_⟩
 have RW := R5.sees (Sees.seen _ _)
 clear R5
 replace hb := g_.heap hb
 replace G := G.tr g_
 clear g_
 have hB5 := G.size
 have G5 := Grow.rfl' w3
 have hB6 : w3.heap.size ≤ w3.heap.size := Nat.le_refl _
 refine stp (r_len rfl rfl rfl ?_)
 refine stp (r_move_int rfl ?_)
 refine WL_nil ?_
 refine W_block ?_
 refine W_loop (fun m_ e_ w_ => ∃ (m : Nat) (ad3 : Option Addr) (n3 : Nat) (c3 : Nat), m_ = (n + 7) / 8 - m ∧ Fr [(3, .int .i64 (n : Int)), (8, .slice none 0 0), (17, .slice ad5 ((n + 7) / 8) c5), (18, .int .i64 (((n + 7) / 8 : Nat) : Int)), (9, .slice ad3 n3 c3), (19, .int .i64 (m : Int))] e_ ∧ (m ≤ (n + 7) / 8) ∧ (w_.heap[bd]? = some (.cells #[.iface t_ u_, .int .i64 paid] 85 (0, 0))) ∧ (Grow w3 w_) ∧ (w_.ownsRow w3.heap.size 5 1 (.slice ad3 n3 c3) (8 * m) ((((wordsS s seg a ((n + 7) / 8)).take m).flatMap byt8).map (.int .u8))) ∧ Grow w w_) _ ⟨0, none, 0, 0, rfl, fr_of ⟨rfl, rfl, rfl, rfl, rfl, rfl, trivial⟩, by omega, hb, G5, World.ownsRow_nil _ _ _ _, G⟩ ?_
 clear hb G5
 clear G
 rintro m_ e_ w4 ⟨m, ad3, n3, c3, rfl, ⟨e5, rfl⟩, hm, hb, G5, own, G⟩
 refine W_seq (W_region rfl ?_)
 refine stp (r_lss rfl rfl ?_)
 refine WL_nil ?_
 refine W_seq ?_
 refine W_cond2 (b := (decide ((m : Int) < (((n + 7) / 8 : Nat) : Int)))) rfl (fun hlt => ?_) (fun hlt => ?_)
 ·-- true
  replace hlt := of_decide_eq_true hlt
  have hm5 : m < (n + 7) / 8 := by omega
  have hml : m < (wordsS s seg a ((n + 7) / 8)).length := by rw [wordsS_len]; exact hm5
  have hr := wordsS_u64 H seg a ((n + 7) / 8) _ (getD_mem hml)
  simp only [inR] at hr
  refine W_skip ?_
  refine W_seq ?_
  refine W_block ?_
  refine W_seq (W_region rfl ?_)
  refine stp (r_indexN (RW.grow G5) rfl rfl ?_ ?_); omega
  refine stp (r_loadR (v := .int .u64 ((wordsS s seg a ((n + 7) / 8)).getD m 0)) (m := 0) (RW.grow G5) rfl (map_get1 0 (by omega)) ?_)
  refine stp (r_assign_int rfl ?_)
  refine WL_nil ?_
  refine W_region rfl ?_
  refine stp (r_move_slice rfl ?_)
  refine stp (r_move_int rfl ?_)
  refine WL_some (og rfl ?_)
  refine r_call rfl (put8_calls _ hr.1 hr.2) ?_
  rintro v8 w6 ⟨R8, g_⟩
  replace hb := g_.heap hb
  replace G5 := G5.tr g_
  replace own := own_grow own g_
  replace G := G.tr g_
  clear g_
  refine stp (r_append rfl rfl rfl rfl own R8 (fun q_ hq_ => by obtain ⟨z_, -, rfl⟩ := List.mem_map.1 hq_; rfl) (by simp only [maxLen]; omega) (by omega) G5.size ?_)
  intro v7 w8 own6 gr6
  clear R8
  replace G := G.grown gr6 (fun k_ hk_ => Nat.le_trans hB5 (own_ge own k_ hk_))
  replace G5 := G5.grown gr6 (own_ge own)
  replace hb := gr_heap gr6 hb (own_ne own hb (by decide))
  clear own gr6
  obtain ⟨ad4, n4, c4, rfl⟩ := own_slice own6
  refine stp (r_assign_slice rfl ?_)
  refine WL_nil ?_
  refine W_region rfl ?_
  refine stp (r_add rfl rfl ?_ ?_); constructor <;> omega
  refine stp (r_move_int rfl ?_)
  refine WL_nil ?_
  refine ⟨_, ?_, m + 1, ad4, n4, c4, rfl, fr_of ⟨rfl, rfl, rfl, rfl, rfl, congrArg (Value.int .i64) (by omega), trivial⟩, by omega, hb, G5, (by rw [Nat.mul_succ, List.take_add_one, List.getElem?_eq_getElem hml, Option.toList_some, List.flatMap_append, List.map_append, List.flatMap_singleton]; rw [getD_at hml] at own6; exact own6), G⟩
  omega
 ·-- false
  replace hlt := of_decide_eq_false hlt
  have hm2 : m = (n + 7) / 8 := by omega
  rw [hm2, List.take_of_length_le (by rw [wordsS_len]; exact Nat.le_refl _)] at own
  have hfl := flat8_len (wordsS s seg a ((n + 7) / 8))
  rw [wordsS_len] at hfl
  have hR9 := (own_hide own (by omega)).sees (Sees.low hB5 _)
  obtain ⟨ad9, c9, hs9, hc9, hc92, R9⟩ := hR9
  simp only [Value.slice.injEq] at hs9
  obtain ⟨rfl, rfl, rfl⟩ := hs9
  refine W_exit ?_
  refine W_seq (W_region rfl ?_)
  refine stp (r_move_slice rfl ?_)
  refine stp (r_move_int rfl ?_)
  refine stp (r_sliceH rfl rfl (by omega) (by omega) ?_)
  refine stp (r_assign_slice rfl ?_)
  refine WL_nil ?_
  refine W_ret ?_
  have R10 := R9.sliceH (m := n) hc9 (by omega) (by decide)
  rw [← List.map_take, show n * 1 = n from Nat.mul_one n] at R10
  refine ret1 (res_tmp (v := .slice (if c3 = 0 then ad3 else ad3.map (·.add (0 * 1))) (((n : Int)).toNat) c3) rfl) ⟨⟨_, _, rfl, by omega, hc92, R10⟩, G⟩
end Go.Proofs.Ytfhfecepcnapfaa.K

namespace Go.Proofs.Ytfhfecepcnapfaa.K
open Go Go.RowKit Go.Proofs
attribute [local irreducible] Run1 OpG WL W AO Gives
set_option maxRecDepth 100000 in
theorem rsizes_calls (w : World) {u : Value} {A : List (List Int)} (hA : ArenaR w u A) (hn : A.length ≤ 8796093022208) : Calls Try.prog 71 #[u] w (Ret fun v w' => ∃ ad c, v = .slice ad A.length c ∧ RowAt w' 1 ad A.length ((sizesP A).map (.int .i64)) ∧ Grow w w') := by
 obtain ⟨ada, ca, segs, sa, sc, rfl, hca, hca2, RA, hsf, hrf⟩ := hA.fn
 have G := Grow.rfl' w
 refine calls_ret Try.func71 Try.ntmps71 Try.results71 rfl rfl ?_
 refine W_seq (W_region rfl ?_)
 refine stp (r_assign_slice rfl ?_)
 refine WL_nil ?_
 refine W_seq (W_region rfl ?_)
 refine stp (r_assign_slice rfl ?_)
 refine WL_nil ?_
 refine W_seq ?_
 refine W_seq (W_region rfl ?_)
 refine stp (r_assign_int rfl ?_)
 refine WL_nil ?_
 refine W_block ?_
 refine W_loop (fun m_ e_ w_ => ∃ (k : Nat) (ad3 : Option Addr) (n3 : Nat) (c3 : Nat), m_ = A.length - k ∧ Fr [(0, .slice ada A.length ca), (2, .slice none 0 0), (3, .slice ad3 n3 c3), (4, .int .i64 (k : Int))] e_ ∧ (k ≤ A.length) ∧ (w_.ownsRow w.heap.size 3 1 (.slice ad3 n3 c3) k ((sizesP (A.take k)).map (.int .i64))) ∧ Grow w w_) _ ⟨0, none, 0, 0, rfl, fr_of ⟨rfl, rfl, rfl, rfl, trivial⟩, by omega, World.ownsRow_nil _ _ _ _, G⟩ ?_
 clear G
 rintro m_ e_ w1 ⟨k, ad3, n3, c3, rfl, ⟨e2, rfl⟩, hk, own, G⟩
 refine W_seq ?_
 refine W_seq (W_region rfl ?_)
 refine stp (r_move_int rfl ?_)
 refine stp (r_move_slice rfl ?_)
 refine stp (r_len rfl rfl rfl ?_)
 refine stp (r_lss rfl rfl ?_)
 refine WL_nil ?_
 refine W_cond2 (b := (decide ((k : Int) < (A.length : Int)))) rfl (fun hlt => ?_) (fun hlt => ?_)
 ·-- true
  replace hlt := of_decide_eq_true hlt
  have hi : k < A.length := by omega
  have hlk := (hrf k hi).2.2.lim
  refine W_skip ?_
  refine W_seq ?_
  refine W_block ?_
  refine W_region rfl ?_
  refine stp (r_move_slice rfl ?_)
  refine stp (r_move_slice rfl ?_)
  refine stp (r_move_int rfl ?_)
  refine stp (r_indexN (RA.grow G) rfl rfl ?_ ?_); omega
  refine stp (r_loadR (v := .slice (sa k) (len2 A k) (sc k)) (m := 0) (RA.grow G) rfl (by rw [Nat.mul_one]; exact hsf _ (by omega)) ?_)
  refine stp (r_len rfl rfl rfl ?_)
  refine stp (r_buildSlice (cs := #[.int .i64 ((len2 A k) : Int)]) (el := 3) (fun w => by kernel_rfl) ?_)
  intro bs3 w4 hb5 hc6 g7
  have hge8 := Nat.le_trans G.size hb5
  replace own := own_grow own g7
  replace G := G.tr g7
  clear g7
  refine stp (r_append rfl rfl rfl rfl own (Row.of_block (n := 1) hc6 rfl rfl (by omega)) (fun q_ hq_ => by simp at hq_; subst hq_; rfl) (by simp only [maxLen]; omega) (by omega) G.size ?_)
  intro v9 w10 own6 gr6
  replace G := G.grown gr6 (own_ge own)
  clear own gr6
  obtain ⟨ad4, n4, c4, rfl⟩ := own_slice own6
  refine stp (r_assign_slice rfl ?_)
  refine WL_nil ?_
  refine W_region rfl ?_
  refine stp (r_move_int rfl ?_)
  refine stp (r_add rfl rfl ?_ ?_); constructor <;> omega
  refine stp (r_assign_int rfl ?_)
  refine WL_nil ?_
  refine ⟨_, ?_, k + 1, ad4, n4, c4, rfl, fr_of ⟨rfl, rfl, rfl, congrArg (Value.int .i64) (by omega), trivial⟩, by omega, (by rw [sizesP_take hi, List.map_append]; exact own6), G⟩
  omega
 ·-- false
  replace hlt := of_decide_eq_false hlt
  have hk2 : k = A.length := by omega
  subst hk2
  rw [List.take_length] at own
  obtain ⟨ad9, c9, hs9, -, -, R9⟩ := own_row own (by omega)
  simp only [Value.slice.injEq] at hs9
  obtain ⟨rfl, rfl, rfl⟩ := hs9
  refine W_exit ?_
  refine W_seq (W_region rfl ?_)
  refine stp (r_move_slice rfl ?_)
  refine stp (r_assign_slice rfl ?_)
  refine WL_nil ?_
  refine W_ret ?_
  refine ret1 (res_tmp (v := .slice ad3 A.length c3) rfl) ⟨_, _, rfl, R9, G⟩

set_option maxRecDepth 100000 in
theorem rfits_calls (w : World) {ad : Option Addr} {c : Nat} {A : List (List Int)} (R : RowAt w 1 ad A.length ((sizesP A).map (.int .i64))) (hs : ∀ i, len2 A i ≤ 140737488355328) : Gives Try.prog 70 #[.slice ad A.length c] w (.bool (rightB A)) := by
 have hl := sizesP_len A
 have lm := R.lim
 have G := Grow.rfl' w
 refine gives_of Try.func70 Try.ntmps70 Try.results70 rfl rfl ?_
 refine W_seq (W_region rfl ?_)
 refine stp (r_assign (v := .bool false) rfl ?_)
 refine WL_nil ?_
 refine W_seq ?_
 refine W_seq (W_region rfl ?_)
 refine stp (r_move_slice rfl ?_)
 refine stp (r_len rfl rfl rfl ?_)
 refine stp (r_lss rfl rfl ?_)
 refine stp (r_move_bool rfl ?_)
 refine WL_some (og_if (s := .bool (decide ((A.length : Int) < 1))) (b := false) (v := .slice ad A.length c) rfl (wgb_f _) (fun hc1 => ?_) ?_)
 ·
  have hc1_ := hc1
  try simp only [sb] at hc1_
  refine r_move_slice rfl ?_
  exact ⟨rfl, rfl⟩
 refine WL_some (og_if (s := .bool (decide ((A.length : Int) < 1))) (b := false) (v := .int .i64 (A.length : Int)) rfl (wgb_f _) (fun hc2 => ?_) ?_)
 ·
  have hc2_ := hc2
  try simp only [sb] at hc2_
  refine r_len rfl rfl (gvt hc2) ?_
  exact ⟨rfl, rfl⟩
 refine WL_some (og_if (s := .bool (decide ((A.length : Int) < 1))) (b := false) (v := .bool (decide ((A.length : Int) > 16))) rfl (wgb_f _) (fun hc3 => ?_) ?_)
 ·
  have hc3_ := hc3
  try simp only [sb] at hc3_
  refine r_gtr (gvt hc3) rfl ?_
  exact ⟨rfl, rfl⟩
 refine stp (r_or2 rfl rfl rfl ?_)
 refine stp (r_move_bool rfl ?_)
 refine WL_some (og_if (s := .bool ((decide ((A.length : Int) < 1)) || (decide ((A.length : Int) > 16)))) (b := false) (v := .slice ad A.length c) rfl (wgb_f _) (fun hc4 => ?_) ?_)
 ·
  have hc4_ := hc4
  try simp only [sb] at hc4_
  refine r_move_slice rfl ?_
  exact ⟨rfl, rfl⟩
 refine WL_some (og_if (s := .bool ((decide ((A.length : Int) < 1)) || (decide ((A.length : Int) > 16)))) (b := false) (v := .pointer (some (eadr ad ((0 : Int).toNat * 1)))) rfl (wgb_f _) (fun hc5 => ?_) ?_)
 ·
  have hc5_ := hc5
  try simp only [sb] at hc5_
  refine r_indexR (R.grow G) (gvt hc5) rfl ?_ ?_ ?_; omega; omega
  exact ⟨rfl, rfl⟩
 refine WL_some (og_if (s := .bool ((decide ((A.length : Int) < 1)) || (decide ((A.length : Int) > 16)))) (b := false) (v := .int .i64 ((sizesP A).getD 0 0)) rfl (wgb_f _) (fun hc6 => ?_) ?_)
 ·
  have hc6_ := hc6
  try simp only [sb] at hc6_
  refine r_loadR (v := .int .i64 ((sizesP A).getD 0 0)) (m := 0) (R.grow G) (gvt hc6) (show _ from map_get1 (j := 0) 0 (by omega)) ?_
  exact ⟨rfl, rfl⟩
 refine WL_some (og_if (s := .bool ((decide ((A.length : Int) < 1)) || (decide ((A.length : Int) > 16)))) (b := false) (v := .bool (decide (((sizesP A).getD 0 0) < 1))) rfl (wgb_f _) (fun hc7 => ?_) ?_)
 ·
  have hc7_ := hc7
  try simp only [sb] at hc7_
  refine r_lss (gvt hc7) rfl ?_
  exact ⟨rfl, rfl⟩
 refine stp (r_or2 rfl rfl rfl ?_)
 refine WL_nil ?_
 refine W_cond2 (b := (((decide ((A.length : Int) < 1)) || (decide ((A.length : Int) > 16))) || (decide (((sizesP A).getD 0 0) < 1)))) rfl (fun h1 => ?_) (fun h1 => ?_)
 ·-- true
  simp only [sb] at h1
  have hg0 := sizesP_at A 0
  refine W_seq (W_region rfl ?_)
  refine stp (r_assign (v := .bool false) rfl ?_)
  refine WL_nil ?_
  refine W_ret ?_
  have h9 : rightB A = false := by unfold rightB; exact decide_eq_false (by omega)
  refine ret1 (res_tmp (v := .bool false) rfl) ⟨?_, G⟩
  rw [h9]
 ·-- false
  simp only [sb] at h1
  have hg0 := sizesP_at A 0
  have h1' : 1 ≤ A.length ∧ A.length ≤ 16 ∧ 1 ≤ len2 A 0 := by omega
  clear h1
  refine W_skip ?_
  refine W_seq (W_region rfl ?_)
  refine stp (r_assign_int rfl ?_)
  refine WL_nil ?_
  refine W_seq ?_
  refine W_seq (W_region rfl ?_)
  refine stp (r_assign_int rfl ?_)
  refine WL_nil ?_
  refine W_block ?_
  refine W_loop (fun m_ e_ w_ => ∃ (k : Nat), m_ = A.length - k ∧ Fr [(0, .slice ad A.length c), (3, .int .i64 (totalP (A.take k))), (4, .int .i64 (k : Int))] e_ ∧ (k ≤ A.length) ∧ (totalP (A.take k) ≤ 4096) ∧ Grow w w_) _ ⟨0, rfl, fr_of ⟨rfl, rfl, rfl, trivial⟩, by omega, by simp [totalP], G⟩ ?_
  clear G
  rintro m_ e_ w8 ⟨k, rfl, ⟨e9, rfl⟩, hk, htk, G⟩
  have ht3 := totalP_nn (A.take k)
  refine W_seq ?_
  refine W_seq (W_region rfl ?_)
  refine stp (r_move_int rfl ?_)
  refine stp (r_move_slice rfl ?_)
  refine stp (r_len rfl rfl rfl ?_)
  refine stp (r_lss rfl rfl ?_)
  refine WL_nil ?_
  refine W_cond2 (b := (decide ((k : Int) < (A.length : Int)))) rfl (fun hlt => ?_) (fun hlt => ?_)
  ·-- true
   replace hlt := of_decide_eq_true hlt
   have hi : k < A.length := by omega
   have hg := sizesP_at A k
   have hlk := hs k
   have ht1 := totalP_take hi
   have ht2 := totalP_le (A := A) (k + 1)
   have hak : ((A[k].length : Nat) : Int) = (len2 A k : Int) := by simp only [len2]; rw [getD_at hi]
   refine W_skip ?_
   refine W_seq ?_
   refine W_block ?_
   refine W_seq ?_
   refine W_seq (W_region rfl ?_)
   refine stp (r_move_slice rfl ?_)
   refine stp (r_move_int rfl ?_)
   refine stp (r_indexN (R.grow G) rfl rfl ?_ ?_); omega
   refine stp (r_loadR (v := .int .i64 ((sizesP A).getD k 0)) (m := 0) (R.grow G) rfl (map_get1 0 (by omega)) ?_)
   refine stp (r_lss rfl rfl ?_)
   refine stp (r_move_bool rfl ?_)
   refine WL_some (og_if (s := .bool (decide (((sizesP A).getD k 0) < 0))) (b := false) (v := .slice ad A.length c) rfl (wgb_f _) (fun hc10 => ?_) ?_)
   ·
    have hc10_ := hc10
    try simp only [sb] at hc10_
    refine r_move_slice rfl ?_
    exact ⟨rfl, rfl⟩
   refine WL_some (og_if (s := .bool (decide (((sizesP A).getD k 0) < 0))) (b := false) (v := .int .i64 (k : Int)) rfl (wgb_f _) (fun hc11 => ?_) ?_)
   ·
    have hc11_ := hc11
    try simp only [sb] at hc11_
    refine r_move_int rfl ?_
    exact ⟨rfl, rfl⟩
   refine WL_some (og_if (s := .bool (decide (((sizesP A).getD k 0) < 0))) (b := false) (v := .pointer (some (eadr ad (k * 1)))) rfl (wgb_f _) (fun hc12 => ?_) ?_)
   ·
    have hc12_ := hc12
    try simp only [sb] at hc12_
    refine r_indexN (R.grow G) (gvt hc12) (gvt hc12) ?_ ?_; omega
    exact ⟨rfl, rfl⟩
   refine WL_some (og_if (s := .bool (decide (((sizesP A).getD k 0) < 0))) (b := false) (v := .int .i64 ((sizesP A).getD k 0)) rfl (wgb_f _) (fun hc13 => ?_) ?_)
   ·
    have hc13_ := hc13
    try simp only [sb] at hc13_
    refine r_loadR (v := .int .i64 ((sizesP A).getD k 0)) (m := 0) (R.grow G) (gvt hc13) (map_get1 0 (by omega)) ?_
    exact ⟨rfl, rfl⟩
   refine WL_some (og_if (s := .bool (decide (((sizesP A).getD k 0) < 0))) (b := false) (v := .int .i64 (totalP (A.take k))) rfl (wgb_f _) (fun hc14 => ?_) ?_)
   ·
    have hc14_ := hc14
    try simp only [sb] at hc14_
    refine r_move_int rfl ?_
    exact ⟨rfl, rfl⟩
   refine WL_some (og_if (s := .bool (decide (((sizesP A).getD k 0) < 0))) (b := false) (v := .int .i64 (4096 - (totalP (A.take k)))) rfl (wgb_f _) (fun hc15 => ?_) ?_)
   ·
    have hc15_ := hc15
    try simp only [sb] at hc15_
    refine r_sub rfl (gvt hc15) ?_ ?_; constructor <;> omega
    exact ⟨rfl, rfl⟩
   refine WL_some (og_if (s := .bool (decide (((sizesP A).getD k 0) < 0))) (b := false) (v := .bool (decide (((sizesP A).getD k 0) > (4096 - (totalP (A.take k)))))) rfl (wgb_f _) (fun hc16 => ?_) ?_)
   ·
    have hc16_ := hc16
    try simp only [sb] at hc16_
    refine r_gtr (gvt hc16) (gvt hc16) ?_
    exact ⟨rfl, rfl⟩
   refine stp (r_or2 rfl rfl rfl ?_)
   refine WL_nil ?_
   refine W_cond2 (b := ((decide (((sizesP A).getD k 0) < 0)) || (decide (((sizesP A).getD k 0) > (4096 - (totalP (A.take k))))))) rfl (fun h3 => ?_) (fun h3 => ?_)
   ·-- true
    simp only [sb] at h3
    refine W_seq (W_region rfl ?_)
    refine stp (r_assign (v := .bool false) rfl ?_)
    refine WL_nil ?_
    refine W_ret ?_
    have h9 : rightB A = false := by unfold rightB; exact decide_eq_false (by omega)
    refine ret1 (res_tmp (v := .bool false) rfl) ⟨?_, G⟩
    rw [h9]
   ·-- false
    simp only [sb] at h3
    refine W_skip ?_
    refine W_region rfl ?_
    refine stp (r_move_int rfl ?_)
    refine stp (r_move_slice rfl ?_)
    refine stp (r_move_int rfl ?_)
    refine stp (r_indexN (R.grow G) rfl rfl ?_ ?_); omega
    refine stp (r_loadR (v := .int .i64 ((sizesP A).getD k 0)) (m := 0) (R.grow G) rfl (map_get1 0 (by omega)) ?_)
    refine stp (r_add rfl rfl ?_ ?_); constructor <;> omega
    refine stp (r_assign_int rfl ?_)
    refine WL_nil ?_
    refine W_region rfl ?_
    refine stp (r_move_int rfl ?_)
    refine stp (r_add rfl rfl ?_ ?_); constructor <;> omega
    refine stp (r_assign_int rfl ?_)
    refine WL_nil ?_
    refine ⟨_, ?_, k + 1, rfl, fr_of ⟨rfl, congrArg (Value.int .i64) (by omega), rfl, trivial⟩, by omega, by omega, G⟩
    omega
  ·-- false
   replace hlt := of_decide_eq_false hlt
   have hk2 : k = A.length := by omega
   subst hk2
   rw [List.take_length] at htk
   refine W_exit ?_
   refine W_seq (W_region rfl ?_)
   refine stp (r_assign (v := .bool true) rfl ?_)
   refine WL_nil ?_
   refine W_ret ?_
   have h9 : rightB A = true := by unfold rightB; exact decide_eq_true (by omega)
   refine ret1 (res_tmp (v := .bool true) rfl) ⟨?_, G⟩
   rw [h9]

set_option maxRecDepth 100000 in
theorem rright7_calls (w : World) {u : Value} {A : List (List Int)} (hA : ArenaR w u A) (hn : A.length ≤ 8796093022208) : Gives Try.prog 45 #[u] w (.bool (rightB A)) := by
 have hA0 := hA
 obtain ⟨ada, ca, segs, sa, sc, rfl, hca, hca2, RA, hsf, hrf⟩ := hA.fn
 have hs : ∀ i, len2 A i ≤ 140737488355328 := fun i => by by_cases hi : i < A.length; exact (hrf i hi).2.2.lim; (have := len2_none (A := A) (j := i) (by omega); omega)
 have G := Grow.rfl' w
 refine gives_of Try.func45 Try.ntmps45 Try.results45 rfl rfl ?_
 refine W_seq (W_region rfl ?_)
 refine stp (r_assign (v := .bool false) rfl ?_)
 refine WL_nil ?_
 refine W_seq (W_region rfl ?_)
 refine stp (r_move_slice rfl ?_)
 refine WL_some (og rfl ?_)
 refine r_call rfl (rsizes_calls _ (hA0.grow G) hn) ?_
 rintro v_ w1 ⟨ad9, c9, rfl, RZ, g_⟩
 replace G := G.tr g_
 clear g_
 refine stp (r_gives (v := .bool (rightB A)) rfl (rfits_calls _ RZ hs) ?_)
 intro w2 g3
 replace RZ := RZ.grow g3
 replace G := G.tr g3
 clear g3
 refine stp (r_assign_bool rfl ?_)
 refine WL_nil ?_
 refine W_ret ?_
 refine ret1 (res_tmp (v := .bool (rightB A)) rfl) ⟨?_, G⟩
 rfl

set_option maxRecDepth 100000 in
theorem rwithin_calls (w : World) {ad : Option Addr} {c : Nat} {sz : List Int} {seg a n : Int} (R : RowAt w 1 ad sz.length (sz.map (.int .i64))) (hs : ∀ i, 0 ≤ sz.getD i 0 ∧ sz.getD i 0 ≤ 140737488355328) : Gives Try.prog 105 #[.slice ad sz.length c, .int .i64 seg, .int .i64 a, .int .i64 n] w (.bool (withinP sz seg a n)) := by
 have ll := R.lim
 have h9 := hs seg.toNat
 have G := Grow.rfl' w
 refine gives_of Try.func105 Try.ntmps105 Try.results105 rfl rfl ?_
 refine W_seq (W_region rfl ?_)
 refine stp (r_assign (v := .bool false) rfl ?_)
 refine WL_nil ?_
 refine W_seq (W_region rfl ?_)
 refine stp (r_move_int rfl ?_)
 refine stp (r_geq rfl rfl ?_)
 refine stp (r_move_bool rfl ?_)
 refine WL_some (og_if (s := .bool (decide (seg ≥ 0))) (b := true) (v := .int .i64 seg) rfl (wgb_t _) (fun hc1 => ?_) ?_)
 ·
  have hc1_ := of_decide_eq_true hc1
  refine r_move_int rfl ?_
  exact ⟨rfl, rfl⟩
 refine WL_some (og_if (s := .bool (decide (seg ≥ 0))) (b := true) (v := .slice ad sz.length c) rfl (wgb_t _) (fun hc2 => ?_) ?_)
 ·
  have hc2_ := of_decide_eq_true hc2
  refine r_move_slice rfl ?_
  exact ⟨rfl, rfl⟩
 refine WL_some (og_if (s := .bool (decide (seg ≥ 0))) (b := true) (v := .int .i64 (sz.length : Int)) rfl (wgb_t _) (fun hc3 => ?_) ?_)
 ·
  have hc3_ := of_decide_eq_true hc3
  refine r_len rfl rfl (gvt hc3) ?_
  exact ⟨rfl, rfl⟩
 refine WL_some (og_if (s := .bool (decide (seg ≥ 0))) (b := true) (v := .bool (decide (seg < (sz.length : Int)))) rfl (wgb_t _) (fun hc4 => ?_) ?_)
 ·
  have hc4_ := of_decide_eq_true hc4
  refine r_lss (gvt hc4) (gvt hc4) ?_
  exact ⟨rfl, rfl⟩
 refine stp (r_and2 rfl rfl rfl ?_)
 refine stp (r_move_bool rfl ?_)
 refine WL_some (og_if (s := .bool ((decide (seg ≥ 0)) && (decide (seg < (sz.length : Int))))) (b := true) (v := .int .i64 a) rfl (wgb_t _) (fun hc5 => ?_) ?_)
 ·
  obtain ⟨hc5a, hc5b⟩ := and_t hc5
  have hc5a_ := of_decide_eq_true hc5a
  have hc5b_ := of_decide_eq_true hc5b
  refine r_move_int rfl ?_
  exact ⟨rfl, rfl⟩
 refine WL_some (og_if (s := .bool ((decide (seg ≥ 0)) && (decide (seg < (sz.length : Int))))) (b := true) (v := .bool (decide (a ≥ 0))) rfl (wgb_t _) (fun hc6 => ?_) ?_)
 ·
  obtain ⟨hc6a, hc6b⟩ := and_t hc6
  have hc6a_ := of_decide_eq_true hc6a
  have hc6b_ := of_decide_eq_true hc6b
  refine r_geq (gvt hc6) rfl ?_
  exact ⟨rfl, rfl⟩
 refine stp (r_and2 rfl rfl rfl ?_)
 refine stp (r_move_bool rfl ?_)
 refine WL_some (og_if (s := .bool (((decide (seg ≥ 0)) && (decide (seg < (sz.length : Int)))) && (decide (a ≥ 0)))) (b := true) (v := .int .i64 n) rfl (wgb_t _) (fun hc7 => ?_) ?_)
 ·
  obtain ⟨hc7a, hc7b⟩ := and_t hc7
  obtain ⟨hc7aa, hc7ab⟩ := and_t hc7a
  have hc7aa_ := of_decide_eq_true hc7aa
  have hc7ab_ := of_decide_eq_true hc7ab
  have hc7b_ := of_decide_eq_true hc7b
  refine r_move_int rfl ?_
  exact ⟨rfl, rfl⟩
 refine WL_some (og_if (s := .bool (((decide (seg ≥ 0)) && (decide (seg < (sz.length : Int)))) && (decide (a ≥ 0)))) (b := true) (v := .bool (decide (n ≥ 0))) rfl (wgb_t _) (fun hc8 => ?_) ?_)
 ·
  obtain ⟨hc8a, hc8b⟩ := and_t hc8
  obtain ⟨hc8aa, hc8ab⟩ := and_t hc8a
  have hc8aa_ := of_decide_eq_true hc8aa
  have hc8ab_ := of_decide_eq_true hc8ab
  have hc8b_ := of_decide_eq_true hc8b
  refine r_geq (gvt hc8) rfl ?_
  exact ⟨rfl, rfl⟩
 refine stp (r_and2 rfl rfl rfl ?_)
 refine stp (r_move_bool rfl ?_)
 refine WL_some (og_if (s := .bool ((((decide (seg ≥ 0)) && (decide (seg < (sz.length : Int)))) && (decide (a ≥ 0))) && (decide (n ≥ 0)))) (b := true) (v := .int .i64 a) rfl (wgb_t _) (fun hc9 => ?_) ?_)
 ·
  obtain ⟨hc9a, hc9b⟩ := and_t hc9
  obtain ⟨hc9aa, hc9ab⟩ := and_t hc9a
  obtain ⟨hc9aaa, hc9aab⟩ := and_t hc9aa
  have hc9aaa_ := of_decide_eq_true hc9aaa
  have hc9aab_ := of_decide_eq_true hc9aab
  have hc9ab_ := of_decide_eq_true hc9ab
  have hc9b_ := of_decide_eq_true hc9b
  refine r_move_int rfl ?_
  exact ⟨rfl, rfl⟩
 refine WL_some (og_if (s := .bool ((((decide (seg ≥ 0)) && (decide (seg < (sz.length : Int)))) && (decide (a ≥ 0))) && (decide (n ≥ 0)))) (b := true) (v := .slice ad sz.length c) rfl (wgb_t _) (fun hc10 => ?_) ?_)
 ·
  obtain ⟨hc10a, hc10b⟩ := and_t hc10
  obtain ⟨hc10aa, hc10ab⟩ := and_t hc10a
  obtain ⟨hc10aaa, hc10aab⟩ := and_t hc10aa
  have hc10aaa_ := of_decide_eq_true hc10aaa
  have hc10aab_ := of_decide_eq_true hc10aab
  have hc10ab_ := of_decide_eq_true hc10ab
  have hc10b_ := of_decide_eq_true hc10b
  refine r_move_slice rfl ?_
  exact ⟨rfl, rfl⟩
 refine WL_some (og_if (s := .bool ((((decide (seg ≥ 0)) && (decide (seg < (sz.length : Int)))) && (decide (a ≥ 0))) && (decide (n ≥ 0)))) (b := true) (v := .int .i64 seg) rfl (wgb_t _) (fun hc11 => ?_) ?_)
 ·
  obtain ⟨hc11a, hc11b⟩ := and_t hc11
  obtain ⟨hc11aa, hc11ab⟩ := and_t hc11a
  obtain ⟨hc11aaa, hc11aab⟩ := and_t hc11aa
  have hc11aaa_ := of_decide_eq_true hc11aaa
  have hc11aab_ := of_decide_eq_true hc11aab
  have hc11ab_ := of_decide_eq_true hc11ab
  have hc11b_ := of_decide_eq_true hc11b
  refine r_move_int rfl ?_
  exact ⟨rfl, rfl⟩
 refine WL_some (og_if (s := .bool ((((decide (seg ≥ 0)) && (decide (seg < (sz.length : Int)))) && (decide (a ≥ 0))) && (decide (n ≥ 0)))) (b := true) (v := .pointer (some (eadr ad ((seg).toNat * 1)))) rfl (wgb_t _) (fun hc12 => ?_) ?_)
 ·
  obtain ⟨hc12a, hc12b⟩ := and_t hc12
  obtain ⟨hc12aa, hc12ab⟩ := and_t hc12a
  obtain ⟨hc12aaa, hc12aab⟩ := and_t hc12aa
  have hc12aaa_ := of_decide_eq_true hc12aaa
  have hc12aab_ := of_decide_eq_true hc12aab
  have hc12ab_ := of_decide_eq_true hc12ab
  have hc12b_ := of_decide_eq_true hc12b
  refine r_indexR (R.grow G) (gvt hc12) (gvt hc12) ?_ ?_ ?_; omega; omega
  exact ⟨rfl, rfl⟩
 refine WL_some (og_if (s := .bool ((((decide (seg ≥ 0)) && (decide (seg < (sz.length : Int)))) && (decide (a ≥ 0))) && (decide (n ≥ 0)))) (b := true) (v := .int .i64 (sz.getD seg.toNat 0)) rfl (wgb_t _) (fun hc13 => ?_) ?_)
 ·
  obtain ⟨hc13a, hc13b⟩ := and_t hc13
  obtain ⟨hc13aa, hc13ab⟩ := and_t hc13a
  obtain ⟨hc13aaa, hc13aab⟩ := and_t hc13aa
  have hc13aaa_ := of_decide_eq_true hc13aaa
  have hc13aab_ := of_decide_eq_true hc13aab
  have hc13ab_ := of_decide_eq_true hc13ab
  have hc13b_ := of_decide_eq_true hc13b
  refine r_loadR (v := .int .i64 (sz.getD seg.toNat 0)) (m := 0) (R.grow G) (gvt hc13) (by rw [Nat.mul_one]; exact map_get 0 (by omega)) ?_
  exact ⟨rfl, rfl⟩
 refine WL_some (og_if (s := .bool ((((decide (seg ≥ 0)) && (decide (seg < (sz.length : Int)))) && (decide (a ≥ 0))) && (decide (n ≥ 0)))) (b := true) (v := .bool (decide (a ≤ (sz.getD seg.toNat 0)))) rfl (wgb_t _) (fun hc14 => ?_) ?_)
 ·
  obtain ⟨hc14a, hc14b⟩ := and_t hc14
  obtain ⟨hc14aa, hc14ab⟩ := and_t hc14a
  obtain ⟨hc14aaa, hc14aab⟩ := and_t hc14aa
  have hc14aaa_ := of_decide_eq_true hc14aaa
  have hc14aab_ := of_decide_eq_true hc14aab
  have hc14ab_ := of_decide_eq_true hc14ab
  have hc14b_ := of_decide_eq_true hc14b
  refine r_leq (gvt hc14) (gvt hc14) ?_
  exact ⟨rfl, rfl⟩
 refine stp (r_and2 rfl rfl rfl ?_)
 refine stp (r_move_bool rfl ?_)
 refine WL_some (og_if (s := .bool (((((decide (seg ≥ 0)) && (decide (seg < (sz.length : Int)))) && (decide (a ≥ 0))) && (decide (n ≥ 0))) && (decide (a ≤ (sz.getD seg.toNat 0))))) (b := true) (v := .int .i64 n) rfl (wgb_t _) (fun hc15 => ?_) ?_)
 ·
  obtain ⟨hc15a, hc15b⟩ := and_t hc15
  obtain ⟨hc15aa, hc15ab⟩ := and_t hc15a
  obtain ⟨hc15aaa, hc15aab⟩ := and_t hc15aa
  obtain ⟨hc15aaaa, hc15aaab⟩ := and_t hc15aaa
  have hc15aaaa_ := of_decide_eq_true hc15aaaa
  have hc15aaab_ := of_decide_eq_true hc15aaab
  have hc15aab_ := of_decide_eq_true hc15aab
  have hc15ab_ := of_decide_eq_true hc15ab
  have hc15b_ := of_decide_eq_true hc15b
  refine r_move_int rfl ?_
  exact ⟨rfl, rfl⟩
 refine WL_some (og_if (s := .bool (((((decide (seg ≥ 0)) && (decide (seg < (sz.length : Int)))) && (decide (a ≥ 0))) && (decide (n ≥ 0))) && (decide (a ≤ (sz.getD seg.toNat 0))))) (b := true) (v := .slice ad sz.length c) rfl (wgb_t _) (fun hc16 => ?_) ?_)
 ·
  obtain ⟨hc16a, hc16b⟩ := and_t hc16
  obtain ⟨hc16aa, hc16ab⟩ := and_t hc16a
  obtain ⟨hc16aaa, hc16aab⟩ := and_t hc16aa
  obtain ⟨hc16aaaa, hc16aaab⟩ := and_t hc16aaa
  have hc16aaaa_ := of_decide_eq_true hc16aaaa
  have hc16aaab_ := of_decide_eq_true hc16aaab
  have hc16aab_ := of_decide_eq_true hc16aab
  have hc16ab_ := of_decide_eq_true hc16ab
  have hc16b_ := of_decide_eq_true hc16b
  refine r_move_slice rfl ?_
  exact ⟨rfl, rfl⟩
 refine WL_some (og_if (s := .bool (((((decide (seg ≥ 0)) && (decide (seg < (sz.length : Int)))) && (decide (a ≥ 0))) && (decide (n ≥ 0))) && (decide (a ≤ (sz.getD seg.toNat 0))))) (b := true) (v := .int .i64 seg) rfl (wgb_t _) (fun hc17 => ?_) ?_)
 ·
  obtain ⟨hc17a, hc17b⟩ := and_t hc17
  obtain ⟨hc17aa, hc17ab⟩ := and_t hc17a
  obtain ⟨hc17aaa, hc17aab⟩ := and_t hc17aa
  obtain ⟨hc17aaaa, hc17aaab⟩ := and_t hc17aaa
  have hc17aaaa_ := of_decide_eq_true hc17aaaa
  have hc17aaab_ := of_decide_eq_true hc17aaab
  have hc17aab_ := of_decide_eq_true hc17aab
  have hc17ab_ := of_decide_eq_true hc17ab
  have hc17b_ := of_decide_eq_true hc17b
  refine r_move_int rfl ?_
  exact ⟨rfl, rfl⟩
 refine WL_some (og_if (s := .bool (((((decide (seg ≥ 0)) && (decide (seg < (sz.length : Int)))) && (decide (a ≥ 0))) && (decide (n ≥ 0))) && (decide (a ≤ (sz.getD seg.toNat 0))))) (b := true) (v := .pointer (some (eadr ad ((seg).toNat * 1)))) rfl (wgb_t _) (fun hc18 => ?_) ?_)
 ·
  obtain ⟨hc18a, hc18b⟩ := and_t hc18
  obtain ⟨hc18aa, hc18ab⟩ := and_t hc18a
  obtain ⟨hc18aaa, hc18aab⟩ := and_t hc18aa
  obtain ⟨hc18aaaa, hc18aaab⟩ := and_t hc18aaa
  have hc18aaaa_ := of_decide_eq_true hc18aaaa
  have hc18aaab_ := of_decide_eq_true hc18aaab
  have hc18aab_ := of_decide_eq_true hc18aab
  have hc18ab_ := of_decide_eq_true hc18ab
  have hc18b_ := of_decide_eq_true hc18b
  refine r_indexR (R.grow G) (gvt hc18) (gvt hc18) ?_ ?_ ?_; omega; omega
  exact ⟨rfl, rfl⟩
 refine WL_some (og_if (s := .bool (((((decide (seg ≥ 0)) && (decide (seg < (sz.length : Int)))) && (decide (a ≥ 0))) && (decide (n ≥ 0))) && (decide (a ≤ (sz.getD seg.toNat 0))))) (b := true) (v := .int .i64 (sz.getD seg.toNat 0)) rfl (wgb_t _) (fun hc19 => ?_) ?_)
 ·
  obtain ⟨hc19a, hc19b⟩ := and_t hc19
  obtain ⟨hc19aa, hc19ab⟩ := and_t hc19a
  obtain ⟨hc19aaa, hc19aab⟩ := and_t hc19aa
  obtain ⟨hc19aaaa, hc19aaab⟩ := and_t hc19aaa
  have hc19aaaa_ := of_decide_eq_true hc19aaaa
  have hc19aaab_ := of_decide_eq_true hc19aaab
  have hc19aab_ := of_decide_eq_true hc19aab
  have hc19ab_ := of_decide_eq_true hc19ab
  have hc19b_ := of_decide_eq_true hc19b
  refine r_loadR (v := .int .i64 (sz.getD seg.toNat 0)) (m := 0) (R.grow G) (gvt hc19) (by rw [Nat.mul_one]; exact map_get 0 (by omega)) ?_
  exact ⟨rfl, rfl⟩
 refine WL_some (og_if (s := .bool (((((decide (seg ≥ 0)) && (decide (seg < (sz.length : Int)))) && (decide (a ≥ 0))) && (decide (n ≥ 0))) && (decide (a ≤ (sz.getD seg.toNat 0))))) (b := true) (v := .int .i64 a) rfl (wgb_t _) (fun hc20 => ?_) ?_)
 ·
  obtain ⟨hc20a, hc20b⟩ := and_t hc20
  obtain ⟨hc20aa, hc20ab⟩ := and_t hc20a
  obtain ⟨hc20aaa, hc20aab⟩ := and_t hc20aa
  obtain ⟨hc20aaaa, hc20aaab⟩ := and_t hc20aaa
  have hc20aaaa_ := of_decide_eq_true hc20aaaa
  have hc20aaab_ := of_decide_eq_true hc20aaab
  have hc20aab_ := of_decide_eq_true hc20aab
  have hc20ab_ := of_decide_eq_true hc20ab
  have hc20b_ := of_decide_eq_true hc20b
  refine r_move_int rfl ?_
  exact ⟨rfl, rfl⟩
 refine WL_some (og_if (s := .bool (((((decide (seg ≥ 0)) && (decide (seg < (sz.length : Int)))) && (decide (a ≥ 0))) && (decide (n ≥ 0))) && (decide (a ≤ (sz.getD seg.toNat 0))))) (b := true) (v := .int .i64 ((sz.getD seg.toNat 0) - a)) rfl (wgb_t _) (fun hc21 => ?_) ?_)
 ·
  obtain ⟨hc21a, hc21b⟩ := and_t hc21
  obtain ⟨hc21aa, hc21ab⟩ := and_t hc21a
  obtain ⟨hc21aaa, hc21aab⟩ := and_t hc21aa
  obtain ⟨hc21aaaa, hc21aaab⟩ := and_t hc21aaa
  have hc21aaaa_ := of_decide_eq_true hc21aaaa
  have hc21aaab_ := of_decide_eq_true hc21aaab
  have hc21aab_ := of_decide_eq_true hc21aab
  have hc21ab_ := of_decide_eq_true hc21ab
  have hc21b_ := of_decide_eq_true hc21b
  refine r_sub (gvt hc21) (gvt hc21) ?_ ?_; constructor <;> omega
  exact ⟨rfl, rfl⟩
 refine WL_some (og_if (s := .bool (((((decide (seg ≥ 0)) && (decide (seg < (sz.length : Int)))) && (decide (a ≥ 0))) && (decide (n ≥ 0))) && (decide (a ≤ (sz.getD seg.toNat 0))))) (b := true) (v := .bool (decide (n ≤ ((sz.getD seg.toNat 0) - a)))) rfl (wgb_t _) (fun hc22 => ?_) ?_)
 ·
  obtain ⟨hc22a, hc22b⟩ := and_t hc22
  obtain ⟨hc22aa, hc22ab⟩ := and_t hc22a
  obtain ⟨hc22aaa, hc22aab⟩ := and_t hc22aa
  obtain ⟨hc22aaaa, hc22aaab⟩ := and_t hc22aaa
  have hc22aaaa_ := of_decide_eq_true hc22aaaa
  have hc22aaab_ := of_decide_eq_true hc22aaab
  have hc22aab_ := of_decide_eq_true hc22aab
  have hc22ab_ := of_decide_eq_true hc22ab
  have hc22b_ := of_decide_eq_true hc22b
  refine r_leq (gvt hc22) (gvt hc22) ?_
  exact ⟨rfl, rfl⟩
 refine stp (r_and2 rfl rfl rfl ?_)
 refine stp (r_assign_bool rfl ?_)
 refine WL_nil ?_
 refine W_ret ?_
 refine ret1 (res_tmp (v := .bool ((((((decide (seg ≥ 0)) && (decide (seg < (sz.length : Int)))) && (decide (a ≥ 0))) && (decide (n ≥ 0))) && (decide (a ≤ (sz.getD seg.toNat 0)))) && (decide (n ≤ ((sz.getD seg.toNat 0) - a))))) rfl) ⟨?_, G⟩
 congr 1; rw [Bool.eq_iff_iff]; unfold withinP addOk; simp only [Bool.and_eq_true, decide_eq_true_eq]; constructor <;> (intro h; omega)

set_option maxRecDepth 100000 in
theorem rword7_calls (w : World) {u : Value} {A : List (List Int)} {seg a : Int} (hA : ArenaR w u A) (hn : A.length ≤ 8796093022208) : Gives Try.prog 101 #[u, .int .i64 seg, .int .i64 a] w (.tuple #[.int .u64 ((wordA A seg a).1), .int .i64 ((wordA A seg a).2)]) := by
 have hA0 := hA
 obtain ⟨ada, ca, segsa, sa, sca, rfl, -, -, RA, hsa, hra⟩ := hA.fn
 have la := RA.lim
 have hwo := within_one (A := A) (seg := seg) (at_ := a)
 have hs : ∀ i, 0 ≤ (sizesP A).getD i 0 ∧ (sizesP A).getD i 0 ≤ 140737488355328 := fun i => by rw [sizesP_at]; by_cases hi : i < A.length; (have := (hra i hi).2.2.lim; omega); (have := len2_none (A := A) (j := i) (by omega); omega)
 have G := Grow.rfl' w
 refine gives_of Try.func101 Try.ntmps101 Try.results101 rfl rfl ?_
 refine W_seq (W_region rfl ?_)
 refine stp (r_assign_int rfl ?_)
 refine stp (r_assign_int rfl ?_)
 refine WL_nil ?_
 refine W_seq ?_
 refine W_seq (W_region rfl ?_)
 refine stp (r_move_slice rfl ?_)
 refine WL_some (og rfl ?_)
 refine r_call rfl (rsizes_calls _ (hA0.grow G) hn) ?_
 rintro v_ w1 ⟨ad9, c9, rfl, RZ, g_⟩
 replace G := G.tr g_
 clear g_
 refine stp (r_move_int rfl ?_)
 refine stp (r_move_int rfl ?_)
 refine stp (r_gives (v := .bool (decide (0 ≤ seg ∧ seg < A.length ∧ 0 ≤ a ∧ a < len2 A seg.toNat))) rfl ((by have h_ := rwithin_calls w1 (c := c9) (seg := seg) (a := a) (n := 1) (by rw [sizesP_len]; exact RZ) hs; rw [hwo, sizesP_len] at h_; exact h_)) ?_)
 intro w2 g3
 replace RZ := RZ.grow g3
 replace G := G.tr g3
 clear g3
 refine stp (r_not rfl ?_)
 refine WL_nil ?_
 refine W_cond2 (b := (!(decide (0 ≤ seg ∧ seg < A.length ∧ 0 ≤ a ∧ a < len2 A seg.toNat)))) rfl (fun h1 => ?_) (fun h1 => ?_)
 ·-- true
  simp only [sb] at h1
  have h1' : ¬ (0 ≤ seg ∧ seg < A.length ∧ 0 ≤ a ∧ a < len2 A seg.toNat) := by simpa using h1
  refine W_seq (W_region rfl ?_)
  refine stp (r_assign_int rfl ?_)
  refine stp (r_assign_int rfl ?_)
  refine WL_nil ?_
  refine W_ret ?_
  refine ret2 (res_tmp (v := .int .u64 0) rfl) (res_tmp (v := .int .i64 20) rfl) ⟨?_, G⟩
  have h9 : wordA A seg a = (0, 20) := by unfold wordA; rw [if_neg h1']
  rw [h9]
 ·-- false
  simp only [sb] at h1
  have h1' : 0 ≤ seg ∧ seg < A.length ∧ 0 ≤ a ∧ a < len2 A seg.toNat := by simpa using h1
  obtain ⟨-, -, Rk⟩ := hra seg.toNat (by omega)
  have lk := Rk.lim
  refine W_skip ?_
  refine W_seq (W_region rfl ?_)
  refine stp (r_move_slice rfl ?_)
  refine stp (r_move_int rfl ?_)
  refine stp (r_indexR (RA.grow G) rfl rfl ?_ ?_ ?_); omega; omega
  refine stp (r_loadR (v := .slice (sa seg.toNat) (len2 A seg.toNat) (sca seg.toNat)) (m := 0) (RA.grow G) rfl (by rw [Nat.mul_one]; exact hsa _ (by omega)) ?_)
  refine stp (r_move_int rfl ?_)
  refine stp (r_indexR (Rk.grow G) rfl rfl ?_ ?_ ?_); omega; omega
  refine stp (r_loadR (v := .int .u64 ((A.getD seg.toNat []).getD a.toNat 0)) (m := 0) (Rk.grow G) rfl (by rw [Nat.mul_one]; exact map_get 0 (by simp only [len2] at *; omega)) ?_)
  refine stp (r_assign_int rfl ?_)
  refine stp (r_assign_int rfl ?_)
  refine WL_nil ?_
  refine W_ret ?_
  refine ret2 (res_tmp (v := .int .u64 ((A.getD seg.toNat []).getD a.toNat 0)) rfl) (res_tmp (v := .int .i64 0) rfl) ⟨?_, G⟩
  have h9 : wordA A seg a = ((A.getD seg.toNat []).getD a.toNat 0, 0) := by unfold wordA; rw [if_pos h1']
  rw [h9]

set_option maxRecDepth 100000 in
theorem rwordw_calls (w : World) {ua uh : Value} {A : List (List Int)} {seg a : Int} (hA : ArenaR w ua A) (hn : A.length ≤ 8796093022208) : Gives Try.prog 82 #[.agg #[ua, .bool false, uh], .int .i64 seg, .int .i64 a] w (.tuple #[.int .u64 ((wordA A seg a).1), .int .i64 ((wordA A seg a).2)]) := by
 have G := Grow.rfl' w
 refine gives_of Try.func82 Try.ntmps82 Try.results82 rfl rfl ?_
 refine W_seq (W_region rfl ?_)
 refine WL_some (og rfl ?_)
 (first | refine r_box_agg rfl ?_ | refine r_box_int rfl ?_ | refine r_box_slice rfl ?_ | refine r_box rfl rfl ?_)
 intro b1 w2 hb3 hc4 g5
 have hge6 := Nat.le_trans G.size hb3
 replace G := G.tr g5
 clear g5 hb3
 refine stp (r_assign_int rfl ?_)
 refine stp (r_assign_int rfl ?_)
 refine WL_nil ?_
 refine W_seq (W_region rfl ?_)
 refine stp (r_fieldAddr rfl ?_)
 refine stp (r_load (v := ua) rfl hc4 rfl ?_)
 refine stp (r_move_int rfl ?_)
 refine stp (r_move_int rfl ?_)
 refine stp (r_gives (v := .tuple #[.int .u64 ((wordA A seg a).1), .int .i64 ((wordA A seg a).2)]) rfl (rword7_calls _ (hA.grow G) hn) ?_)
 intro w7 g8
 replace hc4 := g8.heap hc4
 replace G := G.tr g8
 clear g8
 refine stp (r_move (v := .tuple #[.int .u64 ((wordA A seg a).1), .int .i64 ((wordA A seg a).2)]) rfl ?_)
 refine stp (r_extract (v := .int .u64 ((wordA A seg a).1)) rfl rfl ?_)
 refine stp (r_extract (v := .int .i64 ((wordA A seg a).2)) rfl rfl ?_)
 refine stp (r_assign_int rfl ?_)
 refine stp (r_assign_int rfl ?_)
 refine WL_nil ?_
 refine W_seq ?_
 refine W_seq (W_region rfl ?_)
 refine stp (r_move_int rfl ?_)
 refine stp (r_eql rfl rfl ?_)
 refine stp (r_move_bool rfl ?_)
 refine WL_some (og_if (s := .bool (decide (((wordA A seg a).2) = 0))) (b := true) (v := .pointer (some ⟨b1, 1, none⟩)) rfl (wgb_t _) (fun hc9 => ?_) ?_)
 ·
  have hc9_ := of_decide_eq_true hc9
  refine r_fieldAddr rfl ?_
  exact ⟨rfl, rfl⟩
 refine WL_some (og_if (s := .bool (decide (((wordA A seg a).2) = 0))) (b := true) (v := .bool false) rfl (wgb_t _) (fun hc10 => ?_) ?_)
 ·
  have hc10_ := of_decide_eq_true hc10
  refine r_load (v := .bool false) (gvt hc10) hc4 rfl ?_
  exact ⟨rfl, rfl⟩
 refine stp (r_and2 rfl rfl rfl ?_)
 refine WL_nil ?_
 refine W_false (show _ = Value.bool false from congrArg Value.bool (by simp)) ?_
 refine W_skip ?_
 refine W_seq (W_region rfl ?_)
 refine stp (r_move_int rfl ?_)
 refine stp (r_move_int rfl ?_)
 refine stp (r_assign_int rfl ?_)
 refine stp (r_assign_int rfl ?_)
 refine WL_nil ?_
 refine W_ret ?_
 refine ret2 (res_tmp (v := .int .u64 ((wordA A seg a).1)) rfl) (res_tmp (v := .int .i64 ((wordA A seg a).2)) rfl) ⟨?_, G⟩
 rfl

theorem srcR_whole {w : World} {ua uh : Value} {A : List (List Int)} (hA : ArenaR w ua A) (hl : A.length ≤ 1000000) (hx : ∀ q ∈ A, ∀ x ∈ q, inR .u64 x) (he : ∀ i, len2 A i ≤ 140737488355328) : SrcR Try.prog 82 w ua false uh A (wholeS A) :=
  ⟨hA, rfl, fun w' g seg a _ _ => rwordw_calls w' (hA.grow g) (by omega), wordA_num hx, fun seg a h => by
    show 0 ≤ seg ∧ seg < (sizesP A).length ∧ _
    have h2 : (wordA A seg a).2 = 0 := h
    unfold wordA at h2
    split at h2
    · rename_i hc; rw [sizesP_len]; have := he seg.toNat; omega
    · simp at h2, hl, he⟩

set_option maxRecDepth 100000 in
theorem r9near_calls (w : World) (p : Pt) : Gives Try.prog 95 #[.agg #[.int .i64 p.kind, .int .i64 p.off, .int .i64 p.data, .int .i64 p.ptrs, .int .i64 p.size, .int .i64 p.count, .int .i64 p.seg, .bool p.dbl]] w (.bool (nearP p)) := by
 have G := Grow.rfl' w
 refine gives_of Try.func95 Try.ntmps95 Try.results95 rfl rfl ?_
 refine W_seq (W_region rfl ?_)
 refine WL_some (og rfl ?_)
 (first | refine r_box_agg rfl ?_ | refine r_box_int rfl ?_ | refine r_box_slice rfl ?_ | refine r_box rfl rfl ?_)
 intro b1 w2 hb3 hc4 g5
 have hge6 := Nat.le_trans G.size hb3
 replace G := G.tr g5
 clear g5 hb3
 refine stp (r_assign (v := .bool false) rfl ?_)
 refine WL_nil ?_
 refine W_seq (W_region rfl ?_)
 refine stp (r_fieldAddr rfl ?_)
 refine stp (r_load (v := .int .i64 p.kind) rfl hc4 rfl ?_)
 refine stp (r_eql rfl rfl ?_)
 refine stp (r_move_bool rfl ?_)
 refine WL_some (og_if (s := .bool (decide (p.kind = 1))) (b := false) (v := .pointer (some ⟨b1, 0, none⟩)) rfl (wgb_f _) (fun hc7 => ?_) ?_)
 ·
  have hc7_ := hc7
  try simp only [sb] at hc7_
  refine r_fieldAddr rfl ?_
  exact ⟨rfl, rfl⟩
 refine WL_some (og_if (s := .bool (decide (p.kind = 1))) (b := false) (v := .int .i64 p.kind) rfl (wgb_f _) (fun hc8 => ?_) ?_)
 ·
  have hc8_ := hc8
  try simp only [sb] at hc8_
  refine r_load (v := .int .i64 p.kind) (gvt hc8) hc4 rfl ?_
  exact ⟨rfl, rfl⟩
 refine WL_some (og_if (s := .bool (decide (p.kind = 1))) (b := false) (v := .bool (decide (p.kind = 2))) rfl (wgb_f _) (fun hc9 => ?_) ?_)
 ·
  have hc9_ := hc9
  try simp only [sb] at hc9_
  refine r_eql (gvt hc9) rfl ?_
  exact ⟨rfl, rfl⟩
 refine stp (r_or2 rfl rfl rfl ?_)
 refine stp (r_assign_bool rfl ?_)
 refine WL_nil ?_
 refine W_ret ?_
 refine ret1 (res_tmp (v := .bool ((decide (p.kind = 1)) || (decide (p.kind = 2)))) rfl) ⟨?_, G⟩
 rfl

set_option maxRecDepth 100000 in
theorem robj_calls (w : World) (p : Pt) (seg a : Int) : Gives Try.prog 97 #[.agg #[.int .i64 p.kind, .int .i64 p.off, .int .i64 p.data, .int .i64 p.ptrs, .int .i64 p.size, .int .i64 p.count, .int .i64 p.seg, .bool p.dbl], .int .i64 seg, .int .i64 a] w (.agg #[.int .i64 ((objP p seg a).kind), .int .i64 ((objP p seg a).seg), .int .i64 ((objP p seg a).at_), .int .i64 ((objP p seg a).data), .int .i64 ((objP p seg a).ptrs), .int .i64 ((objP p seg a).size), .int .i64 ((objP p seg a).count)]) := by
 have G := Grow.rfl' w
 refine gives_of Try.func97 Try.ntmps97 Try.results97 rfl rfl ?_
 refine W_seq (W_region rfl ?_)
 refine WL_some (og rfl ?_)
 (first | refine r_box_agg rfl ?_ | refine r_box_int rfl ?_ | refine r_box_slice rfl ?_ | refine r_box rfl rfl ?_)
 intro b1 w2 hb3 hc4 g5
 have hge6 := Nat.le_trans G.size hb3
 replace G := G.tr g5
 clear g5 hb3
 refine stp (r_alloc ?_)
 intro b7 w8 hb9 hc10 g11
 refine WL_nil ?_
 refine W_seq (W_region rfl ?_)
 refine stp (r_fieldAddr rfl ?_)
 have hge12 := Nat.le_trans G.size hb9
 have ne13 := Nat.ne_of_lt (Nat.lt_of_lt_of_le (lt_of_heap hc4) hb9)
 replace hc4 := g11.heap hc4
 replace G := G.tr g11
 clear g11 hb9
 refine stp (r_load (v := .int .i64 p.kind) rfl hc4 rfl ?_)
 refine stp (r_move_int rfl ?_)
 refine stp (r_move_int rfl ?_)
 refine stp (r_fieldAddr rfl ?_)
 refine stp (r_load (v := .int .i64 p.data) rfl hc4 rfl ?_)
 refine stp (r_fieldAddr rfl ?_)
 refine stp (r_load (v := .int .i64 p.ptrs) rfl hc4 rfl ?_)
 refine stp (r_fieldAddr rfl ?_)
 refine stp (r_load (v := .int .i64 p.size) rfl hc4 rfl ?_)
 refine stp (r_fieldAddr rfl ?_)
 refine stp (r_load (v := .int .i64 p.count) rfl hc4 rfl ?_)
 refine stp (r_build (v := .agg #[.int .i64 p.kind, .int .i64 seg, .int .i64 a, .int .i64 p.data, .int .i64 p.ptrs, .int .i64 p.size, .int .i64 p.count]) (fun w => by kernel_rfl) ?_)
 refine stn (r_storeAll rfl rfl hc10 (by rfl) (by rfl) (by rfl) ?_)
 intro w14 hc15 u16
 replace hc4 := u16.heap hc4 ne13
 replace G := G.upd u16 hge12
 clear u16 hc10
 refine WL_nil ?_
 refine W_ret ?_
 refine ret1 (res_all rfl hc15 (by rfl)) ⟨?_, G⟩
 rfl

set_option maxRecDepth 100000 in
theorem rowords_calls (w : World) (o : Ob) : Gives Try.prog 73 #[.agg #[.int .i64 o.kind, .int .i64 o.seg, .int .i64 o.at_, .int .i64 o.data, .int .i64 o.ptrs, .int .i64 o.size, .int .i64 o.count]] w (.int .i64 (wordsO o)) := by
 have G := Grow.rfl' w
 refine gives_of Try.func73 Try.ntmps73 Try.results73 rfl rfl ?_
 refine W_seq (W_region rfl ?_)
 refine WL_some (og rfl ?_)
 (first | refine r_box_agg rfl ?_ | refine r_box_int rfl ?_ | refine r_box_slice rfl ?_ | refine r_box rfl rfl ?_)
 intro b1 w2 hb3 hc4 g5
 have hge6 := Nat.le_trans G.size hb3
 replace G := G.tr g5
 clear g5 hb3
 refine stp (r_assign_int rfl ?_)
 refine WL_nil ?_
 refine W_seq ?_
 refine W_seq (W_region rfl ?_)
 refine stp (r_fieldAddr rfl ?_)
 refine stp (r_load (v := .int .i64 o.kind) rfl hc4 rfl ?_)
 refine stp (r_eql rfl rfl ?_)
 refine WL_nil ?_
 refine W_cond2 (b := (decide (o.kind = 3))) rfl (fun h1 => ?_) (fun h1 => ?_)
 ·-- true
  replace h1 := of_decide_eq_true h1
  refine W_seq (W_region rfl ?_)
  refine stp (r_assign_int rfl ?_)
  refine WL_nil ?_
  refine W_ret ?_
  refine ret1 (res_tmp (v := .int .i64 0) rfl) ⟨?_, G⟩
  simp [wordsO, Ob.pt, *]
 ·-- false
  replace h1 := of_decide_eq_false h1
  refine W_skip ?_
  refine W_seq (W_region rfl ?_)
  refine stp (r_fieldAddr rfl ?_)
  refine stp (r_load (v := .int .i64 o.kind) rfl hc4 rfl ?_)
  refine stp (r_fieldAddr rfl ?_)
  refine stp (r_load (v := .int .i64 o.data) rfl hc4 rfl ?_)
  refine stp (r_fieldAddr rfl ?_)
  refine stp (r_load (v := .int .i64 o.ptrs) rfl hc4 rfl ?_)
  refine stp (r_fieldAddr rfl ?_)
  refine stp (r_load (v := .int .i64 o.size) rfl hc4 rfl ?_)
  refine stp (r_fieldAddr rfl ?_)
  refine stp (r_load (v := .int .i64 o.count) rfl hc4 rfl ?_)
  refine stp (r_build (v := .agg #[.int .i64 o.kind, .int .i64 0, .int .i64 o.data, .int .i64 o.ptrs, .int .i64 o.size, .int .i64 o.count, .int .i64 0, .bool false]) (fun w => by kernel_rfl) ?_)
  refine stp (r_gives (v := .tuple #[.int .i64 (wordsN ⟨o.kind, 0, o.data, o.ptrs, o.size, o.count, 0, false⟩), .int .i64 (wordsE ⟨o.kind, 0, o.data, o.ptrs, o.size, o.count, 0, false⟩)]) rfl (rwords_calls _ ⟨o.kind, 0, o.data, o.ptrs, o.size, o.count, 0, false⟩) ?_)
  intro w7 g8
  replace hc4 := g8.heap hc4
  replace G := G.tr g8
  clear g8
  refine stp (r_move (v := .tuple #[.int .i64 (wordsN ⟨o.kind, 0, o.data, o.ptrs, o.size, o.count, 0, false⟩), .int .i64 (wordsE ⟨o.kind, 0, o.data, o.ptrs, o.size, o.count, 0, false⟩)]) rfl ?_)
  refine stp (r_extract (v := .int .i64 (wordsN ⟨o.kind, 0, o.data, o.ptrs, o.size, o.count, 0, false⟩)) rfl rfl ?_)
  refine stp (r_extract (v := .int .i64 (wordsE ⟨o.kind, 0, o.data, o.ptrs, o.size, o.count, 0, false⟩)) rfl rfl ?_)
  refine stp (r_assign_int rfl ?_)
  refine stp (r_assign_int rfl ?_)
  refine WL_nil ?_
  refine W_seq (W_region rfl ?_)
  refine stp (r_move_int rfl ?_)
  refine stp (r_assign_int rfl ?_)
  refine WL_nil ?_
  refine W_ret ?_
  refine ret1 (res_tmp (v := .int .i64 (wordsN ⟨o.kind, 0, o.data, o.ptrs, o.size, o.count, 0, false⟩)) rfl) ⟨?_, G⟩
  simp [wordsO, Ob.pt, *]

set_option maxRecDepth 100000 in
theorem rptr_calls (w : World) {ua uh : Value} {b : Bool} {A : List (List Int)} {s : Src} (H : SrcR Try.prog 82 w ua b uh A s) (seg a : Int) (h1 : inR .i64 seg) (h2 : inR .i64 a) : Gives Try.prog 94 #[.agg #[ua, .bool b, uh], .int .i64 seg, .int .i64 a] w (.tuple #[.agg #[.int .i64 ((ptrS s seg a).1.kind), .int .i64 ((ptrS s seg a).1.off), .int .i64 ((ptrS s seg a).1.data), .int .i64 ((ptrS s seg a).1.ptrs), .int .i64 ((ptrS s seg a).1.size), .int .i64 ((ptrS s seg a).1.count), .int .i64 ((ptrS s seg a).1.seg), .bool ((ptrS s seg a).1.dbl)], .int .i64 ((ptrS s seg a).2)]) := by
 simp only [inR] at h1 h2
 have G := Grow.rfl' w
 refine gives_of Try.func94 Try.ntmps94 Try.results94 rfl rfl ?_
 refine W_seq (W_region rfl ?_)
 refine WL_some (og rfl ?_)
 (first | refine r_box_agg rfl ?_ | refine r_box_int rfl ?_ | refine r_box_slice rfl ?_ | refine r_box rfl rfl ?_)
 intro b1 w2 hb3 hc4 g5
 have hge6 := Nat.le_trans G.size hb3
 replace G := G.tr g5
 clear g5 hb3
 refine stp (r_alloc ?_)
 intro b7 w8 hb9 hc10 g11
 refine stp (r_assign_int rfl ?_)
 refine WL_nil ?_
 refine W_seq (W_region rfl ?_)
 have hge12 := Nat.le_trans G.size hb9
 have ne13 := Nat.ne_of_lt (Nat.lt_of_lt_of_le (lt_of_heap hc4) hb9)
 replace hc4 := g11.heap hc4
 replace G := G.tr g11
 clear g11 hb9
 refine stp (r_loadAll rfl hc4 (by rfl) ?_)
 refine stp (r_move_int rfl ?_)
 refine stp (r_move_int rfl ?_)
 refine stp (r_gives (v := .tuple #[.int .u64 ((s.word seg a).1), .int .i64 ((s.word seg a).2)]) rfl (H.word _ G seg a (by simp only [inR]; omega) (by simp only [inR]; omega)) ?_)
 intro w14 g15
 replace hc4 := g15.heap hc4
 replace hc10 := g15.heap hc10
 replace G := G.tr g15
 clear g15
 refine stp (r_move (v := .tuple #[.int .u64 ((s.word seg a).1), .int .i64 ((s.word seg a).2)]) rfl ?_)
 refine stp (r_extract (v := .int .u64 ((s.word seg a).1)) rfl rfl ?_)
 refine stp (r_extract (v := .int .i64 ((s.word seg a).2)) rfl rfl ?_)
 refine stp (r_assign_int rfl ?_)
 refine stp (r_assign_int rfl ?_)
 refine WL_nil ?_
 refine W_seq ?_
 refine W_seq (W_region rfl ?_)
 refine stp (r_move_int rfl ?_)
 refine stp (r_neq rfl rfl ?_)
 refine WL_nil ?_
 refine W_cond2 (b := (decide (((s.word seg a).2) ≠ 0))) rfl (fun hz => ?_) (fun hz => ?_)
 ·-- true
  replace hz := of_decide_eq_true hz
  refine W_seq (W_region rfl ?_)
  refine stp (r_build (v := .agg #[.int .i64 0, .int .i64 0, .int .i64 0, .int .i64 0, .int .i64 0, .int .i64 0, .int .i64 0, .bool false]) (fun w => by kernel_rfl) ?_)
  refine stp (r_move_int rfl ?_)
  refine stn (r_storeAll rfl rfl hc10 (by rfl) (by rfl) (by rfl) ?_)
  intro w16 hc17 u18
  replace hc4 := u18.heap hc4 ne13
  replace G := G.upd u18 hge12
  clear u18 hc10
  refine stp (r_assign_int rfl ?_)
  refine WL_nil ?_
  refine W_ret ?_
  refine ret2 (res_all rfl hc17 (by rfl)) (res_tmp (v := .int .i64 ((s.word seg a).2)) rfl) ⟨?_, G⟩
  have h9 : ptrS s seg a = (Pt0, (s.word seg a).2) := by unfold ptrS; exact if_pos hz
  rw [h9]; rfl
 ·-- false
  replace hz := of_decide_eq_false hz
  refine W_skip ?_
  refine W_seq (W_region rfl ?_)
  refine stp (r_move_int rfl ?_)
  refine stp (r_gives (v := .tuple #[.agg #[.int .i64 ((decP (s.word seg a).1).kind), .int .i64 ((decP (s.word seg a).1).off), .int .i64 ((decP (s.word seg a).1).data), .int .i64 ((decP (s.word seg a).1).ptrs), .int .i64 ((decP (s.word seg a).1).size), .int .i64 ((decP (s.word seg a).1).count), .int .i64 ((decP (s.word seg a).1).seg), .bool ((decP (s.word seg a).1).dbl)], .int .i64 (decE (s.word seg a).1)]) rfl (rdecode_calls _ _ (H.num seg a).1 (H.num seg a).2.1) ?_)
  intro w19 g20
  replace hc4 := g20.heap hc4
  replace hc10 := g20.heap hc10
  replace G := G.tr g20
  clear g20
  refine stp (r_move (v := .tuple #[.agg #[.int .i64 ((decP (s.word seg a).1).kind), .int .i64 ((decP (s.word seg a).1).off), .int .i64 ((decP (s.word seg a).1).data), .int .i64 ((decP (s.word seg a).1).ptrs), .int .i64 ((decP (s.word seg a).1).size), .int .i64 ((decP (s.word seg a).1).count), .int .i64 ((decP (s.word seg a).1).seg), .bool ((decP (s.word seg a).1).dbl)], .int .i64 (decE (s.word seg a).1)]) rfl ?_)
  refine stp (r_extract (v := .agg #[.int .i64 ((decP (s.word seg a).1).kind), .int .i64 ((decP (s.word seg a).1).off), .int .i64 ((decP (s.word seg a).1).data), .int .i64 ((decP (s.word seg a).1).ptrs), .int .i64 ((decP (s.word seg a).1).size), .int .i64 ((decP (s.word seg a).1).count), .int .i64 ((decP (s.word seg a).1).seg), .bool ((decP (s.word seg a).1).dbl)]) rfl rfl ?_)
  refine stp (r_extract (v := .int .i64 (decE (s.word seg a).1)) rfl rfl ?_)
  refine stp (r_alloc ?_)
  intro b21 w22 hb23 hc24 g25
  refine stn (r_storeAll rfl rfl hc24 (by rfl) (by rfl) (by rfl) ?_)
  intro w26 hc27 u28
  have g29 := g25.upd u28 hb23
  have hge30 := Nat.le_trans G.size hb23
  have ne31 := Nat.ne_of_lt (Nat.lt_of_lt_of_le (lt_of_heap hc4) hb23)
  have ne32 := Nat.ne_of_lt (Nat.lt_of_lt_of_le (lt_of_heap hc10) hb23)
  replace hc4 := g29.heap hc4
  replace hc10 := g29.heap hc10
  replace G := G.tr g29
  clear u28 g25 hb23 hc24
  refine stp (r_assign_int rfl ?_)
  refine WL_nil ?_
  refine W_seq (W_region rfl ?_)
  refine stp (r_loadAll rfl hc27 (by rfl) ?_)
  refine stp (r_move_int rfl ?_)
  refine stn (r_storeAll rfl rfl hc10 (by rfl) (by rfl) (by rfl) ?_)
  intro w33 hc34 u35
  replace hc4 := u35.heap hc4 ne13
  replace hc27 := u35.heap hc27 ne32.symm
  replace G := G.upd u35 hge12
  clear u35 hc10
  refine stp (r_assign_int rfl ?_)
  refine WL_nil ?_
  refine W_ret ?_
  refine ret2 (res_all rfl hc34 (by rfl)) (res_tmp (v := .int .i64 (decE (s.word seg a).1)) rfl) ⟨?_, G⟩
  have h9 : ptrS s seg a = (decP (s.word seg a).1, decE (s.word seg a).1) := by unfold ptrS; exact if_neg hz
  rw [h9]

set_option maxRecDepth 100000 in
theorem rbounds_calls (w : World) {ua uh : Value} {b : Bool} {A : List (List Int)} {s : Src} (H : SrcR Try.prog 82 w ua b uh A s) (o : Ob) (ho : ObW o) : Gives Try.prog 96 #[.agg #[ua, .bool b, uh], .agg #[.int .i64 o.kind, .int .i64 o.seg, .int .i64 o.at_, .int .i64 o.data, .int .i64 o.ptrs, .int .i64 o.size, .int .i64 o.count]] w (.tuple #[.agg #[.int .i64 ((bndS s o).1.kind), .int .i64 ((bndS s o).1.seg), .int .i64 ((bndS s o).1.at_), .int .i64 ((bndS s o).1.data), .int .i64 ((bndS s o).1.ptrs), .int .i64 ((bndS s o).1.size), .int .i64 ((bndS s o).1.count)], .int .i64 ((bndS s o).2)]) := by
 have hw9 := wordsN_range ho.pt
 have hsz := H.sizes
 have hs : ∀ i, 0 ≤ (sizesP A).getD i 0 ∧ (sizesP A).getD i 0 ≤ 140737488355328 := fun i => by rw [sizesP_at]; have := H.each i; omega
 have G := Grow.rfl' w
 refine gives_of Try.func96 Try.ntmps96 Try.results96 rfl rfl ?_
 refine W_seq (W_region rfl ?_)
 refine WL_some (og rfl ?_)
 (first | refine r_box_agg rfl ?_ | refine r_box_int rfl ?_ | refine r_box_slice rfl ?_ | refine r_box rfl rfl ?_)
 intro b1 w2 hb3 hc4 g5
 have hge6 := Nat.le_trans G.size hb3
 replace G := G.tr g5
 clear g5 hb3
 refine WL_some (og rfl ?_)
 (first | refine r_box_agg rfl ?_ | refine r_box_int rfl ?_ | refine r_box_slice rfl ?_ | refine r_box rfl rfl ?_)
 intro b7 w8 hb9 hc10 g11
 have hge12 := Nat.le_trans G.size hb9
 replace hc4 := g11.heap hc4
 replace G := G.tr g11
 clear g11 hb9
 refine stp (r_alloc ?_)
 intro b13 w14 hb15 hc16 g17
 refine stp (r_assign_int rfl ?_)
 refine WL_nil ?_
 refine W_seq (W_region rfl ?_)
 refine stp (r_fieldAddr rfl ?_)
 have hge18 := Nat.le_trans G.size hb15
 have ne19 := Nat.ne_of_lt (Nat.lt_of_lt_of_le (lt_of_heap hc4) hb15)
 have ne20 := Nat.ne_of_lt (Nat.lt_of_lt_of_le (lt_of_heap hc10) hb15)
 replace hc4 := g17.heap hc4
 replace hc10 := g17.heap hc10
 replace G := G.tr g17
 clear g17 hb15
 refine stp (r_load (v := .int .i64 o.kind) rfl hc10 rfl ?_)
 refine stp (r_fieldAddr rfl ?_)
 refine stp (r_load (v := .int .i64 o.data) rfl hc10 rfl ?_)
 refine stp (r_fieldAddr rfl ?_)
 refine stp (r_load (v := .int .i64 o.ptrs) rfl hc10 rfl ?_)
 refine stp (r_fieldAddr rfl ?_)
 refine stp (r_load (v := .int .i64 o.size) rfl hc10 rfl ?_)
 refine stp (r_fieldAddr rfl ?_)
 refine stp (r_load (v := .int .i64 o.count) rfl hc10 rfl ?_)
 refine stp (r_build (v := .agg #[.int .i64 o.kind, .int .i64 0, .int .i64 o.data, .int .i64 o.ptrs, .int .i64 o.size, .int .i64 o.count, .int .i64 0, .bool false]) (fun w => by kernel_rfl) ?_)
 refine stp (r_gives (v := .tuple #[.int .i64 (wordsN ⟨o.kind, 0, o.data, o.ptrs, o.size, o.count, 0, false⟩), .int .i64 (wordsE ⟨o.kind, 0, o.data, o.ptrs, o.size, o.count, 0, false⟩)]) rfl (rwords_calls _ ⟨o.kind, 0, o.data, o.ptrs, o.size, o.count, 0, false⟩) ?_)
 intro w21 g22
 replace hc4 := g22.heap hc4
 replace hc10 := g22.heap hc10
 replace hc16 := g22.heap hc16
 replace G := G.tr g22
 clear g22
 refine stp (r_move (v := .tuple #[.int .i64 (wordsN ⟨o.kind, 0, o.data, o.ptrs, o.size, o.count, 0, false⟩), .int .i64 (wordsE ⟨o.kind, 0, o.data, o.ptrs, o.size, o.count, 0, false⟩)]) rfl ?_)
 refine stp (r_extract (v := .int .i64 (wordsN ⟨o.kind, 0, o.data, o.ptrs, o.size, o.count, 0, false⟩)) rfl rfl ?_)
 refine stp (r_extract (v := .int .i64 (wordsE ⟨o.kind, 0, o.data, o.ptrs, o.size, o.count, 0, false⟩)) rfl rfl ?_)
 refine stp (r_assign_int rfl ?_)
 refine stp (r_assign_int rfl ?_)
 refine WL_nil ?_
 refine W_seq ?_
 refine W_seq (W_region rfl ?_)
 refine stp (r_move_int rfl ?_)
 refine stp (r_neq rfl rfl ?_)
 refine WL_nil ?_
 refine W_cond2 (b := (decide ((wordsE ⟨o.kind, 0, o.data, o.ptrs, o.size, o.count, 0, false⟩) ≠ 0))) rfl (fun h1 => ?_) (fun h1 => ?_)
 ·-- true
  replace h1 := of_decide_eq_true h1
  refine W_seq (W_region rfl ?_)
  refine stp (r_build (v := .agg #[.int .i64 0, .int .i64 0, .int .i64 0, .int .i64 0, .int .i64 0, .int .i64 0, .int .i64 0]) (fun w => by kernel_rfl) ?_)
  refine stp (r_move_int rfl ?_)
  refine stn (r_storeAll rfl rfl hc16 (by rfl) (by rfl) (by rfl) ?_)
  intro w23 hc24 u25
  replace hc4 := u25.heap hc4 ne19
  replace hc10 := u25.heap hc10 ne20
  replace G := G.upd u25 hge18
  clear u25 hc16
  refine stp (r_assign_int rfl ?_)
  refine WL_nil ?_
  refine W_ret ?_
  refine ret2 (res_all rfl hc24 (by rfl)) (res_tmp (v := .int .i64 (wordsE ⟨o.kind, 0, o.data, o.ptrs, o.size, o.count, 0, false⟩)) rfl) ⟨?_, G⟩
  have h9 : bndS s o = (Ob0, wordsE ⟨o.kind, 0, o.data, o.ptrs, o.size, o.count, 0, false⟩) := by unfold bndS; exact if_pos h1
  rw [h9]; rfl
 ·-- false
  replace h1 := of_decide_eq_false h1
  refine W_skip ?_
  refine W_seq ?_
  refine W_seq ?_
  refine W_any 10 [[], [0], [1, 0], [], [0], [], [0], [], [7, 6, 5, 4, 3, 2, 1, 0], [8, 7, 6, 5, 4, 3, 2, 1, 0]] mixed (by kernel_rfl) (by kernel_rfl) (by kernel_rfl) ?_
  intro w26 g27
  replace hc4 := g27.heap hc4
  replace hc10 := g27.heap hc10
  replace hc16 := g27.heap hc16
  replace G := G.tr g27
  clear g27
  apply AO_ex
  ·intro w_ g_; refine og rfl ?_; refine r_fieldAddr rfl ?_; exact ⟨Grow.rfl' _, rfl⟩
  apply AO_ex
  ·intro w_ g_; refine og rfl ?_; refine r_load (v := ua) rfl (g_.heap hc4) rfl ?_; exact ⟨Grow.rfl' _, rfl⟩
  refine AO_so (fun w_ v_ => ∃ ad9 c9, v_ = .slice ad9 A.length c9 ∧ RowAt w_ 1 ad9 A.length ((sizesP A).map (.int .i64))) (fun _ _ _ g_ ⟨a_, c_, h1_, h2_⟩ => ⟨a_, c_, h1_, h2_.grow g_⟩) ?_ ?_
  ·intro w_ g_
   refine og rfl ?_
   refine r_call rfl (rsizes_calls w_ (H.arena.grow (G.tr g_)) (by have := H.len; omega)) ?_
   rintro v9_ w9_ ⟨a_, c_, rfl, R9_, g9_⟩
   exact ⟨g9_, a_, c_, rfl, R9_⟩
  apply AO_ex
  ·intro w_ g_; refine og rfl ?_; refine r_fieldAddr rfl ?_; exact ⟨Grow.rfl' _, rfl⟩
  apply AO_ex
  ·intro w_ g_; refine og rfl ?_; refine r_load (v := .int .i64 o.seg) rfl (g_.heap hc10) rfl ?_; exact ⟨Grow.rfl' _, rfl⟩
  apply AO_ex
  ·intro w_ g_; refine og rfl ?_; refine r_fieldAddr rfl ?_; exact ⟨Grow.rfl' _, rfl⟩
  apply AO_ex
  ·intro w_ g_; refine og rfl ?_; refine r_load (v := .int .i64 o.at_) rfl (g_.heap hc10) rfl ?_; exact ⟨Grow.rfl' _, rfl⟩
  apply AO_ex
  ·intro w_ g_; refine og rfl ?_; refine r_move_int rfl ?_; exact ⟨Grow.rfl' _, rfl⟩
  apply AO_ex
  ·intro w_ g_; intro v2_ hv2_; show OpG _ _ _ _ _ _; refine og rfl ?_; obtain ⟨ad9, c9, rfl, RZ⟩ := hv2_; exact r_gives (v := .bool (withinP s.sizes o.seg o.at_ (wordsN o.pt))) rfl (by rw [hsz]; have h_ := rwithin_calls w_ (c := c9) (seg := o.seg) (a := o.at_) (n := wordsN o.pt) (by rw [sizesP_len]; exact RZ) hs; rw [sizesP_len] at h_; exact h_) (fun w2_ g2_ => ⟨g2_, rfl⟩)
  apply AO_ex
  ·intro w_ g_; intro v2_ hv2_; show OpG _ _ _ _ _ _; refine og rfl ?_; refine r_not rfl ?_; exact ⟨Grow.rfl' _, rfl⟩
  refine AO_nil ?_
  intro w28 g29
  replace hc4 := g29.heap hc4
  replace hc10 := g29.heap hc10
  replace hc16 := g29.heap hc16
  replace G := G.tr g29
  clear g29
  intro v_z hv_z
  refine WL_nil ?_
  refine W_cond2 (b := (!(withinP s.sizes o.seg o.at_ (wordsN o.pt)))) rfl (fun h2 => ?_) (fun h2 => ?_)
  ·-- true
   simp only [sb] at h2
   refine W_seq (W_region rfl ?_)
   refine stp (r_build (v := .agg #[.int .i64 0, .int .i64 0, .int .i64 0, .int .i64 0, .int .i64 0, .int .i64 0, .int .i64 0]) (fun w => by kernel_rfl) ?_)
   refine stn (r_storeAll rfl rfl hc16 (by rfl) (by rfl) (by rfl) ?_)
   intro w30 hc31 u32
   replace hc4 := u32.heap hc4 ne19
   replace hc10 := u32.heap hc10 ne20
   replace G := G.upd u32 hge18
   clear u32 hc16
   refine stp (r_assign_int rfl ?_)
   refine WL_nil ?_
   refine W_ret ?_
   refine ret2 (res_all rfl hc31 (by rfl)) (res_tmp (v := .int .i64 20) rfl) ⟨?_, G⟩
   have h9 : bndS s o = (Ob0, 20) := by unfold bndS; exact (if_neg h1).trans (if_pos (by simpa using h2))
   rw [h9]; rfl
  ·-- false
   simp only [sb] at h2
   refine W_skip ?_
   refine W_seq (W_region rfl ?_)
   refine stp (r_loadAll rfl hc10 (by rfl) ?_)
   refine stn (r_storeAll rfl rfl hc16 (by rfl) (by rfl) (by rfl) ?_)
   intro w33 hc34 u35
   replace hc4 := u35.heap hc4 ne19
   replace hc10 := u35.heap hc10 ne20
   replace G := G.upd u35 hge18
   clear u35 hc16
   refine stp (r_assign_int rfl ?_)
   refine WL_nil ?_
   refine W_ret ?_
   refine ret2 (res_all rfl hc34 (by rfl)) (res_tmp (v := .int .i64 0) rfl) ⟨?_, G⟩
   have h9 : bndS s o = (o, 0) := by unfold bndS; exact (if_neg h1).trans (if_neg (by simpa using h2))
   rw [h9]

set_option maxRecDepth 100000 in
theorem rdouble_calls (w : World) {ua uh : Value} {b : Bool} {A : List (List Int)} {s : Src} (H : SrcR Try.prog 82 w ua b uh A s) (p : Pt) (hp : PtR p) : Gives Try.prog 98 #[.agg #[ua, .bool b, uh], .agg #[.int .i64 p.kind, .int .i64 p.off, .int .i64 p.data, .int .i64 p.ptrs, .int .i64 p.size, .int .i64 p.count, .int .i64 p.seg, .bool p.dbl]] w (.tuple #[.agg #[.int .i64 ((dblS s p).1.kind), .int .i64 ((dblS s p).1.seg), .int .i64 ((dblS s p).1.at_), .int .i64 ((dblS s p).1.data), .int .i64 ((dblS s p).1.ptrs), .int .i64 ((dblS s p).1.size), .int .i64 ((dblS s p).1.count)], .int .i64 ((dblS s p).2)]) := by
 have hpo := hp.off
 have hpg := hp.seg
 obtain ⟨n1, n2, -, -⟩ := H.num p.seg p.off
 obtain ⟨n3, n4, -, -⟩ := H.num p.seg (p.off + 1)
 have G := Grow.rfl' w
 refine gives_of Try.func98 Try.ntmps98 Try.results98 rfl rfl ?_
 refine W_seq (W_region rfl ?_)
 refine WL_some (og rfl ?_)
 (first | refine r_box_agg rfl ?_ | refine r_box_int rfl ?_ | refine r_box_slice rfl ?_ | refine r_box rfl rfl ?_)
 intro b1 w2 hb3 hc4 g5
 have hge6 := Nat.le_trans G.size hb3
 replace G := G.tr g5
 clear g5 hb3
 refine WL_some (og rfl ?_)
 (first | refine r_box_agg rfl ?_ | refine r_box_int rfl ?_ | refine r_box_slice rfl ?_ | refine r_box rfl rfl ?_)
 intro b7 w8 hb9 hc10 g11
 have hge12 := Nat.le_trans G.size hb9
 replace hc4 := g11.heap hc4
 replace G := G.tr g11
 clear g11 hb9
 refine stp (r_alloc ?_)
 intro b13 w14 hb15 hc16 g17
 refine stp (r_assign_int rfl ?_)
 refine WL_nil ?_
 refine W_seq (W_region rfl ?_)
 have hge18 := Nat.le_trans G.size hb15
 have ne19 := Nat.ne_of_lt (Nat.lt_of_lt_of_le (lt_of_heap hc4) hb15)
 have ne20 := Nat.ne_of_lt (Nat.lt_of_lt_of_le (lt_of_heap hc10) hb15)
 replace hc4 := g17.heap hc4
 replace hc10 := g17.heap hc10
 replace G := G.tr g17
 clear g17 hb15
 refine stp (r_loadAll rfl hc4 (by rfl) ?_)
 refine stp (r_fieldAddr rfl ?_)
 refine stp (r_load (v := .int .i64 p.seg) rfl hc10 rfl ?_)
 refine stp (r_fieldAddr rfl ?_)
 refine stp (r_load (v := .int .i64 p.off) rfl hc10 rfl ?_)
 refine stp (r_gives (v := .tuple #[.int .u64 ((s.word p.seg p.off).1), .int .i64 ((s.word p.seg p.off).2)]) rfl (H.word _ G p.seg p.off (by simp only [inR]; omega) (by simp only [inR]; omega)) ?_)
 intro w21 g22
 replace hc4 := g22.heap hc4
 replace hc10 := g22.heap hc10
 replace hc16 := g22.heap hc16
 replace G := G.tr g22
 clear g22
 refine stp (r_move (v := .tuple #[.int .u64 ((s.word p.seg p.off).1), .int .i64 ((s.word p.seg p.off).2)]) rfl ?_)
 refine stp (r_extract (v := .int .u64 ((s.word p.seg p.off).1)) rfl rfl ?_)
 refine stp (r_extract (v := .int .i64 ((s.word p.seg p.off).2)) rfl rfl ?_)
 refine stp (r_assign_int rfl ?_)
 refine stp (r_assign_int rfl ?_)
 refine WL_nil ?_
 refine W_seq ?_
 refine W_seq (W_region rfl ?_)
 refine stp (r_move_int rfl ?_)
 refine stp (r_neq rfl rfl ?_)
 refine WL_nil ?_
 refine W_cond2 (b := (decide (((s.word p.seg p.off).2) ≠ 0))) rfl (fun h1 => ?_) (fun h1 => ?_)
 ·-- true
  replace h1 := of_decide_eq_true h1
  refine W_seq (W_region rfl ?_)
  refine stp (r_build (v := .agg #[.int .i64 0, .int .i64 0, .int .i64 0, .int .i64 0, .int .i64 0, .int .i64 0, .int .i64 0]) (fun w => by kernel_rfl) ?_)
  refine stp (r_move_int rfl ?_)
  refine stn (r_storeAll rfl rfl hc16 (by rfl) (by rfl) (by rfl) ?_)
  intro w23 hc24 u25
  replace hc4 := u25.heap hc4 ne19
  replace hc10 := u25.heap hc10 ne20
  replace G := G.upd u25 hge18
  clear u25 hc16
  refine stp (r_assign_int rfl ?_)
  refine WL_nil ?_
  refine W_ret ?_
  refine ret2 (res_all rfl hc24 (by rfl)) (res_tmp (v := .int .i64 ((s.word p.seg p.off).2)) rfl) ⟨?_, G⟩
  have h9 : dblS s p = (Ob0, (s.word p.seg p.off).2) := by unfold dblS; rw [if_pos h1]
  rw [h9]; rfl
 ·-- false
  replace h1 := of_decide_eq_false h1
  refine W_skip ?_
  refine W_seq (W_region rfl ?_)
  refine stp (r_loadAll rfl hc4 (by rfl) ?_)
  refine stp (r_fieldAddr rfl ?_)
  refine stp (r_load (v := .int .i64 p.seg) rfl hc10 rfl ?_)
  refine stp (r_fieldAddr rfl ?_)
  refine stp (r_load (v := .int .i64 p.off) rfl hc10 rfl ?_)
  refine stp (r_add rfl rfl ?_ ?_); constructor <;> omega
  refine stp (r_gives (v := .tuple #[.int .u64 ((s.word p.seg (p.off + 1)).1), .int .i64 ((s.word p.seg (p.off + 1)).2)]) rfl (H.word _ G p.seg (p.off + 1) (by simp only [inR]; omega) (by simp only [inR]; omega)) ?_)
  intro w26 g27
  replace hc4 := g27.heap hc4
  replace hc10 := g27.heap hc10
  replace hc16 := g27.heap hc16
  replace G := G.tr g27
  clear g27
  refine stp (r_move (v := .tuple #[.int .u64 ((s.word p.seg (p.off + 1)).1), .int .i64 ((s.word p.seg (p.off + 1)).2)]) rfl ?_)
  refine stp (r_extract (v := .int .u64 ((s.word p.seg (p.off + 1)).1)) rfl rfl ?_)
  refine stp (r_extract (v := .int .i64 ((s.word p.seg (p.off + 1)).2)) rfl rfl ?_)
  refine stp (r_assign_int rfl ?_)
  refine stp (r_assign_int rfl ?_)
  refine WL_nil ?_
  refine W_seq ?_
  refine W_seq (W_region rfl ?_)
  refine stp (r_move_int rfl ?_)
  refine stp (r_neq rfl rfl ?_)
  refine WL_nil ?_
  refine W_cond2 (b := (decide (((s.word p.seg (p.off + 1)).2) ≠ 0))) rfl (fun h2 => ?_) (fun h2 => ?_)
  ·-- true
   replace h2 := of_decide_eq_true h2
   refine W_seq (W_region rfl ?_)
   refine stp (r_build (v := .agg #[.int .i64 0, .int .i64 0, .int .i64 0, .int .i64 0, .int .i64 0, .int .i64 0, .int .i64 0]) (fun w => by kernel_rfl) ?_)
   refine stp (r_move_int rfl ?_)
   refine stn (r_storeAll rfl rfl hc16 (by rfl) (by rfl) (by rfl) ?_)
   intro w28 hc29 u30
   replace hc4 := u30.heap hc4 ne19
   replace hc10 := u30.heap hc10 ne20
   replace G := G.upd u30 hge18
   clear u30 hc16
   refine stp (r_assign_int rfl ?_)
   refine WL_nil ?_
   refine W_ret ?_
   refine ret2 (res_all rfl hc29 (by rfl)) (res_tmp (v := .int .i64 ((s.word p.seg (p.off + 1)).2)) rfl) ⟨?_, G⟩
   have h9 : dblS s p = (Ob0, (s.word p.seg (p.off + 1)).2) := by unfold dblS; rw [if_neg h1, if_pos h2]
   rw [h9]; rfl
  ·-- false
   replace h2 := of_decide_eq_false h2
   refine W_skip ?_
   refine W_seq (W_region rfl ?_)
   refine stp (r_move_int rfl ?_)
   refine stp (r_gives (v := .tuple #[.agg #[.int .i64 ((decP (s.word p.seg p.off).1).kind), .int .i64 ((decP (s.word p.seg p.off).1).off), .int .i64 ((decP (s.word p.seg p.off).1).data), .int .i64 ((decP (s.word p.seg p.off).1).ptrs), .int .i64 ((decP (s.word p.seg p.off).1).size), .int .i64 ((decP (s.word p.seg p.off).1).count), .int .i64 ((decP (s.word p.seg p.off).1).seg), .bool ((decP (s.word p.seg p.off).1).dbl)], .int .i64 (decE (s.word p.seg p.off).1)]) rfl (rdecode_calls _ _ (H.num p.seg p.off).1 (H.num p.seg p.off).2.1) ?_)
   intro w31 g32
   replace hc4 := g32.heap hc4
   replace hc10 := g32.heap hc10
   replace hc16 := g32.heap hc16
   replace G := G.tr g32
   clear g32
   refine stp (r_move (v := .tuple #[.agg #[.int .i64 ((decP (s.word p.seg p.off).1).kind), .int .i64 ((decP (s.word p.seg p.off).1).off), .int .i64 ((decP (s.word p.seg p.off).1).data), .int .i64 ((decP (s.word p.seg p.off).1).ptrs), .int .i64 ((decP (s.word p.seg p.off).1).size), .int .i64 ((decP (s.word p.seg p.off).1).count), .int .i64 ((decP (s.word p.seg p.off).1).seg), .bool ((decP (s.word p.seg p.off).1).dbl)], .int .i64 (decE (s.word p.seg p.off).1)]) rfl ?_)
   refine stp (r_extract (v := .agg #[.int .i64 ((decP (s.word p.seg p.off).1).kind), .int .i64 ((decP (s.word p.seg p.off).1).off), .int .i64 ((decP (s.word p.seg p.off).1).data), .int .i64 ((decP (s.word p.seg p.off).1).ptrs), .int .i64 ((decP (s.word p.seg p.off).1).size), .int .i64 ((decP (s.word p.seg p.off).1).count), .int .i64 ((decP (s.word p.seg p.off).1).seg), .bool ((decP (s.word p.seg p.off).1).dbl)]) rfl rfl ?_)
   refine stp (r_extract (v := .int .i64 (decE (s.word p.seg p.off).1)) rfl rfl ?_)
   refine stp (r_alloc ?_)
   intro b33 w34 hb35 hc36 g37
   refine stn (r_storeAll rfl rfl hc36 (by rfl) (by rfl) (by rfl) ?_)
   intro w38 hc39 u40
   have g41 := g37.upd u40 hb35
   have hge42 := Nat.le_trans G.size hb35
   have ne43 := Nat.ne_of_lt (Nat.lt_of_lt_of_le (lt_of_heap hc4) hb35)
   have ne44 := Nat.ne_of_lt (Nat.lt_of_lt_of_le (lt_of_heap hc10) hb35)
   have ne45 := Nat.ne_of_lt (Nat.lt_of_lt_of_le (lt_of_heap hc16) hb35)
   replace hc4 := g41.heap hc4
   replace hc10 := g41.heap hc10
   replace hc16 := g41.heap hc16
   replace G := G.tr g41
   clear u40 g37 hb35 hc36
   refine stp (r_assign_int rfl ?_)
   refine WL_nil ?_
   refine W_seq ?_
   refine W_seq (W_region rfl ?_)
   refine stp (r_move_int rfl ?_)
   refine stp (r_neq rfl rfl ?_)
   refine WL_nil ?_
   refine W_cond2 (b := (decide ((decE (s.word p.seg p.off).1) ≠ 0))) rfl (fun h3 => ?_) (fun h3 => ?_)
   ·-- true
    replace h3 := of_decide_eq_true h3
    refine W_seq (W_region rfl ?_)
    refine stp (r_build (v := .agg #[.int .i64 0, .int .i64 0, .int .i64 0, .int .i64 0, .int .i64 0, .int .i64 0, .int .i64 0]) (fun w => by kernel_rfl) ?_)
    refine stp (r_move_int rfl ?_)
    refine stn (r_storeAll rfl rfl hc16 (by rfl) (by rfl) (by rfl) ?_)
    intro w46 hc47 u48
    replace hc4 := u48.heap hc4 ne19
    replace hc10 := u48.heap hc10 ne20
    replace hc39 := u48.heap hc39 ne45.symm
    replace G := G.upd u48 hge18
    clear u48 hc16
    refine stp (r_assign_int rfl ?_)
    refine WL_nil ?_
    refine W_ret ?_
    refine ret2 (res_all rfl hc47 (by rfl)) (res_tmp (v := .int .i64 (decE (s.word p.seg p.off).1)) rfl) ⟨?_, G⟩
    have h9 : dblS s p = (Ob0, decE (s.word p.seg p.off).1) := by unfold dblS; rw [if_neg h1, if_neg h2, if_pos h3]
    rw [h9]; rfl
   ·-- false
    replace h3 := of_decide_eq_false h3
    refine W_skip ?_
    refine W_seq (W_region rfl ?_)
    refine stp (r_move_int rfl ?_)
    refine stp (r_gives (v := .tuple #[.agg #[.int .i64 ((decP (s.word p.seg (p.off + 1)).1).kind), .int .i64 ((decP (s.word p.seg (p.off + 1)).1).off), .int .i64 ((decP (s.word p.seg (p.off + 1)).1).data), .int .i64 ((decP (s.word p.seg (p.off + 1)).1).ptrs), .int .i64 ((decP (s.word p.seg (p.off + 1)).1).size), .int .i64 ((decP (s.word p.seg (p.off + 1)).1).count), .int .i64 ((decP (s.word p.seg (p.off + 1)).1).seg), .bool ((decP (s.word p.seg (p.off + 1)).1).dbl)], .int .i64 (decE (s.word p.seg (p.off + 1)).1)]) rfl (rdecode_calls _ _ (H.num p.seg (p.off + 1)).1 (H.num p.seg (p.off + 1)).2.1) ?_)
    intro w49 g50
    replace hc4 := g50.heap hc4
    replace hc10 := g50.heap hc10
    replace hc16 := g50.heap hc16
    replace hc39 := g50.heap hc39
    replace G := G.tr g50
    clear g50
    refine stp (r_move (v := .tuple #[.agg #[.int .i64 ((decP (s.word p.seg (p.off + 1)).1).kind), .int .i64 ((decP (s.word p.seg (p.off + 1)).1).off), .int .i64 ((decP (s.word p.seg (p.off + 1)).1).data), .int .i64 ((decP (s.word p.seg (p.off + 1)).1).ptrs), .int .i64 ((decP (s.word p.seg (p.off + 1)).1).size), .int .i64 ((decP (s.word p.seg (p.off + 1)).1).count), .int .i64 ((decP (s.word p.seg (p.off + 1)).1).seg), .bool ((decP (s.word p.seg (p.off + 1)).1).dbl)], .int .i64 (decE (s.word p.seg (p.off + 1)).1)]) rfl ?_)
    refine stp (r_extract (v := .agg #[.int .i64 ((decP (s.word p.seg (p.off + 1)).1).kind), .int .i64 ((decP (s.word p.seg (p.off + 1)).1).off), .int .i64 ((decP (s.word p.seg (p.off + 1)).1).data), .int .i64 ((decP (s.word p.seg (p.off + 1)).1).ptrs), .int .i64 ((decP (s.word p.seg (p.off + 1)).1).size), .int .i64 ((decP (s.word p.seg (p.off + 1)).1).count), .int .i64 ((decP (s.word p.seg (p.off + 1)).1).seg), .bool ((decP (s.word p.seg (p.off + 1)).1).dbl)]) rfl rfl ?_)
    refine stp (r_extract (v := .int .i64 (decE (s.word p.seg (p.off + 1)).1)) rfl rfl ?_)
    refine stp (r_alloc ?_)
    intro b51 w52 hb53 hc54 g55
    refine stn (r_storeAll rfl rfl hc54 (by rfl) (by rfl) (by rfl) ?_)
    intro w56 hc57 u58
    have g59 := g55.upd u58 hb53
    have hge60 := Nat.le_trans G.size hb53
    have ne61 := Nat.ne_of_lt (Nat.lt_of_lt_of_le (lt_of_heap hc4) hb53)
    have ne62 := Nat.ne_of_lt (Nat.lt_of_lt_of_le (lt_of_heap hc10) hb53)
    have ne63 := Nat.ne_of_lt (Nat.lt_of_lt_of_le (lt_of_heap hc16) hb53)
    have ne64 := Nat.ne_of_lt (Nat.lt_of_lt_of_le (lt_of_heap hc39) hb53)
    replace hc4 := g59.heap hc4
    replace hc10 := g59.heap hc10
    replace hc16 := g59.heap hc16
    replace hc39 := g59.heap hc39
    replace G := G.tr g59
    clear u58 g55 hb53 hc54
    refine stp (r_assign_int rfl ?_)
    refine WL_nil ?_
    refine W_seq ?_
    refine W_seq (W_region rfl ?_)
    refine stp (r_move_int rfl ?_)
    refine stp (r_neq rfl rfl ?_)
    refine WL_nil ?_
    refine W_cond2 (b := (decide ((decE (s.word p.seg (p.off + 1)).1) ≠ 0))) rfl (fun h4 => ?_) (fun h4 => ?_)
    ·-- true
     replace h4 := of_decide_eq_true h4
     refine W_seq (W_region rfl ?_)
     refine stp (r_build (v := .agg #[.int .i64 0, .int .i64 0, .int .i64 0, .int .i64 0, .int .i64 0, .int .i64 0, .int .i64 0]) (fun w => by kernel_rfl) ?_)
     refine stp (r_move_int rfl ?_)
     refine stn (r_storeAll rfl rfl hc16 (by rfl) (by rfl) (by rfl) ?_)
     intro w65 hc66 u67
     replace hc4 := u67.heap hc4 ne19
     replace hc10 := u67.heap hc10 ne20
     replace hc39 := u67.heap hc39 ne45.symm
     replace hc57 := u67.heap hc57 ne63.symm
     replace G := G.upd u67 hge18
     clear u67 hc16
     refine stp (r_assign_int rfl ?_)
     refine WL_nil ?_
     refine W_ret ?_
     refine ret2 (res_all rfl hc66 (by rfl)) (res_tmp (v := .int .i64 (decE (s.word p.seg (p.off + 1)).1)) rfl) ⟨?_, G⟩
     have h9 : dblS s p = (Ob0, decE (s.word p.seg (p.off + 1)).1) := by unfold dblS; rw [if_neg h1, if_neg h2, if_neg h3, if_pos h4]
     rw [h9]; rfl
    ·-- false
     replace h4 := of_decide_eq_false h4
     refine W_skip ?_
     refine W_seq ?_
     refine W_seq (W_region rfl ?_)
     refine stp (r_fieldAddr rfl ?_)
     refine stp (r_load (v := .int .i64 ((decP (s.word p.seg p.off).1).kind)) rfl hc39 rfl ?_)
     refine stp (r_neq rfl rfl ?_)
     refine stp (r_move_bool rfl ?_)
     refine WL_some (og_if (s := .bool (decide (((decP (s.word p.seg p.off).1).kind) ≠ 3))) (b := false) (v := .pointer (some ⟨b33, 7, none⟩)) rfl (wgb_f _) (fun hc68 => ?_) ?_)
     ·
      have hc68_ := hc68
      try simp only [sb] at hc68_
      refine r_fieldAddr rfl ?_
      exact ⟨rfl, rfl⟩
     refine WL_some (og_if (s := .bool (decide (((decP (s.word p.seg p.off).1).kind) ≠ 3))) (b := false) (v := .bool ((decP (s.word p.seg p.off).1).dbl)) rfl (wgb_f _) (fun hc69 => ?_) ?_)
     ·
      have hc69_ := hc69
      try simp only [sb] at hc69_
      refine r_load (v := .bool ((decP (s.word p.seg p.off).1).dbl)) (gvt hc69) hc39 rfl ?_
      exact ⟨rfl, rfl⟩
     refine stp (r_or2 rfl rfl rfl ?_)
     refine stp (r_move_bool rfl ?_)
     refine WL_some (og_if (s := .bool ((decide (((decP (s.word p.seg p.off).1).kind) ≠ 3)) || ((decP (s.word p.seg p.off).1).dbl))) (b := false) (v := .agg #[.int .i64 ((decP (s.word p.seg (p.off + 1)).1).kind), .int .i64 ((decP (s.word p.seg (p.off + 1)).1).off), .int .i64 ((decP (s.word p.seg (p.off + 1)).1).data), .int .i64 ((decP (s.word p.seg (p.off + 1)).1).ptrs), .int .i64 ((decP (s.word p.seg (p.off + 1)).1).size), .int .i64 ((decP (s.word p.seg (p.off + 1)).1).count), .int .i64 ((decP (s.word p.seg (p.off + 1)).1).seg), .bool ((decP (s.word p.seg (p.off + 1)).1).dbl)]) rfl (wgb_f _) (fun hc70 => ?_) ?_)
     ·
      have hc70_ := hc70
      try simp only [sb] at hc70_
      refine r_loadAll rfl hc57 (by rfl) ?_
      exact ⟨rfl, rfl⟩
     refine WL_some (og_ifg (s := .bool ((decide (((decP (s.word p.seg p.off).1).kind) ≠ 3)) || ((decP (s.word p.seg p.off).1).dbl))) (b := false) (v := .bool (nearP (decP (s.word p.seg (p.off + 1)).1))) rfl (wgb_f _) (fun hc71 => ?_) ?_)
     ·
      have hc71_ := hc71
      try simp only [sb] at hc71_
      exact r_givesA (l := ([.agg #[.int .i64 ((decP (s.word p.seg (p.off + 1)).1).kind), .int .i64 ((decP (s.word p.seg (p.off + 1)).1).off), .int .i64 ((decP (s.word p.seg (p.off + 1)).1).data), .int .i64 ((decP (s.word p.seg (p.off + 1)).1).ptrs), .int .i64 ((decP (s.word p.seg (p.off + 1)).1).size), .int .i64 ((decP (s.word p.seg (p.off + 1)).1).count), .int .i64 ((decP (s.word p.seg (p.off + 1)).1).seg), .bool ((decP (s.word p.seg (p.off + 1)).1).dbl)]] : List Value)) rfl (by show ([gv (!((decide (((decP (s.word p.seg p.off).1).kind) ≠ 3)) || ((decP (s.word p.seg p.off).1).dbl))) (.agg #[.int .i64 ((decP (s.word p.seg (p.off + 1)).1).kind), .int .i64 ((decP (s.word p.seg (p.off + 1)).1).off), .int .i64 ((decP (s.word p.seg (p.off + 1)).1).data), .int .i64 ((decP (s.word p.seg (p.off + 1)).1).ptrs), .int .i64 ((decP (s.word p.seg (p.off + 1)).1).size), .int .i64 ((decP (s.word p.seg (p.off + 1)).1).count), .int .i64 ((decP (s.word p.seg (p.off + 1)).1).seg), .bool ((decP (s.word p.seg (p.off + 1)).1).dbl)])] : List Value) = _; rw [gvt hc71]) (r9near_calls _ (decP (s.word p.seg (p.off + 1)).1)) (fun w2_ g2_ => ⟨rfl, g2_⟩)
     intro w72 g73
     replace hc4 := g73.heap hc4
     replace hc10 := g73.heap hc10
     replace hc16 := g73.heap hc16
     replace hc39 := g73.heap hc39
     replace hc57 := g73.heap hc57
     replace G := G.tr g73
     clear g73
     refine WL_some (og_if (s := .bool ((decide (((decP (s.word p.seg p.off).1).kind) ≠ 3)) || ((decP (s.word p.seg p.off).1).dbl))) (b := false) (v := .bool (!(nearP (decP (s.word p.seg (p.off + 1)).1)))) rfl (wgb_f _) (fun hc74 => ?_) ?_)
     ·
      have hc74_ := hc74
      try simp only [sb] at hc74_
      refine r_not (gvt hc74) ?_
      exact ⟨rfl, rfl⟩
     refine stp (r_or2 rfl rfl rfl ?_)
     refine stp (r_move_bool rfl ?_)
     refine WL_some (og_if (s := .bool (((decide (((decP (s.word p.seg p.off).1).kind) ≠ 3)) || ((decP (s.word p.seg p.off).1).dbl)) || (!(nearP (decP (s.word p.seg (p.off + 1)).1))))) (b := false) (v := .pointer (some ⟨b51, 1, none⟩)) rfl (wgb_f _) (fun hc75 => ?_) ?_)
     ·
      have hc75_ := hc75
      try simp only [sb] at hc75_
      refine r_fieldAddr rfl ?_
      exact ⟨rfl, rfl⟩
     refine WL_some (og_if (s := .bool (((decide (((decP (s.word p.seg p.off).1).kind) ≠ 3)) || ((decP (s.word p.seg p.off).1).dbl)) || (!(nearP (decP (s.word p.seg (p.off + 1)).1))))) (b := false) (v := .int .i64 ((decP (s.word p.seg (p.off + 1)).1).off)) rfl (wgb_f _) (fun hc76 => ?_) ?_)
     ·
      have hc76_ := hc76
      try simp only [sb] at hc76_
      refine r_load (v := .int .i64 ((decP (s.word p.seg (p.off + 1)).1).off)) (gvt hc76) hc57 rfl ?_
      exact ⟨rfl, rfl⟩
     refine WL_some (og_if (s := .bool (((decide (((decP (s.word p.seg p.off).1).kind) ≠ 3)) || ((decP (s.word p.seg p.off).1).dbl)) || (!(nearP (decP (s.word p.seg (p.off + 1)).1))))) (b := false) (v := .bool (decide (((decP (s.word p.seg (p.off + 1)).1).off) ≠ 0))) rfl (wgb_f _) (fun hc77 => ?_) ?_)
     ·
      have hc77_ := hc77
      try simp only [sb] at hc77_
      refine r_neq (gvt hc77) rfl ?_
      exact ⟨rfl, rfl⟩
     refine stp (r_or2 rfl rfl rfl ?_)
     refine WL_nil ?_
     refine W_cond2 (b := ((((decide (((decP (s.word p.seg p.off).1).kind) ≠ 3)) || ((decP (s.word p.seg p.off).1).dbl)) || (!(nearP (decP (s.word p.seg (p.off + 1)).1)))) || (decide (((decP (s.word p.seg (p.off + 1)).1).off) ≠ 0)))) rfl (fun h5 => ?_) (fun h5 => ?_)
     ·-- true
      simp only [sb] at h5
      have h8 : (decP (s.word p.seg p.off).1).kind ≠ 3 ∨ (decP (s.word p.seg p.off).1).dbl = true ∨ nearP (decP (s.word p.seg (p.off + 1)).1) = false ∨ (decP (s.word p.seg (p.off + 1)).1).off ≠ 0 := by simpa [or_assoc] using h5
      refine W_seq (W_region rfl ?_)
      refine stp (r_build (v := .agg #[.int .i64 0, .int .i64 0, .int .i64 0, .int .i64 0, .int .i64 0, .int .i64 0, .int .i64 0]) (fun w => by kernel_rfl) ?_)
      refine stn (r_storeAll rfl rfl hc16 (by rfl) (by rfl) (by rfl) ?_)
      intro w78 hc79 u80
      replace hc4 := u80.heap hc4 ne19
      replace hc10 := u80.heap hc10 ne20
      replace hc39 := u80.heap hc39 ne45.symm
      replace hc57 := u80.heap hc57 ne63.symm
      replace G := G.upd u80 hge18
      clear u80 hc16
      refine stp (r_assign_int rfl ?_)
      refine WL_nil ?_
      refine W_ret ?_
      refine ret2 (res_all rfl hc79 (by rfl)) (res_tmp (v := .int .i64 23) rfl) ⟨?_, G⟩
      have h9 : dblS s p = (Ob0, 23) := by unfold dblS; rw [if_neg h1, if_neg h2, if_neg h3, if_neg h4, if_pos h8]
      rw [h9]; rfl
     ·-- false
      simp only [sb] at h5
      have h8 : ¬ ((decP (s.word p.seg p.off).1).kind ≠ 3 ∨ (decP (s.word p.seg p.off).1).dbl = true ∨ nearP (decP (s.word p.seg (p.off + 1)).1) = false ∨ (decP (s.word p.seg (p.off + 1)).1).off ≠ 0) := by simpa [and_assoc] using h5
      refine W_skip ?_
      refine W_seq (W_region rfl ?_)
      refine stp (r_loadAll rfl hc57 (by rfl) ?_)
      refine stp (r_fieldAddr rfl ?_)
      refine stp (r_load (v := .int .i64 ((decP (s.word p.seg p.off).1).seg)) rfl hc39 rfl ?_)
      refine stp (r_fieldAddr rfl ?_)
      refine stp (r_load (v := .int .i64 ((decP (s.word p.seg p.off).1).off)) rfl hc39 rfl ?_)
      refine stp (r_gives (v := .agg #[.int .i64 ((objP (decP (s.word p.seg (p.off + 1)).1) ((decP (s.word p.seg p.off).1).seg) ((decP (s.word p.seg p.off).1).off)).kind), .int .i64 ((objP (decP (s.word p.seg (p.off + 1)).1) ((decP (s.word p.seg p.off).1).seg) ((decP (s.word p.seg p.off).1).off)).seg), .int .i64 ((objP (decP (s.word p.seg (p.off + 1)).1) ((decP (s.word p.seg p.off).1).seg) ((decP (s.word p.seg p.off).1).off)).at_), .int .i64 ((objP (decP (s.word p.seg (p.off + 1)).1) ((decP (s.word p.seg p.off).1).seg) ((decP (s.word p.seg p.off).1).off)).data), .int .i64 ((objP (decP (s.word p.seg (p.off + 1)).1) ((decP (s.word p.seg p.off).1).seg) ((decP (s.word p.seg p.off).1).off)).ptrs), .int .i64 ((objP (decP (s.word p.seg (p.off + 1)).1) ((decP (s.word p.seg p.off).1).seg) ((decP (s.word p.seg p.off).1).off)).size), .int .i64 ((objP (decP (s.word p.seg (p.off + 1)).1) ((decP (s.word p.seg p.off).1).seg) ((decP (s.word p.seg p.off).1).off)).count)]) rfl (robj_calls _ (decP (s.word p.seg (p.off + 1)).1) ((decP (s.word p.seg p.off).1).seg) ((decP (s.word p.seg p.off).1).off)) ?_)
      intro w81 g82
      replace hc4 := g82.heap hc4
      replace hc10 := g82.heap hc10
      replace hc16 := g82.heap hc16
      replace hc39 := g82.heap hc39
      replace hc57 := g82.heap hc57
      replace G := G.tr g82
      clear g82
      refine stn (r_storeAll rfl rfl hc16 (by rfl) (by rfl) (by rfl) ?_)
      intro w83 hc84 u85
      replace hc4 := u85.heap hc4 ne19
      replace hc10 := u85.heap hc10 ne20
      replace hc39 := u85.heap hc39 ne45.symm
      replace hc57 := u85.heap hc57 ne63.symm
      replace G := G.upd u85 hge18
      clear u85 hc16
      refine stp (r_assign_int rfl ?_)
      refine WL_nil ?_
      refine W_ret ?_
      refine ret2 (res_all rfl hc84 (by rfl)) (res_tmp (v := .int .i64 0) rfl) ⟨?_, G⟩
      have h9 : dblS s p = (objP (decP (s.word p.seg (p.off + 1)).1) (decP (s.word p.seg p.off).1).seg (decP (s.word p.seg p.off).1).off, 0) := by unfold dblS; rw [if_neg h1, if_neg h2, if_neg h3, if_neg h4, if_neg h8]
      rw [h9]

set_option maxRecDepth 100000 in
theorem rfollow_calls (w : World) {ua uh : Value} {b : Bool} {A : List (List Int)} {s : Src} (H : SrcR Try.prog 82 w ua b uh A s) (seg a : Int) (g1 : inR .i64 seg) (g2 : inR .i64 a) : Gives Try.prog 72 #[.agg #[ua, .bool b, uh], .int .i64 seg, .int .i64 a] w (.tuple #[.agg #[.int .i64 ((followS s seg a).1.kind), .int .i64 ((followS s seg a).1.seg), .int .i64 ((followS s seg a).1.at_), .int .i64 ((followS s seg a).1.data), .int .i64 ((followS s seg a).1.ptrs), .int .i64 ((followS s seg a).1.size), .int .i64 ((followS s seg a).1.count)], .int .i64 ((followS s seg a).2)]) := by
 have g1' := g1
 have g2' := g2
 simp only [inR] at g1 g2
 have hq := H.ptr_range seg a
 have hqo := hq.off
 have hqs := hq.seg
 have hqf := hq.far
 have G := Grow.rfl' w
 refine gives_of Try.func72 Try.ntmps72 Try.results72 rfl rfl ?_
 refine W_seq (W_region rfl ?_)
 refine WL_some (og rfl ?_)
 (first | refine r_box_agg rfl ?_ | refine r_box_int rfl ?_ | refine r_box_slice rfl ?_ | refine r_box rfl rfl ?_)
 intro b1 w2 hb3 hc4 g5
 have hge6 := Nat.le_trans G.size hb3
 replace G := G.tr g5
 clear g5 hb3
 refine stp (r_alloc ?_)
 intro b7 w8 hb9 hc10 g11
 refine stp (r_assign_int rfl ?_)
 refine WL_nil ?_
 refine W_seq (W_region rfl ?_)
 have hge12 := Nat.le_trans G.size hb9
 have ne13 := Nat.ne_of_lt (Nat.lt_of_lt_of_le (lt_of_heap hc4) hb9)
 replace hc4 := g11.heap hc4
 replace G := G.tr g11
 clear g11 hb9
 refine stp (r_loadAll rfl hc4 (by rfl) ?_)
 refine stp (r_move_int rfl ?_)
 refine stp (r_move_int rfl ?_)
 refine stp (r_gives (v := .tuple #[.agg #[.int .i64 ((ptrS s seg a).1.kind), .int .i64 ((ptrS s seg a).1.off), .int .i64 ((ptrS s seg a).1.data), .int .i64 ((ptrS s seg a).1.ptrs), .int .i64 ((ptrS s seg a).1.size), .int .i64 ((ptrS s seg a).1.count), .int .i64 ((ptrS s seg a).1.seg), .bool ((ptrS s seg a).1.dbl)], .int .i64 ((ptrS s seg a).2)]) rfl (rptr_calls _ (H.grow G) seg a (by simp only [inR]; omega) (by simp only [inR]; omega)) ?_)
 intro w14 g15
 replace hc4 := g15.heap hc4
 replace hc10 := g15.heap hc10
 replace G := G.tr g15
 clear g15
 refine stp (r_move (v := .tuple #[.agg #[.int .i64 ((ptrS s seg a).1.kind), .int .i64 ((ptrS s seg a).1.off), .int .i64 ((ptrS s seg a).1.data), .int .i64 ((ptrS s seg a).1.ptrs), .int .i64 ((ptrS s seg a).1.size), .int .i64 ((ptrS s seg a).1.count), .int .i64 ((ptrS s seg a).1.seg), .bool ((ptrS s seg a).1.dbl)], .int .i64 ((ptrS s seg a).2)]) rfl ?_)
 refine stp (r_extract (v := .agg #[.int .i64 ((ptrS s seg a).1.kind), .int .i64 ((ptrS s seg a).1.off), .int .i64 ((ptrS s seg a).1.data), .int .i64 ((ptrS s seg a).1.ptrs), .int .i64 ((ptrS s seg a).1.size), .int .i64 ((ptrS s seg a).1.count), .int .i64 ((ptrS s seg a).1.seg), .bool ((ptrS s seg a).1.dbl)]) rfl rfl ?_)
 refine stp (r_extract (v := .int .i64 ((ptrS s seg a).2)) rfl rfl ?_)
 refine stp (r_alloc ?_)
 intro b16 w17 hb18 hc19 g20
 refine stn (r_storeAll rfl rfl hc19 (by rfl) (by rfl) (by rfl) ?_)
 intro w21 hc22 u23
 have g24 := g20.upd u23 hb18
 have hge25 := Nat.le_trans G.size hb18
 have ne26 := Nat.ne_of_lt (Nat.lt_of_lt_of_le (lt_of_heap hc4) hb18)
 have ne27 := Nat.ne_of_lt (Nat.lt_of_lt_of_le (lt_of_heap hc10) hb18)
 replace hc4 := g24.heap hc4
 replace hc10 := g24.heap hc10
 replace G := G.tr g24
 clear u23 g20 hb18 hc19
 refine stp (r_assign_int rfl ?_)
 refine WL_nil ?_
 refine W_seq ?_
 refine W_seq (W_region rfl ?_)
 refine stp (r_move_int rfl ?_)
 refine stp (r_neq rfl rfl ?_)
 refine stp (r_move_bool rfl ?_)
 refine WL_some (og_if (s := .bool (decide (((ptrS s seg a).2) ≠ 0))) (b := false) (v := .pointer (some ⟨b16, 0, none⟩)) rfl (wgb_f _) (fun hc28 => ?_) ?_)
 ·
  have hc28_ := hc28
  try simp only [sb] at hc28_
  refine r_fieldAddr rfl ?_
  exact ⟨rfl, rfl⟩
 refine WL_some (og_if (s := .bool (decide (((ptrS s seg a).2) ≠ 0))) (b := false) (v := .int .i64 ((ptrS s seg a).1.kind)) rfl (wgb_f _) (fun hc29 => ?_) ?_)
 ·
  have hc29_ := hc29
  try simp only [sb] at hc29_
  refine r_load (v := .int .i64 ((ptrS s seg a).1.kind)) (gvt hc29) hc22 rfl ?_
  exact ⟨rfl, rfl⟩
 refine WL_some (og_if (s := .bool (decide (((ptrS s seg a).2) ≠ 0))) (b := false) (v := .bool (decide (((ptrS s seg a).1.kind) = 0))) rfl (wgb_f _) (fun hc30 => ?_) ?_)
 ·
  have hc30_ := hc30
  try simp only [sb] at hc30_
  refine r_eql (gvt hc30) rfl ?_
  exact ⟨rfl, rfl⟩
 refine stp (r_or2 rfl rfl rfl ?_)
 refine WL_nil ?_
 refine W_cond2 (b := ((decide (((ptrS s seg a).2) ≠ 0)) || (decide (((ptrS s seg a).1.kind) = 0)))) rfl (fun h1 => ?_) (fun h1 => ?_)
 ·-- true
  simp only [sb] at h1
  refine W_seq (W_region rfl ?_)
  refine stp (r_build (v := .agg #[.int .i64 0, .int .i64 0, .int .i64 0, .int .i64 0, .int .i64 0, .int .i64 0, .int .i64 0]) (fun w => by kernel_rfl) ?_)
  refine stp (r_move_int rfl ?_)
  refine stn (r_storeAll rfl rfl hc10 (by rfl) (by rfl) (by rfl) ?_)
  intro w31 hc32 u33
  replace hc4 := u33.heap hc4 ne13
  replace hc22 := u33.heap hc22 ne27.symm
  replace G := G.upd u33 hge12
  clear u33 hc10
  refine stp (r_assign_int rfl ?_)
  refine WL_nil ?_
  refine W_ret ?_
  refine ret2 (res_all rfl hc32 (by rfl)) (res_tmp (v := .int .i64 ((ptrS s seg a).2)) rfl) ⟨?_, G⟩
  have h9 : followS s seg a = (Ob0, (ptrS s seg a).2) := by unfold followS; rw [if_pos h1]
  rw [h9]; rfl
 ·-- false
  simp only [sb] at h1
  have hz : (ptrS s seg a).2 = 0 := by omega
  have hb := H.ptr_at hz
  have h1n : ¬ ((ptrS s seg a).2 ≠ 0 ∨ (ptrS s seg a).1.kind = 0) := by omega
  refine W_skip ?_
  refine W_seq ?_
  refine W_seq (W_region rfl ?_)
  refine stp (r_loadAll rfl hc22 (by rfl) ?_)
  refine stp (r_gives (v := .bool (nearP ((ptrS s seg a).1))) rfl (r9near_calls _ ((ptrS s seg a).1)) ?_)
  intro w34 g35
  replace hc4 := g35.heap hc4
  replace hc10 := g35.heap hc10
  replace hc22 := g35.heap hc22
  replace G := G.tr g35
  clear g35
  refine WL_nil ?_
  refine W_cond2 (b := (nearP ((ptrS s seg a).1))) rfl (fun h2 => ?_) (fun h2 => ?_)
  ·-- true
   have hsz36 : w34.heap.size ≤ w34.heap.size := Nat.le_refl _
   have ltf36_hc4 := lt_of_heap hc4
   have ltf36_hc10 := lt_of_heap hc10
   have ltf36_hc22 := lt_of_heap hc22
   have hgz36 := G.size
   refine W_seq ?_
   have kb_hc4 : ∀ w_, (ktR 120 w34.heap.size).r w34 w_ → w_.heap[b1]? = some (.cells #[ua, .bool b, uh] 98 (0, 0)) := fun w_ k_ => (KtP.to_grow k_ (Grow.rfl' _)).heap hc4
   have kb_hc10 : ∀ w_, (ktR 120 w34.heap.size).r w34 w_ → w_.heap[b7]? = some (.cells #[.int .i64 0, .int .i64 0, .int .i64 0, .int .i64 0, .int .i64 0, .int .i64 0, .int .i64 0] 120 (0, 0)) := fun w_ k_ => (KtP.to_grow k_ (Grow.rfl' _)).heap hc10
   have kb_hc22 : ∀ w_, (ktR 120 w34.heap.size).r w34 w_ → w_.heap[b16]? = some (.cells #[.int .i64 ((ptrS s seg a).1.kind), .int .i64 ((ptrS s seg a).1.off), .int .i64 ((ptrS s seg a).1.data), .int .i64 ((ptrS s seg a).1.ptrs), .int .i64 ((ptrS s seg a).1.size), .int .i64 ((ptrS s seg a).1.count), .int .i64 ((ptrS s seg a).1.seg), .bool ((ptrS s seg a).1.dbl)] 67 (0, 0)) := fun w_ k_ => (KtP.to_grow k_ (Grow.rfl' _)).heap hc22
   have kb_hsz36 : ∀ w_, (ktR 120 w34.heap.size).r w34 w_ → w34.heap.size ≤ w_.heap.size := fun w_ k_ => Nat.le_trans hsz36 (KtP.to_grow k_ (Grow.rfl' _)).size
   have kb_G : ∀ w_, (ktR 120 w34.heap.size).r w34 w_ → Grow w w_ := fun w_ k_ => G.tr (KtP.to_grow k_ (Grow.rfl' _))
   refine W_anyU 15 [[], [], [], [], [0], [], [0], [3, 2, 1, 0], [6, 5, 4, 3, 2, 1, 0], [8, 7, 6, 5, 4, 3, 2, 1, 0], [9, 8, 7, 6, 5, 4, 3, 2, 1, 0], [10, 9, 8, 7, 6, 5, 4, 3, 2, 1, 0], [11, 10, 9, 8, 7, 6, 5, 4, 3, 2, 1], [], [13, 12, 11, 10, 9, 8, 7, 6, 5, 4, 3, 2, 0]] [14] [10] (grQ (ktR 120 w34.heap.size)) (fun k_ e_ w_ => match k_ with | 0 => True | _ => ∃ b : Nat, e_ 10 = .pointer (some ⟨b, 0, none⟩) ∧ w34.heap.size ≤ b ∧ w_.heap[b]? = some (.cells #[.int .i64 ((bndS s (objP (ptrS s seg a).1 seg (a + 1 + (ptrS s seg a).1.off))).1.kind), .int .i64 ((bndS s (objP (ptrS s seg a).1 seg (a + 1 + (ptrS s seg a).1.off))).1.seg), .int .i64 ((bndS s (objP (ptrS s seg a).1 seg (a + 1 + (ptrS s seg a).1.off))).1.at_), .int .i64 ((bndS s (objP (ptrS s seg a).1 seg (a + 1 + (ptrS s seg a).1.off))).1.data), .int .i64 ((bndS s (objP (ptrS s seg a).1 seg (a + 1 + (ptrS s seg a).1.off))).1.ptrs), .int .i64 ((bndS s (objP (ptrS s seg a).1 seg (a + 1 + (ptrS s seg a).1.off))).1.size), .int .i64 ((bndS s (objP (ptrS s seg a).1 seg (a + 1 + (ptrS s seg a).1.off))).1.count)] 120 (0, 0))) mixed (by kernel_rfl) (by kernel_rfl) (by kernel_rfl) (by kernel_rfl) (by kernel_rfl) (fun k_ _ _ _ g_ h_ => match k_, h_ with | 0, _ => trivial | _ + 1, ⟨b_, h1_, h2_, h3_⟩ => ⟨b_, h1_, h2_, g_.heap h3_⟩) (fun k_ _ _ _ hu_ h_ => match k_, h_ with | 0, _ => trivial | _ + 1, ⟨b_, h1_, h2_, h3_⟩ => ⟨b_, (hu_ _ (by simp)).symm.trans h1_, h2_, h3_⟩) (fun _ _ _ h_ => h_) (fun _ _ => trivial) ?_
   intro w37 g38
   replace kb_hc4 : ∀ w_, (ktR 120 w34.heap.size).r w37 w_ → w_.heap[b1]? = some (.cells #[ua, .bool b, uh] 98 (0, 0)) := fun w_ k_ => kb_hc4 w_ ((ktR 120 w34.heap.size).tr ((ktR 120 w34.heap.size).grow g38) k_)
   replace kb_hc10 : ∀ w_, (ktR 120 w34.heap.size).r w37 w_ → w_.heap[b7]? = some (.cells #[.int .i64 0, .int .i64 0, .int .i64 0, .int .i64 0, .int .i64 0, .int .i64 0, .int .i64 0] 120 (0, 0)) := fun w_ k_ => kb_hc10 w_ ((ktR 120 w34.heap.size).tr ((ktR 120 w34.heap.size).grow g38) k_)
   replace kb_hc22 : ∀ w_, (ktR 120 w34.heap.size).r w37 w_ → w_.heap[b16]? = some (.cells #[.int .i64 ((ptrS s seg a).1.kind), .int .i64 ((ptrS s seg a).1.off), .int .i64 ((ptrS s seg a).1.data), .int .i64 ((ptrS s seg a).1.ptrs), .int .i64 ((ptrS s seg a).1.size), .int .i64 ((ptrS s seg a).1.count), .int .i64 ((ptrS s seg a).1.seg), .bool ((ptrS s seg a).1.dbl)] 67 (0, 0)) := fun w_ k_ => kb_hc22 w_ ((ktR 120 w34.heap.size).tr ((ktR 120 w34.heap.size).grow g38) k_)
   replace kb_hsz36 : ∀ w_, (ktR 120 w34.heap.size).r w37 w_ → w34.heap.size ≤ w_.heap.size := fun w_ k_ => kb_hsz36 w_ ((ktR 120 w34.heap.size).tr ((ktR 120 w34.heap.size).grow g38) k_)
   replace kb_G : ∀ w_, (ktR 120 w34.heap.size).r w37 w_ → Grow w w_ := fun w_ k_ => kb_G w_ ((ktR 120 w34.heap.size).tr ((ktR 120 w34.heap.size).grow g38) k_)
   have k0_ : (ktR 120 w34.heap.size).r w34 w37 := ((ktR 120 w34.heap.size).grow g38)
   apply AOU_ex (hm := by rfl)
   ·intro w_ g_; refine og rfl ?_; refine r_loadAll rfl (kb_hc4 _ g_) (by rfl) ?_; exact ⟨Grow.rfl' _, rfl⟩
   apply AOU_ex (hm := by rfl)
   ·intro w_ g_; refine og rfl ?_; refine r_loadAll rfl (kb_hc22 _ g_) (by rfl) ?_; exact ⟨Grow.rfl' _, rfl⟩
   apply AOU_ex (hm := by rfl)
   ·intro w_ g_; refine og rfl ?_; refine r_move_int rfl ?_; exact ⟨Grow.rfl' _, rfl⟩
   apply AOU_ex (hm := by rfl)
   ·intro w_ g_; refine og rfl ?_; refine r_move_int rfl ?_; exact ⟨Grow.rfl' _, rfl⟩
   apply AOU_ex (hm := by rfl)
   ·intro w_ g_; refine og rfl ?_; refine r_add rfl rfl ?_ ?_; constructor <;> omega; exact ⟨Grow.rfl' _, rfl⟩
   apply AOU_ex (hm := by rfl)
   ·intro w_ g_; refine og rfl ?_; refine r_fieldAddr rfl ?_; exact ⟨Grow.rfl' _, rfl⟩
   apply AOU_ex (hm := by rfl)
   ·intro w_ g_; refine og rfl ?_; refine r_load (v := .int .i64 ((ptrS s seg a).1.off)) rfl (kb_hc22 _ g_) rfl ?_; exact ⟨Grow.rfl' _, rfl⟩
   apply AOU_ex (hm := by rfl)
   ·intro w_ g_; refine og rfl ?_; refine r_add rfl rfl ?_ ?_; constructor <;> omega; exact ⟨Grow.rfl' _, rfl⟩
   apply AOU_ex (hm := by rfl)
   ·intro w_ g_; refine og rfl ?_; exact r_gives (v := .agg #[.int .i64 ((objP ((ptrS s seg a).1) seg ((a + 1) + ((ptrS s seg a).1.off))).kind), .int .i64 ((objP ((ptrS s seg a).1) seg ((a + 1) + ((ptrS s seg a).1.off))).seg), .int .i64 ((objP ((ptrS s seg a).1) seg ((a + 1) + ((ptrS s seg a).1.off))).at_), .int .i64 ((objP ((ptrS s seg a).1) seg ((a + 1) + ((ptrS s seg a).1.off))).data), .int .i64 ((objP ((ptrS s seg a).1) seg ((a + 1) + ((ptrS s seg a).1.off))).ptrs), .int .i64 ((objP ((ptrS s seg a).1) seg ((a + 1) + ((ptrS s seg a).1.off))).size), .int .i64 ((objP ((ptrS s seg a).1) seg ((a + 1) + ((ptrS s seg a).1.off))).count)]) rfl (robj_calls _ ((ptrS s seg a).1) seg ((a + 1) + ((ptrS s seg a).1.off))) (fun w2_ g2_ => ⟨g2_, rfl⟩)
   apply AOU_ex (hm := by rfl)
   ·intro w_ g_; refine og rfl ?_; exact r_gives (v := .tuple #[.agg #[.int .i64 ((bndS s (objP ((ptrS s seg a).1) seg ((a + 1) + ((ptrS s seg a).1.off)))).1.kind), .int .i64 ((bndS s (objP ((ptrS s seg a).1) seg ((a + 1) + ((ptrS s seg a).1.off)))).1.seg), .int .i64 ((bndS s (objP ((ptrS s seg a).1) seg ((a + 1) + ((ptrS s seg a).1.off)))).1.at_), .int .i64 ((bndS s (objP ((ptrS s seg a).1) seg ((a + 1) + ((ptrS s seg a).1.off)))).1.data), .int .i64 ((bndS s (objP ((ptrS s seg a).1) seg ((a + 1) + ((ptrS s seg a).1.off)))).1.ptrs), .int .i64 ((bndS s (objP ((ptrS s seg a).1) seg ((a + 1) + ((ptrS s seg a).1.off)))).1.size), .int .i64 ((bndS s (objP ((ptrS s seg a).1) seg ((a + 1) + ((ptrS s seg a).1.off)))).1.count)], .int .i64 ((bndS s (objP ((ptrS s seg a).1) seg ((a + 1) + ((ptrS s seg a).1.off)))).2)]) rfl (rbounds_calls _ (H.grow (kb_G _ g_)) (objP ((ptrS s seg a).1) seg ((a + 1) + ((ptrS s seg a).1.off))) (objP_W hq g1' (by simp only [inR]; omega))) (fun w2_ g2_ => ⟨g2_, rfl⟩)
   apply AOU_ex (hm := by rfl)
   ·intro w_ g_; refine og rfl ?_; refine r_move (v := .tuple #[.agg #[.int .i64 ((bndS s (objP ((ptrS s seg a).1) seg ((a + 1) + ((ptrS s seg a).1.off)))).1.kind), .int .i64 ((bndS s (objP ((ptrS s seg a).1) seg ((a + 1) + ((ptrS s seg a).1.off)))).1.seg), .int .i64 ((bndS s (objP ((ptrS s seg a).1) seg ((a + 1) + ((ptrS s seg a).1.off)))).1.at_), .int .i64 ((bndS s (objP ((ptrS s seg a).1) seg ((a + 1) + ((ptrS s seg a).1.off)))).1.data), .int .i64 ((bndS s (objP ((ptrS s seg a).1) seg ((a + 1) + ((ptrS s seg a).1.off)))).1.ptrs), .int .i64 ((bndS s (objP ((ptrS s seg a).1) seg ((a + 1) + ((ptrS s seg a).1.off)))).1.size), .int .i64 ((bndS s (objP ((ptrS s seg a).1) seg ((a + 1) + ((ptrS s seg a).1.off)))).1.count)], .int .i64 ((bndS s (objP ((ptrS s seg a).1) seg ((a + 1) + ((ptrS s seg a).1.off)))).2)]) rfl ?_; exact ⟨Grow.rfl' _, rfl⟩
   apply AOU_ex (hm := by rfl)
   ·intro w_ g_; refine og rfl ?_; refine r_extract (v := .agg #[.int .i64 ((bndS s (objP ((ptrS s seg a).1) seg ((a + 1) + ((ptrS s seg a).1.off)))).1.kind), .int .i64 ((bndS s (objP ((ptrS s seg a).1) seg ((a + 1) + ((ptrS s seg a).1.off)))).1.seg), .int .i64 ((bndS s (objP ((ptrS s seg a).1) seg ((a + 1) + ((ptrS s seg a).1.off)))).1.at_), .int .i64 ((bndS s (objP ((ptrS s seg a).1) seg ((a + 1) + ((ptrS s seg a).1.off)))).1.data), .int .i64 ((bndS s (objP ((ptrS s seg a).1) seg ((a + 1) + ((ptrS s seg a).1.off)))).1.ptrs), .int .i64 ((bndS s (objP ((ptrS s seg a).1) seg ((a + 1) + ((ptrS s seg a).1.off)))).1.size), .int .i64 ((bndS s (objP ((ptrS s seg a).1) seg ((a + 1) + ((ptrS s seg a).1.off)))).1.count)]) rfl rfl ?_; exact ⟨Grow.rfl' _, rfl⟩
   apply AOU_ex (hm := by rfl)
   ·intro w_ g_; refine og rfl ?_; refine r_extract (v := .int .i64 ((bndS s (objP ((ptrS s seg a).1) seg ((a + 1) + ((ptrS s seg a).1.off)))).2)) rfl rfl ?_; exact ⟨Grow.rfl' _, rfl⟩
   refine AOU_so (fun w_ v_ => ∃ b cs, v_ = .pointer (some ⟨b, 0, none⟩) ∧ w34.heap.size ≤ b ∧ cs.size = 7 ∧ w_.heap[b]? = some (.cells cs 120 (0, 0))) (fun _ _ _ g_ ⟨b, cs, h1_, h2_, h3_, h4_⟩ => by obtain ⟨cs2, h5_, h6_⟩ := KtP.new g_ b cs h4_; exact ⟨b, cs2, h1_, h2_, h5_.trans h3_, h6_⟩) (by rfl) ?_ ?_
   ·intro w_ g_
    refine og rfl ?_
    refine r_alloc ?_
    intro b_ w2_ hb_ hc_ g2_
    exact ⟨g2_, b_, _, rfl, Nat.le_trans (kb_hsz36 _ g_) hb_, rfl, hc_⟩
   apply AOU_mut 0 (hm := by rfl)
   ·intro w_ g_
    intro v13_ hv13_
    intro s_
    show OpG _ _ _ _ _ _
    refine og rfl ?_
    obtain ⟨b_, cs_, rfl, hge_, hsz_, hb_⟩ := hv13_
    refine r_storeAll rfl rfl hb_ (by rfl) hsz_ (by rfl) ?_
    intro w2_ s2_ u_
    exact ⟨KtP.of_upd u_ hge_ hb_ s2_ hsz_.symm, ⟨b_, rfl, hge_, s2_⟩, rfl⟩
   refine AOU_nil ?_
   intro w39 g40
   replace k0_ := ((ktR 120 w34.heap.size).tr k0_ g40)
   replace hc4 := kb_hc4 _ g40
   clear kb_hc4
   replace hc10 := kb_hc10 _ g40
   clear kb_hc10
   replace hc22 := kb_hc22 _ g40
   clear kb_hc22
   replace hsz36 := kb_hsz36 _ g40
   clear kb_hsz36
   replace G := kb_G _ g40
   clear kb_G
   intro v_x36 hv_x36
   rintro ⟨bx36, hbe36, hge36, hc36⟩
   have hbv36 : v_x36 = .pointer (some ⟨bx36, 0, none⟩) := hbe36
   subst hbv36
   clear hv_x36 hbe36
   have hgx36 := Nat.le_trans hgz36 hge36
   refine stp (r_assign_int rfl ?_)
   refine WL_nil ?_
   refine W_seq (W_region rfl ?_)
   refine stp (r_loadAll rfl hc36 (by rfl) ?_)
   refine stp (r_move_int rfl ?_)
   refine stn (r_storeAll rfl rfl hc10 (by rfl) (by rfl) (by rfl) ?_)
   intro w41 hc42 u43
   replace hc4 := u43.heap hc4 ne13
   replace hc22 := u43.heap hc22 ne27.symm
   replace hc36 := u43.heap hc36 (Nat.ne_of_lt (Nat.lt_of_lt_of_le ltf36_hc10 hge36)).symm
   replace G := G.upd u43 hge12
   clear u43 hc10
   refine stp (r_assign_int rfl ?_)
   refine WL_nil ?_
   refine W_ret ?_
   refine ret2 (res_all rfl hc42 (by rfl)) (res_tmp (v := .int .i64 ((bndS s (objP ((ptrS s seg a).1) seg ((a + 1) + ((ptrS s seg a).1.off)))).2)) rfl) ⟨?_, G⟩
   have h9 : followS s seg a = bndS s (objP (ptrS s seg a).1 seg (a + 1 + (ptrS s seg a).1.off)) := by unfold followS; rw [if_neg h1n, if_pos h2, found_bnd]
   rw [h9]
  ·-- false
   refine W_skip ?_
   refine W_seq ?_
   refine W_seq (W_region rfl ?_)
   refine stp (r_fieldAddr rfl ?_)
   refine stp (r_load (v := .bool ((ptrS s seg a).1.dbl)) rfl hc22 rfl ?_)
   refine WL_nil ?_
   refine W_cond2 (b := ((ptrS s seg a).1.dbl)) rfl (fun h3 => ?_) (fun h3 => ?_)
   ·-- true
    refine W_seq (W_region rfl ?_)
    refine stp (r_loadAll rfl hc4 (by rfl) ?_)
    refine stp (r_loadAll rfl hc22 (by rfl) ?_)
    refine stp (r_gives (v := .tuple #[.agg #[.int .i64 ((dblS s (ptrS s seg a).1).1.kind), .int .i64 ((dblS s (ptrS s seg a).1).1.seg), .int .i64 ((dblS s (ptrS s seg a).1).1.at_), .int .i64 ((dblS s (ptrS s seg a).1).1.data), .int .i64 ((dblS s (ptrS s seg a).1).1.ptrs), .int .i64 ((dblS s (ptrS s seg a).1).1.size), .int .i64 ((dblS s (ptrS s seg a).1).1.count)], .int .i64 ((dblS s (ptrS s seg a).1).2)]) rfl (rdouble_calls _ (H.grow G) (ptrS s seg a).1 hq) ?_)
    intro w44 g45
    replace hc4 := g45.heap hc4
    replace hc10 := g45.heap hc10
    replace hc22 := g45.heap hc22
    replace G := G.tr g45
    clear g45
    refine stp (r_move (v := .tuple #[.agg #[.int .i64 ((dblS s (ptrS s seg a).1).1.kind), .int .i64 ((dblS s (ptrS s seg a).1).1.seg), .int .i64 ((dblS s (ptrS s seg a).1).1.at_), .int .i64 ((dblS s (ptrS s seg a).1).1.data), .int .i64 ((dblS s (ptrS s seg a).1).1.ptrs), .int .i64 ((dblS s (ptrS s seg a).1).1.size), .int .i64 ((dblS s (ptrS s seg a).1).1.count)], .int .i64 ((dblS s (ptrS s seg a).1).2)]) rfl ?_)
    refine stp (r_extract (v := .agg #[.int .i64 ((dblS s (ptrS s seg a).1).1.kind), .int .i64 ((dblS s (ptrS s seg a).1).1.seg), .int .i64 ((dblS s (ptrS s seg a).1).1.at_), .int .i64 ((dblS s (ptrS s seg a).1).1.data), .int .i64 ((dblS s (ptrS s seg a).1).1.ptrs), .int .i64 ((dblS s (ptrS s seg a).1).1.size), .int .i64 ((dblS s (ptrS s seg a).1).1.count)]) rfl rfl ?_)
    refine stp (r_extract (v := .int .i64 ((dblS s (ptrS s seg a).1).2)) rfl rfl ?_)
    refine stp (r_alloc ?_)
    intro b46 w47 hb48 hc49 g50
    refine stn (r_storeAll rfl rfl hc49 (by rfl) (by rfl) (by rfl) ?_)
    intro w51 hc52 u53
    have g54 := g50.upd u53 hb48
    have hge55 := Nat.le_trans G.size hb48
    have ne56 := Nat.ne_of_lt (Nat.lt_of_lt_of_le (lt_of_heap hc4) hb48)
    have ne57 := Nat.ne_of_lt (Nat.lt_of_lt_of_le (lt_of_heap hc10) hb48)
    have ne58 := Nat.ne_of_lt (Nat.lt_of_lt_of_le (lt_of_heap hc22) hb48)
    replace hc4 := g54.heap hc4
    replace hc10 := g54.heap hc10
    replace hc22 := g54.heap hc22
    replace G := G.tr g54
    clear u53 g50 hb48 hc49
    refine stp (r_assign_int rfl ?_)
    refine WL_nil ?_
    refine W_seq ?_
    refine W_seq (W_region rfl ?_)
    refine stp (r_move_int rfl ?_)
    refine stp (r_neq rfl rfl ?_)
    refine WL_nil ?_
    refine W_cond2 (b := (decide (((dblS s (ptrS s seg a).1).2) ≠ 0))) rfl (fun h4 => ?_) (fun h4 => ?_)
    ·-- true
     replace h4 := of_decide_eq_true h4
     refine W_seq (W_region rfl ?_)
     refine stp (r_build (v := .agg #[.int .i64 0, .int .i64 0, .int .i64 0, .int .i64 0, .int .i64 0, .int .i64 0, .int .i64 0]) (fun w => by kernel_rfl) ?_)
     refine stp (r_move_int rfl ?_)
     refine stn (r_storeAll rfl rfl hc10 (by rfl) (by rfl) (by rfl) ?_)
     intro w59 hc60 u61
     replace hc4 := u61.heap hc4 ne13
     replace hc22 := u61.heap hc22 ne27.symm
     replace hc52 := u61.heap hc52 ne57.symm
     replace G := G.upd u61 hge12
     clear u61 hc10
     refine stp (r_assign_int rfl ?_)
     refine WL_nil ?_
     refine W_ret ?_
     refine ret2 (res_all rfl hc60 (by rfl)) (res_tmp (v := .int .i64 ((dblS s (ptrS s seg a).1).2)) rfl) ⟨?_, G⟩
     have h9 : followS s seg a = (Ob0, (dblS s (ptrS s seg a).1).2) := by unfold followS; rw [if_neg h1n, if_neg (by simp [h2]), if_pos h3, twice_dbl, if_pos h4]
     rw [h9]; rfl
    ·-- false
     replace h4 := of_decide_eq_false h4
     refine W_skip ?_
     refine W_seq (W_region rfl ?_)
     refine stp (r_loadAll rfl hc4 (by rfl) ?_)
     refine stp (r_loadAll rfl hc52 (by rfl) ?_)
     refine stp (r_gives (v := .tuple #[.agg #[.int .i64 ((bndS s (dblS s (ptrS s seg a).1).1).1.kind), .int .i64 ((bndS s (dblS s (ptrS s seg a).1).1).1.seg), .int .i64 ((bndS s (dblS s (ptrS s seg a).1).1).1.at_), .int .i64 ((bndS s (dblS s (ptrS s seg a).1).1).1.data), .int .i64 ((bndS s (dblS s (ptrS s seg a).1).1).1.ptrs), .int .i64 ((bndS s (dblS s (ptrS s seg a).1).1).1.size), .int .i64 ((bndS s (dblS s (ptrS s seg a).1).1).1.count)], .int .i64 ((bndS s (dblS s (ptrS s seg a).1).1).2)]) rfl (rbounds_calls _ (H.grow G) (dblS s (ptrS s seg a).1).1 (H.dbl_W (ptrS s seg a).1)) ?_)
     intro w62 g63
     replace hc4 := g63.heap hc4
     replace hc10 := g63.heap hc10
     replace hc22 := g63.heap hc22
     replace hc52 := g63.heap hc52
     replace G := G.tr g63
     clear g63
     refine stp (r_move (v := .tuple #[.agg #[.int .i64 ((bndS s (dblS s (ptrS s seg a).1).1).1.kind), .int .i64 ((bndS s (dblS s (ptrS s seg a).1).1).1.seg), .int .i64 ((bndS s (dblS s (ptrS s seg a).1).1).1.at_), .int .i64 ((bndS s (dblS s (ptrS s seg a).1).1).1.data), .int .i64 ((bndS s (dblS s (ptrS s seg a).1).1).1.ptrs), .int .i64 ((bndS s (dblS s (ptrS s seg a).1).1).1.size), .int .i64 ((bndS s (dblS s (ptrS s seg a).1).1).1.count)], .int .i64 ((bndS s (dblS s (ptrS s seg a).1).1).2)]) rfl ?_)
     refine stp (r_extract (v := .agg #[.int .i64 ((bndS s (dblS s (ptrS s seg a).1).1).1.kind), .int .i64 ((bndS s (dblS s (ptrS s seg a).1).1).1.seg), .int .i64 ((bndS s (dblS s (ptrS s seg a).1).1).1.at_), .int .i64 ((bndS s (dblS s (ptrS s seg a).1).1).1.data), .int .i64 ((bndS s (dblS s (ptrS s seg a).1).1).1.ptrs), .int .i64 ((bndS s (dblS s (ptrS s seg a).1).1).1.size), .int .i64 ((bndS s (dblS s (ptrS s seg a).1).1).1.count)]) rfl rfl ?_)
     refine stp (r_extract (v := .int .i64 ((bndS s (dblS s (ptrS s seg a).1).1).2)) rfl rfl ?_)
     refine stp (r_alloc ?_)
     intro b64 w65 hb66 hc67 g68
     refine stn (r_storeAll rfl rfl hc67 (by rfl) (by rfl) (by rfl) ?_)
     intro w69 hc70 u71
     have g72 := g68.upd u71 hb66
     have hge73 := Nat.le_trans G.size hb66
     have ne74 := Nat.ne_of_lt (Nat.lt_of_lt_of_le (lt_of_heap hc4) hb66)
     have ne75 := Nat.ne_of_lt (Nat.lt_of_lt_of_le (lt_of_heap hc10) hb66)
     have ne76 := Nat.ne_of_lt (Nat.lt_of_lt_of_le (lt_of_heap hc22) hb66)
     have ne77 := Nat.ne_of_lt (Nat.lt_of_lt_of_le (lt_of_heap hc52) hb66)
     replace hc4 := g72.heap hc4
     replace hc10 := g72.heap hc10
     replace hc22 := g72.heap hc22
     replace hc52 := g72.heap hc52
     replace G := G.tr g72
     clear u71 g68 hb66 hc67
     refine stp (r_assign_int rfl ?_)
     refine WL_nil ?_
     refine W_seq (W_region rfl ?_)
     refine stp (r_loadAll rfl hc70 (by rfl) ?_)
     refine stp (r_move_int rfl ?_)
     refine stn (r_storeAll rfl rfl hc10 (by rfl) (by rfl) (by rfl) ?_)
     intro w78 hc79 u80
     replace hc4 := u80.heap hc4 ne13
     replace hc22 := u80.heap hc22 ne27.symm
     replace hc52 := u80.heap hc52 ne57.symm
     replace hc70 := u80.heap hc70 ne75.symm
     replace G := G.upd u80 hge12
     clear u80 hc10
     refine stp (r_assign_int rfl ?_)
     refine WL_nil ?_
     refine W_ret ?_
     refine ret2 (res_all rfl hc79 (by rfl)) (res_tmp (v := .int .i64 ((bndS s (dblS s (ptrS s seg a).1).1).2)) rfl) ⟨?_, G⟩
     have h9 : followS s seg a = bndS s (dblS s (ptrS s seg a).1).1 := by unfold followS; rw [if_neg h1n, if_neg (by simp [h2]), if_pos h3, twice_dbl, if_neg h4]
     rw [h9]
   ·-- false
    have hq2 := H.ptr_range (ptrS s seg a).1.seg (ptrS s seg a).1.off
    have hqo2 := hq2.off
    refine W_skip ?_
    refine W_seq (W_region rfl ?_)
    refine stp (r_loadAll rfl hc4 (by rfl) ?_)
    refine stp (r_fieldAddr rfl ?_)
    refine stp (r_load (v := .int .i64 ((ptrS s seg a).1.seg)) rfl hc22 rfl ?_)
    refine stp (r_fieldAddr rfl ?_)
    refine stp (r_load (v := .int .i64 ((ptrS s seg a).1.off)) rfl hc22 rfl ?_)
    refine stp (r_gives (v := .tuple #[.agg #[.int .i64 ((ptrS s ((ptrS s seg a).1.seg) ((ptrS s seg a).1.off)).1.kind), .int .i64 ((ptrS s ((ptrS s seg a).1.seg) ((ptrS s seg a).1.off)).1.off), .int .i64 ((ptrS s ((ptrS s seg a).1.seg) ((ptrS s seg a).1.off)).1.data), .int .i64 ((ptrS s ((ptrS s seg a).1.seg) ((ptrS s seg a).1.off)).1.ptrs), .int .i64 ((ptrS s ((ptrS s seg a).1.seg) ((ptrS s seg a).1.off)).1.size), .int .i64 ((ptrS s ((ptrS s seg a).1.seg) ((ptrS s seg a).1.off)).1.count), .int .i64 ((ptrS s ((ptrS s seg a).1.seg) ((ptrS s seg a).1.off)).1.seg), .bool ((ptrS s ((ptrS s seg a).1.seg) ((ptrS s seg a).1.off)).1.dbl)], .int .i64 ((ptrS s ((ptrS s seg a).1.seg) ((ptrS s seg a).1.off)).2)]) rfl (rptr_calls _ (H.grow G) ((ptrS s seg a).1.seg) ((ptrS s seg a).1.off) (by simp only [inR]; omega) (by simp only [inR]; omega)) ?_)
    intro w81 g82
    replace hc4 := g82.heap hc4
    replace hc10 := g82.heap hc10
    replace hc22 := g82.heap hc22
    replace G := G.tr g82
    clear g82
    refine stp (r_move (v := .tuple #[.agg #[.int .i64 ((ptrS s ((ptrS s seg a).1.seg) ((ptrS s seg a).1.off)).1.kind), .int .i64 ((ptrS s ((ptrS s seg a).1.seg) ((ptrS s seg a).1.off)).1.off), .int .i64 ((ptrS s ((ptrS s seg a).1.seg) ((ptrS s seg a).1.off)).1.data), .int .i64 ((ptrS s ((ptrS s seg a).1.seg) ((ptrS s seg a).1.off)).1.ptrs), .int .i64 ((ptrS s ((ptrS s seg a).1.seg) ((ptrS s seg a).1.off)).1.size), .int .i64 ((ptrS s ((ptrS s seg a).1.seg) ((ptrS s seg a).1.off)).1.count), .int .i64 ((ptrS s ((ptrS s seg a).1.seg) ((ptrS s seg a).1.off)).1.seg), .bool ((ptrS s ((ptrS s seg a).1.seg) ((ptrS s seg a).1.off)).1.dbl)], .int .i64 ((ptrS s ((ptrS s seg a).1.seg) ((ptrS s seg a).1.off)).2)]) rfl ?_)
    refine stp (r_extract (v := .agg #[.int .i64 ((ptrS s ((ptrS s seg a).1.seg) ((ptrS s seg a).1.off)).1.kind), .int .i64 ((ptrS s ((ptrS s seg a).1.seg) ((ptrS s seg a).1.off)).1.off), .int .i64 ((ptrS s ((ptrS s seg a).1.seg) ((ptrS s seg a).1.off)).1.data), .int .i64 ((ptrS s ((ptrS s seg a).1.seg) ((ptrS s seg a).1.off)).1.ptrs), .int .i64 ((ptrS s ((ptrS s seg a).1.seg) ((ptrS s seg a).1.off)).1.size), .int .i64 ((ptrS s ((ptrS s seg a).1.seg) ((ptrS s seg a).1.off)).1.count), .int .i64 ((ptrS s ((ptrS s seg a).1.seg) ((ptrS s seg a).1.off)).1.seg), .bool ((ptrS s ((ptrS s seg a).1.seg) ((ptrS s seg a).1.off)).1.dbl)]) rfl rfl ?_)
    refine stp (r_extract (v := .int .i64 ((ptrS s ((ptrS s seg a).1.seg) ((ptrS s seg a).1.off)).2)) rfl rfl ?_)
    refine stp (r_alloc ?_)
    intro b83 w84 hb85 hc86 g87
    refine stn (r_storeAll rfl rfl hc86 (by rfl) (by rfl) (by rfl) ?_)
    intro w88 hc89 u90
    have g91 := g87.upd u90 hb85
    have hge92 := Nat.le_trans G.size hb85
    have ne93 := Nat.ne_of_lt (Nat.lt_of_lt_of_le (lt_of_heap hc4) hb85)
    have ne94 := Nat.ne_of_lt (Nat.lt_of_lt_of_le (lt_of_heap hc10) hb85)
    have ne95 := Nat.ne_of_lt (Nat.lt_of_lt_of_le (lt_of_heap hc22) hb85)
    replace hc4 := g91.heap hc4
    replace hc10 := g91.heap hc10
    replace hc22 := g91.heap hc22
    replace G := G.tr g91
    clear u90 g87 hb85 hc86
    refine stp (r_assign_int rfl ?_)
    refine WL_nil ?_
    refine W_seq ?_
    refine W_seq (W_region rfl ?_)
    refine stp (r_move_int rfl ?_)
    refine stp (r_neq rfl rfl ?_)
    refine WL_nil ?_
    refine W_cond2 (b := (decide (((ptrS s ((ptrS s seg a).1.seg) ((ptrS s seg a).1.off)).2) ≠ 0))) rfl (fun h4 => ?_) (fun h4 => ?_)
    ·-- true
     replace h4 := of_decide_eq_true h4
     refine W_seq (W_region rfl ?_)
     refine stp (r_build (v := .agg #[.int .i64 0, .int .i64 0, .int .i64 0, .int .i64 0, .int .i64 0, .int .i64 0, .int .i64 0]) (fun w => by kernel_rfl) ?_)
     refine stp (r_move_int rfl ?_)
     refine stn (r_storeAll rfl rfl hc10 (by rfl) (by rfl) (by rfl) ?_)
     intro w96 hc97 u98
     replace hc4 := u98.heap hc4 ne13
     replace hc22 := u98.heap hc22 ne27.symm
     replace hc89 := u98.heap hc89 ne94.symm
     replace G := G.upd u98 hge12
     clear u98 hc10
     refine stp (r_assign_int rfl ?_)
     refine WL_nil ?_
     refine W_ret ?_
     refine ret2 (res_all rfl hc97 (by rfl)) (res_tmp (v := .int .i64 ((ptrS s ((ptrS s seg a).1.seg) ((ptrS s seg a).1.off)).2)) rfl) ⟨?_, G⟩
     have h9 : followS s seg a = (Ob0, (ptrS s (ptrS s seg a).1.seg (ptrS s seg a).1.off).2) := by unfold followS; rw [if_neg h1n, if_neg (by simp [h2]), if_neg (by simp [h3])]; unfold landedS; rw [if_pos h4]
     rw [h9]; rfl
    ·-- false
     replace h4 := of_decide_eq_false h4
     refine W_skip ?_
     refine W_seq ?_
     refine W_seq (W_region rfl ?_)
     refine stp (r_loadAll rfl hc89 (by rfl) ?_)
     refine stp (r_gives (v := .bool (nearP ((ptrS s ((ptrS s seg a).1.seg) ((ptrS s seg a).1.off)).1))) rfl (r9near_calls _ ((ptrS s ((ptrS s seg a).1.seg) ((ptrS s seg a).1.off)).1)) ?_)
     intro w99 g100
     replace hc4 := g100.heap hc4
     replace hc10 := g100.heap hc10
     replace hc22 := g100.heap hc22
     replace hc89 := g100.heap hc89
     replace G := G.tr g100
     clear g100
     refine stp (r_not rfl ?_)
     refine WL_nil ?_
     refine W_cond2 (b := (!(nearP ((ptrS s ((ptrS s seg a).1.seg) ((ptrS s seg a).1.off)).1)))) rfl (fun h5 => ?_) (fun h5 => ?_)
     ·-- true
      simp only [sb] at h5
      refine W_seq (W_region rfl ?_)
      refine stp (r_build (v := .agg #[.int .i64 0, .int .i64 0, .int .i64 0, .int .i64 0, .int .i64 0, .int .i64 0, .int .i64 0]) (fun w => by kernel_rfl) ?_)
      refine stn (r_storeAll rfl rfl hc10 (by rfl) (by rfl) (by rfl) ?_)
      intro w101 hc102 u103
      replace hc4 := u103.heap hc4 ne13
      replace hc22 := u103.heap hc22 ne27.symm
      replace hc89 := u103.heap hc89 ne94.symm
      replace G := G.upd u103 hge12
      clear u103 hc10
      refine stp (r_assign_int rfl ?_)
      refine WL_nil ?_
      refine W_ret ?_
      refine ret2 (res_all rfl hc102 (by rfl)) (res_tmp (v := .int .i64 23) rfl) ⟨?_, G⟩
      have h9 : followS s seg a = (Ob0, 23) := by unfold followS; rw [if_neg h1n, if_neg (by simp [h2]), if_neg (by simp [h3])]; unfold landedS; rw [if_neg h4, if_pos (by simpa using h5)]
      rw [h9]; rfl
     ·-- false
      simp only [sb] at h5
      refine W_skip ?_
      have hsz104 : w99.heap.size ≤ w99.heap.size := Nat.le_refl _
      have ltf104_hc4 := lt_of_heap hc4
      have ltf104_hc10 := lt_of_heap hc10
      have ltf104_hc22 := lt_of_heap hc22
      have ltf104_hc89 := lt_of_heap hc89
      have hgz104 := G.size
      refine W_seq ?_
      have kb_hc4 : ∀ w_, (ktR 120 w99.heap.size).r w99 w_ → w_.heap[b1]? = some (.cells #[ua, .bool b, uh] 98 (0, 0)) := fun w_ k_ => (KtP.to_grow k_ (Grow.rfl' _)).heap hc4
      have kb_hc10 : ∀ w_, (ktR 120 w99.heap.size).r w99 w_ → w_.heap[b7]? = some (.cells #[.int .i64 0, .int .i64 0, .int .i64 0, .int .i64 0, .int .i64 0, .int .i64 0, .int .i64 0] 120 (0, 0)) := fun w_ k_ => (KtP.to_grow k_ (Grow.rfl' _)).heap hc10
      have kb_hc22 : ∀ w_, (ktR 120 w99.heap.size).r w99 w_ → w_.heap[b16]? = some (.cells #[.int .i64 ((ptrS s seg a).1.kind), .int .i64 ((ptrS s seg a).1.off), .int .i64 ((ptrS s seg a).1.data), .int .i64 ((ptrS s seg a).1.ptrs), .int .i64 ((ptrS s seg a).1.size), .int .i64 ((ptrS s seg a).1.count), .int .i64 ((ptrS s seg a).1.seg), .bool ((ptrS s seg a).1.dbl)] 67 (0, 0)) := fun w_ k_ => (KtP.to_grow k_ (Grow.rfl' _)).heap hc22
      have kb_hc89 : ∀ w_, (ktR 120 w99.heap.size).r w99 w_ → w_.heap[b83]? = some (.cells #[.int .i64 ((ptrS s ((ptrS s seg a).1.seg) ((ptrS s seg a).1.off)).1.kind), .int .i64 ((ptrS s ((ptrS s seg a).1.seg) ((ptrS s seg a).1.off)).1.off), .int .i64 ((ptrS s ((ptrS s seg a).1.seg) ((ptrS s seg a).1.off)).1.data), .int .i64 ((ptrS s ((ptrS s seg a).1.seg) ((ptrS s seg a).1.off)).1.ptrs), .int .i64 ((ptrS s ((ptrS s seg a).1.seg) ((ptrS s seg a).1.off)).1.size), .int .i64 ((ptrS s ((ptrS s seg a).1.seg) ((ptrS s seg a).1.off)).1.count), .int .i64 ((ptrS s ((ptrS s seg a).1.seg) ((ptrS s seg a).1.off)).1.seg), .bool ((ptrS s ((ptrS s seg a).1.seg) ((ptrS s seg a).1.off)).1.dbl)] 67 (0, 0)) := fun w_ k_ => (KtP.to_grow k_ (Grow.rfl' _)).heap hc89
      have kb_hsz104 : ∀ w_, (ktR 120 w99.heap.size).r w99 w_ → w99.heap.size ≤ w_.heap.size := fun w_ k_ => Nat.le_trans hsz104 (KtP.to_grow k_ (Grow.rfl' _)).size
      have kb_G : ∀ w_, (ktR 120 w99.heap.size).r w99 w_ → Grow w w_ := fun w_ k_ => G.tr (KtP.to_grow k_ (Grow.rfl' _))
      refine W_anyU 17 [[], [], [], [0], [], [0], [1, 0], [], [0], [4, 3, 2, 1, 0], [8, 7, 6, 5, 4, 3, 2, 1, 0], [10, 9, 8, 7, 6, 5, 4, 3, 2, 1, 0], [11, 10, 9, 8, 7, 6, 5, 4, 3, 2, 1, 0], [12, 11, 10, 9, 8, 7, 6, 5, 4, 3, 2, 1, 0], [13, 12, 11, 10, 9, 8, 7, 6, 5, 4, 3, 2, 1], [], [15, 14, 13, 12, 11, 10, 9, 8, 7, 6, 5, 4, 3, 2, 0]] [16] [18] (grQ (ktR 120 w99.heap.size)) (fun k_ e_ w_ => match k_ with | 0 => True | _ => ∃ b : Nat, e_ 18 = .pointer (some ⟨b, 0, none⟩) ∧ w99.heap.size ≤ b ∧ w_.heap[b]? = some (.cells #[.int .i64 ((bndS s (objP (ptrS s (ptrS s seg a).1.seg (ptrS s seg a).1.off).1 (ptrS s seg a).1.seg ((ptrS s seg a).1.off + 1 + (ptrS s (ptrS s seg a).1.seg (ptrS s seg a).1.off).1.off))).1.kind), .int .i64 ((bndS s (objP (ptrS s (ptrS s seg a).1.seg (ptrS s seg a).1.off).1 (ptrS s seg a).1.seg ((ptrS s seg a).1.off + 1 + (ptrS s (ptrS s seg a).1.seg (ptrS s seg a).1.off).1.off))).1.seg), .int .i64 ((bndS s (objP (ptrS s (ptrS s seg a).1.seg (ptrS s seg a).1.off).1 (ptrS s seg a).1.seg ((ptrS s seg a).1.off + 1 + (ptrS s (ptrS s seg a).1.seg (ptrS s seg a).1.off).1.off))).1.at_), .int .i64 ((bndS s (objP (ptrS s (ptrS s seg a).1.seg (ptrS s seg a).1.off).1 (ptrS s seg a).1.seg ((ptrS s seg a).1.off + 1 + (ptrS s (ptrS s seg a).1.seg (ptrS s seg a).1.off).1.off))).1.data), .int .i64 ((bndS s (objP (ptrS s (ptrS s seg a).1.seg (ptrS s seg a).1.off).1 (ptrS s seg a).1.seg ((ptrS s seg a).1.off + 1 + (ptrS s (ptrS s seg a).1.seg (ptrS s seg a).1.off).1.off))).1.ptrs), .int .i64 ((bndS s (objP (ptrS s (ptrS s seg a).1.seg (ptrS s seg a).1.off).1 (ptrS s seg a).1.seg ((ptrS s seg a).1.off + 1 + (ptrS s (ptrS s seg a).1.seg (ptrS s seg a).1.off).1.off))).1.size), .int .i64 ((bndS s (objP (ptrS s (ptrS s seg a).1.seg (ptrS s seg a).1.off).1 (ptrS s seg a).1.seg ((ptrS s seg a).1.off + 1 + (ptrS s (ptrS s seg a).1.seg (ptrS s seg a).1.off).1.off))).1.count)] 120 (0, 0))) mixed (by kernel_rfl) (by kernel_rfl) (by kernel_rfl) (by kernel_rfl) (by kernel_rfl) (fun k_ _ _ _ g_ h_ => match k_, h_ with | 0, _ => trivial | _ + 1, ⟨b_, h1_, h2_, h3_⟩ => ⟨b_, h1_, h2_, g_.heap h3_⟩) (fun k_ _ _ _ hu_ h_ => match k_, h_ with | 0, _ => trivial | _ + 1, ⟨b_, h1_, h2_, h3_⟩ => ⟨b_, (hu_ _ (by simp)).symm.trans h1_, h2_, h3_⟩) (fun _ _ _ h_ => h_) (fun _ _ => trivial) ?_
      intro w105 g106
      replace kb_hc4 : ∀ w_, (ktR 120 w99.heap.size).r w105 w_ → w_.heap[b1]? = some (.cells #[ua, .bool b, uh] 98 (0, 0)) := fun w_ k_ => kb_hc4 w_ ((ktR 120 w99.heap.size).tr ((ktR 120 w99.heap.size).grow g106) k_)
      replace kb_hc10 : ∀ w_, (ktR 120 w99.heap.size).r w105 w_ → w_.heap[b7]? = some (.cells #[.int .i64 0, .int .i64 0, .int .i64 0, .int .i64 0, .int .i64 0, .int .i64 0, .int .i64 0] 120 (0, 0)) := fun w_ k_ => kb_hc10 w_ ((ktR 120 w99.heap.size).tr ((ktR 120 w99.heap.size).grow g106) k_)
      replace kb_hc22 : ∀ w_, (ktR 120 w99.heap.size).r w105 w_ → w_.heap[b16]? = some (.cells #[.int .i64 ((ptrS s seg a).1.kind), .int .i64 ((ptrS s seg a).1.off), .int .i64 ((ptrS s seg a).1.data), .int .i64 ((ptrS s seg a).1.ptrs), .int .i64 ((ptrS s seg a).1.size), .int .i64 ((ptrS s seg a).1.count), .int .i64 ((ptrS s seg a).1.seg), .bool ((ptrS s seg a).1.dbl)] 67 (0, 0)) := fun w_ k_ => kb_hc22 w_ ((ktR 120 w99.heap.size).tr ((ktR 120 w99.heap.size).grow g106) k_)
      replace kb_hc89 : ∀ w_, (ktR 120 w99.heap.size).r w105 w_ → w_.heap[b83]? = some (.cells #[.int .i64 ((ptrS s ((ptrS s seg a).1.seg) ((ptrS s seg a).1.off)).1.kind), .int .i64 ((ptrS s ((ptrS s seg a).1.seg) ((ptrS s seg a).1.off)).1.off), .int .i64 ((ptrS s ((ptrS s seg a).1.seg) ((ptrS s seg a).1.off)).1.data), .int .i64 ((ptrS s ((ptrS s seg a).1.seg) ((ptrS s seg a).1.off)).1.ptrs), .int .i64 ((ptrS s ((ptrS s seg a).1.seg) ((ptrS s seg a).1.off)).1.size), .int .i64 ((ptrS s ((ptrS s seg a).1.seg) ((ptrS s seg a).1.off)).1.count), .int .i64 ((ptrS s ((ptrS s seg a).1.seg) ((ptrS s seg a).1.off)).1.seg), .bool ((ptrS s ((ptrS s seg a).1.seg) ((ptrS s seg a).1.off)).1.dbl)] 67 (0, 0)) := fun w_ k_ => kb_hc89 w_ ((ktR 120 w99.heap.size).tr ((ktR 120 w99.heap.size).grow g106) k_)
      replace kb_hsz104 : ∀ w_, (ktR 120 w99.heap.size).r w105 w_ → w99.heap.size ≤ w_.heap.size := fun w_ k_ => kb_hsz104 w_ ((ktR 120 w99.heap.size).tr ((ktR 120 w99.heap.size).grow g106) k_)
      replace kb_G : ∀ w_, (ktR 120 w99.heap.size).r w105 w_ → Grow w w_ := fun w_ k_ => kb_G w_ ((ktR 120 w99.heap.size).tr ((ktR 120 w99.heap.size).grow g106) k_)
      have k0_ : (ktR 120 w99.heap.size).r w99 w105 := ((ktR 120 w99.heap.size).grow g106)
      apply AOU_ex (hm := by rfl)
      ·intro w_ g_; refine og rfl ?_; refine r_loadAll rfl (kb_hc4 _ g_) (by rfl) ?_; exact ⟨Grow.rfl' _, rfl⟩
      apply AOU_ex (hm := by rfl)
      ·intro w_ g_; refine og rfl ?_; refine r_loadAll rfl (kb_hc89 _ g_) (by rfl) ?_; exact ⟨Grow.rfl' _, rfl⟩
      apply AOU_ex (hm := by rfl)
      ·intro w_ g_; refine og rfl ?_; refine r_fieldAddr rfl ?_; exact ⟨Grow.rfl' _, rfl⟩
      apply AOU_ex (hm := by rfl)
      ·intro w_ g_; refine og rfl ?_; refine r_load (v := .int .i64 ((ptrS s seg a).1.seg)) rfl (kb_hc22 _ g_) rfl ?_; exact ⟨Grow.rfl' _, rfl⟩
      apply AOU_ex (hm := by rfl)
      ·intro w_ g_; refine og rfl ?_; refine r_fieldAddr rfl ?_; exact ⟨Grow.rfl' _, rfl⟩
      apply AOU_ex (hm := by rfl)
      ·intro w_ g_; refine og rfl ?_; refine r_load (v := .int .i64 ((ptrS s seg a).1.off)) rfl (kb_hc22 _ g_) rfl ?_; exact ⟨Grow.rfl' _, rfl⟩
      apply AOU_ex (hm := by rfl)
      ·intro w_ g_; refine og rfl ?_; refine r_add rfl rfl ?_ ?_; constructor <;> omega; exact ⟨Grow.rfl' _, rfl⟩
      apply AOU_ex (hm := by rfl)
      ·intro w_ g_; refine og rfl ?_; refine r_fieldAddr rfl ?_; exact ⟨Grow.rfl' _, rfl⟩
      apply AOU_ex (hm := by rfl)
      ·intro w_ g_; refine og rfl ?_; refine r_load (v := .int .i64 ((ptrS s ((ptrS s seg a).1.seg) ((ptrS s seg a).1.off)).1.off)) rfl (kb_hc89 _ g_) rfl ?_; exact ⟨Grow.rfl' _, rfl⟩
      apply AOU_ex (hm := by rfl)
      ·intro w_ g_; refine og rfl ?_; refine r_add rfl rfl ?_ ?_; constructor <;> omega; exact ⟨Grow.rfl' _, rfl⟩
      apply AOU_ex (hm := by rfl)
      ·intro w_ g_; refine og rfl ?_; exact r_gives (v := .agg #[.int .i64 ((objP ((ptrS s ((ptrS s seg a).1.seg) ((ptrS s seg a).1.off)).1) ((ptrS s seg a).1.seg) ((((ptrS s seg a).1.off) + 1) + ((ptrS s ((ptrS s seg a).1.seg) ((ptrS s seg a).1.off)).1.off))).kind), .int .i64 ((objP ((ptrS s ((ptrS s seg a).1.seg) ((ptrS s seg a).1.off)).1) ((ptrS s seg a).1.seg) ((((ptrS s seg a).1.off) + 1) + ((ptrS s ((ptrS s seg a).1.seg) ((ptrS s seg a).1.off)).1.off))).seg), .int .i64 ((objP ((ptrS s ((ptrS s seg a).1.seg) ((ptrS s seg a).1.off)).1) ((ptrS s seg a).1.seg) ((((ptrS s seg a).1.off) + 1) + ((ptrS s ((ptrS s seg a).1.seg) ((ptrS s seg a).1.off)).1.off))).at_), .int .i64 ((objP ((ptrS s ((ptrS s seg a).1.seg) ((ptrS s seg a).1.off)).1) ((ptrS s seg a).1.seg) ((((ptrS s seg a).1.off) + 1) + ((ptrS s ((ptrS s seg a).1.seg) ((ptrS s seg a).1.off)).1.off))).data), .int .i64 ((objP ((ptrS s ((ptrS s seg a).1.seg) ((ptrS s seg a).1.off)).1) ((ptrS s seg a).1.seg) ((((ptrS s seg a).1.off) + 1) + ((ptrS s ((ptrS s seg a).1.seg) ((ptrS s seg a).1.off)).1.off))).ptrs), .int .i64 ((objP ((ptrS s ((ptrS s seg a).1.seg) ((ptrS s seg a).1.off)).1) ((ptrS s seg a).1.seg) ((((ptrS s seg a).1.off) + 1) + ((ptrS s ((ptrS s seg a).1.seg) ((ptrS s seg a).1.off)).1.off))).size), .int .i64 ((objP ((ptrS s ((ptrS s seg a).1.seg) ((ptrS s seg a).1.off)).1) ((ptrS s seg a).1.seg) ((((ptrS s seg a).1.off) + 1) + ((ptrS s ((ptrS s seg a).1.seg) ((ptrS s seg a).1.off)).1.off))).count)]) rfl (robj_calls _ ((ptrS s ((ptrS s seg a).1.seg) ((ptrS s seg a).1.off)).1) ((ptrS s seg a).1.seg) ((((ptrS s seg a).1.off) + 1) + ((ptrS s ((ptrS s seg a).1.seg) ((ptrS s seg a).1.off)).1.off))) (fun w2_ g2_ => ⟨g2_, rfl⟩)
      apply AOU_ex (hm := by rfl)
      ·intro w_ g_; refine og rfl ?_; exact r_gives (v := .tuple #[.agg #[.int .i64 ((bndS s (objP ((ptrS s ((ptrS s seg a).1.seg) ((ptrS s seg a).1.off)).1) ((ptrS s seg a).1.seg) ((((ptrS s seg a).1.off) + 1) + ((ptrS s ((ptrS s seg a).1.seg) ((ptrS s seg a).1.off)).1.off)))).1.kind), .int .i64 ((bndS s (objP ((ptrS s ((ptrS s seg a).1.seg) ((ptrS s seg a).1.off)).1) ((ptrS s seg a).1.seg) ((((ptrS s seg a).1.off) + 1) + ((ptrS s ((ptrS s seg a).1.seg) ((ptrS s seg a).1.off)).1.off)))).1.seg), .int .i64 ((bndS s (objP ((ptrS s ((ptrS s seg a).1.seg) ((ptrS s seg a).1.off)).1) ((ptrS s seg a).1.seg) ((((ptrS s seg a).1.off) + 1) + ((ptrS s ((ptrS s seg a).1.seg) ((ptrS s seg a).1.off)).1.off)))).1.at_), .int .i64 ((bndS s (objP ((ptrS s ((ptrS s seg a).1.seg) ((ptrS s seg a).1.off)).1) ((ptrS s seg a).1.seg) ((((ptrS s seg a).1.off) + 1) + ((ptrS s ((ptrS s seg a).1.seg) ((ptrS s seg a).1.off)).1.off)))).1.data), .int .i64 ((bndS s (objP ((ptrS s ((ptrS s seg a).1.seg) ((ptrS s seg a).1.off)).1) ((ptrS s seg a).1.seg) ((((ptrS s seg a).1.off) + 1) + ((ptrS s ((ptrS s seg a).1.seg) ((ptrS s seg a).1.off)).1.off)))).1.ptrs), .int .i64 ((bndS s (objP ((ptrS s ((ptrS s seg a).1.seg) ((ptrS s seg a).1.off)).1) ((ptrS s seg a).1.seg) ((((ptrS s seg a).1.off) + 1) + ((ptrS s ((ptrS s seg a).1.seg) ((ptrS s seg a).1.off)).1.off)))).1.size), .int .i64 ((bndS s (objP ((ptrS s ((ptrS s seg a).1.seg) ((ptrS s seg a).1.off)).1) ((ptrS s seg a).1.seg) ((((ptrS s seg a).1.off) + 1) + ((ptrS s ((ptrS s seg a).1.seg) ((ptrS s seg a).1.off)).1.off)))).1.count)], .int .i64 ((bndS s (objP ((ptrS s ((ptrS s seg a).1.seg) ((ptrS s seg a).1.off)).1) ((ptrS s seg a).1.seg) ((((ptrS s seg a).1.off) + 1) + ((ptrS s ((ptrS s seg a).1.seg) ((ptrS s seg a).1.off)).1.off)))).2)]) rfl (rbounds_calls _ (H.grow (kb_G _ g_)) (objP ((ptrS s ((ptrS s seg a).1.seg) ((ptrS s seg a).1.off)).1) ((ptrS s seg a).1.seg) ((((ptrS s seg a).1.off) + 1) + ((ptrS s ((ptrS s seg a).1.seg) ((ptrS s seg a).1.off)).1.off))) (objP_W hq2 (by simp only [inR]; omega) (by simp only [inR]; omega))) (fun w2_ g2_ => ⟨g2_, rfl⟩)
      apply AOU_ex (hm := by rfl)
      ·intro w_ g_; refine og rfl ?_; refine r_move (v := .tuple #[.agg #[.int .i64 ((bndS s (objP ((ptrS s ((ptrS s seg a).1.seg) ((ptrS s seg a).1.off)).1) ((ptrS s seg a).1.seg) ((((ptrS s seg a).1.off) + 1) + ((ptrS s ((ptrS s seg a).1.seg) ((ptrS s seg a).1.off)).1.off)))).1.kind), .int .i64 ((bndS s (objP ((ptrS s ((ptrS s seg a).1.seg) ((ptrS s seg a).1.off)).1) ((ptrS s seg a).1.seg) ((((ptrS s seg a).1.off) + 1) + ((ptrS s ((ptrS s seg a).1.seg) ((ptrS s seg a).1.off)).1.off)))).1.seg), .int .i64 ((bndS s (objP ((ptrS s ((ptrS s seg a).1.seg) ((ptrS s seg a).1.off)).1) ((ptrS s seg a).1.seg) ((((ptrS s seg a).1.off) + 1) + ((ptrS s ((ptrS s seg a).1.seg) ((ptrS s seg a).1.off)).1.off)))).1.at_), .int .i64 ((bndS s (objP ((ptrS s ((ptrS s seg a).1.seg) ((ptrS s seg a).1.off)).1) ((ptrS s seg a).1.seg) ((((ptrS s seg a).1.off) + 1) + ((ptrS s ((ptrS s seg a).1.seg) ((ptrS s seg a).1.off)).1.off)))).1.data), .int .i64 ((bndS s (objP ((ptrS s ((ptrS s seg a).1.seg) ((ptrS s seg a).1.off)).1) ((ptrS s seg a).1.seg) ((((ptrS s seg a).1.off) + 1) + ((ptrS s ((ptrS s seg a).1.seg) ((ptrS s seg a).1.off)).1.off)))).1.ptrs), .int .i64 ((bndS s (objP ((ptrS s ((ptrS s seg a).1.seg) ((ptrS s seg a).1.off)).1) ((ptrS s seg a).1.seg) ((((ptrS s seg a).1.off) + 1) + ((ptrS s ((ptrS s seg a).1.seg) ((ptrS s seg a).1.off)).1.off)))).1.size), .int .i64 ((bndS s (objP ((ptrS s ((ptrS s seg a).1.seg) ((ptrS s seg a).1.off)).1) ((ptrS s seg a).1.seg) ((((ptrS s seg a).1.off) + 1) + ((ptrS s ((ptrS s seg a).1.seg) ((ptrS s seg a).1.off)).1.off)))).1.count)], .int .i64 ((bndS s (objP ((ptrS s ((ptrS s seg a).1.seg) ((ptrS s seg a).1.off)).1) ((ptrS s seg a).1.seg) ((((ptrS s seg a).1.off) + 1) + ((ptrS s ((ptrS s seg a).1.seg) ((ptrS s seg a).1.off)).1.off)))).2)]) rfl ?_; exact ⟨Grow.rfl' _, rfl⟩
      apply AOU_ex (hm := by rfl)
      ·intro w_ g_; refine og rfl ?_; refine r_extract (v := .agg #[.int .i64 ((bndS s (objP ((ptrS s ((ptrS s seg a).1.seg) ((ptrS s seg a).1.off)).1) ((ptrS s seg a).1.seg) ((((ptrS s seg a).1.off) + 1) + ((ptrS s ((ptrS s seg a).1.seg) ((ptrS s seg a).1.off)).1.off)))).1.kind), .int .i64 ((bndS s (objP ((ptrS s ((ptrS s seg a).1.seg) ((ptrS s seg a).1.off)).1) ((ptrS s seg a).1.seg) ((((ptrS s seg a).1.off) + 1) + ((ptrS s ((ptrS s seg a).1.seg) ((ptrS s seg a).1.off)).1.off)))).1.seg), .int .i64 ((bndS s (objP ((ptrS s ((ptrS s seg a).1.seg) ((ptrS s seg a).1.off)).1) ((ptrS s seg a).1.seg) ((((ptrS s seg a).1.off) + 1) + ((ptrS s ((ptrS s seg a).1.seg) ((ptrS s seg a).1.off)).1.off)))).1.at_), .int .i64 ((bndS s (objP ((ptrS s ((ptrS s seg a).1.seg) ((ptrS s seg a).1.off)).1) ((ptrS s seg a).1.seg) ((((ptrS s seg a).1.off) + 1) + ((ptrS s ((ptrS s seg a).1.seg) ((ptrS s seg a).1.off)).1.off)))).1.data), .int .i64 ((bndS s (objP ((ptrS s ((ptrS s seg a).1.seg) ((ptrS s seg a).1.off)).1) ((ptrS s seg a).1.seg) ((((ptrS s seg a).1.off) + 1) + ((ptrS s ((ptrS s seg a).1.seg) ((ptrS s seg a).1.off)).1.off)))).1.ptrs), .int .i64 ((bndS s (objP ((ptrS s ((ptrS s seg a).1.seg) ((ptrS s seg a).1.off)).1) ((ptrS s seg a).1.seg) ((((ptrS s seg a).1.off) + 1) + ((ptrS s ((ptrS s seg a).1.seg) ((ptrS s seg a).1.off)).1.off)))).1.size), .int .i64 ((bndS s (objP ((ptrS s ((ptrS s seg a).1.seg) ((ptrS s seg a).1.off)).1) ((ptrS s seg a).1.seg) ((((ptrS s seg a).1.off) + 1) + ((ptrS s ((ptrS s seg a).1.seg) ((ptrS s seg a).1.off)).1.off)))).1.count)]) rfl rfl ?_; exact ⟨Grow.rfl' _, rfl⟩
      apply AOU_ex (hm := by rfl)
      ·intro w_ g_; refine og rfl ?_; refine r_extract (v := .int .i64 ((bndS s (objP ((ptrS s ((ptrS s seg a).1.seg) ((ptrS s seg a).1.off)).1) ((ptrS s seg a).1.seg) ((((ptrS s seg a).1.off) + 1) + ((ptrS s ((ptrS s seg a).1.seg) ((ptrS s seg a).1.off)).1.off)))).2)) rfl rfl ?_; exact ⟨Grow.rfl' _, rfl⟩
      refine AOU_so (fun w_ v_ => ∃ b cs, v_ = .pointer (some ⟨b, 0, none⟩) ∧ w99.heap.size ≤ b ∧ cs.size = 7 ∧ w_.heap[b]? = some (.cells cs 120 (0, 0))) (fun _ _ _ g_ ⟨b, cs, h1_, h2_, h3_, h4_⟩ => by obtain ⟨cs2, h5_, h6_⟩ := KtP.new g_ b cs h4_; exact ⟨b, cs2, h1_, h2_, h5_.trans h3_, h6_⟩) (by rfl) ?_ ?_
      ·intro w_ g_
       refine og rfl ?_
       refine r_alloc ?_
       intro b_ w2_ hb_ hc_ g2_
       exact ⟨g2_, b_, _, rfl, Nat.le_trans (kb_hsz104 _ g_) hb_, rfl, hc_⟩
      apply AOU_mut 0 (hm := by rfl)
      ·intro w_ g_
       intro v15_ hv15_
       intro s_
       show OpG _ _ _ _ _ _
       refine og rfl ?_
       obtain ⟨b_, cs_, rfl, hge_, hsz_, hb_⟩ := hv15_
       refine r_storeAll rfl rfl hb_ (by rfl) hsz_ (by rfl) ?_
       intro w2_ s2_ u_
       exact ⟨KtP.of_upd u_ hge_ hb_ s2_ hsz_.symm, ⟨b_, rfl, hge_, s2_⟩, rfl⟩
      refine AOU_nil ?_
      intro w107 g108
      replace k0_ := ((ktR 120 w99.heap.size).tr k0_ g108)
      replace hc4 := kb_hc4 _ g108
      clear kb_hc4
      replace hc10 := kb_hc10 _ g108
      clear kb_hc10
      replace hc22 := kb_hc22 _ g108
      clear kb_hc22
      replace hc89 := kb_hc89 _ g108
      clear kb_hc89
      replace hsz104 := kb_hsz104 _ g108
      clear kb_hsz104
      replace G := kb_G _ g108
      clear kb_G
      intro v_x104 hv_x104
      rintro ⟨bx104, hbe104, hge104, hc104⟩
      have hbv104 : v_x104 = .pointer (some ⟨bx104, 0, none⟩) := hbe104
      subst hbv104
      clear hv_x104 hbe104
      have hgx104 := Nat.le_trans hgz104 hge104
      refine stp (r_assign_int rfl ?_)
      refine WL_nil ?_
      refine W_seq (W_region rfl ?_)
      refine stp (r_loadAll rfl hc104 (by rfl) ?_)
      refine stp (r_move_int rfl ?_)
      refine stn (r_storeAll rfl rfl hc10 (by rfl) (by rfl) (by rfl) ?_)
      intro w109 hc110 u111
      replace hc4 := u111.heap hc4 ne13
      replace hc22 := u111.heap hc22 ne27.symm
      replace hc89 := u111.heap hc89 ne94.symm
      replace hc104 := u111.heap hc104 (Nat.ne_of_lt (Nat.lt_of_lt_of_le ltf104_hc10 hge104)).symm
      replace G := G.upd u111 hge12
      clear u111 hc10
      refine stp (r_assign_int rfl ?_)
      refine WL_nil ?_
      refine W_ret ?_
      refine ret2 (res_all rfl hc110 (by rfl)) (res_tmp (v := .int .i64 ((bndS s (objP ((ptrS s ((ptrS s seg a).1.seg) ((ptrS s seg a).1.off)).1) ((ptrS s seg a).1.seg) ((((ptrS s seg a).1.off) + 1) + ((ptrS s ((ptrS s seg a).1.seg) ((ptrS s seg a).1.off)).1.off)))).2)) rfl) ⟨?_, G⟩
      have h9 : followS s seg a = bndS s (objP (ptrS s (ptrS s seg a).1.seg (ptrS s seg a).1.off).1 (ptrS s seg a).1.seg ((ptrS s seg a).1.off + 1 + (ptrS s (ptrS s seg a).1.seg (ptrS s seg a).1.off).1.off)) := by unfold followS; rw [if_neg h1n, if_neg (by simp [h2]), if_neg (by simp [h3])]; unfold landedS; rw [if_neg h4, if_neg (by simpa using h5), found_bnd]
      rw [h9]
end Go.Proofs.Ytfhfecepcnapfaa.K

