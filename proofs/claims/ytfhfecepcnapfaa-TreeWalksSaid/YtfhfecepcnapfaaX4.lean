/- Laid together: BR, CA, CB. Each part is plain law, a rule, or a walk of the functions that its names tell. -/
import Derived.Test.YtfhfecepcnapfaaX3
set_option linter.unusedVariables false
set_option linter.unusedSimpArgs false
namespace Go.Proofs.Ytfhfecepcnapfaa.K
open Go Go.RowKit Go.Proofs
attribute [local irreducible] Run1 OpG WL W AO Gives
instance : IfcI Try.prog 82 := ⟨⟨_, Try.underlying82⟩⟩
theorem meth_wholeWord : MethI Try.prog 118 "Word" 134 := ⟨fun v args w => by kernel_rfl⟩
theorem meth_wholeSizes : MethI Try.prog 118 "Sizes" 133 := ⟨fun v args w => by kernel_rfl⟩
set_option maxRecDepth 100000 in
theorem addg_calls (w : World) {a b m : Int} (ha : inR .i64 a) (hb : inR .i64 b) (hm : inR .i64 m) : Gives Try.prog 85 #[.int .i64 a, .int .i64 b, .int .i64 m] w (.tuple #[.int .i64 (if addOk a b m then a + b else 0), .bool (addOk a b m)]) := by
 simp only [inR] at ha hb hm
 have G := Grow.rfl' w
 refine gives_of Try.func85 Try.ntmps85 Try.results85 rfl rfl ?_
 refine W_seq (W_region rfl ?_)
 refine stp (r_assign_int rfl ?_)
 refine stp (r_assign (v := .bool false) rfl ?_)
 refine WL_nil ?_
 refine W_seq ?_
 refine W_seq (W_region rfl ?_)
 refine stp (r_move_int rfl ?_)
 refine stp (r_move_int rfl ?_)
 refine stp (r_min rfl rfl rfl ?_)
 refine stp (r_lss rfl rfl ?_)
 refine stp (r_move_bool rfl ?_)
 refine WL_some (og_if (s := .bool (decide ((if b < a then b else a) < 0))) (b := false) (v := .int .i64 a) rfl (wgb_f _) (fun hc1 => ?_) ?_)
 ·
  have hc1_ := hc1
  try simp only [sb] at hc1_
  refine r_move_int rfl ?_
  exact ⟨rfl, rfl⟩
 refine WL_some (og_if (s := .bool (decide ((if b < a then b else a) < 0))) (b := false) (v := .int .i64 m) rfl (wgb_f _) (fun hc2 => ?_) ?_)
 ·
  have hc2_ := hc2
  try simp only [sb] at hc2_
  refine r_move_int rfl ?_
  exact ⟨rfl, rfl⟩
 refine WL_some (og_if (s := .bool (decide ((if b < a then b else a) < 0))) (b := false) (v := .bool (decide (a > m))) rfl (wgb_f _) (fun hc3 => ?_) ?_)
 ·
  have hc3_ := hc3
  try simp only [sb] at hc3_
  refine r_gtr (gvt hc3) (gvt hc3) ?_
  exact ⟨rfl, rfl⟩
 refine stp (r_or2 rfl rfl rfl ?_)
 refine stp (r_move_bool rfl ?_)
 refine WL_some (og_if (s := .bool ((decide ((if b < a then b else a) < 0)) || (decide (a > m)))) (b := false) (v := .int .i64 b) rfl (wgb_f _) (fun hc4 => ?_) ?_)
 ·
  have hc4_ := hc4
  try simp only [sb] at hc4_
  refine r_move_int rfl ?_
  exact ⟨rfl, rfl⟩
 refine WL_some (og_if (s := .bool ((decide ((if b < a then b else a) < 0)) || (decide (a > m)))) (b := false) (v := .int .i64 m) rfl (wgb_f _) (fun hc5 => ?_) ?_)
 ·
  have hc5_ := hc5
  try simp only [sb] at hc5_
  refine r_move_int rfl ?_
  exact ⟨rfl, rfl⟩
 refine WL_some (og_if (s := .bool ((decide ((if b < a then b else a) < 0)) || (decide (a > m)))) (b := false) (v := .int .i64 a) rfl (wgb_f _) (fun hc6 => ?_) ?_)
 ·
  have hc6_ := hc6
  try simp only [sb] at hc6_
  refine r_move_int rfl ?_
  exact ⟨rfl, rfl⟩
 refine WL_some (og_if (s := .bool ((decide ((if b < a then b else a) < 0)) || (decide (a > m)))) (b := false) (v := .int .i64 (m - a)) rfl (wgb_f _) (fun hc7 => ?_) ?_)
 ·
  have hc7_ := hc7
  try simp only [sb] at hc7_
  refine r_sub (gvt hc7) (gvt hc7) ?_ ?_; constructor <;> omega
  exact ⟨rfl, rfl⟩
 refine WL_some (og_if (s := .bool ((decide ((if b < a then b else a) < 0)) || (decide (a > m)))) (b := false) (v := .bool (decide (b > (m - a)))) rfl (wgb_f _) (fun hc8 => ?_) ?_)
 ·
  have hc8_ := hc8
  try simp only [sb] at hc8_
  refine r_gtr (gvt hc8) (gvt hc8) ?_
  exact ⟨rfl, rfl⟩
 refine stp (r_or2 rfl rfl rfl ?_)
 refine WL_nil ?_
 refine W_cond2 (b := (((decide ((if b < a then b else a) < 0)) || (decide (a > m))) || (decide (b > (m - a))))) rfl (fun h1 => ?_) (fun h1 => ?_)
 ·-- true
  simp only [sb] at h1
  refine W_seq (W_region rfl ?_)
  refine stp (r_assign_int rfl ?_)
  refine stp (r_assign (v := .bool false) rfl ?_)
  refine WL_nil ?_
  refine W_ret ?_
  refine ret2 (res_tmp (v := .int .i64 0) rfl) (res_tmp (v := .bool false) rfl) ⟨?_, G⟩
  have h9 : addOk a b m = false := by simp only [addOk]; exact decide_eq_false (by omega)
  rw [h9]; rfl
 ·-- false
  simp only [sb] at h1
  have h9 : addOk a b m = true := by simp only [addOk]; exact decide_eq_true (by omega)
  refine W_skip ?_
  refine W_seq (W_region rfl ?_)
  refine stp (r_move_int rfl ?_)
  refine stp (r_move_int rfl ?_)
  refine stp (r_add rfl rfl ?_ ?_); constructor <;> omega
  refine stp (r_assign_int rfl ?_)
  refine stp (r_assign (v := .bool true) rfl ?_)
  refine WL_nil ?_
  refine W_ret ?_
  refine ret2 (res_tmp (v := .int .i64 (a + b)) rfl) (res_tmp (v := .bool true) rfl) ⟨?_, G⟩
  rw [h9]; rfl

set_option maxRecDepth 100000 in
theorem within_calls (w : World) {ad : Option Addr} {c : Nat} {sz : List Int} {seg a n : Int} (R : RowAt w 1 ad sz.length (sz.map (.int .i64))) (hs : ∀ i, i < sz.length → 0 ≤ sz.getD i 0 ∧ sz.getD i 0 ≤ 140737488355328) (ha : inR .i64 a) (hn : inR .i64 n) : Gives Try.prog 104 #[.slice ad sz.length c, .int .i64 seg, .int .i64 a, .int .i64 n] w (.bool (withinP sz seg a n)) := by
 have ll := R.lim
 have G := Grow.rfl' w
 refine gives_of Try.func104 Try.ntmps104 Try.results104 rfl rfl ?_
 refine W_seq (W_region rfl ?_)
 refine stp (r_assign (v := .bool false) rfl ?_)
 refine WL_nil ?_
 refine W_seq ?_
 refine W_seq (W_region rfl ?_)
 refine stp (r_move_int rfl ?_)
 refine stp (r_lss rfl rfl ?_)
 refine stp (r_move_bool rfl ?_)
 refine WL_some (og_if (s := .bool (decide (seg < 0))) (b := false) (v := .int .i64 seg) rfl (wgb_f _) (fun hc1 => ?_) ?_)
 ·
  have hc1_ := hc1
  try simp only [sb] at hc1_
  refine r_move_int rfl ?_
  exact ⟨rfl, rfl⟩
 refine WL_some (og_if (s := .bool (decide (seg < 0))) (b := false) (v := .slice ad sz.length c) rfl (wgb_f _) (fun hc2 => ?_) ?_)
 ·
  have hc2_ := hc2
  try simp only [sb] at hc2_
  refine r_move_slice rfl ?_
  exact ⟨rfl, rfl⟩
 refine WL_some (og_if (s := .bool (decide (seg < 0))) (b := false) (v := .int .i64 (sz.length : Int)) rfl (wgb_f _) (fun hc3 => ?_) ?_)
 ·
  have hc3_ := hc3
  try simp only [sb] at hc3_
  refine r_len rfl rfl (gvt hc3) ?_
  exact ⟨rfl, rfl⟩
 refine WL_some (og_if (s := .bool (decide (seg < 0))) (b := false) (v := .bool (decide (seg ≥ (sz.length : Int)))) rfl (wgb_f _) (fun hc4 => ?_) ?_)
 ·
  have hc4_ := hc4
  try simp only [sb] at hc4_
  refine r_geq (gvt hc4) (gvt hc4) ?_
  exact ⟨rfl, rfl⟩
 refine stp (r_or2 rfl rfl rfl ?_)
 refine WL_nil ?_
 refine W_cond2 (b := ((decide (seg < 0)) || (decide (seg ≥ (sz.length : Int))))) rfl (fun h1 => ?_) (fun h1 => ?_)
 ·-- true
  simp only [sb] at h1
  refine W_seq (W_region rfl ?_)
  refine stp (r_assign (v := .bool false) rfl ?_)
  refine WL_nil ?_
  refine W_ret ?_
  refine ret1 (res_tmp (v := .bool false) rfl) ⟨?_, G⟩
  have h9 : withinP sz seg a n = false := by unfold withinP; rw [decide_eq_false (by omega), Bool.false_and]
  rw [h9]
 ·-- false
  simp only [sb] at h1
  have h9 := hs seg.toNat (by omega)
  refine W_skip ?_
  refine W_seq (W_region rfl ?_)
  refine stp (r_move_int rfl ?_)
  refine stp (r_move_int rfl ?_)
  refine stp (r_move_slice rfl ?_)
  refine stp (r_move_int rfl ?_)
  refine stp (r_indexR (R.grow G) rfl rfl ?_ ?_ ?_); omega; omega
  refine stp (r_loadR (v := .int .i64 (sz.getD seg.toNat 0)) (m := 0) (R.grow G) rfl (by rw [Nat.mul_one]; exact map_get 0 (by omega)) ?_)
  refine stp (r_gives (v := .tuple #[.int .i64 (if addOk a n (sz.getD seg.toNat 0) then a + n else 0), .bool (addOk a n (sz.getD seg.toNat 0))]) rfl (addg_calls _ ha hn (m := sz.getD seg.toNat 0) (by simp only [inR]; omega)) ?_)
  intro w5 g6
  replace G := G.tr g6
  clear g6
  refine stp (r_move (v := .tuple #[.int .i64 (if addOk a n (sz.getD seg.toNat 0) then a + n else 0), .bool (addOk a n (sz.getD seg.toNat 0))]) rfl ?_)
  refine stp (r_extract (v := .int .i64 (if addOk a n (sz.getD seg.toNat 0) then a + n else 0)) rfl rfl ?_)
  refine stp (r_extract (v := .bool (addOk a n (sz.getD seg.toNat 0))) rfl rfl ?_)
  refine stp (r_assign_int rfl ?_)
  refine stp (r_assign_bool rfl ?_)
  refine WL_nil ?_
  refine W_seq (W_region rfl ?_)
  refine stp (r_move_bool rfl ?_)
  refine stp (r_assign_bool rfl ?_)
  refine WL_nil ?_
  refine W_ret ?_
  refine ret1 (res_tmp (v := .bool (addOk a n (sz.getD seg.toNat 0))) rfl) ⟨?_, G⟩
  unfold withinP; rw [decide_eq_true (by omega), Bool.true_and]

set_option maxRecDepth 100000 in
theorem aword_calls (w : World) {u : Value} {A : List (List Int)} {seg a : Int} (hA : ArenaR w u A) : Gives Try.prog 135 #[u, .int .i64 seg, .int .i64 a] w (.tuple #[.int .u64 ((wordA A seg a).1), .int .u16 ((wordA A seg a).2)]) := by
 obtain ⟨ada, ca, segsa, sa, sca, rfl, -, -, RA, hsa, hra⟩ := hA.fn
 have la := RA.lim
 have G := Grow.rfl' w
 refine gives_of Try.func135 Try.ntmps135 Try.results135 rfl rfl ?_
 refine W_seq (W_region rfl ?_)
 refine stp (r_assign_int rfl ?_)
 refine stp (r_assign_int rfl ?_)
 refine WL_nil ?_
 refine W_seq ?_
 refine W_seq (W_region rfl ?_)
 refine stp (r_move_int rfl ?_)
 refine stp (r_lss rfl rfl ?_)
 refine stp (r_move_bool rfl ?_)
 refine WL_some (og_if (s := .bool (decide (seg < 0))) (b := false) (v := .int .i64 seg) rfl (wgb_f _) (fun hc1 => ?_) ?_)
 ·
  have hc1_ := hc1
  try simp only [sb] at hc1_
  refine r_move_int rfl ?_
  exact ⟨rfl, rfl⟩
 refine WL_some (og_if (s := .bool (decide (seg < 0))) (b := false) (v := .slice ada A.length ca) rfl (wgb_f _) (fun hc2 => ?_) ?_)
 ·
  have hc2_ := hc2
  try simp only [sb] at hc2_
  refine r_move_slice rfl ?_
  exact ⟨rfl, rfl⟩
 refine WL_some (og_if (s := .bool (decide (seg < 0))) (b := false) (v := .int .i64 (A.length : Int)) rfl (wgb_f _) (fun hc3 => ?_) ?_)
 ·
  have hc3_ := hc3
  try simp only [sb] at hc3_
  refine r_len rfl rfl (gvt hc3) ?_
  exact ⟨rfl, rfl⟩
 refine WL_some (og_if (s := .bool (decide (seg < 0))) (b := false) (v := .bool (decide (seg ≥ (A.length : Int)))) rfl (wgb_f _) (fun hc4 => ?_) ?_)
 ·
  have hc4_ := hc4
  try simp only [sb] at hc4_
  refine r_geq (gvt hc4) (gvt hc4) ?_
  exact ⟨rfl, rfl⟩
 refine stp (r_or2 rfl rfl rfl ?_)
 refine stp (r_move_bool rfl ?_)
 refine WL_some (og_if (s := .bool ((decide (seg < 0)) || (decide (seg ≥ (A.length : Int))))) (b := false) (v := .int .i64 a) rfl (wgb_f _) (fun hc5 => ?_) ?_)
 ·
  have hc5_ := hc5
  try simp only [sb] at hc5_
  refine r_move_int rfl ?_
  exact ⟨rfl, rfl⟩
 refine WL_some (og_if (s := .bool ((decide (seg < 0)) || (decide (seg ≥ (A.length : Int))))) (b := false) (v := .bool (decide (a < 0))) rfl (wgb_f _) (fun hc6 => ?_) ?_)
 ·
  have hc6_ := hc6
  try simp only [sb] at hc6_
  refine r_lss (gvt hc6) rfl ?_
  exact ⟨rfl, rfl⟩
 refine stp (r_or2 rfl rfl rfl ?_)
 refine stp (r_move_bool rfl ?_)
 refine WL_some (og_if (s := .bool (((decide (seg < 0)) || (decide (seg ≥ (A.length : Int)))) || (decide (a < 0)))) (b := false) (v := .int .i64 a) rfl (wgb_f _) (fun hc7 => ?_) ?_)
 ·
  have hc7_ := hc7
  try simp only [sb] at hc7_
  refine r_move_int rfl ?_
  exact ⟨rfl, rfl⟩
 refine WL_some (og_if (s := .bool (((decide (seg < 0)) || (decide (seg ≥ (A.length : Int)))) || (decide (a < 0)))) (b := false) (v := .slice ada A.length ca) rfl (wgb_f _) (fun hc8 => ?_) ?_)
 ·
  have hc8_ := hc8
  try simp only [sb] at hc8_
  refine r_move_slice rfl ?_
  exact ⟨rfl, rfl⟩
 refine WL_some (og_if (s := .bool (((decide (seg < 0)) || (decide (seg ≥ (A.length : Int)))) || (decide (a < 0)))) (b := false) (v := .int .i64 seg) rfl (wgb_f _) (fun hc9 => ?_) ?_)
 ·
  have hc9_ := hc9
  try simp only [sb] at hc9_
  refine r_move_int rfl ?_
  exact ⟨rfl, rfl⟩
 refine WL_some (og_if (s := .bool (((decide (seg < 0)) || (decide (seg ≥ (A.length : Int)))) || (decide (a < 0)))) (b := false) (v := .pointer (some (eadr ada ((seg).toNat * 1)))) rfl (wgb_f _) (fun hc10 => ?_) ?_)
 ·
  have hc10_ := hc10
  try simp only [sb] at hc10_
  refine r_indexR (RA.grow G) (gvt hc10) (gvt hc10) ?_ ?_ ?_; omega; omega
  exact ⟨rfl, rfl⟩
 refine WL_some (og_if (s := .bool (((decide (seg < 0)) || (decide (seg ≥ (A.length : Int)))) || (decide (a < 0)))) (b := false) (v := .slice (sa seg.toNat) (len2 A seg.toNat) (sca seg.toNat)) rfl (wgb_f _) (fun hc11 => ?_) ?_)
 ·
  have hc11_ := hc11
  try simp only [sb] at hc11_
  refine r_loadR (v := .slice (sa seg.toNat) (len2 A seg.toNat) (sca seg.toNat)) (m := 0) (RA.grow G) (gvt hc11) (by rw [Nat.mul_one]; exact hsa _ (by omega)) ?_
  exact ⟨rfl, rfl⟩
 refine WL_some (og_if (s := .bool (((decide (seg < 0)) || (decide (seg ≥ (A.length : Int)))) || (decide (a < 0)))) (b := false) (v := .int .i64 ((len2 A seg.toNat) : Int)) rfl (wgb_f _) (fun hc12 => ?_) ?_)
 ·
  have hc12_ := hc12
  try simp only [sb] at hc12_
  refine r_len rfl rfl (gvt hc12) ?_
  exact ⟨rfl, rfl⟩
 refine WL_some (og_if (s := .bool (((decide (seg < 0)) || (decide (seg ≥ (A.length : Int)))) || (decide (a < 0)))) (b := false) (v := .bool (decide (a ≥ ((len2 A seg.toNat) : Int)))) rfl (wgb_f _) (fun hc13 => ?_) ?_)
 ·
  have hc13_ := hc13
  try simp only [sb] at hc13_
  refine r_geq (gvt hc13) (gvt hc13) ?_
  exact ⟨rfl, rfl⟩
 refine stp (r_or2 rfl rfl rfl ?_)
 refine WL_nil ?_
 refine W_cond2 (b := ((((decide (seg < 0)) || (decide (seg ≥ (A.length : Int)))) || (decide (a < 0))) || (decide (a ≥ ((len2 A seg.toNat) : Int))))) rfl (fun h1 => ?_) (fun h1 => ?_)
 ·-- true
  simp only [sb] at h1
  refine W_seq (W_region rfl ?_)
  refine stp (r_assign_int rfl ?_)
  refine stp (r_assign_int rfl ?_)
  refine WL_nil ?_
  refine W_ret ?_
  refine ret2 (res_tmp (v := .int .u64 0) rfl) (res_tmp (v := .int .u16 20) rfl) ⟨?_, G⟩
  have h9 : wordA A seg a = (0, 20) := by unfold wordA; rw [if_neg (by omega)]
  rw [h9]
 ·-- false
  simp only [sb] at h1
  obtain ⟨-, -, Rk⟩ := hra seg.toNat (by omega)
  have lk := Rk.lim
  refine W_skip ?_
  refine W_seq (W_region rfl ?_)
  refine stp (r_move_slice rfl ?_)
  refine stp (r_move_int rfl ?_)
  refine stp (r_indexR (RA.grow G) rfl rfl ?_ ?_ ?_); omega; omega
  refine stp (r_loadR (v := .slice (sa seg.toNat) (len2 A seg.toNat) (sca seg.toNat)) (m := 0) (RA.grow G) rfl (by rw [Nat.mul_one]; exact hsa _ (by omega)) ?_)
  refine stp (r_move_int rfl ?_)
  refine stp (r_indexR (Rk.grow G) rfl rfl ?_ ?_ ?_); omega; omega
  refine stp (r_loadR (v := .int .u64 ((A.getD seg.toNat []).getD a.toNat 0)) (m := 0) (Rk.grow G) rfl (by rw [Nat.mul_one]; exact map_get 0 (by simp only [len2] at *; omega)) ?_)
  refine stp (r_assign_int rfl ?_)
  refine stp (r_assign_int rfl ?_)
  refine WL_nil ?_
  refine W_ret ?_
  refine ret2 (res_tmp (v := .int .u64 ((A.getD seg.toNat []).getD a.toNat 0)) rfl) (res_tmp (v := .int .u16 0) rfl) ⟨?_, G⟩
  have h9 : wordA A seg a = ((A.getD seg.toNat []).getD a.toNat 0, 0) := by unfold wordA; rw [if_pos (by omega)]
  rw [h9]

set_option maxRecDepth 100000 in
theorem isnear_calls (w : World) (p : Pt) : Gives Try.prog 87 #[.agg #[.int .i64 p.kind, .int .i64 p.off, .int .i64 p.data, .int .i64 p.ptrs, .int .i64 p.size, .int .i64 p.count, .int .i64 p.seg, .bool p.dbl]] w (.bool (nearP p)) := by
 have G := Grow.rfl' w
 refine gives_of Try.func87 Try.ntmps87 Try.results87 rfl rfl ?_
 refine W_seq (W_region rfl ?_)
 refine WL_some (og rfl ?_)
 (first | refine r_box_agg rfl ?_ | refine r_box_int rfl ?_ | refine r_box_slice rfl ?_ | refine r_box rfl rfl ?_)
 intro b1 w2 hb3 hc4 g5
 have hge6 := Nat.le_trans G.size hb3
 replace G := G.tr g5
 clear g5 hb3
 refine stp (r_assign (v := .bool false) rfl ?_)
 refine WL_nil ?_
 refine W_seq (W_region rfl ?_)
 refine stp (r_fieldAddr rfl ?_)
 refine stp (r_load (v := .int .i64 p.kind) rfl hc4 rfl ?_)
 refine stp (r_eql rfl rfl ?_)
 refine stp (r_move_bool rfl ?_)
 refine WL_some (og_if (s := .bool (decide (p.kind = 1))) (b := false) (v := .pointer (some ⟨b1, 0, none⟩)) rfl (wgb_f _) (fun hc7 => ?_) ?_)
 ·
  have hc7_ := hc7
  try simp only [sb] at hc7_
  refine r_fieldAddr rfl ?_
  exact ⟨rfl, rfl⟩
 refine WL_some (og_if (s := .bool (decide (p.kind = 1))) (b := false) (v := .int .i64 p.kind) rfl (wgb_f _) (fun hc8 => ?_) ?_)
 ·
  have hc8_ := hc8
  try simp only [sb] at hc8_
  refine r_load (v := .int .i64 p.kind) (gvt hc8) hc4 rfl ?_
  exact ⟨rfl, rfl⟩
 refine WL_some (og_if (s := .bool (decide (p.kind = 1))) (b := false) (v := .bool (decide (p.kind = 2))) rfl (wgb_f _) (fun hc9 => ?_) ?_)
 ·
  have hc9_ := hc9
  try simp only [sb] at hc9_
  refine r_eql (gvt hc9) rfl ?_
  exact ⟨rfl, rfl⟩
 refine stp (r_or2 rfl rfl rfl ?_)
 refine stp (r_assign_bool rfl ?_)
 refine WL_nil ?_
 refine W_ret ?_
 refine ret1 (res_tmp (v := .bool ((decide (p.kind = 1)) || (decide (p.kind = 2)))) rfl) ⟨?_, G⟩
 rfl

set_option maxRecDepth 100000 in
theorem of_calls (w : World) (o : Ob) : Gives Try.prog 92 #[.agg #[.int .i64 o.kind, .int .i64 o.seg, .int .i64 o.at_, .int .i64 o.data, .int .i64 o.ptrs, .int .i64 o.size, .int .i64 o.count]] w (.agg #[.int .i64 o.kind, .int .i64 0, .int .i64 o.data, .int .i64 o.ptrs, .int .i64 o.size, .int .i64 o.count, .int .i64 0, .bool false]) := by
 have G := Grow.rfl' w
 refine gives_of Try.func92 Try.ntmps92 Try.results92 rfl rfl ?_
 refine W_seq (W_region rfl ?_)
 refine WL_some (og rfl ?_)
 (first | refine r_box_agg rfl ?_ | refine r_box_int rfl ?_ | refine r_box_slice rfl ?_ | refine r_box rfl rfl ?_)
 intro b1 w2 hb3 hc4 g5
 have hge6 := Nat.le_trans G.size hb3
 replace G := G.tr g5
 clear g5 hb3
 refine stp (r_alloc ?_)
 intro b7 w8 hb9 hc10 g11
 refine WL_nil ?_
 refine W_seq (W_region rfl ?_)
 refine stp (r_fieldAddr rfl ?_)
 have hge12 := Nat.le_trans G.size hb9
 have ne13 := Nat.ne_of_lt (Nat.lt_of_lt_of_le (lt_of_heap hc4) hb9)
 replace hc4 := g11.heap hc4
 replace G := G.tr g11
 clear g11 hb9
 refine stp (r_load (v := .int .i64 o.kind) rfl hc4 rfl ?_)
 refine stp (r_fieldAddr rfl ?_)
 refine stp (r_load (v := .int .i64 o.data) rfl hc4 rfl ?_)
 refine stp (r_fieldAddr rfl ?_)
 refine stp (r_load (v := .int .i64 o.ptrs) rfl hc4 rfl ?_)
 refine stp (r_fieldAddr rfl ?_)
 refine stp (r_load (v := .int .i64 o.size) rfl hc4 rfl ?_)
 refine stp (r_fieldAddr rfl ?_)
 refine stp (r_load (v := .int .i64 o.count) rfl hc4 rfl ?_)
 refine stp (r_build (v := .agg #[.int .i64 o.kind, .int .i64 0, .int .i64 o.data, .int .i64 o.ptrs, .int .i64 o.size, .int .i64 o.count, .int .i64 0, .bool false]) (fun w => by kernel_rfl) ?_)
 refine stn (r_storeAll rfl rfl hc10 (by rfl) (by rfl) (by rfl) ?_)
 intro w14 hc15 u16
 replace hc4 := u16.heap hc4 ne13
 replace G := G.upd u16 hge12
 clear u16 hc10
 refine WL_nil ?_
 refine W_ret ?_
 refine ret1 (res_all rfl hc15 (by rfl)) ⟨?_, G⟩
 rfl

set_option maxRecDepth 100000 in
theorem owords_calls (w : World) (o : Ob) : Gives Try.prog 64 #[.agg #[.int .i64 o.kind, .int .i64 o.seg, .int .i64 o.at_, .int .i64 o.data, .int .i64 o.ptrs, .int .i64 o.size, .int .i64 o.count]] w (.int .i64 (wordsO o)) := by
 have G := Grow.rfl' w
 refine gives_of Try.func64 Try.ntmps64 Try.results64 rfl rfl ?_
 refine W_seq (W_region rfl ?_)
 refine WL_some (og rfl ?_)
 (first | refine r_box_agg rfl ?_ | refine r_box_int rfl ?_ | refine r_box_slice rfl ?_ | refine r_box rfl rfl ?_)
 intro b1 w2 hb3 hc4 g5
 have hge6 := Nat.le_trans G.size hb3
 replace G := G.tr g5
 clear g5 hb3
 refine stp (r_assign_int rfl ?_)
 refine WL_nil ?_
 refine W_seq ?_
 refine W_seq (W_region rfl ?_)
 refine stp (r_fieldAddr rfl ?_)
 refine stp (r_load (v := .int .i64 o.kind) rfl hc4 rfl ?_)
 refine stp (r_eql rfl rfl ?_)
 refine WL_nil ?_
 refine W_cond2 (b := (decide (o.kind = 3))) rfl (fun h1 => ?_) (fun h1 => ?_)
 ·-- true
  replace h1 := of_decide_eq_true h1
  refine W_seq (W_region rfl ?_)
  refine stp (r_assign_int rfl ?_)
  refine WL_nil ?_
  refine W_ret ?_
  refine ret1 (res_tmp (v := .int .i64 0) rfl) ⟨?_, G⟩
  simp [wordsO, Ob.pt, *]
 ·-- false
  replace h1 := of_decide_eq_false h1
  refine W_skip ?_
  refine W_seq (W_region rfl ?_)
  refine stp (r_loadAll rfl hc4 (by rfl) ?_)
  refine stp (r_gives (v := .agg #[.int .i64 o.kind, .int .i64 0, .int .i64 o.data, .int .i64 o.ptrs, .int .i64 o.size, .int .i64 o.count, .int .i64 0, .bool false]) rfl (of_calls _ ⟨o.kind, o.seg, o.at_, o.data, o.ptrs, o.size, o.count⟩) ?_)
  intro w7 g8
  replace hc4 := g8.heap hc4
  replace G := G.tr g8
  clear g8
  refine stp (r_gives (v := .tuple #[.int .i64 (wordsN ⟨o.kind, 0, o.data, o.ptrs, o.size, o.count, 0, false⟩), .int .u16 (wordsE ⟨o.kind, 0, o.data, o.ptrs, o.size, o.count, 0, false⟩)]) rfl (words_calls _ ⟨o.kind, 0, o.data, o.ptrs, o.size, o.count, 0, false⟩) ?_)
  intro w9 g10
  replace hc4 := g10.heap hc4
  replace G := G.tr g10
  clear g10
  refine stp (r_move (v := .tuple #[.int .i64 (wordsN ⟨o.kind, 0, o.data, o.ptrs, o.size, o.count, 0, false⟩), .int .u16 (wordsE ⟨o.kind, 0, o.data, o.ptrs, o.size, o.count, 0, false⟩)]) rfl ?_)
  refine stp (r_extract (v := .int .i64 (wordsN ⟨o.kind, 0, o.data, o.ptrs, o.size, o.count, 0, false⟩)) rfl rfl ?_)
  refine stp (r_extract (v := .int .u16 (wordsE ⟨o.kind, 0, o.data, o.ptrs, o.size, o.count, 0, false⟩)) rfl rfl ?_)
  refine stp (r_assign_int rfl ?_)
  refine stp (r_assign_int rfl ?_)
  refine WL_nil ?_
  refine W_seq (W_region rfl ?_)
  refine stp (r_move_int rfl ?_)
  refine stp (r_assign_int rfl ?_)
  refine WL_nil ?_
  refine W_ret ?_
  refine ret1 (res_tmp (v := .int .i64 (wordsN ⟨o.kind, 0, o.data, o.ptrs, o.size, o.count, 0, false⟩)) rfl) ⟨?_, G⟩
  simp [wordsO, Ob.pt, *]

set_option maxRecDepth 100000 in
theorem wholeWord_calls (w : World) {u : Value} {A : List (List Int)} (hA : ArenaR w u A) (seg a : Int) : Gives Try.prog 134 #[.agg #[u], .int .i64 seg, .int .i64 a] w (.tuple #[.int .u64 ((wordA A seg a).1), .int .u16 ((wordA A seg a).2)]) := by
 obtain ⟨ada, ca, segsa, sa, sca, rfl, -, -, RA, hsa, hra⟩ := hA.fn
 have G := Grow.rfl' w
 refine gives_of Try.func134 Try.ntmps134 Try.results134 rfl rfl ?_
 refine W_seq (W_region rfl ?_)
 refine WL_some (og rfl ?_)
 (first | refine r_box_agg rfl ?_ | refine r_box_int rfl ?_ | refine r_box_slice rfl ?_ | refine r_box rfl rfl ?_)
 intro b1 w2 hb3 hc4 g5
 have hge6 := Nat.le_trans G.size hb3
 replace G := G.tr g5
 clear g5 hb3
 refine stp (r_assign_int rfl ?_)
 refine stp (r_assign_int rfl ?_)
 refine WL_nil ?_
 refine W_seq (W_region rfl ?_)
 refine stp (r_fieldAddr rfl ?_)
 refine stp (r_load (v := .slice ada A.length ca) rfl hc4 rfl ?_)
 refine stp (r_move_int rfl ?_)
 refine stp (r_move_int rfl ?_)
 refine stp (r_gives (v := .tuple #[.int .u64 ((wordA A seg a).1), .int .u16 ((wordA A seg a).2)]) rfl (aword_calls _ (hA.grow G)) ?_)
 intro w7 g8
 replace hc4 := g8.heap hc4
 replace G := G.tr g8
 clear g8
 refine stp (r_extract (v := .int .u64 ((wordA A seg a).1)) rfl rfl ?_)
 refine stp (r_extract (v := .int .u16 ((wordA A seg a).2)) rfl rfl ?_)
 refine stp (r_assign_int rfl ?_)
 refine stp (r_assign_int rfl ?_)
 refine WL_nil ?_
 refine W_ret ?_
 refine ret2 (res_tmp (v := .int .u64 ((wordA A seg a).1)) rfl) (res_tmp (v := .int .u16 ((wordA A seg a).2)) rfl) ⟨?_, G⟩
 rfl

set_option maxRecDepth 100000 in
theorem wholeSizes_calls (w : World) {u : Value} {A : List (List Int)} (hA : ArenaR w u A) (hl : A.length ≤ 1000) : Calls Try.prog 133 #[.agg #[u]] w (Ret fun r w2 => ∃ ad c, r = .slice ad A.length c ∧ RowAt w2 1 ad A.length (A.map fun s => .int .i64 (s.length : Int)) ∧ Grow w w2) := by
 obtain ⟨segs_, ⟨ada, ca, rfl, hc1_, hc2_, RA⟩, hrows⟩ := hA
 have G := Grow.rfl' w
 refine calls_ret Try.func133 Try.ntmps133 Try.results133 rfl rfl ?_
 refine W_seq (W_region rfl ?_)
 refine WL_some (og rfl ?_)
 (first | refine r_box_agg rfl ?_ | refine r_box_int rfl ?_ | refine r_box_slice rfl ?_ | refine r_box rfl rfl ?_)
 intro b1 w2 hb3 hc4 g5
 have hge6 := Nat.le_trans G.size hb3
 replace G := G.tr g5
 clear g5 hb3
 refine stp (r_assign_slice rfl ?_)
 refine WL_nil ?_
 refine W_seq (W_region rfl ?_)
 refine stp (r_fieldAddr rfl ?_)
 refine stp (r_load (v := .slice ada A.length ca) rfl hc4 rfl ?_)
 refine WL_some (og rfl ?_)
 refine r_call rfl (sizes_calls _ (RA.grow G) rfl (fun i q hq => by obtain ⟨v, h1, h2⟩ := hrows i q hq; exact ⟨v, h1, h2.grow G⟩) (by omega)) ?_
 rintro v_ w7 ⟨own, g_⟩
 replace hc4 := g_.heap hc4
 replace G := G.tr g_
 clear g_
 obtain ⟨ad5, c5, rfl, hc5, hc6, RS⟩ := own_row own (by omega)
 refine stp (r_assign_slice rfl ?_)
 refine WL_nil ?_
 refine W_ret ?_
 refine ret1 (res_tmp (v := .slice ad5 A.length c5) rfl) ⟨_, _, rfl, RS, G⟩

set_option maxRecDepth 100000 in
theorem pointer_calls (w : World) {src : Value} {s : Src} (H : SrcOk Try.prog w src s) (seg a : Int) : Gives Try.prog 86 #[src, .int .i64 seg, .int .i64 a] w (.tuple #[.agg #[.int .i64 ((ptrS s seg a).1.kind), .int .i64 ((ptrS s seg a).1.off), .int .i64 ((ptrS s seg a).1.data), .int .i64 ((ptrS s seg a).1.ptrs), .int .i64 ((ptrS s seg a).1.size), .int .i64 ((ptrS s seg a).1.count), .int .i64 ((ptrS s seg a).1.seg), .bool ((ptrS s seg a).1.dbl)], .int .u16 ((ptrS s seg a).2)]) := by
 have G := Grow.rfl' w
 refine gives_of Try.func86 Try.ntmps86 Try.results86 rfl rfl ?_
 refine W_seq (W_region rfl ?_)
 refine stp (r_alloc ?_)
 intro b1 w2 hb3 hc4 g5
 refine stp (r_assign_int rfl ?_)
 refine WL_nil ?_
 refine W_seq (W_region rfl ?_)
 refine stp (r_move (v := src) rfl ?_)
 refine stp (r_move_int rfl ?_)
 refine stp (r_move_int rfl ?_)
 have hge6 := Nat.le_trans G.size hb3
 replace G := G.tr g5
 clear g5 hb3
 refine stp (r_srcWord H G rfl rfl rfl ?_)
 intro w7 g8
 replace hc4 := g8.heap hc4
 replace G := G.tr g8
 clear g8
 refine stp (r_move (v := .tuple #[.int .u64 ((s.word seg a).1), .int .u16 ((s.word seg a).2)]) rfl ?_)
 refine stp (r_extract (v := .int .u64 ((s.word seg a).1)) rfl rfl ?_)
 refine stp (r_extract (v := .int .u16 ((s.word seg a).2)) rfl rfl ?_)
 refine stp (r_assign_int rfl ?_)
 refine stp (r_assign_int rfl ?_)
 refine WL_nil ?_
 refine W_seq ?_
 refine W_seq (W_region rfl ?_)
 refine stp (r_move_int rfl ?_)
 refine stp (r_neq rfl rfl ?_)
 refine WL_nil ?_
 refine W_cond2 (b := (decide (((s.word seg a).2) ≠ 0))) rfl (fun h1 => ?_) (fun h1 => ?_)
 ·-- true
  replace h1 := of_decide_eq_true h1
  refine W_seq (W_region rfl ?_)
  refine stp (r_build (v := .agg #[.int .i64 0, .int .i64 0, .int .i64 0, .int .i64 0, .int .i64 0, .int .i64 0, .int .i64 0, .bool false]) (fun w => by kernel_rfl) ?_)
  refine stp (r_move_int rfl ?_)
  refine stn (r_storeAll rfl rfl hc4 (by rfl) (by rfl) (by rfl) ?_)
  intro w9 hc10 u11
  replace G := G.upd u11 hge6
  clear u11 hc4
  refine stp (r_assign_int rfl ?_)
  refine WL_nil ?_
  refine W_ret ?_
  refine ret2 (res_all rfl hc10 (by rfl)) (res_tmp (v := .int .u16 ((s.word seg a).2)) rfl) ⟨?_, G⟩
  have h9 : ptrS s seg a = (Pt0, (s.word seg a).2) := by unfold ptrS; rw [if_pos h1]
  rw [h9]; rfl
 ·-- false
  replace h1 := of_decide_eq_false h1
  refine W_skip ?_
  refine W_seq (W_region rfl ?_)
  refine stp (r_move_int rfl ?_)
  refine stp (r_gives (v := .tuple #[.agg #[.int .i64 ((decP (s.word seg a).1).kind), .int .i64 ((decP (s.word seg a).1).off), .int .i64 ((decP (s.word seg a).1).data), .int .i64 ((decP (s.word seg a).1).ptrs), .int .i64 ((decP (s.word seg a).1).size), .int .i64 ((decP (s.word seg a).1).count), .int .i64 ((decP (s.word seg a).1).seg), .bool ((decP (s.word seg a).1).dbl)], .int .u16 (decE (s.word seg a).1)]) rfl (decode_calls _ _ (H.num seg a).1 (H.num seg a).2.1) ?_)
  intro w12 g13
  replace hc4 := g13.heap hc4
  replace G := G.tr g13
  clear g13
  refine stp (r_extract (v := .agg #[.int .i64 ((decP (s.word seg a).1).kind), .int .i64 ((decP (s.word seg a).1).off), .int .i64 ((decP (s.word seg a).1).data), .int .i64 ((decP (s.word seg a).1).ptrs), .int .i64 ((decP (s.word seg a).1).size), .int .i64 ((decP (s.word seg a).1).count), .int .i64 ((decP (s.word seg a).1).seg), .bool ((decP (s.word seg a).1).dbl)]) rfl rfl ?_)
  refine stp (r_extract (v := .int .u16 (decE (s.word seg a).1)) rfl rfl ?_)
  refine stn (r_storeAll rfl rfl hc4 (by rfl) (by rfl) (by rfl) ?_)
  intro w14 hc15 u16
  replace G := G.upd u16 hge6
  clear u16 hc4
  refine stp (r_assign_int rfl ?_)
  refine WL_nil ?_
  refine W_ret ?_
  refine ret2 (res_all rfl hc15 (by rfl)) (res_tmp (v := .int .u16 (decE (s.word seg a).1)) rfl) ⟨?_, G⟩
  have h9 : ptrS s seg a = (decP (s.word seg a).1, decE (s.word seg a).1) := by unfold ptrS; rw [if_neg h1]
  rw [h9]

set_option maxRecDepth 100000 in
theorem found_calls (w : World) {src : Value} {s : Src} (H : SrcOk Try.prog w src s) (p : Pt) (seg a : Int) (hp : PtR p) (ha : inR .i64 a) : Gives Try.prog 88 #[src, .agg #[.int .i64 p.kind, .int .i64 p.off, .int .i64 p.data, .int .i64 p.ptrs, .int .i64 p.size, .int .i64 p.count, .int .i64 p.seg, .bool p.dbl], .int .i64 seg, .int .i64 a] w (.tuple #[.agg #[.int .i64 ((foundS s p seg a).1.kind), .int .i64 ((foundS s p seg a).1.seg), .int .i64 ((foundS s p seg a).1.at_), .int .i64 ((foundS s p seg a).1.data), .int .i64 ((foundS s p seg a).1.ptrs), .int .i64 ((foundS s p seg a).1.size), .int .i64 ((foundS s p seg a).1.count)], .int .u16 ((foundS s p seg a).2)]) := by
 have hw9 := wordsN_range hp.of
 have G := Grow.rfl' w
 refine gives_of Try.func88 Try.ntmps88 Try.results88 rfl rfl ?_
 refine W_seq (W_region rfl ?_)
 refine WL_some (og rfl ?_)
 (first | refine r_box_agg rfl ?_ | refine r_box_int rfl ?_ | refine r_box_slice rfl ?_ | refine r_box rfl rfl ?_)
 intro b1 w2 hb3 hc4 g5
 have hge6 := Nat.le_trans G.size hb3
 replace G := G.tr g5
 clear g5 hb3
 refine stp (r_alloc ?_)
 intro b7 w8 hb9 hc10 g11
 refine stp (r_assign_int rfl ?_)
 refine WL_nil ?_
 refine W_seq (W_region rfl ?_)
 refine stp (r_fieldAddr rfl ?_)
 have hge12 := Nat.le_trans G.size hb9
 have ne13 := Nat.ne_of_lt (Nat.lt_of_lt_of_le (lt_of_heap hc4) hb9)
 replace hc4 := g11.heap hc4
 replace G := G.tr g11
 clear g11 hb9
 refine stp (r_load (v := .int .i64 p.kind) rfl hc4 rfl ?_)
 refine stp (r_move_int rfl ?_)
 refine stp (r_move_int rfl ?_)
 refine stp (r_fieldAddr rfl ?_)
 refine stp (r_load (v := .int .i64 p.data) rfl hc4 rfl ?_)
 refine stp (r_fieldAddr rfl ?_)
 refine stp (r_load (v := .int .i64 p.ptrs) rfl hc4 rfl ?_)
 refine stp (r_fieldAddr rfl ?_)
 refine stp (r_load (v := .int .i64 p.size) rfl hc4 rfl ?_)
 refine stp (r_fieldAddr rfl ?_)
 refine stp (r_load (v := .int .i64 p.count) rfl hc4 rfl ?_)
 refine stp (r_build (v := .agg #[.int .i64 p.kind, .int .i64 seg, .int .i64 a, .int .i64 p.data, .int .i64 p.ptrs, .int .i64 p.size, .int .i64 p.count]) (fun w => by kernel_rfl) ?_)
 refine stp (r_alloc ?_)
 intro b14 w15 hb16 hc17 g18
 refine stn (r_storeAll rfl rfl hc17 (by rfl) (by rfl) (by rfl) ?_)
 intro w19 hc20 u21
 have g22 := g18.upd u21 hb16
 have hge23 := Nat.le_trans G.size hb16
 have ne24 := Nat.ne_of_lt (Nat.lt_of_lt_of_le (lt_of_heap hc4) hb16)
 have ne25 := Nat.ne_of_lt (Nat.lt_of_lt_of_le (lt_of_heap hc10) hb16)
 replace hc4 := g22.heap hc4
 replace hc10 := g22.heap hc10
 replace G := G.tr g22
 clear u21 g18 hb16 hc17
 refine WL_nil ?_
 refine W_seq (W_region rfl ?_)
 refine stp (r_loadAll rfl hc20 (by rfl) ?_)
 refine stp (r_gives (v := .agg #[.int .i64 p.kind, .int .i64 0, .int .i64 p.data, .int .i64 p.ptrs, .int .i64 p.size, .int .i64 p.count, .int .i64 0, .bool false]) rfl (of_calls _ ⟨p.kind, seg, a, p.data, p.ptrs, p.size, p.count⟩) ?_)
 intro w26 g27
 replace hc4 := g27.heap hc4
 replace hc10 := g27.heap hc10
 replace hc20 := g27.heap hc20
 replace G := G.tr g27
 clear g27
 refine stp (r_gives (v := .tuple #[.int .i64 (wordsN ⟨p.kind, 0, p.data, p.ptrs, p.size, p.count, 0, false⟩), .int .u16 (wordsE ⟨p.kind, 0, p.data, p.ptrs, p.size, p.count, 0, false⟩)]) rfl (words_calls _ ⟨p.kind, 0, p.data, p.ptrs, p.size, p.count, 0, false⟩) ?_)
 intro w28 g29
 replace hc4 := g29.heap hc4
 replace hc10 := g29.heap hc10
 replace hc20 := g29.heap hc20
 replace G := G.tr g29
 clear g29
 refine stp (r_move (v := .tuple #[.int .i64 (wordsN ⟨p.kind, 0, p.data, p.ptrs, p.size, p.count, 0, false⟩), .int .u16 (wordsE ⟨p.kind, 0, p.data, p.ptrs, p.size, p.count, 0, false⟩)]) rfl ?_)
 refine stp (r_extract (v := .int .i64 (wordsN ⟨p.kind, 0, p.data, p.ptrs, p.size, p.count, 0, false⟩)) rfl rfl ?_)
 refine stp (r_extract (v := .int .u16 (wordsE ⟨p.kind, 0, p.data, p.ptrs, p.size, p.count, 0, false⟩)) rfl rfl ?_)
 refine stp (r_assign_int rfl ?_)
 refine stp (r_assign_int rfl ?_)
 refine WL_nil ?_
 refine W_seq ?_
 refine W_block ?_
 refine W_seq (W_region rfl ?_)
 refine stp (r_move_int rfl ?_)
 refine stp (r_neq rfl rfl ?_)
 refine stp (r_assign_bool rfl ?_)
 refine WL_nil ?_
 refine W_cond2 (b := (decide ((wordsE ⟨p.kind, 0, p.data, p.ptrs, p.size, p.count, 0, false⟩) ≠ 0))) rfl (fun h1 => ?_) (fun h1 => ?_)
 ·-- true
  replace h1 := of_decide_eq_true h1
  refine W_seq (W_region rfl ?_)
  refine stp (r_build (v := .agg #[.int .i64 0, .int .i64 0, .int .i64 0, .int .i64 0, .int .i64 0, .int .i64 0, .int .i64 0]) (fun w => by kernel_rfl) ?_)
  refine stp (r_move_int rfl ?_)
  refine stn (r_storeAll rfl rfl hc10 (by rfl) (by rfl) (by rfl) ?_)
  intro w30 hc31 u32
  replace hc4 := u32.heap hc4 ne13
  replace hc20 := u32.heap hc20 ne25.symm
  replace G := G.upd u32 hge12
  clear u32 hc10
  refine stp (r_assign_int rfl ?_)
  refine WL_nil ?_
  refine W_ret ?_
  refine ret2 (res_all rfl hc31 (by rfl)) (res_tmp (v := .int .u16 (wordsE ⟨p.kind, 0, p.data, p.ptrs, p.size, p.count, 0, false⟩)) rfl) ⟨?_, G⟩
  have h9 : foundS s p seg a = (Ob0, wordsE ⟨p.kind, 0, p.data, p.ptrs, p.size, p.count, 0, false⟩) := by unfold foundS; exact if_pos h1
  rw [h9]; rfl
 ·-- false
  replace h1 := of_decide_eq_false h1
  refine W_seq (W_region rfl ?_)
  refine stp (r_move (v := src) rfl ?_)
  refine stp (r_srcSizes H G rfl ?_)
  intro adz cz w33 g34 Rz
  replace hc4 := g34.heap hc4
  replace hc10 := g34.heap hc10
  replace hc20 := g34.heap hc20
  replace G := G.tr g34
  clear g34
  refine stp (r_move_int rfl ?_)
  refine stp (r_move_int rfl ?_)
  refine stp (r_move_int rfl ?_)
  refine stp (r_gives (v := .bool (withinP s.sizes seg a (wordsN ⟨p.kind, 0, p.data, p.ptrs, p.size, p.count, 0, false⟩))) rfl (within_calls _ Rz H.each ha (by simp only [inR]; omega)) ?_)
  intro w35 g36
  replace hc4 := g36.heap hc4
  replace hc10 := g36.heap hc10
  replace hc20 := g36.heap hc20
  replace Rz := Rz.grow g36
  replace G := G.tr g36
  clear g36
  refine stp (r_not rfl ?_)
  refine stp (r_assign_bool rfl ?_)
  refine WL_nil ?_
  refine W_cond2 (b := (!(withinP s.sizes seg a (wordsN ⟨p.kind, 0, p.data, p.ptrs, p.size, p.count, 0, false⟩)))) rfl (fun h2 => ?_) (fun h2 => ?_)
  ·-- true
   simp only [sb] at h2
   refine W_seq (W_region rfl ?_)
   refine stp (r_build (v := .agg #[.int .i64 0, .int .i64 0, .int .i64 0, .int .i64 0, .int .i64 0, .int .i64 0, .int .i64 0]) (fun w => by kernel_rfl) ?_)
   refine stn (r_storeAll rfl rfl hc10 (by rfl) (by rfl) (by rfl) ?_)
   intro w37 hc38 u39
   replace hc4 := u39.heap hc4 ne13
   replace hc20 := u39.heap hc20 ne25.symm
   replace G := G.upd u39 hge12
   clear u39 hc10
   refine stp (r_assign_int rfl ?_)
   refine WL_nil ?_
   refine W_ret ?_
   refine ret2 (res_all rfl hc38 (by rfl)) (res_tmp (v := .int .u16 20) rfl) ⟨?_, G⟩
   have h9 : foundS s p seg a = (Ob0, 20) := by unfold foundS; exact (if_neg h1).trans (if_pos (show withinP s.sizes seg a (wordsN ⟨p.kind, 0, p.data, p.ptrs, p.size, p.count, 0, false⟩) = false from by simpa using h2))
   rw [h9]; rfl
  ·-- false
   simp only [sb] at h2
   refine W_skip ?_
   refine W_seq (W_region rfl ?_)
   refine stp (r_loadAll rfl hc20 (by rfl) ?_)
   refine stn (r_storeAll rfl rfl hc10 (by rfl) (by rfl) (by rfl) ?_)
   intro w40 hc41 u42
   replace hc4 := u42.heap hc4 ne13
   replace hc20 := u42.heap hc20 ne25.symm
   replace G := G.upd u42 hge12
   clear u42 hc10
   refine stp (r_assign_int rfl ?_)
   refine WL_nil ?_
   refine W_ret ?_
   refine ret2 (res_all rfl hc41 (by rfl)) (res_tmp (v := .int .u16 0) rfl) ⟨?_, G⟩
   have h9 : foundS s p seg a = (objP p seg a, 0) := by unfold foundS; exact (if_neg h1).trans (if_neg (show ¬ withinP s.sizes seg a (wordsN ⟨p.kind, 0, p.data, p.ptrs, p.size, p.count, 0, false⟩) = false from by simpa using h2))
   rw [h9]; rfl

set_option maxRecDepth 100000 in
theorem landed_calls (w : World) {src : Value} {s : Src} (H : SrcOk Try.prog w src s) (p : Pt) (hp : PtR p) : Gives Try.prog 90 #[src, .agg #[.int .i64 p.kind, .int .i64 p.off, .int .i64 p.data, .int .i64 p.ptrs, .int .i64 p.size, .int .i64 p.count, .int .i64 p.seg, .bool p.dbl]] w (.tuple #[.agg #[.int .i64 ((landedS s p).1.kind), .int .i64 ((landedS s p).1.seg), .int .i64 ((landedS s p).1.at_), .int .i64 ((landedS s p).1.data), .int .i64 ((landedS s p).1.ptrs), .int .i64 ((landedS s p).1.size), .int .i64 ((landedS s p).1.count)], .int .u16 ((landedS s p).2)]) := by
 have hq := ptrS_range H p.seg p.off
 have hqo := hq.off
 have hpo := hp.off
 have G := Grow.rfl' w
 refine gives_of Try.func90 Try.ntmps90 Try.results90 rfl rfl ?_
 refine W_seq (W_region rfl ?_)
 refine WL_some (og rfl ?_)
 (first | refine r_box_agg rfl ?_ | refine r_box_int rfl ?_ | refine r_box_slice rfl ?_ | refine r_box rfl rfl ?_)
 intro b1 w2 hb3 hc4 g5
 have hge6 := Nat.le_trans G.size hb3
 replace G := G.tr g5
 clear g5 hb3
 refine stp (r_alloc ?_)
 intro b7 w8 hb9 hc10 g11
 refine stp (r_assign_int rfl ?_)
 refine WL_nil ?_
 refine W_seq (W_region rfl ?_)
 refine stp (r_move (v := src) rfl ?_)
 refine stp (r_fieldAddr rfl ?_)
 have hge12 := Nat.le_trans G.size hb9
 have ne13 := Nat.ne_of_lt (Nat.lt_of_lt_of_le (lt_of_heap hc4) hb9)
 replace hc4 := g11.heap hc4
 replace G := G.tr g11
 clear g11 hb9
 refine stp (r_load (v := .int .i64 p.seg) rfl hc4 rfl ?_)
 refine stp (r_fieldAddr rfl ?_)
 refine stp (r_load (v := .int .i64 p.off) rfl hc4 rfl ?_)
 refine stp (r_gives (v := .tuple #[.agg #[.int .i64 ((ptrS s p.seg p.off).1.kind), .int .i64 ((ptrS s p.seg p.off).1.off), .int .i64 ((ptrS s p.seg p.off).1.data), .int .i64 ((ptrS s p.seg p.off).1.ptrs), .int .i64 ((ptrS s p.seg p.off).1.size), .int .i64 ((ptrS s p.seg p.off).1.count), .int .i64 ((ptrS s p.seg p.off).1.seg), .bool ((ptrS s p.seg p.off).1.dbl)], .int .u16 ((ptrS s p.seg p.off).2)]) rfl (pointer_calls _ (H.grow G) p.seg p.off) ?_)
 intro w14 g15
 replace hc4 := g15.heap hc4
 replace hc10 := g15.heap hc10
 replace G := G.tr g15
 clear g15
 refine stp (r_move (v := .tuple #[.agg #[.int .i64 ((ptrS s p.seg p.off).1.kind), .int .i64 ((ptrS s p.seg p.off).1.off), .int .i64 ((ptrS s p.seg p.off).1.data), .int .i64 ((ptrS s p.seg p.off).1.ptrs), .int .i64 ((ptrS s p.seg p.off).1.size), .int .i64 ((ptrS s p.seg p.off).1.count), .int .i64 ((ptrS s p.seg p.off).1.seg), .bool ((ptrS s p.seg p.off).1.dbl)], .int .u16 ((ptrS s p.seg p.off).2)]) rfl ?_)
 refine stp (r_extract (v := .agg #[.int .i64 ((ptrS s p.seg p.off).1.kind), .int .i64 ((ptrS s p.seg p.off).1.off), .int .i64 ((ptrS s p.seg p.off).1.data), .int .i64 ((ptrS s p.seg p.off).1.ptrs), .int .i64 ((ptrS s p.seg p.off).1.size), .int .i64 ((ptrS s p.seg p.off).1.count), .int .i64 ((ptrS s p.seg p.off).1.seg), .bool ((ptrS s p.seg p.off).1.dbl)]) rfl rfl ?_)
 refine stp (r_extract (v := .int .u16 ((ptrS s p.seg p.off).2)) rfl rfl ?_)
 refine stp (r_alloc ?_)
 intro b16 w17 hb18 hc19 g20
 refine stn (r_storeAll rfl rfl hc19 (by rfl) (by rfl) (by rfl) ?_)
 intro w21 hc22 u23
 have g24 := g20.upd u23 hb18
 have hge25 := Nat.le_trans G.size hb18
 have ne26 := Nat.ne_of_lt (Nat.lt_of_lt_of_le (lt_of_heap hc4) hb18)
 have ne27 := Nat.ne_of_lt (Nat.lt_of_lt_of_le (lt_of_heap hc10) hb18)
 replace hc4 := g24.heap hc4
 replace hc10 := g24.heap hc10
 replace G := G.tr g24
 clear u23 g20 hb18 hc19
 refine stp (r_assign_int rfl ?_)
 refine WL_nil ?_
 refine W_seq ?_
 refine W_block ?_
 refine W_seq (W_region rfl ?_)
 refine stp (r_move_int rfl ?_)
 refine stp (r_neq rfl rfl ?_)
 refine stp (r_assign_bool rfl ?_)
 refine WL_nil ?_
 refine W_cond2 (b := (decide (((ptrS s p.seg p.off).2) ≠ 0))) rfl (fun h1 => ?_) (fun h1 => ?_)
 ·-- true
  replace h1 := of_decide_eq_true h1
  refine W_seq (W_region rfl ?_)
  refine stp (r_build (v := .agg #[.int .i64 0, .int .i64 0, .int .i64 0, .int .i64 0, .int .i64 0, .int .i64 0, .int .i64 0]) (fun w => by kernel_rfl) ?_)
  refine stp (r_move_int rfl ?_)
  refine stn (r_storeAll rfl rfl hc10 (by rfl) (by rfl) (by rfl) ?_)
  intro w28 hc29 u30
  replace hc4 := u30.heap hc4 ne13
  replace hc22 := u30.heap hc22 ne27.symm
  replace G := G.upd u30 hge12
  clear u30 hc10
  refine stp (r_assign_int rfl ?_)
  refine WL_nil ?_
  refine W_ret ?_
  refine ret2 (res_all rfl hc29 (by rfl)) (res_tmp (v := .int .u16 ((ptrS s p.seg p.off).2)) rfl) ⟨?_, G⟩
  have h9 : landedS s p = (Ob0, (ptrS s p.seg p.off).2) := by unfold landedS; rw [if_pos h1]
  rw [h9]; rfl
 ·-- false
  replace h1 := of_decide_eq_false h1
  refine W_seq (W_region rfl ?_)
  refine stp (r_loadAll rfl hc22 (by rfl) ?_)
  refine stp (r_gives (v := .bool (nearP ((ptrS s p.seg p.off).1))) rfl (isnear_calls _ ((ptrS s p.seg p.off).1)) ?_)
  intro w31 g32
  replace hc4 := g32.heap hc4
  replace hc10 := g32.heap hc10
  replace hc22 := g32.heap hc22
  replace G := G.tr g32
  clear g32
  refine stp (r_not rfl ?_)
  refine stp (r_assign_bool rfl ?_)
  refine WL_nil ?_
  refine W_cond2 (b := (!(nearP ((ptrS s p.seg p.off).1)))) rfl (fun h2 => ?_) (fun h2 => ?_)
  ·-- true
   simp only [sb] at h2
   refine W_seq (W_region rfl ?_)
   refine stp (r_build (v := .agg #[.int .i64 0, .int .i64 0, .int .i64 0, .int .i64 0, .int .i64 0, .int .i64 0, .int .i64 0]) (fun w => by kernel_rfl) ?_)
   refine stn (r_storeAll rfl rfl hc10 (by rfl) (by rfl) (by rfl) ?_)
   intro w33 hc34 u35
   replace hc4 := u35.heap hc4 ne13
   replace hc22 := u35.heap hc22 ne27.symm
   replace G := G.upd u35 hge12
   clear u35 hc10
   refine stp (r_assign_int rfl ?_)
   refine WL_nil ?_
   refine W_ret ?_
   refine ret2 (res_all rfl hc34 (by rfl)) (res_tmp (v := .int .u16 23) rfl) ⟨?_, G⟩
   have h9 : landedS s p = (Ob0, 23) := by unfold landedS; rw [if_neg h1, if_pos (by simpa using h2)]
   rw [h9]; rfl
  ·-- false
   simp only [sb] at h2
   refine W_skip ?_
   refine W_seq (W_region rfl ?_)
   refine stp (r_move (v := src) rfl ?_)
   refine stp (r_loadAll rfl hc22 (by rfl) ?_)
   refine stp (r_fieldAddr rfl ?_)
   refine stp (r_load (v := .int .i64 p.seg) rfl hc4 rfl ?_)
   refine stp (r_fieldAddr rfl ?_)
   refine stp (r_load (v := .int .i64 p.off) rfl hc4 rfl ?_)
   refine stp (r_add rfl rfl ?_ ?_); constructor <;> omega
   refine stp (r_fieldAddr rfl ?_)
   refine stp (r_load (v := .int .i64 ((ptrS s p.seg p.off).1.off)) rfl hc22 rfl ?_)
   refine stp (r_add rfl rfl ?_ ?_); constructor <;> omega
   refine stp (r_gives (v := .tuple #[.agg #[.int .i64 ((foundS s ((ptrS s p.seg p.off).1) p.seg ((p.off + 1) + ((ptrS s p.seg p.off).1.off))).1.kind), .int .i64 ((foundS s ((ptrS s p.seg p.off).1) p.seg ((p.off + 1) + ((ptrS s p.seg p.off).1.off))).1.seg), .int .i64 ((foundS s ((ptrS s p.seg p.off).1) p.seg ((p.off + 1) + ((ptrS s p.seg p.off).1.off))).1.at_), .int .i64 ((foundS s ((ptrS s p.seg p.off).1) p.seg ((p.off + 1) + ((ptrS s p.seg p.off).1.off))).1.data), .int .i64 ((foundS s ((ptrS s p.seg p.off).1) p.seg ((p.off + 1) + ((ptrS s p.seg p.off).1.off))).1.ptrs), .int .i64 ((foundS s ((ptrS s p.seg p.off).1) p.seg ((p.off + 1) + ((ptrS s p.seg p.off).1.off))).1.size), .int .i64 ((foundS s ((ptrS s p.seg p.off).1) p.seg ((p.off + 1) + ((ptrS s p.seg p.off).1.off))).1.count)], .int .u16 ((foundS s ((ptrS s p.seg p.off).1) p.seg ((p.off + 1) + ((ptrS s p.seg p.off).1.off))).2)]) rfl (found_calls _ (H.grow G) ((ptrS s p.seg p.off).1) p.seg ((p.off + 1) + ((ptrS s p.seg p.off).1.off)) hq (by simp only [inR]; omega)) ?_)
   intro w36 g37
   replace hc4 := g37.heap hc4
   replace hc10 := g37.heap hc10
   replace hc22 := g37.heap hc22
   replace G := G.tr g37
   clear g37
   refine stp (r_extract (v := .agg #[.int .i64 ((foundS s ((ptrS s p.seg p.off).1) p.seg ((p.off + 1) + ((ptrS s p.seg p.off).1.off))).1.kind), .int .i64 ((foundS s ((ptrS s p.seg p.off).1) p.seg ((p.off + 1) + ((ptrS s p.seg p.off).1.off))).1.seg), .int .i64 ((foundS s ((ptrS s p.seg p.off).1) p.seg ((p.off + 1) + ((ptrS s p.seg p.off).1.off))).1.at_), .int .i64 ((foundS s ((ptrS s p.seg p.off).1) p.seg ((p.off + 1) + ((ptrS s p.seg p.off).1.off))).1.data), .int .i64 ((foundS s ((ptrS s p.seg p.off).1) p.seg ((p.off + 1) + ((ptrS s p.seg p.off).1.off))).1.ptrs), .int .i64 ((foundS s ((ptrS s p.seg p.off).1) p.seg ((p.off + 1) + ((ptrS s p.seg p.off).1.off))).1.size), .int .i64 ((foundS s ((ptrS s p.seg p.off).1) p.seg ((p.off + 1) + ((ptrS s p.seg p.off).1.off))).1.count)]) rfl rfl ?_)
   refine stp (r_extract (v := .int .u16 ((foundS s ((ptrS s p.seg p.off).1) p.seg ((p.off + 1) + ((ptrS s p.seg p.off).1.off))).2)) rfl rfl ?_)
   refine stn (r_storeAll rfl rfl hc10 (by rfl) (by rfl) (by rfl) ?_)
   intro w38 hc39 u40
   replace hc4 := u40.heap hc4 ne13
   replace hc22 := u40.heap hc22 ne27.symm
   replace G := G.upd u40 hge12
   clear u40 hc10
   refine stp (r_assign_int rfl ?_)
   refine WL_nil ?_
   refine W_ret ?_
   refine ret2 (res_all rfl hc39 (by rfl)) (res_tmp (v := .int .u16 ((foundS s ((ptrS s p.seg p.off).1) p.seg ((p.off + 1) + ((ptrS s p.seg p.off).1.off))).2)) rfl) ⟨?_, G⟩
   have h9 : landedS s p = foundS s (ptrS s p.seg p.off).1 p.seg (p.off + 1 + (ptrS s p.seg p.off).1.off) := by unfold landedS; rw [if_neg h1, if_neg (by simpa using h2)]
   rw [h9]

set_option maxRecDepth 100000 in
theorem twice_calls (w : World) {src : Value} {s : Src} (H : SrcOk Try.prog w src s) (p : Pt) (hp : PtR p) : Gives Try.prog 89 #[src, .agg #[.int .i64 p.kind, .int .i64 p.off, .int .i64 p.data, .int .i64 p.ptrs, .int .i64 p.size, .int .i64 p.count, .int .i64 p.seg, .bool p.dbl]] w (.tuple #[.agg #[.int .i64 ((twiceS s p).1.kind), .int .i64 ((twiceS s p).1.seg), .int .i64 ((twiceS s p).1.at_), .int .i64 ((twiceS s p).1.data), .int .i64 ((twiceS s p).1.ptrs), .int .i64 ((twiceS s p).1.size), .int .i64 ((twiceS s p).1.count)], .int .u16 ((twiceS s p).2)]) := by
 have hpo := hp.off
 obtain ⟨n1, n2, -, -⟩ := H.num p.seg p.off
 obtain ⟨n3, n4, -, -⟩ := H.num p.seg (p.off + 1)
 have hq := decP_range _ n1 n2
 have hr := decP_range _ n3 n4
 have hqo := hq.off
 have G := Grow.rfl' w
 refine gives_of Try.func89 Try.ntmps89 Try.results89 rfl rfl ?_
 refine W_seq (W_region rfl ?_)
 refine WL_some (og rfl ?_)
 (first | refine r_box_agg rfl ?_ | refine r_box_int rfl ?_ | refine r_box_slice rfl ?_ | refine r_box rfl rfl ?_)
 intro b1 w2 hb3 hc4 g5
 have hge6 := Nat.le_trans G.size hb3
 replace G := G.tr g5
 clear g5 hb3
 refine stp (r_alloc ?_)
 intro b7 w8 hb9 hc10 g11
 refine stp (r_assign_int rfl ?_)
 refine WL_nil ?_
 refine W_seq (W_region rfl ?_)
 refine stp (r_move (v := src) rfl ?_)
 refine stp (r_fieldAddr rfl ?_)
 have hge12 := Nat.le_trans G.size hb9
 have ne13 := Nat.ne_of_lt (Nat.lt_of_lt_of_le (lt_of_heap hc4) hb9)
 replace hc4 := g11.heap hc4
 replace G := G.tr g11
 clear g11 hb9
 refine stp (r_load (v := .int .i64 p.seg) rfl hc4 rfl ?_)
 refine stp (r_fieldAddr rfl ?_)
 refine stp (r_load (v := .int .i64 p.off) rfl hc4 rfl ?_)
 refine stp (r_srcWord H G rfl rfl rfl ?_)
 intro w14 g15
 replace hc4 := g15.heap hc4
 replace hc10 := g15.heap hc10
 replace G := G.tr g15
 clear g15
 refine stp (r_move (v := .tuple #[.int .u64 ((s.word p.seg p.off).1), .int .u16 ((s.word p.seg p.off).2)]) rfl ?_)
 refine stp (r_extract (v := .int .u64 ((s.word p.seg p.off).1)) rfl rfl ?_)
 refine stp (r_extract (v := .int .u16 ((s.word p.seg p.off).2)) rfl rfl ?_)
 refine stp (r_assign_int rfl ?_)
 refine stp (r_assign_int rfl ?_)
 refine WL_nil ?_
 refine W_seq ?_
 refine W_seq (W_region rfl ?_)
 refine stp (r_move_int rfl ?_)
 refine stp (r_neq rfl rfl ?_)
 refine WL_nil ?_
 refine W_cond2 (b := (decide (((s.word p.seg p.off).2) ≠ 0))) rfl (fun h1 => ?_) (fun h1 => ?_)
 ·-- true
  replace h1 := of_decide_eq_true h1
  refine W_seq (W_region rfl ?_)
  refine stp (r_build (v := .agg #[.int .i64 0, .int .i64 0, .int .i64 0, .int .i64 0, .int .i64 0, .int .i64 0, .int .i64 0]) (fun w => by kernel_rfl) ?_)
  refine stp (r_move_int rfl ?_)
  refine stn (r_storeAll rfl rfl hc10 (by rfl) (by rfl) (by rfl) ?_)
  intro w16 hc17 u18
  replace hc4 := u18.heap hc4 ne13
  replace G := G.upd u18 hge12
  clear u18 hc10
  refine stp (r_assign_int rfl ?_)
  refine WL_nil ?_
  refine W_ret ?_
  refine ret2 (res_all rfl hc17 (by rfl)) (res_tmp (v := .int .u16 ((s.word p.seg p.off).2)) rfl) ⟨?_, G⟩
  have h9 : twiceS s p = (Ob0, (s.word p.seg p.off).2) := by unfold twiceS; rw [if_pos h1]
  rw [h9]; rfl
 ·-- false
  replace h1 := of_decide_eq_false h1
  refine W_skip ?_
  refine W_seq (W_region rfl ?_)
  refine stp (r_move (v := src) rfl ?_)
  refine stp (r_fieldAddr rfl ?_)
  refine stp (r_load (v := .int .i64 p.seg) rfl hc4 rfl ?_)
  refine stp (r_fieldAddr rfl ?_)
  refine stp (r_load (v := .int .i64 p.off) rfl hc4 rfl ?_)
  refine stp (r_add rfl rfl ?_ ?_); constructor <;> omega
  refine stp (r_srcWord H G rfl rfl rfl ?_)
  intro w19 g20
  replace hc4 := g20.heap hc4
  replace hc10 := g20.heap hc10
  replace G := G.tr g20
  clear g20
  refine stp (r_move (v := .tuple #[.int .u64 ((s.word p.seg (p.off + 1)).1), .int .u16 ((s.word p.seg (p.off + 1)).2)]) rfl ?_)
  refine stp (r_extract (v := .int .u64 ((s.word p.seg (p.off + 1)).1)) rfl rfl ?_)
  refine stp (r_extract (v := .int .u16 ((s.word p.seg (p.off + 1)).2)) rfl rfl ?_)
  refine stp (r_assign_int rfl ?_)
  refine stp (r_assign_int rfl ?_)
  refine WL_nil ?_
  refine W_seq ?_
  refine W_seq (W_region rfl ?_)
  refine stp (r_move_int rfl ?_)
  refine stp (r_neq rfl rfl ?_)
  refine WL_nil ?_
  refine W_cond2 (b := (decide (((s.word p.seg (p.off + 1)).2) ≠ 0))) rfl (fun h2 => ?_) (fun h2 => ?_)
  ·-- true
   replace h2 := of_decide_eq_true h2
   refine W_seq (W_region rfl ?_)
   refine stp (r_build (v := .agg #[.int .i64 0, .int .i64 0, .int .i64 0, .int .i64 0, .int .i64 0, .int .i64 0, .int .i64 0]) (fun w => by kernel_rfl) ?_)
   refine stp (r_move_int rfl ?_)
   refine stn (r_storeAll rfl rfl hc10 (by rfl) (by rfl) (by rfl) ?_)
   intro w21 hc22 u23
   replace hc4 := u23.heap hc4 ne13
   replace G := G.upd u23 hge12
   clear u23 hc10
   refine stp (r_assign_int rfl ?_)
   refine WL_nil ?_
   refine W_ret ?_
   refine ret2 (res_all rfl hc22 (by rfl)) (res_tmp (v := .int .u16 ((s.word p.seg (p.off + 1)).2)) rfl) ⟨?_, G⟩
   have h9 : twiceS s p = (Ob0, (s.word p.seg (p.off + 1)).2) := by unfold twiceS; rw [if_neg h1, if_pos h2]
   rw [h9]; rfl
  ·-- false
   replace h2 := of_decide_eq_false h2
   refine W_skip ?_
   refine W_seq (W_region rfl ?_)
   refine stp (r_move_int rfl ?_)
   refine stp (r_gives (v := .tuple #[.agg #[.int .i64 ((decP (s.word p.seg p.off).1).kind), .int .i64 ((decP (s.word p.seg p.off).1).off), .int .i64 ((decP (s.word p.seg p.off).1).data), .int .i64 ((decP (s.word p.seg p.off).1).ptrs), .int .i64 ((decP (s.word p.seg p.off).1).size), .int .i64 ((decP (s.word p.seg p.off).1).count), .int .i64 ((decP (s.word p.seg p.off).1).seg), .bool ((decP (s.word p.seg p.off).1).dbl)], .int .u16 (decE (s.word p.seg p.off).1)]) rfl (decode_calls _ _ (H.num p.seg p.off).1 (H.num p.seg p.off).2.1) ?_)
   intro w24 g25
   replace hc4 := g25.heap hc4
   replace hc10 := g25.heap hc10
   replace G := G.tr g25
   clear g25
   refine stp (r_move (v := .tuple #[.agg #[.int .i64 ((decP (s.word p.seg p.off).1).kind), .int .i64 ((decP (s.word p.seg p.off).1).off), .int .i64 ((decP (s.word p.seg p.off).1).data), .int .i64 ((decP (s.word p.seg p.off).1).ptrs), .int .i64 ((decP (s.word p.seg p.off).1).size), .int .i64 ((decP (s.word p.seg p.off).1).count), .int .i64 ((decP (s.word p.seg p.off).1).seg), .bool ((decP (s.word p.seg p.off).1).dbl)], .int .u16 (decE (s.word p.seg p.off).1)]) rfl ?_)
   refine stp (r_extract (v := .agg #[.int .i64 ((decP (s.word p.seg p.off).1).kind), .int .i64 ((decP (s.word p.seg p.off).1).off), .int .i64 ((decP (s.word p.seg p.off).1).data), .int .i64 ((decP (s.word p.seg p.off).1).ptrs), .int .i64 ((decP (s.word p.seg p.off).1).size), .int .i64 ((decP (s.word p.seg p.off).1).count), .int .i64 ((decP (s.word p.seg p.off).1).seg), .bool ((decP (s.word p.seg p.off).1).dbl)]) rfl rfl ?_)
   refine stp (r_extract (v := .int .u16 (decE (s.word p.seg p.off).1)) rfl rfl ?_)
   refine stp (r_alloc ?_)
   intro b26 w27 hb28 hc29 g30
   refine stn (r_storeAll rfl rfl hc29 (by rfl) (by rfl) (by rfl) ?_)
   intro w31 hc32 u33
   have g34 := g30.upd u33 hb28
   have hge35 := Nat.le_trans G.size hb28
   have ne36 := Nat.ne_of_lt (Nat.lt_of_lt_of_le (lt_of_heap hc4) hb28)
   have ne37 := Nat.ne_of_lt (Nat.lt_of_lt_of_le (lt_of_heap hc10) hb28)
   replace hc4 := g34.heap hc4
   replace hc10 := g34.heap hc10
   replace G := G.tr g34
   clear u33 g30 hb28 hc29
   refine stp (r_assign_int rfl ?_)
   refine WL_nil ?_
   refine W_seq ?_
   refine W_seq (W_region rfl ?_)
   refine stp (r_move_int rfl ?_)
   refine stp (r_neq rfl rfl ?_)
   refine WL_nil ?_
   refine W_cond2 (b := (decide ((decE (s.word p.seg p.off).1) ≠ 0))) rfl (fun h3 => ?_) (fun h3 => ?_)
   ·-- true
    replace h3 := of_decide_eq_true h3
    refine W_seq (W_region rfl ?_)
    refine stp (r_build (v := .agg #[.int .i64 0, .int .i64 0, .int .i64 0, .int .i64 0, .int .i64 0, .int .i64 0, .int .i64 0]) (fun w => by kernel_rfl) ?_)
    refine stp (r_move_int rfl ?_)
    refine stn (r_storeAll rfl rfl hc10 (by rfl) (by rfl) (by rfl) ?_)
    intro w38 hc39 u40
    replace hc4 := u40.heap hc4 ne13
    replace hc32 := u40.heap hc32 ne37.symm
    replace G := G.upd u40 hge12
    clear u40 hc10
    refine stp (r_assign_int rfl ?_)
    refine WL_nil ?_
    refine W_ret ?_
    refine ret2 (res_all rfl hc39 (by rfl)) (res_tmp (v := .int .u16 (decE (s.word p.seg p.off).1)) rfl) ⟨?_, G⟩
    have h9 : twiceS s p = (Ob0, decE (s.word p.seg p.off).1) := by unfold twiceS; rw [if_neg h1, if_neg h2, if_pos h3]
    rw [h9]; rfl
   ·-- false
    replace h3 := of_decide_eq_false h3
    refine W_skip ?_
    refine W_seq (W_region rfl ?_)
    refine stp (r_move_int rfl ?_)
    refine stp (r_gives (v := .tuple #[.agg #[.int .i64 ((decP (s.word p.seg (p.off + 1)).1).kind), .int .i64 ((decP (s.word p.seg (p.off + 1)).1).off), .int .i64 ((decP (s.word p.seg (p.off + 1)).1).data), .int .i64 ((decP (s.word p.seg (p.off + 1)).1).ptrs), .int .i64 ((decP (s.word p.seg (p.off + 1)).1).size), .int .i64 ((decP (s.word p.seg (p.off + 1)).1).count), .int .i64 ((decP (s.word p.seg (p.off + 1)).1).seg), .bool ((decP (s.word p.seg (p.off + 1)).1).dbl)], .int .u16 (decE (s.word p.seg (p.off + 1)).1)]) rfl (decode_calls _ _ (H.num p.seg (p.off + 1)).1 (H.num p.seg (p.off + 1)).2.1) ?_)
    intro w41 g42
    replace hc4 := g42.heap hc4
    replace hc10 := g42.heap hc10
    replace hc32 := g42.heap hc32
    replace G := G.tr g42
    clear g42
    refine stp (r_move (v := .tuple #[.agg #[.int .i64 ((decP (s.word p.seg (p.off + 1)).1).kind), .int .i64 ((decP (s.word p.seg (p.off + 1)).1).off), .int .i64 ((decP (s.word p.seg (p.off + 1)).1).data), .int .i64 ((decP (s.word p.seg (p.off + 1)).1).ptrs), .int .i64 ((decP (s.word p.seg (p.off + 1)).1).size), .int .i64 ((decP (s.word p.seg (p.off + 1)).1).count), .int .i64 ((decP (s.word p.seg (p.off + 1)).1).seg), .bool ((decP (s.word p.seg (p.off + 1)).1).dbl)], .int .u16 (decE (s.word p.seg (p.off + 1)).1)]) rfl ?_)
    refine stp (r_extract (v := .agg #[.int .i64 ((decP (s.word p.seg (p.off + 1)).1).kind), .int .i64 ((decP (s.word p.seg (p.off + 1)).1).off), .int .i64 ((decP (s.word p.seg (p.off + 1)).1).data), .int .i64 ((decP (s.word p.seg (p.off + 1)).1).ptrs), .int .i64 ((decP (s.word p.seg (p.off + 1)).1).size), .int .i64 ((decP (s.word p.seg (p.off + 1)).1).count), .int .i64 ((decP (s.word p.seg (p.off + 1)).1).seg), .bool ((decP (s.word p.seg (p.off + 1)).1).dbl)]) rfl rfl ?_)
    refine stp (r_extract (v := .int .u16 (decE (s.word p.seg (p.off + 1)).1)) rfl rfl ?_)
    refine stp (r_alloc ?_)
    intro b43 w44 hb45 hc46 g47
    refine stn (r_storeAll rfl rfl hc46 (by rfl) (by rfl) (by rfl) ?_)
    intro w48 hc49 u50
    have g51 := g47.upd u50 hb45
    have hge52 := Nat.le_trans G.size hb45
    have ne53 := Nat.ne_of_lt (Nat.lt_of_lt_of_le (lt_of_heap hc4) hb45)
    have ne54 := Nat.ne_of_lt (Nat.lt_of_lt_of_le (lt_of_heap hc10) hb45)
    have ne55 := Nat.ne_of_lt (Nat.lt_of_lt_of_le (lt_of_heap hc32) hb45)
    replace hc4 := g51.heap hc4
    replace hc10 := g51.heap hc10
    replace hc32 := g51.heap hc32
    replace G := G.tr g51
    clear u50 g47 hb45 hc46
    refine stp (r_assign_int rfl ?_)
    refine WL_nil ?_
    refine W_seq ?_
    refine W_block ?_
    refine W_seq (W_region rfl ?_)
    refine stp (r_move_int rfl ?_)
    refine stp (r_neq rfl rfl ?_)
    refine stp (r_assign_bool rfl ?_)
    refine WL_nil ?_
    refine W_cond2 (b := (decide ((decE (s.word p.seg (p.off + 1)).1) ≠ 0))) rfl (fun h4 => ?_) (fun h4 => ?_)
    ·-- true
     replace h4 := of_decide_eq_true h4
     refine W_seq (W_region rfl ?_)
     refine stp (r_build (v := .agg #[.int .i64 0, .int .i64 0, .int .i64 0, .int .i64 0, .int .i64 0, .int .i64 0, .int .i64 0]) (fun w => by kernel_rfl) ?_)
     refine stp (r_move_int rfl ?_)
     refine stn (r_storeAll rfl rfl hc10 (by rfl) (by rfl) (by rfl) ?_)
     intro w56 hc57 u58
     replace hc4 := u58.heap hc4 ne13
     replace hc32 := u58.heap hc32 ne37.symm
     replace hc49 := u58.heap hc49 ne54.symm
     replace G := G.upd u58 hge12
     clear u58 hc10
     refine stp (r_assign_int rfl ?_)
     refine WL_nil ?_
     refine W_ret ?_
     refine ret2 (res_all rfl hc57 (by rfl)) (res_tmp (v := .int .u16 (decE (s.word p.seg (p.off + 1)).1)) rfl) ⟨?_, G⟩
     have h9 : twiceS s p = (Ob0, decE (s.word p.seg (p.off + 1)).1) := by unfold twiceS; rw [if_neg h1, if_neg h2, if_neg h3, if_pos h4]
     rw [h9]; rfl
    ·-- false
     replace h4 := of_decide_eq_false h4
     refine W_seq (W_region rfl ?_)
     refine stp (r_fieldAddr rfl ?_)
     refine stp (r_load (v := .int .i64 ((decP (s.word p.seg p.off).1).kind)) rfl hc32 rfl ?_)
     refine stp (r_neq rfl rfl ?_)
     refine stp (r_move_bool rfl ?_)
     refine WL_some (og_if (s := .bool (decide (((decP (s.word p.seg p.off).1).kind) ≠ 3))) (b := false) (v := .pointer (some ⟨b26, 7, none⟩)) rfl (wgb_f _) (fun hc59 => ?_) ?_)
     ·
      have hc59_ := hc59
      try simp only [sb] at hc59_
      refine r_fieldAddr rfl ?_
      exact ⟨rfl, rfl⟩
     refine WL_some (og_if (s := .bool (decide (((decP (s.word p.seg p.off).1).kind) ≠ 3))) (b := false) (v := .bool ((decP (s.word p.seg p.off).1).dbl)) rfl (wgb_f _) (fun hc60 => ?_) ?_)
     ·
      have hc60_ := hc60
      try simp only [sb] at hc60_
      refine r_load (v := .bool ((decP (s.word p.seg p.off).1).dbl)) (gvt hc60) hc32 rfl ?_
      exact ⟨rfl, rfl⟩
     refine stp (r_or2 rfl rfl rfl ?_)
     refine stp (r_move_bool rfl ?_)
     refine WL_some (og_if (s := .bool ((decide (((decP (s.word p.seg p.off).1).kind) ≠ 3)) || ((decP (s.word p.seg p.off).1).dbl))) (b := false) (v := .agg #[.int .i64 ((decP (s.word p.seg (p.off + 1)).1).kind), .int .i64 ((decP (s.word p.seg (p.off + 1)).1).off), .int .i64 ((decP (s.word p.seg (p.off + 1)).1).data), .int .i64 ((decP (s.word p.seg (p.off + 1)).1).ptrs), .int .i64 ((decP (s.word p.seg (p.off + 1)).1).size), .int .i64 ((decP (s.word p.seg (p.off + 1)).1).count), .int .i64 ((decP (s.word p.seg (p.off + 1)).1).seg), .bool ((decP (s.word p.seg (p.off + 1)).1).dbl)]) rfl (wgb_f _) (fun hc61 => ?_) ?_)
     ·
      have hc61_ := hc61
      try simp only [sb] at hc61_
      refine r_loadAll rfl hc49 (by rfl) ?_
      exact ⟨rfl, rfl⟩
     refine WL_some (og_ifg (s := .bool ((decide (((decP (s.word p.seg p.off).1).kind) ≠ 3)) || ((decP (s.word p.seg p.off).1).dbl))) (b := false) (v := .bool (nearP (decP (s.word p.seg (p.off + 1)).1))) rfl (wgb_f _) (fun hc62 => ?_) ?_)
     ·
      have hc62_ := hc62
      try simp only [sb] at hc62_
      exact r_givesA (l := ([.agg #[.int .i64 ((decP (s.word p.seg (p.off + 1)).1).kind), .int .i64 ((decP (s.word p.seg (p.off + 1)).1).off), .int .i64 ((decP (s.word p.seg (p.off + 1)).1).data), .int .i64 ((decP (s.word p.seg (p.off + 1)).1).ptrs), .int .i64 ((decP (s.word p.seg (p.off + 1)).1).size), .int .i64 ((decP (s.word p.seg (p.off + 1)).1).count), .int .i64 ((decP (s.word p.seg (p.off + 1)).1).seg), .bool ((decP (s.word p.seg (p.off + 1)).1).dbl)]] : List Value)) rfl (by show ([gv (!((decide (((decP (s.word p.seg p.off).1).kind) ≠ 3)) || ((decP (s.word p.seg p.off).1).dbl))) (.agg #[.int .i64 ((decP (s.word p.seg (p.off + 1)).1).kind), .int .i64 ((decP (s.word p.seg (p.off + 1)).1).off), .int .i64 ((decP (s.word p.seg (p.off + 1)).1).data), .int .i64 ((decP (s.word p.seg (p.off + 1)).1).ptrs), .int .i64 ((decP (s.word p.seg (p.off + 1)).1).size), .int .i64 ((decP (s.word p.seg (p.off + 1)).1).count), .int .i64 ((decP (s.word p.seg (p.off + 1)).1).seg), .bool ((decP (s.word p.seg (p.off + 1)).1).dbl)])] : List Value) = _; rw [gvt hc62]) (isnear_calls _ (decP (s.word p.seg (p.off + 1)).1)) (fun w2_ g2_ => ⟨rfl, g2_⟩)
     intro w63 g64
     replace hc4 := g64.heap hc4
     replace hc10 := g64.heap hc10
     replace hc32 := g64.heap hc32
     replace hc49 := g64.heap hc49
     replace G := G.tr g64
     clear g64
     refine WL_some (og_if (s := .bool ((decide (((decP (s.word p.seg p.off).1).kind) ≠ 3)) || ((decP (s.word p.seg p.off).1).dbl))) (b := false) (v := .bool (!(nearP (decP (s.word p.seg (p.off + 1)).1)))) rfl (wgb_f _) (fun hc65 => ?_) ?_)
     ·
      have hc65_ := hc65
      try simp only [sb] at hc65_
      refine r_not (gvt hc65) ?_
      exact ⟨rfl, rfl⟩
     refine stp (r_or2 rfl rfl rfl ?_)
     refine stp (r_move_bool rfl ?_)
     refine WL_some (og_if (s := .bool (((decide (((decP (s.word p.seg p.off).1).kind) ≠ 3)) || ((decP (s.word p.seg p.off).1).dbl)) || (!(nearP (decP (s.word p.seg (p.off + 1)).1))))) (b := false) (v := .pointer (some ⟨b43, 1, none⟩)) rfl (wgb_f _) (fun hc66 => ?_) ?_)
     ·
      have hc66_ := hc66
      try simp only [sb] at hc66_
      refine r_fieldAddr rfl ?_
      exact ⟨rfl, rfl⟩
     refine WL_some (og_if (s := .bool (((decide (((decP (s.word p.seg p.off).1).kind) ≠ 3)) || ((decP (s.word p.seg p.off).1).dbl)) || (!(nearP (decP (s.word p.seg (p.off + 1)).1))))) (b := false) (v := .int .i64 ((decP (s.word p.seg (p.off + 1)).1).off)) rfl (wgb_f _) (fun hc67 => ?_) ?_)
     ·
      have hc67_ := hc67
      try simp only [sb] at hc67_
      refine r_load (v := .int .i64 ((decP (s.word p.seg (p.off + 1)).1).off)) (gvt hc67) hc49 rfl ?_
      exact ⟨rfl, rfl⟩
     refine WL_some (og_if (s := .bool (((decide (((decP (s.word p.seg p.off).1).kind) ≠ 3)) || ((decP (s.word p.seg p.off).1).dbl)) || (!(nearP (decP (s.word p.seg (p.off + 1)).1))))) (b := false) (v := .bool (decide (((decP (s.word p.seg (p.off + 1)).1).off) ≠ 0))) rfl (wgb_f _) (fun hc68 => ?_) ?_)
     ·
      have hc68_ := hc68
      try simp only [sb] at hc68_
      refine r_neq (gvt hc68) rfl ?_
      exact ⟨rfl, rfl⟩
     refine stp (r_or2 rfl rfl rfl ?_)
     refine stp (r_assign_bool rfl ?_)
     refine WL_nil ?_
     refine W_cond2 (b := ((((decide (((decP (s.word p.seg p.off).1).kind) ≠ 3)) || ((decP (s.word p.seg p.off).1).dbl)) || (!(nearP (decP (s.word p.seg (p.off + 1)).1)))) || (decide (((decP (s.word p.seg (p.off + 1)).1).off) ≠ 0)))) rfl (fun h5 => ?_) (fun h5 => ?_)
     ·-- true
      simp only [sb] at h5
      have h8 : (decP (s.word p.seg p.off).1).kind ≠ 3 ∨ (decP (s.word p.seg p.off).1).dbl = true ∨ nearP (decP (s.word p.seg (p.off + 1)).1) = false ∨ (decP (s.word p.seg (p.off + 1)).1).off ≠ 0 := by simpa [or_assoc] using h5
      refine W_seq (W_region rfl ?_)
      refine stp (r_build (v := .agg #[.int .i64 0, .int .i64 0, .int .i64 0, .int .i64 0, .int .i64 0, .int .i64 0, .int .i64 0]) (fun w => by kernel_rfl) ?_)
      refine stn (r_storeAll rfl rfl hc10 (by rfl) (by rfl) (by rfl) ?_)
      intro w69 hc70 u71
      replace hc4 := u71.heap hc4 ne13
      replace hc32 := u71.heap hc32 ne37.symm
      replace hc49 := u71.heap hc49 ne54.symm
      replace G := G.upd u71 hge12
      clear u71 hc10
      refine stp (r_assign_int rfl ?_)
      refine WL_nil ?_
      refine W_ret ?_
      refine ret2 (res_all rfl hc70 (by rfl)) (res_tmp (v := .int .u16 23) rfl) ⟨?_, G⟩
      have h9 : twiceS s p = (Ob0, 23) := by unfold twiceS; rw [if_neg h1, if_neg h2, if_neg h3, if_neg h4, if_pos h8]
      rw [h9]; rfl
     ·-- false
      simp only [sb] at h5
      have h8 : ¬ ((decP (s.word p.seg p.off).1).kind ≠ 3 ∨ (decP (s.word p.seg p.off).1).dbl = true ∨ nearP (decP (s.word p.seg (p.off + 1)).1) = false ∨ (decP (s.word p.seg (p.off + 1)).1).off ≠ 0) := by simpa [and_assoc] using h5
      refine W_skip ?_
      refine W_seq (W_region rfl ?_)
      refine stp (r_move (v := src) rfl ?_)
      refine stp (r_loadAll rfl hc49 (by rfl) ?_)
      refine stp (r_fieldAddr rfl ?_)
      refine stp (r_load (v := .int .i64 ((decP (s.word p.seg p.off).1).seg)) rfl hc32 rfl ?_)
      refine stp (r_fieldAddr rfl ?_)
      refine stp (r_load (v := .int .i64 ((decP (s.word p.seg p.off).1).off)) rfl hc32 rfl ?_)
      refine stp (r_gives (v := .tuple #[.agg #[.int .i64 ((foundS s (decP (s.word p.seg (p.off + 1)).1) ((decP (s.word p.seg p.off).1).seg) ((decP (s.word p.seg p.off).1).off)).1.kind), .int .i64 ((foundS s (decP (s.word p.seg (p.off + 1)).1) ((decP (s.word p.seg p.off).1).seg) ((decP (s.word p.seg p.off).1).off)).1.seg), .int .i64 ((foundS s (decP (s.word p.seg (p.off + 1)).1) ((decP (s.word p.seg p.off).1).seg) ((decP (s.word p.seg p.off).1).off)).1.at_), .int .i64 ((foundS s (decP (s.word p.seg (p.off + 1)).1) ((decP (s.word p.seg p.off).1).seg) ((decP (s.word p.seg p.off).1).off)).1.data), .int .i64 ((foundS s (decP (s.word p.seg (p.off + 1)).1) ((decP (s.word p.seg p.off).1).seg) ((decP (s.word p.seg p.off).1).off)).1.ptrs), .int .i64 ((foundS s (decP (s.word p.seg (p.off + 1)).1) ((decP (s.word p.seg p.off).1).seg) ((decP (s.word p.seg p.off).1).off)).1.size), .int .i64 ((foundS s (decP (s.word p.seg (p.off + 1)).1) ((decP (s.word p.seg p.off).1).seg) ((decP (s.word p.seg p.off).1).off)).1.count)], .int .u16 ((foundS s (decP (s.word p.seg (p.off + 1)).1) ((decP (s.word p.seg p.off).1).seg) ((decP (s.word p.seg p.off).1).off)).2)]) rfl (found_calls _ (H.grow G) (decP (s.word p.seg (p.off + 1)).1) ((decP (s.word p.seg p.off).1).seg) ((decP (s.word p.seg p.off).1).off) hr (by simp only [inR]; omega)) ?_)
      intro w72 g73
      replace hc4 := g73.heap hc4
      replace hc10 := g73.heap hc10
      replace hc32 := g73.heap hc32
      replace hc49 := g73.heap hc49
      replace G := G.tr g73
      clear g73
      refine stp (r_extract (v := .agg #[.int .i64 ((foundS s (decP (s.word p.seg (p.off + 1)).1) ((decP (s.word p.seg p.off).1).seg) ((decP (s.word p.seg p.off).1).off)).1.kind), .int .i64 ((foundS s (decP (s.word p.seg (p.off + 1)).1) ((decP (s.word p.seg p.off).1).seg) ((decP (s.word p.seg p.off).1).off)).1.seg), .int .i64 ((foundS s (decP (s.word p.seg (p.off + 1)).1) ((decP (s.word p.seg p.off).1).seg) ((decP (s.word p.seg p.off).1).off)).1.at_), .int .i64 ((foundS s (decP (s.word p.seg (p.off + 1)).1) ((decP (s.word p.seg p.off).1).seg) ((decP (s.word p.seg p.off).1).off)).1.data), .int .i64 ((foundS s (decP (s.word p.seg (p.off + 1)).1) ((decP (s.word p.seg p.off).1).seg) ((decP (s.word p.seg p.off).1).off)).1.ptrs), .int .i64 ((foundS s (decP (s.word p.seg (p.off + 1)).1) ((decP (s.word p.seg p.off).1).seg) ((decP (s.word p.seg p.off).1).off)).1.size), .int .i64 ((foundS s (decP (s.word p.seg (p.off + 1)).1) ((decP (s.word p.seg p.off).1).seg) ((decP (s.word p.seg p.off).1).off)).1.count)]) rfl rfl ?_)
      refine stp (r_extract (v := .int .u16 ((foundS s (decP (s.word p.seg (p.off + 1)).1) ((decP (s.word p.seg p.off).1).seg) ((decP (s.word p.seg p.off).1).off)).2)) rfl rfl ?_)
      refine stn (r_storeAll rfl rfl hc10 (by rfl) (by rfl) (by rfl) ?_)
      intro w74 hc75 u76
      replace hc4 := u76.heap hc4 ne13
      replace hc32 := u76.heap hc32 ne37.symm
      replace hc49 := u76.heap hc49 ne54.symm
      replace G := G.upd u76 hge12
      clear u76 hc10
      refine stp (r_assign_int rfl ?_)
      refine WL_nil ?_
      refine W_ret ?_
      refine ret2 (res_all rfl hc75 (by rfl)) (res_tmp (v := .int .u16 ((foundS s (decP (s.word p.seg (p.off + 1)).1) ((decP (s.word p.seg p.off).1).seg) ((decP (s.word p.seg p.off).1).off)).2)) rfl) ⟨?_, G⟩
      have h9 : twiceS s p = foundS s (decP (s.word p.seg (p.off + 1)).1) (decP (s.word p.seg p.off).1).seg (decP (s.word p.seg p.off).1).off := by unfold twiceS; rw [if_neg h1, if_neg h2, if_neg h3, if_neg h4, if_neg h8]
      rw [h9]

set_option maxRecDepth 100000 in
theorem follow_calls (w : World) {src : Value} {s : Src} (H : SrcOk Try.prog w src s) (seg a : Int) : Gives Try.prog 63 #[src, .int .i64 seg, .int .i64 a] w (.tuple #[.agg #[.int .i64 ((followS s seg a).1.kind), .int .i64 ((followS s seg a).1.seg), .int .i64 ((followS s seg a).1.at_), .int .i64 ((followS s seg a).1.data), .int .i64 ((followS s seg a).1.ptrs), .int .i64 ((followS s seg a).1.size), .int .i64 ((followS s seg a).1.count)], .int .u16 ((followS s seg a).2)]) := by
 obtain ⟨t_, u_, f_, hsrc, -, -⟩ := H.word
 have hq := ptrS_range H seg a
 have hqo := hq.off
 have G := Grow.rfl' w
 refine gives_of Try.func63 Try.ntmps63 Try.results63 rfl rfl ?_
 refine W_seq (W_region rfl ?_)
 refine stp (r_alloc ?_)
 intro b1 w2 hb3 hc4 g5
 refine stp (r_assign_int rfl ?_)
 refine WL_nil ?_
 refine W_seq ?_
 refine W_seq (W_region rfl ?_)
 refine stp (r_move (v := src) rfl ?_)
 refine stp (r_eqlIfc (T := t_) (v := u_) hsrc rfl ?_)
 refine WL_nil ?_
 have hge6 := Nat.le_trans G.size hb3
 replace G := G.tr g5
 clear g5 hb3
 refine W_false rfl ?_
 refine W_skip ?_
 refine W_seq (W_region rfl ?_)
 refine stp (r_move (v := src) rfl ?_)
 refine stp (r_move_int rfl ?_)
 refine stp (r_move_int rfl ?_)
 refine stp (r_gives (v := .tuple #[.agg #[.int .i64 ((ptrS s seg a).1.kind), .int .i64 ((ptrS s seg a).1.off), .int .i64 ((ptrS s seg a).1.data), .int .i64 ((ptrS s seg a).1.ptrs), .int .i64 ((ptrS s seg a).1.size), .int .i64 ((ptrS s seg a).1.count), .int .i64 ((ptrS s seg a).1.seg), .bool ((ptrS s seg a).1.dbl)], .int .u16 ((ptrS s seg a).2)]) rfl (pointer_calls _ (H.grow G) seg a) ?_)
 intro w7 g8
 replace hc4 := g8.heap hc4
 replace G := G.tr g8
 clear g8
 refine stp (r_move (v := .tuple #[.agg #[.int .i64 ((ptrS s seg a).1.kind), .int .i64 ((ptrS s seg a).1.off), .int .i64 ((ptrS s seg a).1.data), .int .i64 ((ptrS s seg a).1.ptrs), .int .i64 ((ptrS s seg a).1.size), .int .i64 ((ptrS s seg a).1.count), .int .i64 ((ptrS s seg a).1.seg), .bool ((ptrS s seg a).1.dbl)], .int .u16 ((ptrS s seg a).2)]) rfl ?_)
 refine stp (r_extract (v := .agg #[.int .i64 ((ptrS s seg a).1.kind), .int .i64 ((ptrS s seg a).1.off), .int .i64 ((ptrS s seg a).1.data), .int .i64 ((ptrS s seg a).1.ptrs), .int .i64 ((ptrS s seg a).1.size), .int .i64 ((ptrS s seg a).1.count), .int .i64 ((ptrS s seg a).1.seg), .bool ((ptrS s seg a).1.dbl)]) rfl rfl ?_)
 refine stp (r_extract (v := .int .u16 ((ptrS s seg a).2)) rfl rfl ?_)
 refine stp (r_alloc ?_)
 intro b9 w10 hb11 hc12 g13
 refine stn (r_storeAll rfl rfl hc12 (by rfl) (by rfl) (by rfl) ?_)
 intro w14 hc15 u16
 have g17 := g13.upd u16 hb11
 have hge18 := Nat.le_trans G.size hb11
 have ne19 := Nat.ne_of_lt (Nat.lt_of_lt_of_le (lt_of_heap hc4) hb11)
 replace hc4 := g17.heap hc4
 replace G := G.tr g17
 clear u16 g13 hb11 hc12
 refine stp (r_assign_int rfl ?_)
 refine WL_nil ?_
 refine W_seq ?_
 refine W_block ?_
 refine W_seq (W_region rfl ?_)
 refine stp (r_move_int rfl ?_)
 refine stp (r_neq rfl rfl ?_)
 refine stp (r_move_bool rfl ?_)
 refine WL_some (og_if (s := .bool (decide (((ptrS s seg a).2) ≠ 0))) (b := false) (v := .pointer (some ⟨b9, 0, none⟩)) rfl (wgb_f _) (fun hc20 => ?_) ?_)
 ·
  have hc20_ := hc20
  try simp only [sb] at hc20_
  refine r_fieldAddr rfl ?_
  exact ⟨rfl, rfl⟩
 refine WL_some (og_if (s := .bool (decide (((ptrS s seg a).2) ≠ 0))) (b := false) (v := .int .i64 ((ptrS s seg a).1.kind)) rfl (wgb_f _) (fun hc21 => ?_) ?_)
 ·
  have hc21_ := hc21
  try simp only [sb] at hc21_
  refine r_load (v := .int .i64 ((ptrS s seg a).1.kind)) (gvt hc21) hc15 rfl ?_
  exact ⟨rfl, rfl⟩
 refine WL_some (og_if (s := .bool (decide (((ptrS s seg a).2) ≠ 0))) (b := false) (v := .bool (decide (((ptrS s seg a).1.kind) = 0))) rfl (wgb_f _) (fun hc22 => ?_) ?_)
 ·
  have hc22_ := hc22
  try simp only [sb] at hc22_
  refine r_eql (gvt hc22) rfl ?_
  exact ⟨rfl, rfl⟩
 refine stp (r_or2 rfl rfl rfl ?_)
 refine stp (r_assign_bool rfl ?_)
 refine WL_nil ?_
 refine W_cond2 (b := ((decide (((ptrS s seg a).2) ≠ 0)) || (decide (((ptrS s seg a).1.kind) = 0)))) rfl (fun h1 => ?_) (fun h1 => ?_)
 ·-- true
  simp only [sb] at h1
  refine W_seq (W_region rfl ?_)
  refine stp (r_build (v := .agg #[.int .i64 0, .int .i64 0, .int .i64 0, .int .i64 0, .int .i64 0, .int .i64 0, .int .i64 0]) (fun w => by kernel_rfl) ?_)
  refine stp (r_move_int rfl ?_)
  refine stn (r_storeAll rfl rfl hc4 (by rfl) (by rfl) (by rfl) ?_)
  intro w23 hc24 u25
  replace hc15 := u25.heap hc15 ne19.symm
  replace G := G.upd u25 hge6
  clear u25 hc4
  refine stp (r_assign_int rfl ?_)
  refine WL_nil ?_
  refine W_ret ?_
  refine ret2 (res_all rfl hc24 (by rfl)) (res_tmp (v := .int .u16 ((ptrS s seg a).2)) rfl) ⟨?_, G⟩
  have h9 : followS s seg a = (Ob0, (ptrS s seg a).2) := by unfold followS; rw [if_pos h1]
  rw [h9]; rfl
 ·-- false
  simp only [sb] at h1
  have hz : (ptrS s seg a).2 = 0 := by omega
  have hb := ptrS_at H hz
  have h1n : ¬ ((ptrS s seg a).2 ≠ 0 ∨ (ptrS s seg a).1.kind = 0) := by omega
  refine W_seq (W_region rfl ?_)
  refine stp (r_loadAll rfl hc15 (by rfl) ?_)
  refine stp (r_gives (v := .bool (nearP ((ptrS s seg a).1))) rfl (isnear_calls _ ((ptrS s seg a).1)) ?_)
  intro w26 g27
  replace hc4 := g27.heap hc4
  replace hc15 := g27.heap hc15
  replace G := G.tr g27
  clear g27
  refine stp (r_assign_bool rfl ?_)
  refine WL_nil ?_
  refine W_cond2 (b := (nearP ((ptrS s seg a).1))) rfl (fun h2 => ?_) (fun h2 => ?_)
  ·-- true
   refine W_seq (W_region rfl ?_)
   refine stp (r_move (v := src) rfl ?_)
   refine stp (r_loadAll rfl hc15 (by rfl) ?_)
   refine stp (r_move_int rfl ?_)
   refine stp (r_move_int rfl ?_)
   refine stp (r_add rfl rfl ?_ ?_); constructor <;> omega
   refine stp (r_fieldAddr rfl ?_)
   refine stp (r_load (v := .int .i64 ((ptrS s seg a).1.off)) rfl hc15 rfl ?_)
   refine stp (r_add rfl rfl ?_ ?_); constructor <;> omega
   refine stp (r_gives (v := .tuple #[.agg #[.int .i64 ((foundS s ((ptrS s seg a).1) seg ((a + 1) + ((ptrS s seg a).1.off))).1.kind), .int .i64 ((foundS s ((ptrS s seg a).1) seg ((a + 1) + ((ptrS s seg a).1.off))).1.seg), .int .i64 ((foundS s ((ptrS s seg a).1) seg ((a + 1) + ((ptrS s seg a).1.off))).1.at_), .int .i64 ((foundS s ((ptrS s seg a).1) seg ((a + 1) + ((ptrS s seg a).1.off))).1.data), .int .i64 ((foundS s ((ptrS s seg a).1) seg ((a + 1) + ((ptrS s seg a).1.off))).1.ptrs), .int .i64 ((foundS s ((ptrS s seg a).1) seg ((a + 1) + ((ptrS s seg a).1.off))).1.size), .int .i64 ((foundS s ((ptrS s seg a).1) seg ((a + 1) + ((ptrS s seg a).1.off))).1.count)], .int .u16 ((foundS s ((ptrS s seg a).1) seg ((a + 1) + ((ptrS s seg a).1.off))).2)]) rfl (found_calls _ (H.grow G) ((ptrS s seg a).1) seg ((a + 1) + ((ptrS s seg a).1.off)) hq (by simp only [inR]; omega)) ?_)
   intro w28 g29
   replace hc4 := g29.heap hc4
   replace hc15 := g29.heap hc15
   replace G := G.tr g29
   clear g29
   refine stp (r_extract (v := .agg #[.int .i64 ((foundS s ((ptrS s seg a).1) seg ((a + 1) + ((ptrS s seg a).1.off))).1.kind), .int .i64 ((foundS s ((ptrS s seg a).1) seg ((a + 1) + ((ptrS s seg a).1.off))).1.seg), .int .i64 ((foundS s ((ptrS s seg a).1) seg ((a + 1) + ((ptrS s seg a).1.off))).1.at_), .int .i64 ((foundS s ((ptrS s seg a).1) seg ((a + 1) + ((ptrS s seg a).1.off))).1.data), .int .i64 ((foundS s ((ptrS s seg a).1) seg ((a + 1) + ((ptrS s seg a).1.off))).1.ptrs), .int .i64 ((foundS s ((ptrS s seg a).1) seg ((a + 1) + ((ptrS s seg a).1.off))).1.size), .int .i64 ((foundS s ((ptrS s seg a).1) seg ((a + 1) + ((ptrS s seg a).1.off))).1.count)]) rfl rfl ?_)
   refine stp (r_extract (v := .int .u16 ((foundS s ((ptrS s seg a).1) seg ((a + 1) + ((ptrS s seg a).1.off))).2)) rfl rfl ?_)
   refine stn (r_storeAll rfl rfl hc4 (by rfl) (by rfl) (by rfl) ?_)
   intro w30 hc31 u32
   replace hc15 := u32.heap hc15 ne19.symm
   replace G := G.upd u32 hge6
   clear u32 hc4
   refine stp (r_assign_int rfl ?_)
   refine WL_nil ?_
   refine W_ret ?_
   refine ret2 (res_all rfl hc31 (by rfl)) (res_tmp (v := .int .u16 ((foundS s ((ptrS s seg a).1) seg ((a + 1) + ((ptrS s seg a).1.off))).2)) rfl) ⟨?_, G⟩
   have h9 : followS s seg a = foundS s (ptrS s seg a).1 seg (a + 1 + (ptrS s seg a).1.off) := by unfold followS; rw [if_neg h1n, if_pos h2]
   rw [h9]
  ·-- false
   refine W_seq (W_region rfl ?_)
   refine stp (r_fieldAddr rfl ?_)
   refine stp (r_load (v := .bool ((ptrS s seg a).1.dbl)) rfl hc15 rfl ?_)
   refine stp (r_assign_bool rfl ?_)
   refine WL_nil ?_
   refine W_cond2 (b := ((ptrS s seg a).1.dbl)) rfl (fun h3 => ?_) (fun h3 => ?_)
   ·-- true
    refine W_seq (W_region rfl ?_)
    refine stp (r_move (v := src) rfl ?_)
    refine stp (r_loadAll rfl hc15 (by rfl) ?_)
    refine stp (r_gives (v := .tuple #[.agg #[.int .i64 ((twiceS s (ptrS s seg a).1).1.kind), .int .i64 ((twiceS s (ptrS s seg a).1).1.seg), .int .i64 ((twiceS s (ptrS s seg a).1).1.at_), .int .i64 ((twiceS s (ptrS s seg a).1).1.data), .int .i64 ((twiceS s (ptrS s seg a).1).1.ptrs), .int .i64 ((twiceS s (ptrS s seg a).1).1.size), .int .i64 ((twiceS s (ptrS s seg a).1).1.count)], .int .u16 ((twiceS s (ptrS s seg a).1).2)]) rfl (twice_calls _ (H.grow G) (ptrS s seg a).1 hq) ?_)
    intro w33 g34
    replace hc4 := g34.heap hc4
    replace hc15 := g34.heap hc15
    replace G := G.tr g34
    clear g34
    refine stp (r_extract (v := .agg #[.int .i64 ((twiceS s (ptrS s seg a).1).1.kind), .int .i64 ((twiceS s (ptrS s seg a).1).1.seg), .int .i64 ((twiceS s (ptrS s seg a).1).1.at_), .int .i64 ((twiceS s (ptrS s seg a).1).1.data), .int .i64 ((twiceS s (ptrS s seg a).1).1.ptrs), .int .i64 ((twiceS s (ptrS s seg a).1).1.size), .int .i64 ((twiceS s (ptrS s seg a).1).1.count)]) rfl rfl ?_)
    refine stp (r_extract (v := .int .u16 ((twiceS s (ptrS s seg a).1).2)) rfl rfl ?_)
    refine stn (r_storeAll rfl rfl hc4 (by rfl) (by rfl) (by rfl) ?_)
    intro w35 hc36 u37
    replace hc15 := u37.heap hc15 ne19.symm
    replace G := G.upd u37 hge6
    clear u37 hc4
    refine stp (r_assign_int rfl ?_)
    refine WL_nil ?_
    refine W_ret ?_
    refine ret2 (res_all rfl hc36 (by rfl)) (res_tmp (v := .int .u16 ((twiceS s (ptrS s seg a).1).2)) rfl) ⟨?_, G⟩
    have h9 : followS s seg a = twiceS s (ptrS s seg a).1 := by unfold followS; rw [if_neg h1n, if_neg (by simp [h2]), if_pos h3]
    rw [h9]
   ·-- false
    refine W_skip ?_
    refine W_seq (W_region rfl ?_)
    refine stp (r_move (v := src) rfl ?_)
    refine stp (r_loadAll rfl hc15 (by rfl) ?_)
    refine stp (r_gives (v := .tuple #[.agg #[.int .i64 ((landedS s (ptrS s seg a).1).1.kind), .int .i64 ((landedS s (ptrS s seg a).1).1.seg), .int .i64 ((landedS s (ptrS s seg a).1).1.at_), .int .i64 ((landedS s (ptrS s seg a).1).1.data), .int .i64 ((landedS s (ptrS s seg a).1).1.ptrs), .int .i64 ((landedS s (ptrS s seg a).1).1.size), .int .i64 ((landedS s (ptrS s seg a).1).1.count)], .int .u16 ((landedS s (ptrS s seg a).1).2)]) rfl (landed_calls _ (H.grow G) (ptrS s seg a).1 hq) ?_)
    intro w38 g39
    replace hc4 := g39.heap hc4
    replace hc15 := g39.heap hc15
    replace G := G.tr g39
    clear g39
    refine stp (r_extract (v := .agg #[.int .i64 ((landedS s (ptrS s seg a).1).1.kind), .int .i64 ((landedS s (ptrS s seg a).1).1.seg), .int .i64 ((landedS s (ptrS s seg a).1).1.at_), .int .i64 ((landedS s (ptrS s seg a).1).1.data), .int .i64 ((landedS s (ptrS s seg a).1).1.ptrs), .int .i64 ((landedS s (ptrS s seg a).1).1.size), .int .i64 ((landedS s (ptrS s seg a).1).1.count)]) rfl rfl ?_)
    refine stp (r_extract (v := .int .u16 ((landedS s (ptrS s seg a).1).2)) rfl rfl ?_)
    refine stn (r_storeAll rfl rfl hc4 (by rfl) (by rfl) (by rfl) ?_)
    intro w40 hc41 u42
    replace hc15 := u42.heap hc15 ne19.symm
    replace G := G.upd u42 hge6
    clear u42 hc4
    refine stp (r_assign_int rfl ?_)
    refine WL_nil ?_
    refine W_ret ?_
    refine ret2 (res_all rfl hc41 (by rfl)) (res_tmp (v := .int .u16 ((landedS s (ptrS s seg a).1).2)) rfl) ⟨?_, G⟩
    have h9 : followS s seg a = landedS s (ptrS s seg a).1 := by unfold followS; rw [if_neg h1n, if_neg (by simp [h2]), if_neg (by simp [h3])]
    rw [h9]

set_option maxRecDepth 100000 in
theorem pay_calls (w : World) {b : Nat} {o : Ob} {left : Int} {t_ : TypeId} {u_ : Value} (hb : w.heap[b]? = some (.cells #[.iface t_ u_, .int .i64 o.kind, .int .i64 o.seg, .int .i64 o.at_, .int .i64 o.data, .int .i64 o.ptrs, .int .i64 o.size, .int .i64 o.count, .int .i64 left] 137 (0, 0))) (h0 : -1 ≤ left ∧ left ≤ 9223372036854775807) (h1 : 0 ≤ wordsO o ∧ wordsO o ≤ 536870912) : Calls Try.prog 78 #[.pointer (some ⟨b, 0, none⟩)] w (Ret fun v w' => v = .int .u16 (if left - (1 + wordsO o) < 0 then 22 else 0) ∧ w'.heap[b]? = some (.cells #[.iface t_ u_, .int .i64 o.kind, .int .i64 o.seg, .int .i64 o.at_, .int .i64 o.data, .int .i64 o.ptrs, .int .i64 o.size, .int .i64 o.count, .int .i64 (left - (1 + wordsO o))] 137 (0, 0)) ∧ Kp [b] w w') := by
 have K := Kp.refl [b] w
 refine calls_ret Try.func78 Try.ntmps78 Try.results78 rfl rfl ?_
 refine W_seq (W_region rfl ?_)
 refine stp (r_assign_int rfl ?_)
 refine WL_nil ?_
 refine W_seq ?_
 refine W_any 12 [[], [0], [1, 0], [2, 1, 0], [], [0], [1, 0], [2, 1, 0], [3, 2, 1, 0], [4, 3, 2, 1, 0], [9, 8, 7, 6, 5, 4, 3, 2, 1, 0], [10, 9, 8, 7, 6, 5, 4, 3, 2, 1, 0]] mixed (by kernel_rfl) (by kernel_rfl) (by kernel_rfl) ?_
 intro w1 g2
 replace hb := g2.heap hb
 replace K := K.tr g2.kp
 clear g2
 apply AO_ex
 ·intro w_ g_; refine og rfl ?_; refine r_move_ptr rfl ?_; exact ⟨Grow.rfl' _, rfl⟩
 apply AO_ex
 ·intro w_ g_; refine og rfl ?_; refine r_nilCheck rfl ?_; exact ⟨Grow.rfl' _, rfl⟩
 apply AO_ex
 ·intro w_ g_; refine og rfl ?_; refine r_fieldAddr rfl ?_; exact ⟨Grow.rfl' _, rfl⟩
 apply AO_ex
 ·intro w_ g_; refine og rfl ?_; refine r_load (v := .int .i64 left) rfl (g_.heap hb) rfl ?_; exact ⟨Grow.rfl' _, rfl⟩
 apply AO_ex
 ·intro w_ g_; refine og rfl ?_; refine r_move_ptr rfl ?_; exact ⟨Grow.rfl' _, rfl⟩
 apply AO_ex
 ·intro w_ g_; refine og rfl ?_; refine r_nilCheck rfl ?_; exact ⟨Grow.rfl' _, rfl⟩
 apply AO_ex
 ·intro w_ g_; refine og rfl ?_; refine r_fieldAddr rfl ?_; exact ⟨Grow.rfl' _, rfl⟩
 apply AO_ex
 ·intro w_ g_; refine og rfl ?_; refine r_loadN rfl (g_.heap hb) (by rfl) (by rfl) ?_; exact ⟨Grow.rfl' _, rfl⟩
 apply AO_ex
 ·intro w_ g_; refine og rfl ?_; exact r_gives (v := .int .i64 (wordsO o)) rfl (owords_calls _ o) (fun w2_ g2_ => ⟨g2_, rfl⟩)
 apply AO_ex
 ·intro w_ g_; refine og rfl ?_; refine r_add rfl rfl ?_ ?_; constructor <;> omega; exact ⟨Grow.rfl' _, rfl⟩
 apply AO_ex
 ·intro w_ g_; refine og rfl ?_; refine r_sub rfl rfl ?_ ?_; constructor <;> omega; exact ⟨Grow.rfl' _, rfl⟩
 apply AO_ex
 ·intro w_ g_; refine og rfl ?_; refine r_nilCheck rfl ?_; exact ⟨Grow.rfl' _, rfl⟩
 refine AO_nil ?_
 intro w3 g4
 replace hb := g4.heap hb
 replace K := K.tr g4.kp
 clear g4
 refine stp (r_fieldAddr rfl ?_)
 refine stn (r_store1 (v := .int .i64 (left - (1 + (wordsO o)))) rfl rfl (by rfl) hb (by rfl) (by rfl) ?_)
 intro w5 hc6 u7
 replace K := K.tr (Kp.of_upd u7 (by simp))
 clear u7 hb
 refine WL_nil ?_
 refine W_seq ?_
 refine W_seq (W_region rfl ?_)
 refine stp (r_move_ptr rfl ?_)
 refine stp (r_nilCheck rfl ?_)
 refine stp (r_fieldAddr rfl ?_)
 refine stp (r_load (v := .int .i64 (left - (1 + (wordsO o)))) rfl hc6 rfl ?_)
 refine stp (r_lss rfl rfl ?_)
 refine WL_nil ?_
 refine W_cond2 (b := (decide ((left - (1 + (wordsO o))) < 0))) rfl (fun h2 => ?_) (fun h2 => ?_)
 ·-- true
  replace h2 := of_decide_eq_true h2
  refine W_seq (W_region rfl ?_)
  refine stp (r_assign_int rfl ?_)
  refine WL_nil ?_
  refine W_ret ?_
  refine ret1 (res_tmp (v := .int .u16 22) rfl) ⟨by rw [if_pos h2], hc6, K⟩
 ·-- false
  replace h2 := of_decide_eq_false h2
  refine W_skip ?_
  refine W_seq (W_region rfl ?_)
  refine stp (r_assign_int rfl ?_)
  refine WL_nil ?_
  refine W_ret ?_
  refine ret1 (res_tmp (v := .int .u16 0) rfl) ⟨by rw [if_neg h2], hc6, K⟩

set_option maxRecDepth 100000 in
theorem step_calls (w : World) {w0 : World} {s : Src} {t_ : TypeId} {u_ : Value} (H : SrcOk Try.prog w0 (.iface t_ u_) s) (g0 : Grow w0 w) {b : Nat} {o : Ob} {left k : Int} (hb0 : w0.heap.size ≤ b) (hb : w.heap[b]? = some (.cells #[.iface t_ u_, .int .i64 o.kind, .int .i64 o.seg, .int .i64 o.at_, .int .i64 o.data, .int .i64 o.ptrs, .int .i64 o.size, .int .i64 o.count, .int .i64 left] 137 (0, 0))) (ho : ObR o) (hk : 0 ≤ k) : Calls Try.prog 79 #[.pointer (some ⟨b, 0, none⟩), .int .i64 k] w (Ret fun v w' => v = .int .u16 (stepS s o k).2 ∧ w'.heap[b]? = some (.cells #[.iface t_ u_, .int .i64 ((stepS s o k).1.kind), .int .i64 ((stepS s o k).1.seg), .int .i64 ((stepS s o k).1.at_), .int .i64 ((stepS s o k).1.data), .int .i64 ((stepS s o k).1.ptrs), .int .i64 ((stepS s o k).1.size), .int .i64 ((stepS s o k).1.count), .int .i64 left] 137 (0, 0)) ∧ Kp [b] w w') := by
 obtain ⟨rk, rs, ra, rd, rp, rz, rc⟩ := ho
 have K := Kp.refl [b] w
 refine calls_ret Try.func79 Try.ntmps79 Try.results79 rfl rfl ?_
 have hblt := lt_of_heap hb
 refine W_seq (W_region rfl ?_)
 refine stp (r_assign_int rfl ?_)
 refine WL_nil ?_
 refine W_seq (W_region rfl ?_)
 refine stp (r_move_ptr rfl ?_)
 refine stp (r_nilCheck rfl ?_)
 refine stp (r_fieldAddr rfl ?_)
 refine stp (r_loadN rfl hb (by rfl) (by rfl) ?_)
 refine stp (r_alloc ?_)
 intro b1 w2 hb3 hc4 g5
 refine stn (r_storeAll rfl rfl hc4 (by rfl) (by rfl) (by rfl) ?_)
 intro w6 hc7 u8
 have g9 := g5.upd u8 hb3
 have hge10 := Nat.le_trans K.size hb3
 replace hb := g9.heap hb
 replace K := K.tr g9.kp
 replace g0 := g0.tr g9
 clear u8 g5 hb3 hc4
 refine WL_nil ?_
 refine W_seq (W_region rfl ?_)
 refine stp (r_fieldAddr rfl ?_)
 refine stp (r_load (v := .int .i64 o.at_) rfl hc7 rfl ?_)
 refine stp (r_move_int rfl ?_)
 refine stp (r_addw rfl rfl ?_)
 obtain ⟨at9, hat9⟩ : ∃ x, x = IntKind.i64.wrap (o.at_ + k) := ⟨_, rfl⟩
 rw [← hat9]
 refine stp (r_assign_int rfl ?_)
 refine WL_nil ?_
 refine W_seq ?_
 refine W_block ?_
 refine W_seq (W_region rfl ?_)
 refine stp (r_fieldAddr rfl ?_)
 refine stp (r_load (v := .int .i64 o.kind) rfl hc7 rfl ?_)
 refine stp (r_eql rfl rfl ?_)
 refine stp (r_move_bool rfl ?_)
 refine WL_some (og_if (s := .bool (decide (o.kind = 0))) (b := false) (v := .pointer (some ⟨b1, 0, none⟩)) rfl (wgb_f _) (fun hc11 => ?_) ?_)
 ·
  have hc11_ := hc11
  try simp only [sb] at hc11_
  refine r_fieldAddr rfl ?_
  exact ⟨rfl, rfl⟩
 refine WL_some (og_if (s := .bool (decide (o.kind = 0))) (b := false) (v := .int .i64 o.kind) rfl (wgb_f _) (fun hc12 => ?_) ?_)
 ·
  have hc12_ := hc12
  try simp only [sb] at hc12_
  refine r_load (v := .int .i64 o.kind) (gvt hc12) hc7 rfl ?_
  exact ⟨rfl, rfl⟩
 refine WL_some (og_if (s := .bool (decide (o.kind = 0))) (b := false) (v := .bool (decide (o.kind = 1))) rfl (wgb_f _) (fun hc13 => ?_) ?_)
 ·
  have hc13_ := hc13
  try simp only [sb] at hc13_
  refine r_eql (gvt hc13) rfl ?_
  exact ⟨rfl, rfl⟩
 refine WL_some (og_if (s := .bool (decide (o.kind = 0))) (b := false) (v := .bool (decide (o.kind = 1))) rfl (wgb_f _) (fun hc14 => ?_) ?_)
 ·
  have hc14_ := hc14
  try simp only [sb] at hc14_
  refine r_move (v := .bool (decide (o.kind = 1))) (gvt hc14) ?_
  exact ⟨rfl, rfl⟩
 refine WL_some (og_if (s := gv (!(decide (o.kind = 0))) (.bool (decide (o.kind = 1)))) (b := true) (v := .int .i64 k) rfl (wgb_gt _ _) (fun hc15 => ?_) ?_)
 ·
  obtain ⟨hc15a, hc15b⟩ := and_t hc15
  have hc15a_ := hc15a
  try simp only [sb] at hc15a_
  have hc15b_ := of_decide_eq_true hc15b
  refine r_move_int rfl ?_
  exact ⟨rfl, rfl⟩
 refine WL_some (og_if (s := gv (!(decide (o.kind = 0))) (.bool (decide (o.kind = 1)))) (b := true) (v := .pointer (some ⟨b1, 4, none⟩)) rfl (wgb_gt _ _) (fun hc16 => ?_) ?_)
 ·
  obtain ⟨hc16a, hc16b⟩ := and_t hc16
  have hc16a_ := hc16a
  try simp only [sb] at hc16a_
  have hc16b_ := of_decide_eq_true hc16b
  refine r_fieldAddr rfl ?_
  exact ⟨rfl, rfl⟩
 refine WL_some (og_if (s := gv (!(decide (o.kind = 0))) (.bool (decide (o.kind = 1)))) (b := true) (v := .int .i64 o.ptrs) rfl (wgb_gt _ _) (fun hc17 => ?_) ?_)
 ·
  obtain ⟨hc17a, hc17b⟩ := and_t hc17
  have hc17a_ := hc17a
  try simp only [sb] at hc17a_
  have hc17b_ := of_decide_eq_true hc17b
  refine r_load (v := .int .i64 o.ptrs) (gvt hc17) hc7 rfl ?_
  exact ⟨rfl, rfl⟩
 refine WL_some (og_if (s := gv (!(decide (o.kind = 0))) (.bool (decide (o.kind = 1)))) (b := true) (v := .bool (decide (k ≥ o.ptrs))) rfl (wgb_gt _ _) (fun hc18 => ?_) ?_)
 ·
  obtain ⟨hc18a, hc18b⟩ := and_t hc18
  have hc18a_ := hc18a
  try simp only [sb] at hc18a_
  have hc18b_ := of_decide_eq_true hc18b
  refine r_geq (gvt hc18) (gvt hc18) ?_
  exact ⟨rfl, rfl⟩
 refine WL_some (og_if (s := .bool (decide (o.kind = 0))) (b := false) (v := .bool ((decide (o.kind = 1)) && (decide (k ≥ o.ptrs)))) rfl (wgb_f _) (fun hc19 => ?_) ?_)
 ·
  have hc19_ := hc19
  try simp only [sb] at hc19_
  refine r_and3 hc19 (gvt hc19) rfl rfl ?_
  exact ⟨rfl, rfl⟩
 refine stp (r_or2 rfl rfl rfl ?_)
 refine stp (r_assign_bool rfl ?_)
 refine WL_nil ?_
 refine W_cond2 (b := ((decide (o.kind = 0)) || ((decide (o.kind = 1)) && (decide (k ≥ o.ptrs))))) rfl (fun h1 => ?_) (fun h1 => ?_)
 ·-- true
  simp only [sb] at h1
  refine W_seq (W_region rfl ?_)
  refine stp (r_move_ptr rfl ?_)
  refine stp (r_build (v := .agg #[.int .i64 0, .int .i64 0, .int .i64 0, .int .i64 0, .int .i64 0, .int .i64 0, .int .i64 0]) (fun w => by kernel_rfl) ?_)
  refine stp (r_nilCheck rfl ?_)
  refine stp (r_fieldAddr rfl ?_)
  refine stn (r_store (cs' := #[.iface t_ u_, .int .i64 0, .int .i64 0, .int .i64 0, .int .i64 0, .int .i64 0, .int .i64 0, .int .i64 0, .int .i64 left]) rfl rfl (by rfl) hb (by rfl) (by rfl) (by rfl) (by rfl) ?_)
  intro w20 hc21 u22
  replace K := K.tr (Kp.of_upd u22 (by simp))
  replace g0 := g0.kp1 (Kp.of_upd u22 (by simp)) hb0
  clear u22 hb
  refine WL_nil ?_
  refine W_seq (W_region rfl ?_)
  refine stp (r_assign_int rfl ?_)
  refine WL_nil ?_
  refine W_ret ?_
  have h9 : stepS s o k = (Ob0, 0) := by unfold stepS; rw [if_pos h1]
  refine ret1 (res_tmp (v := .int .u16 0) rfl) ⟨by rw [h9], by rw [h9]; exact hc21, K⟩
 ·-- false
  simp only [sb] at h1
  have h1n : ¬ (o.kind = 0 ∨ o.kind = 1 ∧ k ≥ o.ptrs) := by omega
  refine W_seq (W_region rfl ?_)
  refine stp (r_fieldAddr rfl ?_)
  refine stp (r_load (v := .int .i64 o.kind) rfl hc7 rfl ?_)
  refine stp (r_eql rfl rfl ?_)
  refine stp (r_assign_bool rfl ?_)
  refine WL_nil ?_
  refine W_cond2 (b := (decide (o.kind = 1))) rfl (fun h2 => ?_) (fun h2 => ?_)
  ·-- true
   replace h2 := of_decide_eq_true h2
   have hat8 : at9 = o.at_ + k := by rw [hat9]; exact wrap_in (by simp only [inR]; omega)
   refine W_region rfl ?_
   refine stp (r_move_int rfl ?_)
   refine stp (r_fieldAddr rfl ?_)
   refine stp (r_load (v := .int .i64 o.data) rfl hc7 rfl ?_)
   refine stp (r_add rfl rfl ?_ ?_); constructor <;> omega
   refine stp (r_assign_int rfl ?_)
   refine WL_nil ?_
   refine W_seq ?_
   have kb_hc7 : ∀ w_, Kp [b] w6 w_ → w_.heap[b1]? = some (.cells #[.int .i64 o.kind, .int .i64 o.seg, .int .i64 o.at_, .int .i64 o.data, .int .i64 o.ptrs, .int .i64 o.size, .int .i64 o.count] 120 (0, 0)) := fun w_ k_ => k_.heap hc7 (fun hm_ => by simp only [List.mem_singleton] at hm_; have := hge10; omega)
   have kb_g0 : ∀ w_, Kp [b] w6 w_ → Grow w0 w_ := fun w_ k_ => g0.kp1 k_ hb0
   have kb_K : ∀ w_, Kp [b] w6 w_ → Kp [b] w w_ := fun w_ k_ => K.tr k_
   refine W_anyM 15 [[], [], [0], [1, 0], [2, 1, 0], [], [0], [], [6, 5, 4, 3, 2, 1, 0], [7, 6, 5, 4, 3, 2, 1, 0], [8, 7, 6, 5, 4, 3, 2, 1, 0], [9, 8, 7, 6, 5, 4, 3, 2, 1], [11, 10, 9, 8, 7, 6, 5, 4, 3, 2, 1], [12, 11, 10, 9, 8, 7, 6, 5, 4, 3, 2, 0], [13, 12, 11, 10, 9, 8, 7, 6, 5, 4, 3, 1, 0]] [4, 14] [b] (fun k_ w_ => match k_ with | 0 => w_.heap[b]? = some (.cells #[.iface t_ u_, .int .i64 o.kind, .int .i64 o.seg, .int .i64 o.at_, .int .i64 o.data, .int .i64 o.ptrs, .int .i64 o.size, .int .i64 o.count, .int .i64 left] 137 (0, 0)) | 1 => w_.heap[b]? = some (.cells #[.iface t_ u_, .int .i64 o.kind, .int .i64 o.seg, .int .i64 o.at_, .int .i64 o.data, .int .i64 o.ptrs, .int .i64 o.size, .int .i64 o.count, .int .i64 left] 137 (0, 0)) | _ => w_.heap[b]? = some (.cells #[.iface t_ u_, .int .i64 ((followS s o.seg (at9 + o.data)).1.kind), .int .i64 ((followS s o.seg (at9 + o.data)).1.seg), .int .i64 ((followS s o.seg (at9 + o.data)).1.at_), .int .i64 ((followS s o.seg (at9 + o.data)).1.data), .int .i64 ((followS s o.seg (at9 + o.data)).1.ptrs), .int .i64 ((followS s o.seg (at9 + o.data)).1.size), .int .i64 ((followS s o.seg (at9 + o.data)).1.count), .int .i64 left] 137 (0, 0))) mixed (by kernel_rfl) (by kernel_rfl) (by kernel_rfl) (by kernel_rfl) (fun k_ w_ w2_ g_ h_ => match k_, h_ with | 0, h_ => g_.heap h_ | 1, h_ => g_.heap h_ | n_ + 2, h_ => g_.heap h_) (fun w_ g_ => g_.heap hb) ?_
   intro w23 g24
   replace kb_hc7 : ∀ w_, Kp [b] w23 w_ → w_.heap[b1]? = some (.cells #[.int .i64 o.kind, .int .i64 o.seg, .int .i64 o.at_, .int .i64 o.data, .int .i64 o.ptrs, .int .i64 o.size, .int .i64 o.count] 120 (0, 0)) := fun w_ k_ => kb_hc7 w_ (g24.kp.tr k_)
   replace kb_g0 : ∀ w_, Kp [b] w23 w_ → Grow w0 w_ := fun w_ k_ => kb_g0 w_ (g24.kp.tr k_)
   replace kb_K : ∀ w_, Kp [b] w23 w_ → Kp [b] w w_ := fun w_ k_ => kb_K w_ (g24.kp.tr k_)
   have k0_ : Kp [b] w6 w23 := g24.kp
   apply AOM_ex (hm := by rfl)
   ·intro w_ g_; refine og rfl ?_; refine r_move_ptr rfl ?_; exact ⟨Grow.rfl' _, rfl⟩
   apply AOM_ex (hm := by rfl)
   ·intro w_ g_; refine og rfl ?_; refine r_move_ptr rfl ?_; exact ⟨Grow.rfl' _, rfl⟩
   apply AOM_ex (hm := by rfl)
   ·intro w_ g_; refine og rfl ?_; refine r_nilCheck rfl ?_; exact ⟨Grow.rfl' _, rfl⟩
   apply AOM_ex (hm := by rfl)
   ·intro w_ g_; refine og rfl ?_; refine r_fieldAddr rfl ?_; exact ⟨Grow.rfl' _, rfl⟩
   apply AOM_mut 0 (hm := by rfl)
   ·intro w_ g_ s_
    refine og rfl ?_
    refine r_load (v := .iface t_ u_) rfl s_ rfl ?_
    exact ⟨Kp.of_grow (Grow.rfl' _), s_, rfl⟩
   apply AOM_ex (hm := by rfl)
   ·intro w_ g_; refine og rfl ?_; refine r_fieldAddr rfl ?_; exact ⟨Grow.rfl' _, rfl⟩
   apply AOM_ex (hm := by rfl)
   ·intro w_ g_; refine og rfl ?_; refine r_load (v := .int .i64 o.seg) rfl (kb_hc7 _ g_) rfl ?_; exact ⟨Grow.rfl' _, rfl⟩
   apply AOM_ex (hm := by rfl)
   ·intro w_ g_; refine og rfl ?_; refine r_move_int rfl ?_; exact ⟨Grow.rfl' _, rfl⟩
   apply AOM_ex (hm := by rfl)
   ·intro w_ g_; refine og rfl ?_; exact r_gives (v := .tuple #[.agg #[.int .i64 ((followS s o.seg (at9 + o.data)).1.kind), .int .i64 ((followS s o.seg (at9 + o.data)).1.seg), .int .i64 ((followS s o.seg (at9 + o.data)).1.at_), .int .i64 ((followS s o.seg (at9 + o.data)).1.data), .int .i64 ((followS s o.seg (at9 + o.data)).1.ptrs), .int .i64 ((followS s o.seg (at9 + o.data)).1.size), .int .i64 ((followS s o.seg (at9 + o.data)).1.count)], .int .u16 ((followS s o.seg (at9 + o.data)).2)]) rfl (follow_calls _ (H.grow (kb_g0 _ g_)) o.seg (at9 + o.data)) (fun w2_ g2_ => ⟨g2_, rfl⟩)
   apply AOM_ex (hm := by rfl)
   ·intro w_ g_; refine og rfl ?_; refine r_move (v := .tuple #[.agg #[.int .i64 ((followS s o.seg (at9 + o.data)).1.kind), .int .i64 ((followS s o.seg (at9 + o.data)).1.seg), .int .i64 ((followS s o.seg (at9 + o.data)).1.at_), .int .i64 ((followS s o.seg (at9 + o.data)).1.data), .int .i64 ((followS s o.seg (at9 + o.data)).1.ptrs), .int .i64 ((followS s o.seg (at9 + o.data)).1.size), .int .i64 ((followS s o.seg (at9 + o.data)).1.count)], .int .u16 ((followS s o.seg (at9 + o.data)).2)]) rfl ?_; exact ⟨Grow.rfl' _, rfl⟩
   apply AOM_ex (hm := by rfl)
   ·intro w_ g_; refine og rfl ?_; refine r_extract (v := .agg #[.int .i64 ((followS s o.seg (at9 + o.data)).1.kind), .int .i64 ((followS s o.seg (at9 + o.data)).1.seg), .int .i64 ((followS s o.seg (at9 + o.data)).1.at_), .int .i64 ((followS s o.seg (at9 + o.data)).1.data), .int .i64 ((followS s o.seg (at9 + o.data)).1.ptrs), .int .i64 ((followS s o.seg (at9 + o.data)).1.size), .int .i64 ((followS s o.seg (at9 + o.data)).1.count)]) rfl rfl ?_; exact ⟨Grow.rfl' _, rfl⟩
   apply AOM_ex (hm := by rfl)
   ·intro w_ g_; refine og rfl ?_; refine r_extract (v := .int .u16 ((followS s o.seg (at9 + o.data)).2)) rfl rfl ?_; exact ⟨Grow.rfl' _, rfl⟩
   apply AOM_ex (hm := by rfl)
   ·intro w_ g_; refine og rfl ?_; refine r_nilCheck rfl ?_; exact ⟨Grow.rfl' _, rfl⟩
   apply AOM_ex (hm := by rfl)
   ·intro w_ g_; refine og rfl ?_; refine r_fieldAddr rfl ?_; exact ⟨Grow.rfl' _, rfl⟩
   apply AOM_mut 1 (hm := by rfl)
   ·intro w_ g_ s_
    refine og rfl ?_
    refine r_store (cs' := #[.iface t_ u_, .int .i64 ((followS s o.seg (at9 + o.data)).1.kind), .int .i64 ((followS s o.seg (at9 + o.data)).1.seg), .int .i64 ((followS s o.seg (at9 + o.data)).1.at_), .int .i64 ((followS s o.seg (at9 + o.data)).1.data), .int .i64 ((followS s o.seg (at9 + o.data)).1.ptrs), .int .i64 ((followS s o.seg (at9 + o.data)).1.size), .int .i64 ((followS s o.seg (at9 + o.data)).1.count), .int .i64 left]) rfl rfl (by rfl) s_ (by rfl) (by rfl) (by rfl) (by rfl) ?_
    intro w2_ s2_ u_
    exact ⟨Kp.of_upd u_ (by simp), s2_, rfl⟩
   refine AOM_nil ?_
   intro w25 g26 S_
   replace k0_ := (k0_.tr g26)
   have hb9 := S_
   clear S_
   replace hc7 := kb_hc7 _ g26
   clear kb_hc7
   replace g0 := kb_g0 _ g26
   clear kb_g0
   replace K := kb_K _ g26
   clear kb_K
   refine stp (r_assign_int rfl ?_)
   refine WL_nil ?_
   refine W_seq (W_region rfl ?_)
   refine stp (r_move_int rfl ?_)
   refine stp (r_assign_int rfl ?_)
   refine WL_nil ?_
   refine W_ret ?_
   have h9 : stepS s o k = followS s o.seg (at9 + o.data) := by unfold stepS; rw [if_neg h1n, if_pos h2, hat8]
   refine ret1 (res_tmp (v := .int .u16 ((followS s o.seg (at9 + o.data)).2)) rfl) ⟨by rw [h9], by rw [h9]; exact hb9, K⟩
  ·-- false
   replace h2 := of_decide_eq_false h2
   refine W_seq (W_region rfl ?_)
   refine stp (r_fieldAddr rfl ?_)
   refine stp (r_load (v := .int .i64 o.size) rfl hc7 rfl ?_)
   refine stp (r_neq rfl rfl ?_)
   refine stp (r_assign_bool rfl ?_)
   refine WL_nil ?_
   refine W_cond2 (b := (decide (o.size ≠ 6))) rfl (fun h3 => ?_) (fun h3 => ?_)
   ·-- true
    replace h3 := of_decide_eq_true h3
    refine W_seq (W_region rfl ?_)
    refine stp (r_assign_int rfl ?_)
    refine WL_nil ?_
    refine W_ret ?_
    have h9 : stepS s o k = (o, 23) := by unfold stepS; rw [if_neg h1n, if_neg h2, if_pos h3]
    refine ret1 (res_tmp (v := .int .u16 23) rfl) ⟨by rw [h9], by rw [h9]; exact hb, K⟩
   ·-- false
    replace h3 := of_decide_eq_false h3
    refine W_seq (W_region rfl ?_)
    refine stp (r_move_int rfl ?_)
    refine stp (r_fieldAddr rfl ?_)
    refine stp (r_load (v := .int .i64 o.count) rfl hc7 rfl ?_)
    refine stp (r_geq rfl rfl ?_)
    refine stp (r_assign_bool rfl ?_)
    refine WL_nil ?_
    refine W_cond2 (b := (decide (k ≥ o.count))) rfl (fun h4 => ?_) (fun h4 => ?_)
    ·-- true
     replace h4 := of_decide_eq_true h4
     refine W_seq (W_region rfl ?_)
     refine stp (r_assign_int rfl ?_)
     refine WL_nil ?_
     refine W_ret ?_
     have h9 : stepS s o k = (o, 20) := by unfold stepS; rw [if_neg h1n, if_neg h2, if_neg h3, if_pos h4]
     refine ret1 (res_tmp (v := .int .u16 20) rfl) ⟨by rw [h9], by rw [h9]; exact hb, K⟩
    ·-- false
     replace h4 := of_decide_eq_false h4
     have hat8 : at9 = o.at_ + k := by rw [hat9]; exact wrap_in (by simp only [inR]; omega)
     refine W_skip ?_
     refine W_seq ?_
     have kb_hc7 : ∀ w_, Kp [b] w6 w_ → w_.heap[b1]? = some (.cells #[.int .i64 o.kind, .int .i64 o.seg, .int .i64 o.at_, .int .i64 o.data, .int .i64 o.ptrs, .int .i64 o.size, .int .i64 o.count] 120 (0, 0)) := fun w_ k_ => k_.heap hc7 (fun hm_ => by simp only [List.mem_singleton] at hm_; have := hge10; omega)
     have kb_g0 : ∀ w_, Kp [b] w6 w_ → Grow w0 w_ := fun w_ k_ => g0.kp1 k_ hb0
     have kb_K : ∀ w_, Kp [b] w6 w_ → Kp [b] w w_ := fun w_ k_ => K.tr k_
     refine W_anyM 15 [[], [], [0], [1, 0], [2, 1, 0], [], [0], [], [6, 5, 4, 3, 2, 1, 0], [7, 6, 5, 4, 3, 2, 1, 0], [8, 7, 6, 5, 4, 3, 2, 1, 0], [9, 8, 7, 6, 5, 4, 3, 2, 1], [11, 10, 9, 8, 7, 6, 5, 4, 3, 2, 1], [12, 11, 10, 9, 8, 7, 6, 5, 4, 3, 2, 0], [13, 12, 11, 10, 9, 8, 7, 6, 5, 4, 3, 1, 0]] [4, 14] [b] (fun k_ w_ => match k_ with | 0 => w_.heap[b]? = some (.cells #[.iface t_ u_, .int .i64 o.kind, .int .i64 o.seg, .int .i64 o.at_, .int .i64 o.data, .int .i64 o.ptrs, .int .i64 o.size, .int .i64 o.count, .int .i64 left] 137 (0, 0)) | 1 => w_.heap[b]? = some (.cells #[.iface t_ u_, .int .i64 o.kind, .int .i64 o.seg, .int .i64 o.at_, .int .i64 o.data, .int .i64 o.ptrs, .int .i64 o.size, .int .i64 o.count, .int .i64 left] 137 (0, 0)) | _ => w_.heap[b]? = some (.cells #[.iface t_ u_, .int .i64 ((followS s o.seg at9).1.kind), .int .i64 ((followS s o.seg at9).1.seg), .int .i64 ((followS s o.seg at9).1.at_), .int .i64 ((followS s o.seg at9).1.data), .int .i64 ((followS s o.seg at9).1.ptrs), .int .i64 ((followS s o.seg at9).1.size), .int .i64 ((followS s o.seg at9).1.count), .int .i64 left] 137 (0, 0))) mixed (by kernel_rfl) (by kernel_rfl) (by kernel_rfl) (by kernel_rfl) (fun k_ w_ w2_ g_ h_ => match k_, h_ with | 0, h_ => g_.heap h_ | 1, h_ => g_.heap h_ | n_ + 2, h_ => g_.heap h_) (fun w_ g_ => g_.heap hb) ?_
     intro w27 g28
     replace kb_hc7 : ∀ w_, Kp [b] w27 w_ → w_.heap[b1]? = some (.cells #[.int .i64 o.kind, .int .i64 o.seg, .int .i64 o.at_, .int .i64 o.data, .int .i64 o.ptrs, .int .i64 o.size, .int .i64 o.count] 120 (0, 0)) := fun w_ k_ => kb_hc7 w_ (g28.kp.tr k_)
     replace kb_g0 : ∀ w_, Kp [b] w27 w_ → Grow w0 w_ := fun w_ k_ => kb_g0 w_ (g28.kp.tr k_)
     replace kb_K : ∀ w_, Kp [b] w27 w_ → Kp [b] w w_ := fun w_ k_ => kb_K w_ (g28.kp.tr k_)
     have k0_ : Kp [b] w6 w27 := g28.kp
     apply AOM_ex (hm := by rfl)
     ·intro w_ g_; refine og rfl ?_; refine r_move_ptr rfl ?_; exact ⟨Grow.rfl' _, rfl⟩
     apply AOM_ex (hm := by rfl)
     ·intro w_ g_; refine og rfl ?_; refine r_move_ptr rfl ?_; exact ⟨Grow.rfl' _, rfl⟩
     apply AOM_ex (hm := by rfl)
     ·intro w_ g_; refine og rfl ?_; refine r_nilCheck rfl ?_; exact ⟨Grow.rfl' _, rfl⟩
     apply AOM_ex (hm := by rfl)
     ·intro w_ g_; refine og rfl ?_; refine r_fieldAddr rfl ?_; exact ⟨Grow.rfl' _, rfl⟩
     apply AOM_mut 0 (hm := by rfl)
     ·intro w_ g_ s_
      refine og rfl ?_
      refine r_load (v := .iface t_ u_) rfl s_ rfl ?_
      exact ⟨Kp.of_grow (Grow.rfl' _), s_, rfl⟩
     apply AOM_ex (hm := by rfl)
     ·intro w_ g_; refine og rfl ?_; refine r_fieldAddr rfl ?_; exact ⟨Grow.rfl' _, rfl⟩
     apply AOM_ex (hm := by rfl)
     ·intro w_ g_; refine og rfl ?_; refine r_load (v := .int .i64 o.seg) rfl (kb_hc7 _ g_) rfl ?_; exact ⟨Grow.rfl' _, rfl⟩
     apply AOM_ex (hm := by rfl)
     ·intro w_ g_; refine og rfl ?_; refine r_move_int rfl ?_; exact ⟨Grow.rfl' _, rfl⟩
     apply AOM_ex (hm := by rfl)
     ·intro w_ g_; refine og rfl ?_; exact r_gives (v := .tuple #[.agg #[.int .i64 ((followS s o.seg at9).1.kind), .int .i64 ((followS s o.seg at9).1.seg), .int .i64 ((followS s o.seg at9).1.at_), .int .i64 ((followS s o.seg at9).1.data), .int .i64 ((followS s o.seg at9).1.ptrs), .int .i64 ((followS s o.seg at9).1.size), .int .i64 ((followS s o.seg at9).1.count)], .int .u16 ((followS s o.seg at9).2)]) rfl (follow_calls _ (H.grow (kb_g0 _ g_)) o.seg at9) (fun w2_ g2_ => ⟨g2_, rfl⟩)
     apply AOM_ex (hm := by rfl)
     ·intro w_ g_; refine og rfl ?_; refine r_move (v := .tuple #[.agg #[.int .i64 ((followS s o.seg at9).1.kind), .int .i64 ((followS s o.seg at9).1.seg), .int .i64 ((followS s o.seg at9).1.at_), .int .i64 ((followS s o.seg at9).1.data), .int .i64 ((followS s o.seg at9).1.ptrs), .int .i64 ((followS s o.seg at9).1.size), .int .i64 ((followS s o.seg at9).1.count)], .int .u16 ((followS s o.seg at9).2)]) rfl ?_; exact ⟨Grow.rfl' _, rfl⟩
     apply AOM_ex (hm := by rfl)
     ·intro w_ g_; refine og rfl ?_; refine r_extract (v := .agg #[.int .i64 ((followS s o.seg at9).1.kind), .int .i64 ((followS s o.seg at9).1.seg), .int .i64 ((followS s o.seg at9).1.at_), .int .i64 ((followS s o.seg at9).1.data), .int .i64 ((followS s o.seg at9).1.ptrs), .int .i64 ((followS s o.seg at9).1.size), .int .i64 ((followS s o.seg at9).1.count)]) rfl rfl ?_; exact ⟨Grow.rfl' _, rfl⟩
     apply AOM_ex (hm := by rfl)
     ·intro w_ g_; refine og rfl ?_; refine r_extract (v := .int .u16 ((followS s o.seg at9).2)) rfl rfl ?_; exact ⟨Grow.rfl' _, rfl⟩
     apply AOM_ex (hm := by rfl)
     ·intro w_ g_; refine og rfl ?_; refine r_nilCheck rfl ?_; exact ⟨Grow.rfl' _, rfl⟩
     apply AOM_ex (hm := by rfl)
     ·intro w_ g_; refine og rfl ?_; refine r_fieldAddr rfl ?_; exact ⟨Grow.rfl' _, rfl⟩
     apply AOM_mut 1 (hm := by rfl)
     ·intro w_ g_ s_
      refine og rfl ?_
      refine r_store (cs' := #[.iface t_ u_, .int .i64 ((followS s o.seg at9).1.kind), .int .i64 ((followS s o.seg at9).1.seg), .int .i64 ((followS s o.seg at9).1.at_), .int .i64 ((followS s o.seg at9).1.data), .int .i64 ((followS s o.seg at9).1.ptrs), .int .i64 ((followS s o.seg at9).1.size), .int .i64 ((followS s o.seg at9).1.count), .int .i64 left]) rfl rfl (by rfl) s_ (by rfl) (by rfl) (by rfl) (by rfl) ?_
      intro w2_ s2_ u_
      exact ⟨Kp.of_upd u_ (by simp), s2_, rfl⟩
     refine AOM_nil ?_
     intro w29 g30 S_
     replace k0_ := (k0_.tr g30)
     have hb9 := S_
     clear S_
     replace hc7 := kb_hc7 _ g30
     clear kb_hc7
     replace g0 := kb_g0 _ g30
     clear kb_g0
     replace K := kb_K _ g30
     clear kb_K
     refine stp (r_assign_int rfl ?_)
     refine WL_nil ?_
     refine W_seq (W_region rfl ?_)
     refine stp (r_move_int rfl ?_)
     refine stp (r_assign_int rfl ?_)
     refine WL_nil ?_
     refine W_ret ?_
     have h9 : stepS s o k = followS s o.seg at9 := by unfold stepS; rw [if_neg h1n, if_neg h2, if_neg h3, if_neg h4, hat8]
     refine ret1 (res_tmp (v := .int .u16 ((followS s o.seg at9).2)) rfl) ⟨by rw [h9], by rw [h9]; exact hb9, K⟩

set_option maxRecDepth 100000 in
theorem is_calls (w : World) {b : Nat} {o : Ob} {left : Int} {t_ : TypeId} {u_ : Value} (hb : w.heap[b]? = some (.cells #[.iface t_ u_, .int .i64 o.kind, .int .i64 o.seg, .int .i64 o.at_, .int .i64 o.data, .int .i64 o.ptrs, .int .i64 o.size, .int .i64 o.count, .int .i64 left] 137 (0, 0))) : Gives Try.prog 80 #[.pointer (some ⟨b, 0, none⟩)] w (.agg #[.int .i64 ((isS o).kind), .int .i64 ((isS o).size), .int .i64 ((isS o).words), .int .i64 ((isS o).kids), .int .u64 ((isS o).word)]) := by
 have G := Grow.rfl' w
 refine gives_of Try.func80 Try.ntmps80 Try.results80 rfl rfl ?_
 refine W_seq (W_region rfl ?_)
 refine stp (r_alloc ?_)
 intro b1 w2 hb3 hc4 g5
 refine WL_nil ?_
 refine W_seq (W_region rfl ?_)
 refine stp (r_move_ptr rfl ?_)
 refine stp (r_nilCheck rfl ?_)
 refine stp (r_fieldAddr rfl ?_)
 have hge6 := Nat.le_trans G.size hb3
 have ne7 := Nat.ne_of_lt (Nat.lt_of_lt_of_le (lt_of_heap hb) hb3)
 replace hb := g5.heap hb
 replace G := G.tr g5
 clear g5 hb3
 refine stp (r_loadN rfl hb (by rfl) (by rfl) ?_)
 refine stp (r_alloc ?_)
 intro b8 w9 hb10 hc11 g12
 refine stn (r_storeAll rfl rfl hc11 (by rfl) (by rfl) (by rfl) ?_)
 intro w13 hc14 u15
 have g16 := g12.upd u15 hb10
 have hge17 := Nat.le_trans G.size hb10
 have ne18 := Nat.ne_of_lt (Nat.lt_of_lt_of_le (lt_of_heap hb) hb10)
 have ne19 := Nat.ne_of_lt (Nat.lt_of_lt_of_le (lt_of_heap hc4) hb10)
 replace hb := g16.heap hb
 replace hc4 := g16.heap hc4
 replace G := G.tr g16
 clear u15 g12 hb10 hc11
 refine WL_nil ?_
 refine W_seq (W_region rfl ?_)
 refine stp (r_fieldAddr rfl ?_)
 refine stp (r_load (v := .int .i64 o.kind) rfl hc14 rfl ?_)
 refine stp (r_fieldAddr rfl ?_)
 refine stp (r_load (v := .int .i64 o.size) rfl hc14 rfl ?_)
 refine stp (r_fieldAddr rfl ?_)
 refine stp (r_load (v := .int .i64 o.data) rfl hc14 rfl ?_)
 refine stp (r_fieldAddr rfl ?_)
 refine stp (r_load (v := .int .i64 o.ptrs) rfl hc14 rfl ?_)
 refine stp (r_build (v := .agg #[.int .i64 o.kind, .int .i64 o.size, .int .i64 o.data, .int .i64 o.ptrs, .int .u64 0]) (fun w => by kernel_rfl) ?_)
 refine stp (r_alloc ?_)
 intro b20 w21 hb22 hc23 g24
 refine stn (r_storeAll rfl rfl hc23 (by rfl) (by rfl) (by rfl) ?_)
 intro w25 hc26 u27
 have g28 := g24.upd u27 hb22
 have hge29 := Nat.le_trans G.size hb22
 have ne30 := Nat.ne_of_lt (Nat.lt_of_lt_of_le (lt_of_heap hb) hb22)
 have ne31 := Nat.ne_of_lt (Nat.lt_of_lt_of_le (lt_of_heap hc4) hb22)
 have ne32 := Nat.ne_of_lt (Nat.lt_of_lt_of_le (lt_of_heap hc14) hb22)
 replace hb := g28.heap hb
 replace hc4 := g28.heap hc4
 replace hc14 := g28.heap hc14
 replace G := G.tr g28
 clear u27 g24 hb22 hc23
 refine WL_nil ?_
 refine W_seq ?_
 refine W_block ?_
 refine W_seq (W_region rfl ?_)
 refine stp (r_fieldAddr rfl ?_)
 refine stp (r_load (v := .int .i64 o.kind) rfl hc14 rfl ?_)
 refine stp (r_neq rfl rfl ?_)
 refine stp (r_assign_bool rfl ?_)
 refine WL_nil ?_
 refine W_cond2 (b := (decide (o.kind ≠ 2))) rfl (fun h1 => ?_) (fun h1 => ?_)
 ·-- true
  replace h1 := of_decide_eq_true h1
  refine W_skip ?_
  refine W_seq (W_region rfl ?_)
  refine stp (r_loadAll rfl hc26 (by rfl) ?_)
  refine stn (r_storeAll rfl rfl hc4 (by rfl) (by rfl) (by rfl) ?_)
  intro w33 hc34 u35
  replace hb := u35.heap hb ne7
  replace hc14 := u35.heap hc14 ne19.symm
  replace hc26 := u35.heap hc26 ne31.symm
  replace G := G.upd u35 hge6
  clear u35 hc4
  refine WL_nil ?_
  refine W_ret ?_
  refine ret1 (res_all rfl hc34 (by rfl)) ⟨?_, G⟩
  simp [isS, *]
 ·-- false
  replace h1 := of_decide_eq_false h1
  refine W_seq (W_region rfl ?_)
  refine stp (r_fieldAddr rfl ?_)
  refine stp (r_load (v := .int .i64 o.size) rfl hc14 rfl ?_)
  refine stp (r_eql rfl rfl ?_)
  refine stp (r_assign_bool rfl ?_)
  refine WL_nil ?_
  refine W_cond2 (b := (decide (o.size = 6))) rfl (fun h2 => ?_) (fun h2 => ?_)
  ·-- true
   replace h2 := of_decide_eq_true h2
   refine W_region rfl ?_
   refine stp (r_fieldAddr rfl ?_)
   refine stp (r_load (v := .int .i64 o.count) rfl hc14 rfl ?_)
   refine stp (r_fieldAddr rfl ?_)
   refine stn (r_store1 (v := .int .i64 o.count) rfl rfl (by rfl) hc26 (by rfl) (by rfl) ?_)
   intro w36 hc37 u38
   replace hb := u38.heap hb ne30
   replace hc4 := u38.heap hc4 ne31
   replace hc14 := u38.heap hc14 ne32
   replace G := G.upd u38 hge29
   clear u38 hc26
   refine WL_nil ?_
   refine W_seq (W_region rfl ?_)
   refine stp (r_loadAll rfl hc37 (by rfl) ?_)
   refine stn (r_storeAll rfl rfl hc4 (by rfl) (by rfl) (by rfl) ?_)
   intro w39 hc40 u41
   replace hb := u41.heap hb ne7
   replace hc14 := u41.heap hc14 ne19.symm
   replace hc37 := u41.heap hc37 ne31.symm
   replace G := G.upd u41 hge6
   clear u41 hc4
   refine WL_nil ?_
   refine W_ret ?_
   refine ret1 (res_all rfl hc40 (by rfl)) ⟨?_, G⟩
   simp [isS, *]
  ·-- false
   replace h2 := of_decide_eq_false h2
   refine W_region rfl ?_
   refine stp (r_fieldAddr rfl ?_)
   refine stp (r_load (v := .int .i64 o.count) rfl hc14 rfl ?_)
   refine stp (r_fieldAddr rfl ?_)
   refine stn (r_store1 (v := .int .i64 o.count) rfl rfl (by rfl) hc26 (by rfl) (by rfl) ?_)
   intro w42 hc43 u44
   replace hb := u44.heap hb ne30
   replace hc4 := u44.heap hc4 ne31
   replace hc14 := u44.heap hc14 ne32
   replace G := G.upd u44 hge29
   clear u44 hc26
   refine WL_nil ?_
   refine W_seq (W_region rfl ?_)
   refine stp (r_loadAll rfl hc43 (by rfl) ?_)
   refine stn (r_storeAll rfl rfl hc4 (by rfl) (by rfl) (by rfl) ?_)
   intro w45 hc46 u47
   replace hb := u47.heap hb ne7
   replace hc14 := u47.heap hc14 ne19.symm
   replace hc43 := u47.heap hc43 ne31.symm
   replace G := G.upd u47 hge6
   clear u47 hc4
   refine WL_nil ?_
   refine W_ret ?_
   refine ret1 (res_all rfl hc46 (by rfl)) ⟨?_, G⟩
   simp [isS, *]

set_option maxRecDepth 100000 in
theorem wword_calls (w : World) {w0 : World} {s : Src} {t_ : TypeId} {u_ : Value} (H : SrcOk Try.prog w0 (.iface t_ u_) s) (g0 : Grow w0 w) {b : Nat} {o : Ob} {left k : Int} (hb0 : w0.heap.size ≤ b) (hb : w.heap[b]? = some (.cells #[.iface t_ u_, .int .i64 o.kind, .int .i64 o.seg, .int .i64 o.at_, .int .i64 o.data, .int .i64 o.ptrs, .int .i64 o.size, .int .i64 o.count, .int .i64 left] 137 (0, 0))) (ho : ObR o) (hk : 0 ≤ k) (hk2 : k ≤ 9223372036854775807) : Gives Try.prog 81 #[.pointer (some ⟨b, 0, none⟩), .int .i64 k] w (.tuple #[.int .u64 ((atS s o k).1), .int .u16 ((atS s o k).2)]) := by
 obtain ⟨rk, rs, ra, rd, rp, rz, rc⟩ := ho
 obtain ⟨n1, n2, -, -⟩ := H.num o.seg (o.at_ + k / 8)
 have G := Grow.rfl' w
 refine gives_of Try.func81 Try.ntmps81 Try.results81 rfl rfl ?_
 refine W_seq (W_region rfl ?_)
 refine stp (r_assign_int rfl ?_)
 refine stp (r_assign_int rfl ?_)
 refine WL_nil ?_
 refine W_seq (W_region rfl ?_)
 refine stp (r_move_ptr rfl ?_)
 refine stp (r_nilCheck rfl ?_)
 refine stp (r_fieldAddr rfl ?_)
 refine stp (r_loadN rfl hb (by rfl) (by rfl) ?_)
 refine stp (r_alloc ?_)
 intro b1 w2 hb3 hc4 g5
 refine stn (r_storeAll rfl rfl hc4 (by rfl) (by rfl) (by rfl) ?_)
 intro w6 hc7 u8
 have g9 := g5.upd u8 hb3
 have hge10 := Nat.le_trans G.size hb3
 have ne11 := Nat.ne_of_lt (Nat.lt_of_lt_of_le (lt_of_heap hb) hb3)
 replace hb := g9.heap hb
 replace G := G.tr g9
 clear u8 g5 hb3 hc4
 refine WL_nil ?_
 refine W_seq ?_
 refine W_block ?_
 refine W_seq ?_
 refine W_seq (W_region rfl ?_)
 refine stp (r_fieldAddr rfl ?_)
 refine stp (r_load (v := .int .i64 o.kind) rfl hc7 rfl ?_)
 refine stp (r_eql rfl rfl ?_)
 refine stp (r_assign_bool rfl ?_)
 refine WL_nil ?_
 refine W_cond2 (b := (decide (o.kind = 0))) rfl (fun h1 => ?_) (fun h1 => ?_)
 ·-- true
  replace h1 := of_decide_eq_true h1
  refine W_skip ?_
  refine W_true (show _ = Value.bool true from congrArg Value.bool (decide_eq_true h1)) ?_
  refine W_seq (W_region rfl ?_)
  refine stp (r_assign_int rfl ?_)
  refine stp (r_assign_int rfl ?_)
  refine WL_nil ?_
  refine W_ret ?_
  refine ret2 (res_tmp (v := .int .u64 0) rfl) (res_tmp (v := .int .u16 0) rfl) ⟨?_, G⟩
  have h9 : atS s o k = (0, 0) := by unfold atS; rw [if_pos (.inl h1)]
  rw [h9]
 ·-- false
  replace h1 := of_decide_eq_false h1
  refine W_region rfl ?_
  refine stp (r_fieldAddr rfl ?_)
  refine stp (r_load (v := .int .i64 o.kind) rfl hc7 rfl ?_)
  refine stp (r_eql rfl rfl ?_)
  refine stp (r_move_bool rfl ?_)
  refine WL_some (og_if (s := .bool (decide (o.kind = 1))) (b := true) (v := .int .i64 k) rfl (wgb_t _) (fun hc12 => ?_) ?_)
  ·
   have hc12_ := of_decide_eq_true hc12
   refine r_move_int rfl ?_
   exact ⟨rfl, rfl⟩
  refine WL_some (og_if (s := .bool (decide (o.kind = 1))) (b := true) (v := .pointer (some ⟨b1, 3, none⟩)) rfl (wgb_t _) (fun hc13 => ?_) ?_)
  ·
   have hc13_ := of_decide_eq_true hc13
   refine r_fieldAddr rfl ?_
   exact ⟨rfl, rfl⟩
  refine WL_some (og_if (s := .bool (decide (o.kind = 1))) (b := true) (v := .int .i64 o.data) rfl (wgb_t _) (fun hc14 => ?_) ?_)
  ·
   have hc14_ := of_decide_eq_true hc14
   refine r_load (v := .int .i64 o.data) (gvt hc14) hc7 rfl ?_
   exact ⟨rfl, rfl⟩
  refine WL_some (og_if (s := .bool (decide (o.kind = 1))) (b := true) (v := .bool (decide (k ≥ o.data))) rfl (wgb_t _) (fun hc15 => ?_) ?_)
  ·
   have hc15_ := of_decide_eq_true hc15
   refine r_geq (gvt hc15) (gvt hc15) ?_
   exact ⟨rfl, rfl⟩
  refine stp (r_and2 rfl rfl rfl ?_)
  refine stp (r_assign_bool rfl ?_)
  refine WL_nil ?_
  refine W_cond2 (b := ((decide (o.kind = 1)) && (decide (k ≥ o.data)))) rfl (fun h2 => ?_) (fun h2 => ?_)
  ·-- true
   simp only [sb] at h2
   refine W_seq (W_region rfl ?_)
   refine stp (r_assign_int rfl ?_)
   refine stp (r_assign_int rfl ?_)
   refine WL_nil ?_
   refine W_ret ?_
   refine ret2 (res_tmp (v := .int .u64 0) rfl) (res_tmp (v := .int .u16 0) rfl) ⟨?_, G⟩
   have h9 : atS s o k = (0, 0) := by unfold atS; rw [if_pos (.inr h2)]
   rw [h9]
  ·-- false
   simp only [sb] at h2
   have h1n : ¬ (o.kind = 0 ∨ o.kind = 1 ∧ k ≥ o.data) := by omega
   refine W_seq (W_region rfl ?_)
   refine stp (r_fieldAddr rfl ?_)
   refine stp (r_load (v := .int .i64 o.kind) rfl hc7 rfl ?_)
   refine stp (r_eql rfl rfl ?_)
   refine stp (r_assign_bool rfl ?_)
   refine WL_nil ?_
   refine W_cond2 (b := (decide (o.kind = 1))) rfl (fun h3 => ?_) (fun h3 => ?_)
   ·-- true
    replace h3 := of_decide_eq_true h3
    refine W_seq ?_
    refine W_any 15 [[], [0], [1, 0], [2, 1, 0], [], [0], [], [0], [], [2, 1, 0], [9, 8, 7, 6, 5, 4, 3, 2, 1, 0], [10, 9, 8, 7, 6, 5, 4, 3, 2, 1, 0], [11, 10, 9, 8, 7, 6, 5, 4, 3, 2, 1], [12, 11, 10, 9, 8, 7, 6, 5, 4, 3, 2, 1, 0], [13, 12, 11, 10, 9, 8, 7, 6, 5, 4, 3, 2, 1, 0]] mixed (by kernel_rfl) (by kernel_rfl) (by kernel_rfl) ?_
    intro w16 g17
    replace hb := g17.heap hb
    replace hc7 := g17.heap hc7
    replace G := G.tr g17
    clear g17
    apply AO_ex
    ·intro w_ g_; refine og rfl ?_; refine r_move_ptr rfl ?_; exact ⟨Grow.rfl' _, rfl⟩
    apply AO_ex
    ·intro w_ g_; refine og rfl ?_; refine r_nilCheck rfl ?_; exact ⟨Grow.rfl' _, rfl⟩
    apply AO_ex
    ·intro w_ g_; refine og rfl ?_; refine r_fieldAddr rfl ?_; exact ⟨Grow.rfl' _, rfl⟩
    apply AO_ex
    ·intro w_ g_; refine og rfl ?_; refine r_load (v := .iface t_ u_) rfl (g_.heap hb) rfl ?_; exact ⟨Grow.rfl' _, rfl⟩
    apply AO_ex
    ·intro w_ g_; refine og rfl ?_; refine r_fieldAddr rfl ?_; exact ⟨Grow.rfl' _, rfl⟩
    apply AO_ex
    ·intro w_ g_; refine og rfl ?_; refine r_load (v := .int .i64 o.seg) rfl (g_.heap hc7) rfl ?_; exact ⟨Grow.rfl' _, rfl⟩
    apply AO_ex
    ·intro w_ g_; refine og rfl ?_; refine r_fieldAddr rfl ?_; exact ⟨Grow.rfl' _, rfl⟩
    apply AO_ex
    ·intro w_ g_; refine og rfl ?_; refine r_load (v := .int .i64 o.at_) rfl (g_.heap hc7) rfl ?_; exact ⟨Grow.rfl' _, rfl⟩
    apply AO_ex
    ·intro w_ g_; refine og rfl ?_; refine r_move_int rfl ?_; exact ⟨Grow.rfl' _, rfl⟩
    apply AO_ex
    ·intro w_ g_; refine og rfl ?_; refine r_add rfl rfl ?_ ?_; constructor <;> omega; exact ⟨Grow.rfl' _, rfl⟩
    apply AO_ex
    ·intro w_ g_; refine og rfl ?_; exact r_srcWord H ((g0.tr G).tr g_) rfl rfl rfl (fun w2_ g2_ => ⟨g2_, rfl⟩)
    apply AO_ex
    ·intro w_ g_; refine og rfl ?_; refine r_extract (v := .int .u64 ((s.word o.seg (o.at_ + k)).1)) rfl rfl ?_; exact ⟨Grow.rfl' _, rfl⟩
    apply AO_ex
    ·intro w_ g_; refine og rfl ?_; refine r_extract (v := .int .u16 ((s.word o.seg (o.at_ + k)).2)) rfl rfl ?_; exact ⟨Grow.rfl' _, rfl⟩
    apply AO_ex
    ·intro w_ g_; refine og rfl ?_; refine r_assign_int rfl ?_; exact ⟨Grow.rfl' _, rfl⟩
    apply AO_ex
    ·intro w_ g_; refine og rfl ?_; refine r_assign_int rfl ?_; exact ⟨Grow.rfl' _, rfl⟩
    refine AO_nil ?_
    intro w18 g19
    replace hb := g19.heap hb
    replace hc7 := g19.heap hc7
    replace G := G.tr g19
    clear g19
    refine WL_nil ?_
    refine W_ret ?_
    refine ret2 (res_tmp (v := .int .u64 ((s.word o.seg (o.at_ + k)).1)) rfl) (res_tmp (v := .int .u16 ((s.word o.seg (o.at_ + k)).2)) rfl) ⟨?_, G⟩
    have h9 : atS s o k = s.word o.seg (o.at_ + k) := by unfold atS; rw [if_neg h1n, if_pos h3]
    rw [h9]
   ·-- false
    replace h3 := of_decide_eq_false h3
    refine W_seq (W_region rfl ?_)
    refine stp (r_fieldAddr rfl ?_)
    refine stp (r_load (v := .int .i64 o.size) rfl hc7 rfl ?_)
    refine stp (r_eql rfl rfl ?_)
    refine stp (r_assign_bool rfl ?_)
    refine WL_nil ?_
    refine W_cond2 (b := (decide (o.size = 6))) rfl (fun h4 => ?_) (fun h4 => ?_)
    ·-- true
     replace h4 := of_decide_eq_true h4
     refine W_seq (W_region rfl ?_)
     refine stp (r_assign_int rfl ?_)
     refine stp (r_assign_int rfl ?_)
     refine WL_nil ?_
     refine W_ret ?_
     refine ret2 (res_tmp (v := .int .u64 0) rfl) (res_tmp (v := .int .u16 23) rfl) ⟨?_, G⟩
     have h9 : atS s o k = (0, 23) := by unfold atS; rw [if_neg h1n, if_neg h3, if_pos h4]
     rw [h9]
    ·-- false
     replace h4 := of_decide_eq_false h4
     refine W_seq (W_region rfl ?_)
     refine stp (r_move_int rfl ?_)
     refine stp (r_fieldAddr rfl ?_)
     refine stp (r_load (v := .int .i64 o.count) rfl hc7 rfl ?_)
     refine stp (r_geq rfl rfl ?_)
     refine stp (r_assign_bool rfl ?_)
     refine WL_nil ?_
     refine W_cond2 (b := (decide (k ≥ o.count))) rfl (fun h5 => ?_) (fun h5 => ?_)
     ·-- true
      replace h5 := of_decide_eq_true h5
      refine W_seq (W_region rfl ?_)
      refine stp (r_assign_int rfl ?_)
      refine stp (r_assign_int rfl ?_)
      refine WL_nil ?_
      refine W_ret ?_
      refine ret2 (res_tmp (v := .int .u64 0) rfl) (res_tmp (v := .int .u16 20) rfl) ⟨?_, G⟩
      have h9 : atS s o k = (0, 20) := by unfold atS; rw [if_neg h1n, if_neg h3, if_neg h4, if_pos h5]
      rw [h9]
     ·-- false
      replace h5 := of_decide_eq_false h5
      refine W_seq (W_region rfl ?_)
      refine stp (r_fieldAddr rfl ?_)
      refine stp (r_load (v := .int .i64 o.size) rfl hc7 rfl ?_)
      refine stp (r_eql rfl rfl ?_)
      refine stp (r_assign_bool rfl ?_)
      refine WL_nil ?_
      refine W_cond2 (b := (decide (o.size = 5))) rfl (fun h6 => ?_) (fun h6 => ?_)
      ·-- true
       replace h6 := of_decide_eq_true h6
       refine W_seq ?_
       refine W_any 15 [[], [0], [1, 0], [2, 1, 0], [], [0], [], [0], [], [2, 1, 0], [9, 8, 7, 6, 5, 4, 3, 2, 1, 0], [10, 9, 8, 7, 6, 5, 4, 3, 2, 1, 0], [11, 10, 9, 8, 7, 6, 5, 4, 3, 2, 1], [12, 11, 10, 9, 8, 7, 6, 5, 4, 3, 2, 1, 0], [13, 12, 11, 10, 9, 8, 7, 6, 5, 4, 3, 2, 1, 0]] mixed (by kernel_rfl) (by kernel_rfl) (by kernel_rfl) ?_
       intro w20 g21
       replace hb := g21.heap hb
       replace hc7 := g21.heap hc7
       replace G := G.tr g21
       clear g21
       apply AO_ex
       ·intro w_ g_; refine og rfl ?_; refine r_move_ptr rfl ?_; exact ⟨Grow.rfl' _, rfl⟩
       apply AO_ex
       ·intro w_ g_; refine og rfl ?_; refine r_nilCheck rfl ?_; exact ⟨Grow.rfl' _, rfl⟩
       apply AO_ex
       ·intro w_ g_; refine og rfl ?_; refine r_fieldAddr rfl ?_; exact ⟨Grow.rfl' _, rfl⟩
       apply AO_ex
       ·intro w_ g_; refine og rfl ?_; refine r_load (v := .iface t_ u_) rfl (g_.heap hb) rfl ?_; exact ⟨Grow.rfl' _, rfl⟩
       apply AO_ex
       ·intro w_ g_; refine og rfl ?_; refine r_fieldAddr rfl ?_; exact ⟨Grow.rfl' _, rfl⟩
       apply AO_ex
       ·intro w_ g_; refine og rfl ?_; refine r_load (v := .int .i64 o.seg) rfl (g_.heap hc7) rfl ?_; exact ⟨Grow.rfl' _, rfl⟩
       apply AO_ex
       ·intro w_ g_; refine og rfl ?_; refine r_fieldAddr rfl ?_; exact ⟨Grow.rfl' _, rfl⟩
       apply AO_ex
       ·intro w_ g_; refine og rfl ?_; refine r_load (v := .int .i64 o.at_) rfl (g_.heap hc7) rfl ?_; exact ⟨Grow.rfl' _, rfl⟩
       apply AO_ex
       ·intro w_ g_; refine og rfl ?_; refine r_move_int rfl ?_; exact ⟨Grow.rfl' _, rfl⟩
       apply AO_ex
       ·intro w_ g_; refine og rfl ?_; refine r_add rfl rfl ?_ ?_; constructor <;> omega; exact ⟨Grow.rfl' _, rfl⟩
       apply AO_ex
       ·intro w_ g_; refine og rfl ?_; exact r_srcWord H ((g0.tr G).tr g_) rfl rfl rfl (fun w2_ g2_ => ⟨g2_, rfl⟩)
       apply AO_ex
       ·intro w_ g_; refine og rfl ?_; refine r_extract (v := .int .u64 ((s.word o.seg (o.at_ + k)).1)) rfl rfl ?_; exact ⟨Grow.rfl' _, rfl⟩
       apply AO_ex
       ·intro w_ g_; refine og rfl ?_; refine r_extract (v := .int .u16 ((s.word o.seg (o.at_ + k)).2)) rfl rfl ?_; exact ⟨Grow.rfl' _, rfl⟩
       apply AO_ex
       ·intro w_ g_; refine og rfl ?_; refine r_assign_int rfl ?_; exact ⟨Grow.rfl' _, rfl⟩
       apply AO_ex
       ·intro w_ g_; refine og rfl ?_; refine r_assign_int rfl ?_; exact ⟨Grow.rfl' _, rfl⟩
       refine AO_nil ?_
       intro w22 g23
       replace hb := g23.heap hb
       replace hc7 := g23.heap hc7
       replace G := G.tr g23
       clear g23
       refine WL_nil ?_
       refine W_ret ?_
       refine ret2 (res_tmp (v := .int .u64 ((s.word o.seg (o.at_ + k)).1)) rfl) (res_tmp (v := .int .u16 ((s.word o.seg (o.at_ + k)).2)) rfl) ⟨?_, G⟩
       have h9 : atS s o k = s.word o.seg (o.at_ + k) := by unfold atS; rw [if_neg h1n, if_neg h3, if_neg h4, if_neg h5, if_pos h6]
       rw [h9]
      ·-- false
       replace h6 := of_decide_eq_false h6
       refine W_skip ?_
       refine W_seq ?_
       refine W_any 17 [[], [0], [1, 0], [2, 1, 0], [], [0], [], [0], [], [0], [3, 2, 1, 0], [10, 9, 8, 7, 6, 5, 4, 3, 2, 1, 0], [11, 10, 9, 8, 7, 6, 5, 4, 3, 2, 1, 0], [12, 11, 10, 9, 8, 7, 6, 5, 4, 3, 2, 1, 0], [13, 12, 11, 10, 9, 8, 7, 6, 5, 4, 3, 2, 1], [14, 13, 12, 11, 10, 9, 8, 7, 6, 5, 4, 3, 2, 1], [15, 14, 13, 12, 11, 10, 9, 8, 7, 6, 5, 4, 3, 2, 1, 0]] mixed (by kernel_rfl) (by kernel_rfl) (by kernel_rfl) ?_
       intro w24 g25
       replace hb := g25.heap hb
       replace hc7 := g25.heap hc7
       replace G := G.tr g25
       clear g25
       apply AO_ex
       ·intro w_ g_; refine og rfl ?_; refine r_move_ptr rfl ?_; exact ⟨Grow.rfl' _, rfl⟩
       apply AO_ex
       ·intro w_ g_; refine og rfl ?_; refine r_nilCheck rfl ?_; exact ⟨Grow.rfl' _, rfl⟩
       apply AO_ex
       ·intro w_ g_; refine og rfl ?_; refine r_fieldAddr rfl ?_; exact ⟨Grow.rfl' _, rfl⟩
       apply AO_ex
       ·intro w_ g_; refine og rfl ?_; refine r_load (v := .iface t_ u_) rfl (g_.heap hb) rfl ?_; exact ⟨Grow.rfl' _, rfl⟩
       apply AO_ex
       ·intro w_ g_; refine og rfl ?_; refine r_fieldAddr rfl ?_; exact ⟨Grow.rfl' _, rfl⟩
       apply AO_ex
       ·intro w_ g_; refine og rfl ?_; refine r_load (v := .int .i64 o.seg) rfl (g_.heap hc7) rfl ?_; exact ⟨Grow.rfl' _, rfl⟩
       apply AO_ex
       ·intro w_ g_; refine og rfl ?_; refine r_fieldAddr rfl ?_; exact ⟨Grow.rfl' _, rfl⟩
       apply AO_ex
       ·intro w_ g_; refine og rfl ?_; refine r_load (v := .int .i64 o.at_) rfl (g_.heap hc7) rfl ?_; exact ⟨Grow.rfl' _, rfl⟩
       apply AO_ex
       ·intro w_ g_; refine og rfl ?_; refine r_move_int rfl ?_; exact ⟨Grow.rfl' _, rfl⟩
       apply AO_ex
       ·intro w_ g_; refine og rfl ?_; refine r_quo rfl rfl ?_ ?_ ?_ ?_; omega; omega; (constructor <;> omega); exact ⟨Grow.rfl' _, rfl⟩
       apply AO_ex
       ·intro w_ g_; refine og rfl ?_; refine r_add rfl rfl ?_ ?_; constructor <;> omega; exact ⟨Grow.rfl' _, rfl⟩
       apply AO_ex
       ·intro w_ g_; refine og rfl ?_; exact r_srcWord H ((g0.tr G).tr g_) rfl rfl rfl (fun w2_ g2_ => ⟨g2_, rfl⟩)
       apply AO_ex
       ·intro w_ g_; refine og rfl ?_; refine r_move (v := .tuple #[.int .u64 ((s.word o.seg (o.at_ + (k / 8))).1), .int .u16 ((s.word o.seg (o.at_ + (k / 8))).2)]) rfl ?_; exact ⟨Grow.rfl' _, rfl⟩
       apply AO_ex
       ·intro w_ g_; refine og rfl ?_; refine r_extract (v := .int .u64 ((s.word o.seg (o.at_ + (k / 8))).1)) rfl rfl ?_; exact ⟨Grow.rfl' _, rfl⟩
       apply AO_ex
       ·intro w_ g_; refine og rfl ?_; refine r_extract (v := .int .u16 ((s.word o.seg (o.at_ + (k / 8))).2)) rfl rfl ?_; exact ⟨Grow.rfl' _, rfl⟩
       apply AO_ex
       ·intro w_ g_; refine og rfl ?_; refine r_assign_int rfl ?_; exact ⟨Grow.rfl' _, rfl⟩
       apply AO_ex
       ·intro w_ g_; refine og rfl ?_; refine r_assign_int rfl ?_; exact ⟨Grow.rfl' _, rfl⟩
       refine AO_nil ?_
       intro w26 g27
       replace hb := g27.heap hb
       replace hc7 := g27.heap hc7
       replace G := G.tr g27
       clear g27
       refine WL_nil ?_
       refine W_seq (W_region rfl ?_)
       refine stp (r_move_int rfl ?_)
       refine stp (r_move_int rfl ?_)
       refine stp (r_rem rfl rfl ?_ ?_ ?_); omega; omega
       refine stp (r_mul rfl rfl ?_ ?_); constructor <;> omega
       refine stp (r_shr rfl rfl ?_ ?_); omega
       refine WL_some (og rfl ?_)
       refine r_and rfl rfl ?_
       rw [show (IntKind.bits .u64) = 64 from rfl, shr_byte _ (k % 8 * 8) n1 n2 (by omega) (by omega)]
       refine stp (r_move_int rfl ?_)
       refine stp (r_assign_int rfl ?_)
       refine stp (r_assign_int rfl ?_)
       refine WL_nil ?_
       refine W_ret ?_
       refine ret2 (res_tmp (v := .int .u64 ((s.word o.seg (o.at_ + k / 8)).1 / 2 ^ (k % 8 * 8).toNat % 256)) rfl) (res_tmp (v := .int .u16 ((s.word o.seg (o.at_ + (k / 8))).2)) rfl) ⟨?_, G⟩
       have h9 : atS s o k = ((s.word o.seg (o.at_ + k / 8)).1 / 2 ^ (k % 8 * 8).toNat % 256, (s.word o.seg (o.at_ + k / 8)).2) := by unfold atS; rw [if_neg h1n, if_neg h3, if_neg h4, if_neg h5, if_neg h6]
       rw [h9]

set_option maxRecDepth 100000 in
theorem walk_calls (w : World) {src : Value} {s : Src} (H : SrcOk Try.prog w src s) {ad : Option Addr} {c : Nat} {steps : List Int} {a cost : Int} (R : RowAt w 1 ad steps.length (steps.map (.int .i64))) (hR : ∀ x ∈ steps, inR .i64 x) (ha : inR .i64 a) (hc : inR .i64 cost) : Gives Try.prog 49 #[src, .agg #[.slice ad steps.length c, .int .i64 a], .int .i64 cost] w (.tuple #[.agg #[.int .i64 ((walkS s steps a cost).1.kind), .int .i64 ((walkS s steps a cost).1.size), .int .i64 ((walkS s steps a cost).1.words), .int .i64 ((walkS s steps a cost).1.kids), .int .u64 ((walkS s steps a cost).1.word)], .int .u16 ((walkS s steps a cost).2)]) := by
 obtain ⟨t_, u_, f_, rfl, -, -⟩ := H.word
 have ll := R.lim
 simp only [inR] at ha hc
 have G := Grow.rfl' w
 refine gives_of Try.func49 Try.ntmps49 Try.results49 rfl rfl ?_
 refine W_seq (W_region rfl ?_)
 refine WL_some (og rfl ?_)
 (first | refine r_box_agg rfl ?_ | refine r_box_int rfl ?_ | refine r_box_slice rfl ?_ | refine r_box rfl rfl ?_)
 intro b1 w2 hb3 hc4 g5
 have hge6 := Nat.le_trans G.size hb3
 replace G := G.tr g5
 clear g5 hb3
 refine stp (r_alloc ?_)
 intro b7 w8 hb9 hc10 g11
 refine stp (r_assign_int rfl ?_)
 refine WL_nil ?_
 refine W_scope ?_
 refine W_seq ?_
 refine W_seq (W_region rfl ?_)
 refine stp (r_fieldAddr rfl ?_)
 have hge12 := Nat.le_trans G.size hb9
 have ne13 := Nat.ne_of_lt (Nat.lt_of_lt_of_le (lt_of_heap hc4) hb9)
 replace hc4 := g11.heap hc4
 replace G := G.tr g11
 clear g11 hb9
 refine stp (r_load (v := .slice ad steps.length c) rfl hc4 rfl ?_)
 refine stp (r_len rfl rfl rfl ?_)
 refine stp (r_move_int rfl ?_)
 refine WL_nil ?_
 refine W_block ?_
 refine W_loop (fun m_ e_ w_ => ∃ (k : Nat), m_ = steps.length - k ∧ Fr [(0, .iface t_ u_), (2, .int .i64 cost), (4, .pointer (some ⟨b1, 0, none⟩)), (6, .pointer (some ⟨b7, 0, none⟩)), (20, .slice ad steps.length c), (21, .int .i64 (steps.length : Int)), (22, .int .i64 (k : Int))] e_ ∧ (k ≤ steps.length) ∧ (∀ j, j < k → 0 ≤ steps.getD j 0) ∧ (w_.heap[b1]? = some (.cells #[.slice ad steps.length c, .int .i64 a] 33 (0, 0))) ∧ (w_.heap[b7]? = some (.cells #[.int .i64 0, .int .i64 0, .int .i64 0, .int .i64 0, .int .u64 0] 57 (0, 0))) ∧ Grow w w_) _ ⟨0, rfl, fr_of ⟨rfl, rfl, rfl, rfl, rfl, rfl, rfl, trivial⟩, by omega, fun j hj => by omega, hc4, hc10, G⟩ ?_
 clear hc4 hc10
 clear G
 rintro m_ e_ w14 ⟨k, rfl, ⟨e15, rfl⟩, hk2, hnn, hc4, hc10, G⟩
 refine W_seq (W_region rfl ?_)
 refine stp (r_lss rfl rfl ?_)
 refine WL_nil ?_
 refine W_seq ?_
 refine W_cond2 (b := (decide ((k : Int) < (steps.length : Int)))) rfl (fun hlt1 => ?_) (fun hlt1 => ?_)
 ·-- true
  replace hlt1 := of_decide_eq_true hlt1
  have hi : k < steps.length := by omega
  refine W_skip ?_
  refine W_seq ?_
  refine W_block ?_
  refine W_seq (W_region rfl ?_)
  refine stp (r_indexN (R.grow G) rfl rfl ?_ ?_); omega
  refine stp (r_loadR (v := .int .i64 (steps.getD k 0)) (m := 0) (R.grow G) rfl (map_get1 0 (by omega)) ?_)
  refine stp (r_assign_int rfl ?_)
  refine WL_nil ?_
  refine W_seq (W_region rfl ?_)
  refine stp (r_move_int rfl ?_)
  refine stp (r_lss rfl rfl ?_)
  refine WL_nil ?_
  refine W_cond2 (b := (decide ((steps.getD k 0) < 0))) rfl (fun h2 => ?_) (fun h2 => ?_)
  ·-- true
   replace h2 := of_decide_eq_true h2
   refine W_seq (W_region rfl ?_)
   refine stp (r_build (v := .agg #[.int .i64 0, .int .i64 0, .int .i64 0, .int .i64 0, .int .u64 0]) (fun w => by kernel_rfl) ?_)
   refine stn (r_storeAll rfl rfl hc10 (by rfl) (by rfl) (by rfl) ?_)
   intro w16 hc17 u18
   replace hc4 := u18.heap hc4 ne13
   replace G := G.upd u18 hge12
   clear u18 hc10
   refine stp (r_assign_int rfl ?_)
   refine WL_nil ?_
   refine W_ret ?_
   have h9 : (walkS s steps a cost) = (Vl0, 1) := by unfold walkS; rw [if_pos ⟨_, getD_mem hi, h2⟩]
   refine ret2 (res_all rfl hc17 (by rfl)) (res_tmp (v := .int .u16 1) rfl) ⟨?_, G⟩
   rw [h9] <;> rfl
  ·-- false
   replace h2 := of_decide_eq_false h2
   refine W_skip ?_
   refine W_region rfl ?_
   refine stp (r_add rfl rfl ?_ ?_); constructor <;> omega
   refine stp (r_move_int rfl ?_)
   refine WL_nil ?_
   refine ⟨_, ?_, k + 1, rfl, fr_of ⟨rfl, rfl, rfl, rfl, rfl, rfl, rfl, trivial⟩, by omega, fun j hj => by rcases Nat.lt_succ_iff_lt_or_eq.1 hj with h_ | h_; exact hnn j h_; subst h_; omega, hc4, hc10, G⟩
   omega
 ·-- false
  replace hlt1 := of_decide_eq_false hlt1
  replace hnn : ∀ j, j < steps.length → 0 ≤ steps.getD j 0 := fun j hj => hnn j (by omega)
  have hno : ¬ ∃ k ∈ steps, k < 0 := fun ⟨x_, hx_, hlt_⟩ => by obtain ⟨j_, hj_, he_⟩ := List.getElem_of_mem hx_; have := hnn j_ hj_; rw [getD_at hj_] at this; omega
  refine W_exit ?_
  refine W_seq ?_
  refine W_seq (W_region rfl ?_)
  refine stp (r_fieldAddr rfl ?_)
  refine stp (r_load (v := .slice ad steps.length c) rfl hc4 rfl ?_)
  refine stp (r_len rfl rfl rfl ?_)
  refine stp (r_gtr rfl rfl ?_)
  refine WL_nil ?_
  refine W_cond2 (b := (decide ((steps.length : Int) > 32))) rfl (fun h3 => ?_) (fun h3 => ?_)
  ·-- true
   replace h3 := of_decide_eq_true h3
   refine W_seq (W_region rfl ?_)
   refine stp (r_build (v := .agg #[.int .i64 0, .int .i64 0, .int .i64 0, .int .i64 0, .int .u64 0]) (fun w => by kernel_rfl) ?_)
   refine stn (r_storeAll rfl rfl hc10 (by rfl) (by rfl) (by rfl) ?_)
   intro w19 hc20 u21
   replace hc4 := u21.heap hc4 ne13
   replace G := G.upd u21 hge12
   clear u21 hc10
   refine stp (r_assign_int rfl ?_)
   refine WL_nil ?_
   refine W_ret ?_
   have h9 : (walkS s steps a cost) = (Vl0, 3) := by unfold walkS; rw [if_neg hno, if_pos h3]
   refine ret2 (res_all rfl hc20 (by rfl)) (res_tmp (v := .int .u16 3) rfl) ⟨?_, G⟩
   rw [h9] <;> rfl
  ·-- false
   replace h3 := of_decide_eq_false h3
   refine W_skip ?_
   refine W_seq (W_region rfl ?_)
   refine stp (r_move (v := .iface t_ u_) rfl ?_)
   refine stp (r_gives (v := .tuple #[.agg #[.int .i64 ((followS s 0 0).1.kind), .int .i64 ((followS s 0 0).1.seg), .int .i64 ((followS s 0 0).1.at_), .int .i64 ((followS s 0 0).1.data), .int .i64 ((followS s 0 0).1.ptrs), .int .i64 ((followS s 0 0).1.size), .int .i64 ((followS s 0 0).1.count)], .int .u16 ((followS s 0 0).2)]) rfl (follow_calls _ (H.grow G) 0 0) ?_)
   intro w22 g23
   replace hc4 := g23.heap hc4
   replace hc10 := g23.heap hc10
   replace G := G.tr g23
   clear g23
   refine stp (r_move (v := .tuple #[.agg #[.int .i64 ((followS s 0 0).1.kind), .int .i64 ((followS s 0 0).1.seg), .int .i64 ((followS s 0 0).1.at_), .int .i64 ((followS s 0 0).1.data), .int .i64 ((followS s 0 0).1.ptrs), .int .i64 ((followS s 0 0).1.size), .int .i64 ((followS s 0 0).1.count)], .int .u16 ((followS s 0 0).2)]) rfl ?_)
   refine stp (r_extract (v := .agg #[.int .i64 ((followS s 0 0).1.kind), .int .i64 ((followS s 0 0).1.seg), .int .i64 ((followS s 0 0).1.at_), .int .i64 ((followS s 0 0).1.data), .int .i64 ((followS s 0 0).1.ptrs), .int .i64 ((followS s 0 0).1.size), .int .i64 ((followS s 0 0).1.count)]) rfl rfl ?_)
   refine stp (r_extract (v := .int .u16 ((followS s 0 0).2)) rfl rfl ?_)
   refine stp (r_alloc ?_)
   intro b24 w25 hb26 hc27 g28
   refine stn (r_storeAll rfl rfl hc27 (by rfl) (by rfl) (by rfl) ?_)
   intro w29 hc30 u31
   have g32 := g28.upd u31 hb26
   have hge33 := Nat.le_trans G.size hb26
   have ne34 := Nat.ne_of_lt (Nat.lt_of_lt_of_le (lt_of_heap hc4) hb26)
   have ne35 := Nat.ne_of_lt (Nat.lt_of_lt_of_le (lt_of_heap hc10) hb26)
   replace hc4 := g32.heap hc4
   replace hc10 := g32.heap hc10
   replace G := G.tr g32
   clear u31 g28 hb26 hc27
   refine stp (r_assign_int rfl ?_)
   refine WL_nil ?_
   refine W_seq ?_
   refine W_seq (W_region rfl ?_)
   refine stp (r_move_int rfl ?_)
   refine stp (r_neq rfl rfl ?_)
   refine WL_nil ?_
   refine W_cond2 (b := (decide (((followS s 0 0).2) ≠ 0))) rfl (fun h4 => ?_) (fun h4 => ?_)
   ·-- true
    replace h4 := of_decide_eq_true h4
    refine W_seq (W_region rfl ?_)
    refine stp (r_build (v := .agg #[.int .i64 0, .int .i64 0, .int .i64 0, .int .i64 0, .int .u64 0]) (fun w => by kernel_rfl) ?_)
    refine stp (r_move_int rfl ?_)
    refine stn (r_storeAll rfl rfl hc10 (by rfl) (by rfl) (by rfl) ?_)
    intro w36 hc37 u38
    replace hc4 := u38.heap hc4 ne13
    replace hc30 := u38.heap hc30 ne35.symm
    replace G := G.upd u38 hge12
    clear u38 hc10
    refine stp (r_assign_int rfl ?_)
    refine WL_nil ?_
    refine W_ret ?_
    have h9 : (walkS s steps a cost) = (Vl0, (followS s 0 0).2) := by unfold walkS; rw [if_neg hno, if_neg h3, if_pos h4]
    refine ret2 (res_all rfl hc37 (by rfl)) (res_tmp (v := .int .u16 ((followS s 0 0).2)) rfl) ⟨?_, G⟩
    rw [h9] <;> rfl
   ·-- false
    replace h4 := of_decide_eq_false h4
    have hr0_ := followS_range H 0 0
    refine W_skip ?_
    refine W_seq (W_region rfl ?_)
    refine stp (r_move (v := .iface t_ u_) rfl ?_)
    refine stp (r_loadAll rfl hc30 (by rfl) ?_)
    refine stp (r_move_int rfl ?_)
    refine WL_some (og rfl ?_)
    refine r_max rfl rfl rfl ?_
    rw [show (if (-1 : Int) > cost then -1 else cost) = max cost (-1) from by split <;> omega]
    obtain ⟨left0, hl0⟩ : ∃ x, x = max cost (-1) := ⟨_, rfl⟩
    rw [← hl0]
    refine stp (r_build (v := .agg #[.iface t_ u_, .int .i64 ((followS s 0 0).1.kind), .int .i64 ((followS s 0 0).1.seg), .int .i64 ((followS s 0 0).1.at_), .int .i64 ((followS s 0 0).1.data), .int .i64 ((followS s 0 0).1.ptrs), .int .i64 ((followS s 0 0).1.size), .int .i64 ((followS s 0 0).1.count), .int .i64 left0]) (fun w => by kernel_rfl) ?_)
    refine WL_some (og rfl ?_)
    (first | refine r_box_agg rfl ?_ | refine r_box_int rfl ?_ | refine r_box_slice rfl ?_ | refine r_box rfl rfl ?_)
    intro b39 w40 hb41 hc42 g43
    have hge44 := Nat.le_trans G.size hb41
    have ne45 := Nat.ne_of_lt (Nat.lt_of_lt_of_le (lt_of_heap hc10) hb41)
    have ne46 := Nat.ne_of_lt (Nat.lt_of_lt_of_le (lt_of_heap hc30) hb41)
    replace hc4 := g43.heap hc4
    replace hc10 := g43.heap hc10
    replace hc30 := g43.heap hc30
    replace G := G.tr g43
    clear g43 hb41
    refine stp (r_assign_ptr rfl ?_)
    refine WL_nil ?_
    refine W_seq (W_region rfl ?_)
    refine stp (r_move_ptr rfl ?_)
    refine stp (r_makeFunc (vs := [.pointer (some ⟨b39, 0, none⟩)]) (us := []) rfl rfl ?_)
    refine stp (r_assign_func rfl ?_)
    refine WL_nil ?_
    refine W_seq ?_
    refine W_seq (W_region rfl ?_)
    refine stp (r_move_func rfl ?_)
    refine WL_some (og rfl ?_)
    refine r_call rfl (pay_calls _ hc42 (by omega) (wordsO_range (followS_range H 0 0))) ?_
    rintro v_ w47 ⟨rfl, hb48, K_⟩
    replace hc4 := K_.heap hc4 (fun hm_ => by simp only [List.mem_singleton] at hm_; rw [hm_, hc42] at hc4; exact absurd hc4 (by simp))
    replace hc10 := K_.heap hc10 (fun hm_ => by simp only [List.mem_singleton] at hm_; first | exact ne45 hm_ | exact ne45 hm_.symm)
    replace hc30 := K_.heap hc30 (fun hm_ => by simp only [List.mem_singleton] at hm_; first | exact ne46 hm_ | exact ne46 hm_.symm)
    replace G := G.trK K_ (fun x_ hx_ => by simp only [List.mem_singleton] at hx_; subst hx_; exact hge44)
    clear K_ hc42
    obtain ⟨e49, he49⟩ : ∃ x, x = (if left0 - (1 + wordsO (followS s 0 0).1) < 0 then (22 : Int) else 0) := ⟨_, rfl⟩
    rw [← he49]
    have hqe49 : (left0 - (1 + wordsO (followS s 0 0).1) < 0 ∧ e49 = 22) ∨ (¬ left0 - (1 + wordsO (followS s 0 0).1) < 0 ∧ e49 = 0) := by rw [he49]; split <;> omega
    refine stp (r_assign_int rfl ?_)
    refine WL_nil ?_
    refine W_seq (W_region rfl ?_)
    refine stp (r_move_int rfl ?_)
    refine stp (r_neq rfl rfl ?_)
    refine WL_nil ?_
    refine W_cond2 (b := (decide (e49 ≠ 0))) rfl (fun h5 => ?_) (fun h5 => ?_)
    ·-- true
     replace h5 := of_decide_eq_true h5
     have he_ : e49 = 22 := by omega
     refine W_seq (W_region rfl ?_)
     refine stp (r_build (v := .agg #[.int .i64 0, .int .i64 0, .int .i64 0, .int .i64 0, .int .u64 0]) (fun w => by kernel_rfl) ?_)
     refine stp (r_move_int rfl ?_)
     refine stn (r_storeAll rfl rfl hc10 (by rfl) (by rfl) (by rfl) ?_)
     intro w50 hc51 u52
     replace hc4 := u52.heap hc4 ne13
     replace hc30 := u52.heap hc30 ne35.symm
     replace hb48 := u52.heap hb48 ne45.symm
     replace G := G.upd u52 hge12
     clear u52 hc10
     refine stp (r_assign_int rfl ?_)
     refine WL_nil ?_
     refine W_ret ?_
     have h9 : (walkS s steps a cost) = (Vl0, 22) := by unfold walkS; rw [if_neg hno, if_neg h3, if_neg h4, ← hl0, if_pos (by omega)]
     refine ret2 (res_all rfl hc51 (by rfl)) (res_tmp (v := .int .u16 e49) rfl) ⟨?_, G⟩
     rw [h9, he_] <;> rfl
    ·-- false
     replace h5 := of_decide_eq_false h5
     have hw0 : (walkS s steps a cost) = nextS s a (steps.drop 0) (followS s 0 0).1 (left0 - (1 + wordsO (followS s 0 0).1)) := by unfold walkS; rw [if_neg hno, if_neg h3, if_neg h4, ← hl0, if_neg (by omega)]; rfl
     refine W_skip ?_
     refine W_seq ?_
     refine W_label ?_
     refine W_seq ?_
     refine W_seq (W_region rfl ?_)
     refine stp (r_fieldAddr rfl ?_)
     refine stp (r_load (v := .slice ad steps.length c) rfl hc4 rfl ?_)
     refine stp (r_len rfl rfl rfl ?_)
     refine stp (r_move_int rfl ?_)
     refine WL_nil ?_
     refine W_block ?_
     have hlw := wordsO_range hr0_
     refine W_loop (fun m_ e_ w_ => ∃ (k : Nat) (o : Ob) (left : Int), m_ = steps.length - k ∧ Fr [(4, .pointer (some ⟨b1, 0, none⟩)), (6, .pointer (some ⟨b7, 0, none⟩)), (11, .int .u16 ((followS s 0 0).2)), (12, .pointer (some ⟨b39, 0, none⟩)), (13, .func (.func 78) #[.pointer (some ⟨b39, 0, none⟩)] #[]), (59, .slice ad steps.length c), (60, .int .i64 (steps.length : Int)), (61, .int .i64 (k : Int))] e_ ∧ (k ≤ steps.length) ∧ (ObR o) ∧ (0 ≤ left ∧ left ≤ 9223372036854775807) ∧ ((walkS s steps a cost) = nextS s a (steps.drop k) o left) ∧ (w_.heap[b1]? = some (.cells #[.slice ad steps.length c, .int .i64 a] 33 (0, 0))) ∧ (w_.heap[b7]? = some (.cells #[.int .i64 0, .int .i64 0, .int .i64 0, .int .i64 0, .int .u64 0] 57 (0, 0))) ∧ (w_.heap[b24]? = some (.cells #[.int .i64 ((followS s 0 0).1.kind), .int .i64 ((followS s 0 0).1.seg), .int .i64 ((followS s 0 0).1.at_), .int .i64 ((followS s 0 0).1.data), .int .i64 ((followS s 0 0).1.ptrs), .int .i64 ((followS s 0 0).1.size), .int .i64 ((followS s 0 0).1.count)] 120 (0, 0))) ∧ (w_.heap[b39]? = some (.cells #[.iface t_ u_, .int .i64 o.kind, .int .i64 o.seg, .int .i64 o.at_, .int .i64 o.data, .int .i64 o.ptrs, .int .i64 o.size, .int .i64 o.count, .int .i64 left] 137 (0, 0))) ∧ Grow w w_) _ ⟨0, (followS s 0 0).1, (left0 - (1 + wordsO (followS s 0 0).1)), rfl, fr_of ⟨rfl, rfl, rfl, rfl, rfl, rfl, rfl, rfl, trivial⟩, by omega, hr0_, by omega, hw0, hc4, hc10, hc30, hb48, G⟩ ?_
     clear hc4 hc10 hc30 hb48
     clear G
     rintro m_ e_ w53 ⟨k, o, left, rfl, ⟨e54, rfl⟩, hk2, ho, hlf, hw, hc4, hc10, hc30, hb48, G⟩
     refine W_seq (W_region rfl ?_)
     refine stp (r_lss rfl rfl ?_)
     refine WL_nil ?_
     refine W_seq ?_
     refine W_cond2 (b := (decide ((k : Int) < (steps.length : Int)))) rfl (fun hlt => ?_) (fun hlt => ?_)
     ·-- true
      replace hlt := of_decide_eq_true hlt
      have hi : k < steps.length := by omega
      have hdr : steps.drop k = (steps.getD k 0) :: steps.drop (k + 1) := by rw [List.drop_eq_getElem_cons hi, getD_at hi]
      have hkk := hnn k hi
      have hso := stepS_range H ho (steps.getD k 0)
      have hsw := wordsO_range hso
      refine W_skip ?_
      refine W_seq ?_
      refine W_block ?_
      refine W_seq (W_region rfl ?_)
      refine stp (r_indexN (R.grow G) rfl rfl ?_ ?_); omega
      refine stp (r_loadR (v := .int .i64 (steps.getD k 0)) (m := 0) (R.grow G) rfl (map_get1 0 (by omega)) ?_)
      refine stp (r_assign_int rfl ?_)
      refine WL_nil ?_
      refine W_seq (W_region rfl ?_)
      refine stp (r_move_ptr rfl ?_)
      refine stp (r_move_int rfl ?_)
      refine WL_some (og rfl ?_)
      refine r_call rfl (step_calls _ H G hge44 hb48 ho hkk) ?_
      rintro v_ w55 ⟨rfl, hb56, K_⟩
      replace hc4 := K_.heap hc4 (fun hm_ => by simp only [List.mem_singleton] at hm_; rw [hm_, hb48] at hc4; exact absurd hc4 (by simp))
      replace hc10 := K_.heap hc10 (fun hm_ => by simp only [List.mem_singleton] at hm_; first | exact ne45 hm_ | exact ne45 hm_.symm)
      replace hc30 := K_.heap hc30 (fun hm_ => by simp only [List.mem_singleton] at hm_; first | exact ne46 hm_ | exact ne46 hm_.symm)
      replace G := G.trK K_ (fun x_ hx_ => by simp only [List.mem_singleton] at hx_; subst hx_; exact hge44)
      clear K_ hb48
      refine stp (r_assign_int rfl ?_)
      refine WL_nil ?_
      refine W_seq ?_
      refine W_seq (W_region rfl ?_)
      refine stp (r_move_int rfl ?_)
      refine stp (r_eql rfl rfl ?_)
      refine WL_nil ?_
      refine W_cond2 (b := (decide (((stepS s o (steps.getD k 0)).2) = 0))) rfl (fun h7 => ?_) (fun h7 => ?_)
      ·-- true
       replace h7 := of_decide_eq_true h7
       refine W_region rfl ?_
       refine stp (r_move_func rfl ?_)
       refine WL_some (og rfl ?_)
       refine r_call rfl (pay_calls _ hb56 (by omega) (wordsO_range hso)) ?_
       rintro v_ w57 ⟨rfl, hb58, K_⟩
       replace hc4 := K_.heap hc4 (fun hm_ => by simp only [List.mem_singleton] at hm_; rw [hm_, hb56] at hc4; exact absurd hc4 (by simp))
       replace hc10 := K_.heap hc10 (fun hm_ => by simp only [List.mem_singleton] at hm_; first | exact ne45 hm_ | exact ne45 hm_.symm)
       replace hc30 := K_.heap hc30 (fun hm_ => by simp only [List.mem_singleton] at hm_; first | exact ne46 hm_ | exact ne46 hm_.symm)
       replace G := G.trK K_ (fun x_ hx_ => by simp only [List.mem_singleton] at hx_; subst hx_; exact hge44)
       clear K_ hb56
       obtain ⟨e59, he59⟩ : ∃ x, x = (if left - (1 + wordsO (stepS s o (steps.getD k 0)).1) < 0 then (22 : Int) else 0) := ⟨_, rfl⟩
       rw [← he59]
       have hqe59 : (left - (1 + wordsO (stepS s o (steps.getD k 0)).1) < 0 ∧ e59 = 22) ∨ (¬ left - (1 + wordsO (stepS s o (steps.getD k 0)).1) < 0 ∧ e59 = 0) := by rw [he59]; split <;> omega
       refine stp (r_assign_int rfl ?_)
       refine WL_nil ?_
       refine W_seq ?_
       refine W_seq (W_region rfl ?_)
       refine stp (r_move_int rfl ?_)
       refine stp (r_eql rfl rfl ?_)
       refine WL_nil ?_
       refine W_cond2 (b := (decide (e59 = 0))) rfl (fun h8 => ?_) (fun h8 => ?_)
       ·-- true
        replace h8 := of_decide_eq_true h8
        refine W_exit ?_
        refine W_region rfl ?_
        refine stp (r_add rfl rfl ?_ ?_); constructor <;> omega
        refine stp (r_move_int rfl ?_)
        refine WL_nil ?_
        refine ⟨_, ?_, k + 1, (stepS s o (steps.getD k 0)).1, left - (1 + wordsO (stepS s o (steps.getD k 0)).1), rfl, fr_of ⟨rfl, rfl, rfl, rfl, rfl, rfl, rfl, rfl, trivial⟩, by omega, hso, by omega, by rw [hw, hdr, nextS, if_neg (by omega), if_neg (by omega)], hc4, hc10, hc30, hb58, G⟩
        omega
       ·-- false
        replace h8 := of_decide_eq_false h8
        have he_ : e59 = 22 := by omega
        refine W_skip ?_
        refine W_seq (W_region rfl ?_)
        refine stp (r_build (v := .agg #[.int .i64 0, .int .i64 0, .int .i64 0, .int .i64 0, .int .u64 0]) (fun w => by kernel_rfl) ?_)
        refine stp (r_move_int rfl ?_)
        refine stn (r_storeAll rfl rfl hc10 (by rfl) (by rfl) (by rfl) ?_)
        intro w60 hc61 u62
        replace hc4 := u62.heap hc4 ne13
        replace hc30 := u62.heap hc30 ne35.symm
        replace hb58 := u62.heap hb58 ne45.symm
        replace G := G.upd u62 hge12
        clear u62 hc10
        refine stp (r_assign_int rfl ?_)
        refine WL_nil ?_
        refine W_ret ?_
        have h9 : (walkS s steps a cost) = (Vl0, 22) := by rw [hw, hdr, nextS, if_neg (by omega), if_pos (by omega)]
        refine ret2 (res_all rfl hc61 (by rfl)) (res_tmp (v := .int .u16 e59) rfl) ⟨?_, G⟩
        rw [h9, he_] <;> rfl
      ·-- false
       replace h7 := of_decide_eq_false h7
       refine W_skip ?_
       refine W_seq ?_
       refine W_seq (W_region rfl ?_)
       refine stp (r_move_int rfl ?_)
       refine stp (r_eql_f rfl rfl (by omega) ?_)
       refine WL_nil ?_
       refine W_false rfl ?_
       refine W_skip ?_
       refine W_seq (W_region rfl ?_)
       refine stp (r_build (v := .agg #[.int .i64 0, .int .i64 0, .int .i64 0, .int .i64 0, .int .u64 0]) (fun w => by kernel_rfl) ?_)
       refine stp (r_move_int rfl ?_)
       refine stn (r_storeAll rfl rfl hc10 (by rfl) (by rfl) (by rfl) ?_)
       intro w63 hc64 u65
       replace hc4 := u65.heap hc4 ne13
       replace hc30 := u65.heap hc30 ne35.symm
       replace hb56 := u65.heap hb56 ne45.symm
       replace G := G.upd u65 hge12
       clear u65 hc10
       refine stp (r_assign_int rfl ?_)
       refine WL_nil ?_
       refine W_ret ?_
       have h9 : (walkS s steps a cost) = (Vl0, (stepS s o (steps.getD k 0)).2) := by rw [hw, hdr, nextS, if_pos h7]
       refine ret2 (res_all rfl hc64 (by rfl)) (res_tmp (v := .int .u16 ((stepS s o (steps.getD k 0)).2)) rfl) ⟨?_, G⟩
       rw [h9] <;> rfl
     ·-- false
      replace hlt := of_decide_eq_false hlt
      have hk9 : k = steps.length := by omega
      have hv : (walkS s steps a cost) = valS s o a := by rw [hw, hk9, List.drop_length, nextS]
      refine W_exit ?_
      refine W_seq ?_
      refine W_seq (W_region rfl ?_)
      refine stp (r_fieldAddr rfl ?_)
      refine stp (r_load (v := .int .i64 a) rfl hc4 rfl ?_)
      refine stp (r_lss rfl rfl ?_)
      refine WL_nil ?_
      refine W_cond2 (b := (decide (a < 0))) rfl (fun h6 => ?_) (fun h6 => ?_)
      ·-- true
       replace h6 := of_decide_eq_true h6
       refine W_seq (W_region rfl ?_)
       refine stp (r_move_ptr rfl ?_)
       refine stp (r_gives (v := .agg #[.int .i64 ((isS o).kind), .int .i64 ((isS o).size), .int .i64 ((isS o).words), .int .i64 ((isS o).kids), .int .u64 ((isS o).word)]) rfl (is_calls _ hb48) ?_)
       intro w66 g67
       replace hc4 := g67.heap hc4
       replace hc10 := g67.heap hc10
       replace hc30 := g67.heap hc30
       replace hb48 := g67.heap hb48
       replace G := G.tr g67
       clear g67
       refine stn (r_storeAll rfl rfl hc10 (by rfl) (by rfl) (by rfl) ?_)
       intro w68 hc69 u70
       replace hc4 := u70.heap hc4 ne13
       replace hc30 := u70.heap hc30 ne35.symm
       replace hb48 := u70.heap hb48 ne45.symm
       replace G := G.upd u70 hge12
       clear u70 hc10
       refine stp (r_assign_int rfl ?_)
       refine WL_nil ?_
       refine W_ret ?_
       have h9 : (walkS s steps a cost) = (isS o, 0) := by rw [hv, valS, if_pos h6]
       refine ret2 (res_all rfl hc69 (by rfl)) (res_tmp (v := .int .u16 0) rfl) ⟨?_, G⟩
       rw [h9] <;> rfl
      ·-- false
       replace h6 := of_decide_eq_false h6
       refine W_skip ?_
       refine W_seq (W_region rfl ?_)
       refine stp (r_move_ptr rfl ?_)
       refine stp (r_fieldAddr rfl ?_)
       refine stp (r_load (v := .int .i64 a) rfl hc4 rfl ?_)
       refine stp (r_gives (v := .tuple #[.int .u64 ((atS s o a).1), .int .u16 ((atS s o a).2)]) rfl (wword_calls _ H G hge44 hb48 ho (by omega) (by omega)) ?_)
       intro w71 g72
       replace hc4 := g72.heap hc4
       replace hc10 := g72.heap hc10
       replace hc30 := g72.heap hc30
       replace hb48 := g72.heap hb48
       replace G := G.tr g72
       clear g72
       refine stp (r_move (v := .tuple #[.int .u64 ((atS s o a).1), .int .u16 ((atS s o a).2)]) rfl ?_)
       refine stp (r_extract (v := .int .u64 ((atS s o a).1)) rfl rfl ?_)
       refine stp (r_extract (v := .int .u16 ((atS s o a).2)) rfl rfl ?_)
       refine stp (r_assign_int rfl ?_)
       refine stp (r_assign_int rfl ?_)
       refine WL_nil ?_
       refine W_seq ?_
       refine W_seq (W_region rfl ?_)
       refine stp (r_move_int rfl ?_)
       refine stp (r_neq rfl rfl ?_)
       refine WL_nil ?_
       refine W_cond2 (b := (decide (((atS s o a).2) ≠ 0))) rfl (fun h7 => ?_) (fun h7 => ?_)
       ·-- true
        replace h7 := of_decide_eq_true h7
        refine W_seq (W_region rfl ?_)
        refine stp (r_build (v := .agg #[.int .i64 0, .int .i64 0, .int .i64 0, .int .i64 0, .int .u64 0]) (fun w => by kernel_rfl) ?_)
        refine stp (r_move_int rfl ?_)
        refine stn (r_storeAll rfl rfl hc10 (by rfl) (by rfl) (by rfl) ?_)
        intro w73 hc74 u75
        replace hc4 := u75.heap hc4 ne13
        replace hc30 := u75.heap hc30 ne35.symm
        replace hb48 := u75.heap hb48 ne45.symm
        replace G := G.upd u75 hge12
        clear u75 hc10
        refine stp (r_assign_int rfl ?_)
        refine WL_nil ?_
        refine W_ret ?_
        have h9 : (walkS s steps a cost) = (Vl0, (atS s o a).2) := by rw [hv, valS, if_neg h6, if_pos h7]
        refine ret2 (res_all rfl hc74 (by rfl)) (res_tmp (v := .int .u16 ((atS s o a).2)) rfl) ⟨?_, G⟩
        rw [h9] <;> rfl
       ·-- false
        replace h7 := of_decide_eq_false h7
        refine W_skip ?_
        refine W_seq (W_region rfl ?_)
        refine stp (r_move_ptr rfl ?_)
        refine stp (r_nilCheck rfl ?_)
        refine stp (r_fieldAddr rfl ?_)
        refine stp (r_fieldAddr rfl ?_)
        refine stp (r_load (v := .int .i64 o.kind) rfl hb48 rfl ?_)
        refine stp (r_move_int rfl ?_)
        refine stp (r_build (v := .agg #[.int .i64 o.kind, .int .i64 0, .int .i64 0, .int .i64 0, .int .u64 ((atS s o a).1)]) (fun w => by kernel_rfl) ?_)
        refine stn (r_storeAll rfl rfl hc10 (by rfl) (by rfl) (by rfl) ?_)
        intro w76 hc77 u78
        replace hc4 := u78.heap hc4 ne13
        replace hc30 := u78.heap hc30 ne35.symm
        replace hb48 := u78.heap hb48 ne45.symm
        replace G := G.upd u78 hge12
        clear u78 hc10
        refine stp (r_assign_int rfl ?_)
        refine WL_nil ?_
        refine W_ret ?_
        have h9 : (walkS s steps a cost) = (⟨o.kind, 0, 0, 0, (atS s o a).1⟩, 0) := by rw [hv, valS, if_neg h6, if_neg h7]
        refine ret2 (res_all rfl hc77 (by rfl)) (res_tmp (v := .int .u16 0) rfl) ⟨?_, G⟩
        rw [h9] <;> rfl

set_option maxRecDepth 100000 in
theorem whole_calls (w : World) {ad : Option Addr} {n c : Nat} : Gives Try.prog 38 #[.slice ad n c] w (.iface 118 (.agg #[.slice ad n c])) := by
 have G := Grow.rfl' w
 refine gives_of Try.func38 Try.ntmps38 Try.results38 rfl rfl ?_
 refine W_seq (W_region rfl ?_)
 refine stp (r_assign (v := .nilIface) rfl ?_)
 refine WL_nil ?_
 refine W_seq (W_region rfl ?_)
 refine stp (r_move_slice rfl ?_)
 refine stp (r_build (v := .agg #[.slice ad n c]) (fun w => by kernel_rfl) ?_)
 refine stp (r_makeIface (v := .agg #[.slice ad n c]) rfl ?_)
 refine stp (r_assign (v := .iface 118 (.agg #[.slice ad n c])) rfl ?_)
 refine WL_nil ?_
 refine W_ret ?_
 refine ret1 (res_tmp (v := .iface 118 (.agg #[.slice ad n c])) rfl) ⟨?_, G⟩
 rfl

theorem whole_ok {w : World} {u : Value} {A : List (List Int)} (hA : ArenaR w u A) (hr : OkA A) : SrcOk Try.prog w (.iface 118 (.agg #[u])) (wholeS A) :=
  whole_src hr meth_wholeWord meth_wholeSizes (fun w' g seg a => wholeWord_calls w' (hA.grow g) seg a) (fun w' g => wholeSizes_calls w' (hA.grow g) (by have := hr.most; omega))
set_option maxRecDepth 100000 in
theorem Of_calls (w : World) {u : Value} {A : List (List Int)} (hA : ArenaR w u A) (hr : OkA A) {ad : Option Addr} {c : Nat} {steps : List Int} {a cost : Int} (R : RowAt w 1 ad steps.length (steps.map (.int .i64))) (hR : ∀ x ∈ steps, inR .i64 x) (ha : inR .i64 a) (hc : inR .i64 cost) : Gives Try.prog 29 #[u, .agg #[.slice ad steps.length c, .int .i64 a], .int .i64 cost] w (.tuple #[.agg #[.int .i64 ((walkS (wholeS A) steps a cost).1.kind), .int .i64 ((walkS (wholeS A) steps a cost).1.size), .int .i64 ((walkS (wholeS A) steps a cost).1.words), .int .i64 ((walkS (wholeS A) steps a cost).1.kids), .int .u64 ((walkS (wholeS A) steps a cost).1.word)], .int .u16 ((walkS (wholeS A) steps a cost).2)]) := by
 have hA0 := hA
 obtain ⟨segs_, ⟨ada, ca, rfl, hc1_, hc2_, RA⟩, hrows⟩ := hA
 have G := Grow.rfl' w
 refine gives_of Try.func29 Try.ntmps29 Try.results29 rfl rfl ?_
 refine W_seq (W_region rfl ?_)
 refine WL_some (og rfl ?_)
 (first | refine r_box_agg rfl ?_ | refine r_box_int rfl ?_ | refine r_box_slice rfl ?_ | refine r_box rfl rfl ?_)
 intro b1 w2 hb3 hc4 g5
 have hge6 := Nat.le_trans G.size hb3
 replace G := G.tr g5
 clear g5 hb3
 refine stp (r_alloc ?_)
 intro b7 w8 hb9 hc10 g11
 refine stp (r_assign_int rfl ?_)
 refine WL_nil ?_
 refine W_seq ?_
 refine W_seq (W_region rfl ?_)
 refine stp (r_move_slice rfl ?_)
 have hge12 := Nat.le_trans G.size hb9
 have ne13 := Nat.ne_of_lt (Nat.lt_of_lt_of_le (lt_of_heap hc4) hb9)
 replace hc4 := g11.heap hc4
 replace G := G.tr g11
 clear g11 hb9
 refine stp (r_gives (v := .bool true) rfl (aright_calls _ (RA.grow G) rfl (fun i q hq => by obtain ⟨v, h1, h2⟩ := hrows i q hq; exact ⟨v, h1, h2.grow G⟩) hr.one hr.most hr.first hr.all) ?_)
 intro w14 g15
 replace hc4 := g15.heap hc4
 replace hc10 := g15.heap hc10
 replace G := G.tr g15
 clear g15
 refine stp (r_not_f rfl rfl ?_)
 refine WL_nil ?_
 refine W_false rfl ?_
 refine W_skip ?_
 refine W_seq ?_
 refine W_any 7 [[], [0], [], [], [3, 2, 1, 0], [4, 3, 2, 1, 0], [5, 4, 3, 2, 1]] mixed (by kernel_rfl) (by kernel_rfl) (by kernel_rfl) ?_
 intro w16 g17
 replace hc4 := g17.heap hc4
 replace hc10 := g17.heap hc10
 replace G := G.tr g17
 clear g17
 apply AO_ex
 ·intro w_ g_; refine og rfl ?_; refine r_move_slice rfl ?_; exact ⟨Grow.rfl' _, rfl⟩
 apply AO_ex
 ·intro w_ g_; refine og rfl ?_; exact r_gives (v := .iface 118 (.agg #[.slice ada A.length ca])) rfl (whole_calls _) (fun w2_ g2_ => ⟨g2_, rfl⟩)
 apply AO_ex
 ·intro w_ g_; refine og rfl ?_; refine r_loadAll rfl (g_.heap hc4) (by rfl) ?_; exact ⟨Grow.rfl' _, rfl⟩
 apply AO_ex
 ·intro w_ g_; refine og rfl ?_; refine r_move_int rfl ?_; exact ⟨Grow.rfl' _, rfl⟩
 apply AO_ex
 ·intro w_ g_; refine og rfl ?_; exact r_gives (v := .tuple #[.agg #[.int .i64 ((walkS (wholeS A) steps a cost).1.kind), .int .i64 ((walkS (wholeS A) steps a cost).1.size), .int .i64 ((walkS (wholeS A) steps a cost).1.words), .int .i64 ((walkS (wholeS A) steps a cost).1.kids), .int .u64 ((walkS (wholeS A) steps a cost).1.word)], .int .u16 ((walkS (wholeS A) steps a cost).2)]) rfl (walk_calls _ (whole_ok (hA0.grow (G.tr g_)) hr) (R.grow (G.tr g_)) hR ha hc) (fun w2_ g2_ => ⟨g2_, rfl⟩)
 apply AO_ex
 ·intro w_ g_; refine og rfl ?_; refine r_extract (v := .agg #[.int .i64 ((walkS (wholeS A) steps a cost).1.kind), .int .i64 ((walkS (wholeS A) steps a cost).1.size), .int .i64 ((walkS (wholeS A) steps a cost).1.words), .int .i64 ((walkS (wholeS A) steps a cost).1.kids), .int .u64 ((walkS (wholeS A) steps a cost).1.word)]) rfl rfl ?_; exact ⟨Grow.rfl' _, rfl⟩
 apply AO_ex
 ·intro w_ g_; refine og rfl ?_; refine r_extract (v := .int .u16 ((walkS (wholeS A) steps a cost).2)) rfl rfl ?_; exact ⟨Grow.rfl' _, rfl⟩
 refine AO_nil ?_
 intro w18 g19
 replace hc4 := g19.heap hc4
 replace hc10 := g19.heap hc10
 replace G := G.tr g19
 clear g19
 refine stn (r_storeAll rfl rfl hc10 (by rfl) (by rfl) (by rfl) ?_)
 intro w20 hc21 u22
 replace hc4 := u22.heap hc4 ne13
 replace G := G.upd u22 hge12
 clear u22 hc10
 refine stp (r_assign_int rfl ?_)
 refine WL_nil ?_
 refine W_ret ?_
 refine ret2 (res_all rfl hc21 (by rfl)) (res_tmp (v := .int .u16 ((walkS (wholeS A) steps a cost).2)) rfl) ⟨?_, G⟩
 rfl
end Go.Proofs.Ytfhfecepcnapfaa.K

namespace Go.Proofs.Ytfhfecepcnapfaa.K
open Go Go.RowKit Go.Proofs
attribute [local irreducible] Run1 OpG WL W AO Gives
set_option maxRecDepth 100000 in
theorem tstep_calls (w : World) {w0 : World} {c : List Value} {t : Nd} (T : NodeR w0 c t) (g0 : Grow w0 w) {k : Int} (k0 : 0 ≤ k) : Calls Try.prog 43 #[.agg c.toArray, .int .i64 k] w (Ret fun v w' => ∃ cells, v = .tuple #[.agg cells.toArray, .int .u16 (tstep t k).2] ∧ NodeR w0 cells (tstep t k).1 ∧ Grow w w') := by
 obtain @⟨kind, size, words, bytes, kids, ws, bs, ks, kc, hk, hs, hW, hwr, hB, hbr, hK, hKs⟩ := T
 obtain ⟨aw, cw, rfl, hcw, hcw2, RW⟩ := hW
 obtain ⟨ab, cb, rfl, hcb, hcb2, RB⟩ := hB
 obtain ⟨ak, ck, rfl, hck, hck2, RK⟩ := hK
 have lw := RW.lim
 have lb := RB.lim
 have lk := RK.lim
 simp only [inR] at hk hs
 have G := Grow.rfl' w
 refine calls_ret Try.func43 Try.ntmps43 Try.results43 rfl rfl ?_
 refine W_seq (W_region rfl ?_)
 refine WL_some (og rfl ?_)
 (first | refine r_box_agg rfl ?_ | refine r_box_int rfl ?_ | refine r_box_slice rfl ?_ | refine r_box rfl rfl ?_)
 intro b1 w2 hb3 hc4 g5
 have hge6 := Nat.le_trans G.size hb3
 replace G := G.tr g5
 clear g5 hb3
 refine stp (r_alloc ?_)
 intro b7 w8 hb9 hc10 g11
 refine stp (r_assign_int rfl ?_)
 refine WL_nil ?_
 refine W_seq (W_region rfl ?_)
 refine stp (r_fieldAddr rfl ?_)
 have hge12 := Nat.le_trans G.size hb9
 have ne13 := Nat.ne_of_lt (Nat.lt_of_lt_of_le (lt_of_heap hc4) hb9)
 replace hc4 := g11.heap hc4
 replace G := G.tr g11
 clear g11 hb9
 refine stp (r_load (v := .int .i64 kind) rfl hc4 rfl ?_)
 refine stp (r_neq rfl rfl ?_)
 refine stp (r_move_bool rfl ?_)
 refine WL_some (og_if (s := .bool (decide (kind ≠ 0))) (b := true) (v := .pointer (some ⟨b1, 0, none⟩)) rfl (wgb_t _) (fun hc14 => ?_) ?_)
 ·
  have hc14_ := of_decide_eq_true hc14
  refine r_fieldAddr rfl ?_
  exact ⟨rfl, rfl⟩
 refine WL_some (og_if (s := .bool (decide (kind ≠ 0))) (b := true) (v := .int .i64 kind) rfl (wgb_t _) (fun hc15 => ?_) ?_)
 ·
  have hc15_ := of_decide_eq_true hc15
  refine r_load (v := .int .i64 kind) (gvt hc15) hc4 rfl ?_
  exact ⟨rfl, rfl⟩
 refine WL_some (og_if (s := .bool (decide (kind ≠ 0))) (b := true) (v := .bool (decide (kind ≠ 1))) rfl (wgb_t _) (fun hc16 => ?_) ?_)
 ·
  have hc16_ := of_decide_eq_true hc16
  refine r_neq (gvt hc16) rfl ?_
  exact ⟨rfl, rfl⟩
 refine stp (r_and2 rfl rfl rfl ?_)
 refine stp (r_assign_bool rfl ?_)
 refine WL_nil ?_
 refine W_seq ?_
 refine W_block ?_
 refine W_seq (W_region rfl ?_)
 refine stp (r_move_bool rfl ?_)
 refine stp (r_move_bool rfl ?_)
 refine WL_some (og_if (s := .bool ((decide (kind ≠ 0)) && (decide (kind ≠ 1)))) (b := true) (v := .pointer (some ⟨b1, 1, none⟩)) rfl (wgb_t _) (fun hc17 => ?_) ?_)
 ·
  obtain ⟨hc17a, hc17b⟩ := and_t hc17
  have hc17a_ := of_decide_eq_true hc17a
  have hc17b_ := of_decide_eq_true hc17b
  refine r_fieldAddr rfl ?_
  exact ⟨rfl, rfl⟩
 refine WL_some (og_if (s := .bool ((decide (kind ≠ 0)) && (decide (kind ≠ 1)))) (b := true) (v := .int .i64 size) rfl (wgb_t _) (fun hc18 => ?_) ?_)
 ·
  obtain ⟨hc18a, hc18b⟩ := and_t hc18
  have hc18a_ := of_decide_eq_true hc18a
  have hc18b_ := of_decide_eq_true hc18b
  refine r_load (v := .int .i64 size) (gvt hc18) hc4 rfl ?_
  exact ⟨rfl, rfl⟩
 refine WL_some (og_if (s := .bool ((decide (kind ≠ 0)) && (decide (kind ≠ 1)))) (b := true) (v := .bool (decide (size ≠ 6))) rfl (wgb_t _) (fun hc19 => ?_) ?_)
 ·
  obtain ⟨hc19a, hc19b⟩ := and_t hc19
  have hc19a_ := of_decide_eq_true hc19a
  have hc19b_ := of_decide_eq_true hc19b
  refine r_neq (gvt hc19) rfl ?_
  exact ⟨rfl, rfl⟩
 refine stp (r_and2 rfl rfl rfl ?_)
 refine stp (r_assign_bool rfl ?_)
 refine WL_nil ?_
 refine W_cond2 (b := (((decide (kind ≠ 0)) && (decide (kind ≠ 1))) && (decide (size ≠ 6)))) rfl (fun h1 => ?_) (fun h1 => ?_)
 ·-- true
  simp only [sb] at h1
  refine W_seq (W_region rfl ?_)
  refine stp (r_build (v := .agg #[.int .i64 0, .int .i64 0, .slice none 0 0, .slice none 0 0, .slice none 0 0]) (fun w => by kernel_rfl) ?_)
  refine stn (r_storeAll rfl rfl hc10 (by rfl) (by rfl) (by rfl) ?_)
  intro w20 hc21 u22
  replace hc4 := u22.heap hc4 ne13
  replace G := G.upd u22 hge12
  clear u22 hc10
  refine stp (r_assign_int rfl ?_)
  refine WL_nil ?_
  refine W_ret ?_
  have h9 : tstep (Nd.mk kind size words bytes kids) k = (.nil, 23) := by rw [tstep_mk]; rw [if_pos (by first | assumption | omega | simp_all)]
  rw [h9]
  refine ret2 (res_all rfl hc21 (by rfl)) (res_tmp (v := .int .u16 23) rfl) ⟨[_, _, _, _, _], rfl, NodeR.zero _, G⟩
 ·-- false
  simp only [sb] at h1
  refine W_seq (W_region rfl ?_)
  refine stp (r_fieldAddr rfl ?_)
  refine stp (r_load (v := .int .i64 kind) rfl hc4 rfl ?_)
  refine stp (r_neq rfl rfl ?_)
  refine stp (r_move_bool rfl ?_)
  refine WL_some (og_if (s := .bool (decide (kind ≠ 0))) (b := true) (v := .int .i64 k) rfl (wgb_t _) (fun hc23 => ?_) ?_)
  ·
   have hc23_ := of_decide_eq_true hc23
   refine r_move_int rfl ?_
   exact ⟨rfl, rfl⟩
  refine WL_some (og_if (s := .bool (decide (kind ≠ 0))) (b := true) (v := .pointer (some ⟨b1, 4, none⟩)) rfl (wgb_t _) (fun hc24 => ?_) ?_)
  ·
   have hc24_ := of_decide_eq_true hc24
   refine r_fieldAddr rfl ?_
   exact ⟨rfl, rfl⟩
  refine WL_some (og_if (s := .bool (decide (kind ≠ 0))) (b := true) (v := .slice ak kids.length ck) rfl (wgb_t _) (fun hc25 => ?_) ?_)
  ·
   have hc25_ := of_decide_eq_true hc25
   refine r_load (v := .slice ak kids.length ck) (gvt hc25) hc4 rfl ?_
   exact ⟨rfl, rfl⟩
  refine WL_some (og_if (s := .bool (decide (kind ≠ 0))) (b := true) (v := .int .i64 (kids.length : Int)) rfl (wgb_t _) (fun hc26 => ?_) ?_)
  ·
   have hc26_ := of_decide_eq_true hc26
   refine r_len rfl rfl (gvt hc26) ?_
   exact ⟨rfl, rfl⟩
  refine WL_some (og_if (s := .bool (decide (kind ≠ 0))) (b := true) (v := .bool (decide (k < (kids.length : Int)))) rfl (wgb_t _) (fun hc27 => ?_) ?_)
  ·
   have hc27_ := of_decide_eq_true hc27
   refine r_lss (gvt hc27) (gvt hc27) ?_
   exact ⟨rfl, rfl⟩
  refine stp (r_and2 rfl rfl rfl ?_)
  refine stp (r_assign_bool rfl ?_)
  refine WL_nil ?_
  refine W_cond2 (b := ((decide (kind ≠ 0)) && (decide (k < (kids.length : Int))))) rfl (fun h2 => ?_) (fun h2 => ?_)
  ·-- true
   simp only [sb] at h2
   obtain ⟨j, rfl⟩ : ∃ j : Nat, k = (j : Int) := ⟨k.toNat, by omega⟩
   have hj : j < kids.length := by omega
   have hat := KidsR.at_ j kids[j] hKs (by simp [hj])
   obtain ⟨y0, y1, ya, yn, yc, za, zn, zc, ua, un, uc, hy⟩ := hat.cells
   rw [hy] at hat
   refine W_seq (W_region rfl ?_)
   refine stp (r_fieldAddr rfl ?_)
   refine stp (r_load (v := .slice ak kids.length ck) rfl hc4 rfl ?_)
   refine stp (r_move_int rfl ?_)
   refine stp (r_indexN ((RK.grow g0).grow G) rfl rfl ?_ ?_); omega
   refine stp (r_loadNR ((RK.grow g0).grow G) rfl (by decide) (by rw [RK.len]; omega) hy ?_)
   refine stn (r_storeAll rfl rfl hc10 (by rfl) (by rfl) (by rfl) ?_)
   intro w28 hc29 u30
   replace hc4 := u30.heap hc4 ne13
   replace G := G.upd u30 hge12
   clear u30 hc10
   refine stp (r_assign_int rfl ?_)
   refine WL_nil ?_
   refine W_ret ?_
   have h9 : tstep (Nd.mk kind size words bytes kids) (j : Int) = (kids[j], 0) := by rw [tstep_mk]; rw [if_neg (by first | assumption | omega | simp_all), if_pos (by first | assumption | omega | simp_all), Int.toNat_natCast, List.getD_eq_getElem?_getD, List.getElem?_eq_getElem hj]; rfl
   rw [h9]
   refine ret2 (res_all rfl hc29 (by rfl)) (res_tmp (v := .int .u16 0) rfl) ⟨[_, _, _, _, _], rfl, hat, G⟩
  ·-- false
   simp only [sb] at h2
   refine W_seq (W_region rfl ?_)
   refine stp (r_move_bool rfl ?_)
   refine stp (r_assign_bool rfl ?_)
   refine WL_nil ?_
   refine W_cond2 (b := ((decide (kind ≠ 0)) && (decide (kind ≠ 1)))) rfl (fun h3 => ?_) (fun h3 => ?_)
   ·-- true
    simp only [sb] at h3
    refine W_seq (W_region rfl ?_)
    refine stp (r_build (v := .agg #[.int .i64 0, .int .i64 0, .slice none 0 0, .slice none 0 0, .slice none 0 0]) (fun w => by kernel_rfl) ?_)
    refine stn (r_storeAll rfl rfl hc10 (by rfl) (by rfl) (by rfl) ?_)
    intro w31 hc32 u33
    replace hc4 := u33.heap hc4 ne13
    replace G := G.upd u33 hge12
    clear u33 hc10
    refine stp (r_assign_int rfl ?_)
    refine WL_nil ?_
    refine W_ret ?_
    have h9 : tstep (Nd.mk kind size words bytes kids) k = (.nil, 20) := by rw [tstep_mk]; rw [if_neg (by first | assumption | omega | simp_all), if_neg (by first | assumption | omega | simp_all), if_pos (by first | assumption | omega | simp_all)]
    rw [h9]
    refine ret2 (res_all rfl hc32 (by rfl)) (res_tmp (v := .int .u16 20) rfl) ⟨[_, _, _, _, _], rfl, NodeR.zero _, G⟩
   ·-- false
    simp only [sb] at h3
    refine W_skip ?_
    refine W_seq (W_region rfl ?_)
    refine stp (r_build (v := .agg #[.int .i64 0, .int .i64 0, .slice none 0 0, .slice none 0 0, .slice none 0 0]) (fun w => by kernel_rfl) ?_)
    refine stn (r_storeAll rfl rfl hc10 (by rfl) (by rfl) (by rfl) ?_)
    intro w34 hc35 u36
    replace hc4 := u36.heap hc4 ne13
    replace G := G.upd u36 hge12
    clear u36 hc10
    refine stp (r_assign_int rfl ?_)
    refine WL_nil ?_
    refine W_ret ?_
    have h9 : tstep (Nd.mk kind size words bytes kids) k = (.nil, 0) := by rw [tstep_mk]; rw [if_neg (by first | assumption | omega | simp_all), if_neg (by first | assumption | omega | simp_all), if_neg (by first | assumption | omega | simp_all)]
    rw [h9]
    refine ret2 (res_all rfl hc35 (by rfl)) (res_tmp (v := .int .u16 0) rfl) ⟨[_, _, _, _, _], rfl, NodeR.zero _, G⟩

set_option maxRecDepth 100000 in
theorem tat_calls (w : World) {c : List Value} {t : Nd} (T : NodeR w c t) {k : Int} (k0 : 0 ≤ k) : Gives Try.prog 44 #[.agg c.toArray, .int .i64 k] w (.tuple #[.int .u64 ((tat t k).1), .int .u16 ((tat t k).2)]) := by
 obtain @⟨kind, size, words, bytes, kids, ws, bs, ks, kc, hk, hs, hW, hwr, hB, hbr, hK, hKs⟩ := T
 obtain ⟨aw, cw, rfl, hcw, hcw2, RW⟩ := hW
 obtain ⟨ab, cb, rfl, hcb, hcb2, RB⟩ := hB
 obtain ⟨ak, ck, rfl, hck, hck2, RK⟩ := hK
 have lw := RW.lim
 have lb := RB.lim
 have lk := RK.lim
 simp only [inR] at hk hs
 obtain ⟨k, rfl⟩ : ∃ j : Nat, k = (j : Int) := ⟨k.toNat, by omega⟩
 have hgb := getD_u8 hbr k
 have G := Grow.rfl' w
 refine gives_of Try.func44 Try.ntmps44 Try.results44 rfl rfl ?_
 refine W_seq (W_region rfl ?_)
 refine WL_some (og rfl ?_)
 (first | refine r_box_agg rfl ?_ | refine r_box_int rfl ?_ | refine r_box_slice rfl ?_ | refine r_box rfl rfl ?_)
 intro b1 w2 hb3 hc4 g5
 have hge6 := Nat.le_trans G.size hb3
 replace G := G.tr g5
 clear g5 hb3
 refine stp (r_assign_int rfl ?_)
 refine stp (r_assign_int rfl ?_)
 refine WL_nil ?_
 refine W_seq (W_region rfl ?_)
 refine stp (r_fieldAddr rfl ?_)
 refine stp (r_load (v := .int .i64 kind) rfl hc4 rfl ?_)
 refine stp (r_neq rfl rfl ?_)
 refine stp (r_move_bool rfl ?_)
 refine WL_some (og_if (s := .bool (decide (kind ≠ 0))) (b := true) (v := .pointer (some ⟨b1, 0, none⟩)) rfl (wgb_t _) (fun hc7 => ?_) ?_)
 ·
  have hc7_ := of_decide_eq_true hc7
  refine r_fieldAddr rfl ?_
  exact ⟨rfl, rfl⟩
 refine WL_some (og_if (s := .bool (decide (kind ≠ 0))) (b := true) (v := .int .i64 kind) rfl (wgb_t _) (fun hc8 => ?_) ?_)
 ·
  have hc8_ := of_decide_eq_true hc8
  refine r_load (v := .int .i64 kind) (gvt hc8) hc4 rfl ?_
  exact ⟨rfl, rfl⟩
 refine WL_some (og_if (s := .bool (decide (kind ≠ 0))) (b := true) (v := .bool (decide (kind ≠ 1))) rfl (wgb_t _) (fun hc9 => ?_) ?_)
 ·
  have hc9_ := of_decide_eq_true hc9
  refine r_neq (gvt hc9) rfl ?_
  exact ⟨rfl, rfl⟩
 refine stp (r_and2 rfl rfl rfl ?_)
 refine stp (r_assign_bool rfl ?_)
 refine WL_nil ?_
 refine W_seq ?_
 refine W_block ?_
 refine W_seq (W_region rfl ?_)
 refine stp (r_move_bool rfl ?_)
 refine stp (r_move_bool rfl ?_)
 refine WL_some (og_if (s := .bool ((decide (kind ≠ 0)) && (decide (kind ≠ 1)))) (b := true) (v := .pointer (some ⟨b1, 1, none⟩)) rfl (wgb_t _) (fun hc10 => ?_) ?_)
 ·
  obtain ⟨hc10a, hc10b⟩ := and_t hc10
  have hc10a_ := of_decide_eq_true hc10a
  have hc10b_ := of_decide_eq_true hc10b
  refine r_fieldAddr rfl ?_
  exact ⟨rfl, rfl⟩
 refine WL_some (og_if (s := .bool ((decide (kind ≠ 0)) && (decide (kind ≠ 1)))) (b := true) (v := .int .i64 size) rfl (wgb_t _) (fun hc11 => ?_) ?_)
 ·
  obtain ⟨hc11a, hc11b⟩ := and_t hc11
  have hc11a_ := of_decide_eq_true hc11a
  have hc11b_ := of_decide_eq_true hc11b
  refine r_load (v := .int .i64 size) (gvt hc11) hc4 rfl ?_
  exact ⟨rfl, rfl⟩
 refine WL_some (og_if (s := .bool ((decide (kind ≠ 0)) && (decide (kind ≠ 1)))) (b := true) (v := .bool (decide (size = 6))) rfl (wgb_t _) (fun hc12 => ?_) ?_)
 ·
  obtain ⟨hc12a, hc12b⟩ := and_t hc12
  have hc12a_ := of_decide_eq_true hc12a
  have hc12b_ := of_decide_eq_true hc12b
  refine r_eql (gvt hc12) rfl ?_
  exact ⟨rfl, rfl⟩
 refine stp (r_and2 rfl rfl rfl ?_)
 refine stp (r_assign_bool rfl ?_)
 refine WL_nil ?_
 refine W_cond2 (b := (((decide (kind ≠ 0)) && (decide (kind ≠ 1))) && (decide (size = 6)))) rfl (fun h1 => ?_) (fun h1 => ?_)
 ·-- true
  simp only [sb] at h1
  refine W_seq (W_region rfl ?_)
  refine stp (r_assign_int rfl ?_)
  refine stp (r_assign_int rfl ?_)
  refine WL_nil ?_
  refine W_ret ?_
  have h9 : tat (Nd.mk kind size words bytes kids) (k : Int) = (0, 23) := by rw [tat_mk]; (repeat' split) <;> first | rfl | (exfalso; omega) | (exfalso; simp_all; done) | (exfalso; simp_all; omega)
  refine ret2 (res_tmp (v := .int .u64 0) rfl) (res_tmp (v := .int .u16 23) rfl) ⟨?_, G⟩
  rw [h9]
 ·-- false
  simp only [sb] at h1
  refine W_seq (W_region rfl ?_)
  refine stp (r_fieldAddr rfl ?_)
  refine stp (r_load (v := .int .i64 kind) rfl hc4 rfl ?_)
  refine stp (r_neq rfl rfl ?_)
  refine stp (r_move_bool rfl ?_)
  refine WL_some (og_if (s := .bool (decide (kind ≠ 0))) (b := true) (v := .int .i64 (k : Int)) rfl (wgb_t _) (fun hc13 => ?_) ?_)
  ·
   have hc13_ := of_decide_eq_true hc13
   refine r_move_int rfl ?_
   exact ⟨rfl, rfl⟩
  refine WL_some (og_if (s := .bool (decide (kind ≠ 0))) (b := true) (v := .pointer (some ⟨b1, 2, none⟩)) rfl (wgb_t _) (fun hc14 => ?_) ?_)
  ·
   have hc14_ := of_decide_eq_true hc14
   refine r_fieldAddr rfl ?_
   exact ⟨rfl, rfl⟩
  refine WL_some (og_if (s := .bool (decide (kind ≠ 0))) (b := true) (v := .slice aw words.length cw) rfl (wgb_t _) (fun hc15 => ?_) ?_)
  ·
   have hc15_ := of_decide_eq_true hc15
   refine r_load (v := .slice aw words.length cw) (gvt hc15) hc4 rfl ?_
   exact ⟨rfl, rfl⟩
  refine WL_some (og_if (s := .bool (decide (kind ≠ 0))) (b := true) (v := .int .i64 (words.length : Int)) rfl (wgb_t _) (fun hc16 => ?_) ?_)
  ·
   have hc16_ := of_decide_eq_true hc16
   refine r_len rfl rfl (gvt hc16) ?_
   exact ⟨rfl, rfl⟩
  refine WL_some (og_if (s := .bool (decide (kind ≠ 0))) (b := true) (v := .bool (decide ((k : Int) < (words.length : Int)))) rfl (wgb_t _) (fun hc17 => ?_) ?_)
  ·
   have hc17_ := of_decide_eq_true hc17
   refine r_lss (gvt hc17) (gvt hc17) ?_
   exact ⟨rfl, rfl⟩
  refine stp (r_and2 rfl rfl rfl ?_)
  refine stp (r_assign_bool rfl ?_)
  refine WL_nil ?_
  refine W_cond2 (b := ((decide (kind ≠ 0)) && (decide ((k : Int) < (words.length : Int))))) rfl (fun h2 => ?_) (fun h2 => ?_)
  ·-- true
   simp only [sb] at h2
   refine W_seq (W_region rfl ?_)
   refine stp (r_fieldAddr rfl ?_)
   refine stp (r_load (v := .slice aw words.length cw) rfl hc4 rfl ?_)
   refine stp (r_move_int rfl ?_)
   refine stp (r_indexN (RW.grow G) rfl rfl ?_ ?_); omega
   refine stp (r_loadR (v := .int .u64 (words.getD k 0)) (m := 0) (RW.grow G) rfl (map_get1 0 (by omega)) ?_)
   refine stp (r_assign_int rfl ?_)
   refine stp (r_assign_int rfl ?_)
   refine WL_nil ?_
   refine W_ret ?_
   have h9 : tat (Nd.mk kind size words bytes kids) (k : Int) = (words.getD k 0, 0) := by rw [tat_mk]; (repeat' split) <;> first | rfl | (exfalso; omega) | (exfalso; simp_all; done) | (exfalso; simp_all; omega)
   refine ret2 (res_tmp (v := .int .u64 (words.getD k 0)) rfl) (res_tmp (v := .int .u16 0) rfl) ⟨?_, G⟩
   rw [h9]
  ·-- false
   simp only [sb] at h2
   refine W_seq (W_region rfl ?_)
   refine stp (r_move_bool rfl ?_)
   refine stp (r_move_bool rfl ?_)
   refine WL_some (og_if (s := .bool ((decide (kind ≠ 0)) && (decide (kind ≠ 1)))) (b := true) (v := .pointer (some ⟨b1, 1, none⟩)) rfl (wgb_t _) (fun hc18 => ?_) ?_)
   ·
    obtain ⟨hc18a, hc18b⟩ := and_t hc18
    have hc18a_ := of_decide_eq_true hc18a
    have hc18b_ := of_decide_eq_true hc18b
    refine r_fieldAddr rfl ?_
    exact ⟨rfl, rfl⟩
   refine WL_some (og_if (s := .bool ((decide (kind ≠ 0)) && (decide (kind ≠ 1)))) (b := true) (v := .int .i64 size) rfl (wgb_t _) (fun hc19 => ?_) ?_)
   ·
    obtain ⟨hc19a, hc19b⟩ := and_t hc19
    have hc19a_ := of_decide_eq_true hc19a
    have hc19b_ := of_decide_eq_true hc19b
    refine r_load (v := .int .i64 size) (gvt hc19) hc4 rfl ?_
    exact ⟨rfl, rfl⟩
   refine WL_some (og_if (s := .bool ((decide (kind ≠ 0)) && (decide (kind ≠ 1)))) (b := true) (v := .bool (decide (size = 2))) rfl (wgb_t _) (fun hc20 => ?_) ?_)
   ·
    obtain ⟨hc20a, hc20b⟩ := and_t hc20
    have hc20a_ := of_decide_eq_true hc20a
    have hc20b_ := of_decide_eq_true hc20b
    refine r_eql (gvt hc20) rfl ?_
    exact ⟨rfl, rfl⟩
   refine stp (r_and2 rfl rfl rfl ?_)
   refine stp (r_move_bool rfl ?_)
   refine WL_some (og_if (s := .bool (((decide (kind ≠ 0)) && (decide (kind ≠ 1))) && (decide (size = 2)))) (b := true) (v := .int .i64 (k : Int)) rfl (wgb_t _) (fun hc21 => ?_) ?_)
   ·
    obtain ⟨hc21a, hc21b⟩ := and_t hc21
    obtain ⟨hc21aa, hc21ab⟩ := and_t hc21a
    have hc21aa_ := of_decide_eq_true hc21aa
    have hc21ab_ := of_decide_eq_true hc21ab
    have hc21b_ := of_decide_eq_true hc21b
    refine r_move_int rfl ?_
    exact ⟨rfl, rfl⟩
   refine WL_some (og_if (s := .bool (((decide (kind ≠ 0)) && (decide (kind ≠ 1))) && (decide (size = 2)))) (b := true) (v := .pointer (some ⟨b1, 3, none⟩)) rfl (wgb_t _) (fun hc22 => ?_) ?_)
   ·
    obtain ⟨hc22a, hc22b⟩ := and_t hc22
    obtain ⟨hc22aa, hc22ab⟩ := and_t hc22a
    have hc22aa_ := of_decide_eq_true hc22aa
    have hc22ab_ := of_decide_eq_true hc22ab
    have hc22b_ := of_decide_eq_true hc22b
    refine r_fieldAddr rfl ?_
    exact ⟨rfl, rfl⟩
   refine WL_some (og_if (s := .bool (((decide (kind ≠ 0)) && (decide (kind ≠ 1))) && (decide (size = 2)))) (b := true) (v := .slice ab bytes.length cb) rfl (wgb_t _) (fun hc23 => ?_) ?_)
   ·
    obtain ⟨hc23a, hc23b⟩ := and_t hc23
    obtain ⟨hc23aa, hc23ab⟩ := and_t hc23a
    have hc23aa_ := of_decide_eq_true hc23aa
    have hc23ab_ := of_decide_eq_true hc23ab
    have hc23b_ := of_decide_eq_true hc23b
    refine r_load (v := .slice ab bytes.length cb) (gvt hc23) hc4 rfl ?_
    exact ⟨rfl, rfl⟩
   refine WL_some (og_if (s := .bool (((decide (kind ≠ 0)) && (decide (kind ≠ 1))) && (decide (size = 2)))) (b := true) (v := .int .i64 (bytes.length : Int)) rfl (wgb_t _) (fun hc24 => ?_) ?_)
   ·
    obtain ⟨hc24a, hc24b⟩ := and_t hc24
    obtain ⟨hc24aa, hc24ab⟩ := and_t hc24a
    have hc24aa_ := of_decide_eq_true hc24aa
    have hc24ab_ := of_decide_eq_true hc24ab
    have hc24b_ := of_decide_eq_true hc24b
    refine r_len rfl rfl (gvt hc24) ?_
    exact ⟨rfl, rfl⟩
   refine WL_some (og_if (s := .bool (((decide (kind ≠ 0)) && (decide (kind ≠ 1))) && (decide (size = 2)))) (b := true) (v := .bool (decide ((k : Int) < (bytes.length : Int)))) rfl (wgb_t _) (fun hc25 => ?_) ?_)
   ·
    obtain ⟨hc25a, hc25b⟩ := and_t hc25
    obtain ⟨hc25aa, hc25ab⟩ := and_t hc25a
    have hc25aa_ := of_decide_eq_true hc25aa
    have hc25ab_ := of_decide_eq_true hc25ab
    have hc25b_ := of_decide_eq_true hc25b
    refine r_lss (gvt hc25) (gvt hc25) ?_
    exact ⟨rfl, rfl⟩
   refine stp (r_and2 rfl rfl rfl ?_)
   refine stp (r_assign_bool rfl ?_)
   refine WL_nil ?_
   refine W_cond2 (b := ((((decide (kind ≠ 0)) && (decide (kind ≠ 1))) && (decide (size = 2))) && (decide ((k : Int) < (bytes.length : Int))))) rfl (fun h3 => ?_) (fun h3 => ?_)
   ·-- true
    simp only [sb] at h3
    refine W_seq (W_region rfl ?_)
    refine stp (r_fieldAddr rfl ?_)
    refine stp (r_load (v := .slice ab bytes.length cb) rfl hc4 rfl ?_)
    refine stp (r_move_int rfl ?_)
    refine stp (r_indexN (RB.grow G) rfl rfl ?_ ?_); omega
    refine stp (r_loadR (v := .int .u8 (bytes.getD k 0)) (m := 0) (RB.grow G) rfl (map_get1 0 (by omega)) ?_)
    refine stp (r_conv rfl ?_ ?_); constructor <;> omega
    refine stp (r_assign_int rfl ?_)
    refine stp (r_assign_int rfl ?_)
    refine WL_nil ?_
    refine W_ret ?_
    have h9 : tat (Nd.mk kind size words bytes kids) (k : Int) = (bytes.getD k 0, 0) := by rw [tat_mk]; (repeat' split) <;> first | rfl | (exfalso; omega) | (exfalso; simp_all; done) | (exfalso; simp_all; omega)
    refine ret2 (res_tmp (v := .int .u64 (bytes.getD k 0)) rfl) (res_tmp (v := .int .u16 0) rfl) ⟨?_, G⟩
    rw [h9]
   ·-- false
    simp only [sb] at h3
    refine W_seq (W_region rfl ?_)
    refine stp (r_move_bool rfl ?_)
    refine stp (r_assign_bool rfl ?_)
    refine WL_nil ?_
    refine W_cond2 (b := ((decide (kind ≠ 0)) && (decide (kind ≠ 1)))) rfl (fun h4 => ?_) (fun h4 => ?_)
    ·-- true
     simp only [sb] at h4
     refine W_seq (W_region rfl ?_)
     refine stp (r_assign_int rfl ?_)
     refine stp (r_assign_int rfl ?_)
     refine WL_nil ?_
     refine W_ret ?_
     have h9 : tat (Nd.mk kind size words bytes kids) (k : Int) = (0, 20) := by rw [tat_mk]; (repeat' split) <;> first | rfl | (exfalso; omega) | (exfalso; simp_all; done) | (exfalso; simp_all; omega)
     refine ret2 (res_tmp (v := .int .u64 0) rfl) (res_tmp (v := .int .u16 20) rfl) ⟨?_, G⟩
     rw [h9]
    ·-- false
     simp only [sb] at h4
     refine W_skip ?_
     refine W_seq (W_region rfl ?_)
     refine stp (r_assign_int rfl ?_)
     refine stp (r_assign_int rfl ?_)
     refine WL_nil ?_
     refine W_ret ?_
     have h9 : tat (Nd.mk kind size words bytes kids) (k : Int) = (0, 0) := by rw [tat_mk]; (repeat' split) <;> first | rfl | (exfalso; omega) | (exfalso; simp_all; done) | (exfalso; simp_all; omega)
     refine ret2 (res_tmp (v := .int .u64 0) rfl) (res_tmp (v := .int .u16 0) rfl) ⟨?_, G⟩
     rw [h9]

set_option maxRecDepth 100000 in
theorem indexI_calls (w : World) {ad : Option Addr} {c n fid : Nat} {fst cap : Array Value} {xs : List Int} [FuncI Try.prog fid] (R : RowAt w 1 ad n (xs.map (.int .i64))) (hn : n = xs.length) (p : Nat → Bool) (hf : ∀ i, i < n → ∀ w', Grow w w' → Gives Try.prog fid (fst.toList ++ ([Value.int .i64 (xs.getD i 0)] ++ cap.toList)).toArray w' (.bool (p i))) : Gives Try.prog 69 #[.slice ad n c, .func (.func fid) fst cap] w (.int .i64 (findI p n 0)) := by
 have ln := R.lim
 have G := Grow.rfl' w
 refine gives_of Try.func69 Try.ntmps69 Try.results69 rfl rfl ?_
 refine W_seq (W_region rfl ?_)
 refine stp (r_assign_int rfl ?_)
 refine WL_nil ?_
 refine W_seq ?_
 refine W_seq (W_region rfl ?_)
 refine stp (r_move_slice rfl ?_)
 refine stp (r_len rfl rfl rfl ?_)
 refine stp (r_move_int rfl ?_)
 refine WL_nil ?_
 refine W_block ?_
 refine W_loop (fun m_ e_ w_ => ∃ (k : Nat), m_ = n - k ∧ Fr [(0, .slice ad n c), (1, .func (.func fid) fst cap), (7, .int .i64 (n : Int)), (8, .int .i64 (k : Int))] e_ ∧ (k ≤ n) ∧ (∀ j, j < k → p j = false) ∧ Grow w w_) _ ⟨0, rfl, fr_of ⟨rfl, rfl, rfl, rfl, trivial⟩, by omega, fun j hj => by omega, G⟩ ?_
 clear G
 rintro m_ e_ w1 ⟨k, rfl, ⟨e2, rfl⟩, hk, hno, G⟩
 refine W_seq (W_region rfl ?_)
 refine stp (r_lss rfl rfl ?_)
 refine WL_nil ?_
 refine W_seq ?_
 refine W_cond2 (b := (decide ((k : Int) < (n : Int)))) rfl (fun hlt => ?_) (fun hlt => ?_)
 ·-- true
  replace hlt := of_decide_eq_true hlt
  refine W_skip ?_
  refine W_seq ?_
  refine W_block ?_
  refine W_seq (W_region rfl ?_)
  refine stp (r_move_int rfl ?_)
  refine stp (r_assign_int rfl ?_)
  refine WL_nil ?_
  refine W_seq (W_region rfl ?_)
  refine stp (r_move (v := .func (.func fid) fst cap) rfl ?_)
  refine stp (r_move_slice rfl ?_)
  refine stp (r_move_int rfl ?_)
  refine stp (r_indexN (R.grow G) rfl rfl ?_ ?_); omega
  refine stp (r_loadR (v := .int .i64 (xs.getD k 0)) (m := 0) (R.grow G) rfl (map_get1 0 (by omega)) ?_)
  refine stp (r_gives (v := .bool (p k)) rfl (hf k (by omega) _ G) ?_)
  intro w3 g4
  replace G := G.tr g4
  clear g4
  refine WL_nil ?_
  refine W_cond2 (b := (p k)) rfl (fun hpk => ?_) (fun hpk => ?_)
  ·-- true
   refine W_seq (W_region rfl ?_)
   refine stp (r_move_int rfl ?_)
   refine stp (r_assign_int rfl ?_)
   refine WL_nil ?_
   refine W_ret ?_
   refine ret1 (res_tmp (v := .int .i64 (k : Int)) rfl) ⟨?_, G⟩
   rw [findI_some n 0 k (by omega) (by omega) hpk (fun j _ hj => hno j hj)]
  ·-- false
   refine W_skip ?_
   refine W_region rfl ?_
   refine stp (r_add rfl rfl ?_ ?_); constructor <;> omega
   refine stp (r_move_int rfl ?_)
   refine WL_nil ?_
   refine ⟨_, ?_, k + 1, rfl, fr_of ⟨rfl, rfl, rfl, rfl, trivial⟩, by omega, fun j hj => by rcases Nat.lt_succ_iff_lt_or_eq.1 hj with h | h; exact hno j h; subst h; exact hpk, G⟩
   omega
 ·-- false
  replace hlt := of_decide_eq_false hlt
  have hk2 : k = n := by omega
  subst hk2
  refine W_exit ?_
  refine W_seq (W_region rfl ?_)
  refine stp (r_assign_int rfl ?_)
  refine WL_nil ?_
  refine W_ret ?_
  refine ret1 (res_tmp (v := .int .i64 (-1)) rfl) ⟨?_, G⟩
  rw [findI_none _ _ (fun j _ hj => hno j (by omega))]

set_option maxRecDepth 100000 in
theorem containsI_calls (w : World) {ad : Option Addr} {c n fid : Nat} {fst cap : Array Value} {xs : List Int} [FuncI Try.prog fid] (R : RowAt w 1 ad n (xs.map (.int .i64))) (hn : n = xs.length) (p : Nat → Bool) (hf : ∀ i, i < n → ∀ w', Grow w w' → Gives Try.prog fid (fst.toList ++ ([Value.int .i64 (xs.getD i 0)] ++ cap.toList)).toArray w' (.bool (p i))) : Gives Try.prog 41 #[.slice ad n c, .func (.func fid) fst cap] w (.bool ((List.range' 0 n).any p)) := by
 have G := Grow.rfl' w
 refine gives_of Try.func41 Try.ntmps41 Try.results41 rfl rfl ?_
 refine W_seq (W_region rfl ?_)
 refine stp (r_assign (v := .bool false) rfl ?_)
 refine WL_nil ?_
 refine W_seq (W_region rfl ?_)
 refine stp (r_move_slice rfl ?_)
 refine stp (r_move (v := .func (.func fid) fst cap) rfl ?_)
 refine stp (r_gives (v := .int .i64 (findI p n 0)) rfl (indexI_calls _ (R.grow G) hn p (fun i hi w' g' => hf i hi w' (G.tr g'))) ?_)
 intro w1 g2
 replace G := G.tr g2
 clear g2
 refine stp (r_geq rfl rfl ?_)
 refine stp (r_assign_bool rfl ?_)
 refine WL_nil ?_
 refine W_ret ?_
 refine ret1 (res_tmp (v := .bool (decide ((findI p n 0) ≥ 0))) rfl) ⟨?_, G⟩
 rw [← findI_any]

set_option maxRecDepth 100000 in
theorem ask1_calls (w : World) (x : Int) : Gives Try.prog 42 #[.int .i64 x] w (.bool (decide (x < 0))) := by
 have G := Grow.rfl' w
 refine gives_of Try.func42 Try.ntmps42 Try.results42 rfl rfl ?_
 refine W_seq (W_region rfl ?_)
 refine stp (r_assign (v := .bool false) rfl ?_)
 refine WL_nil ?_
 refine W_seq (W_region rfl ?_)
 refine stp (r_move_int rfl ?_)
 refine stp (r_lss rfl rfl ?_)
 refine stp (r_assign_bool rfl ?_)
 refine WL_nil ?_
 refine W_ret ?_
 refine ret1 (res_tmp (v := .bool (decide (x < 0))) rfl) ⟨?_, G⟩
 rfl

set_option maxRecDepth 100000 in
theorem cost_calls : ∀ (n_ : Nat) (w : World) {c : List Value} {t : Nd} (T : NodeR w c t), t.sz ≤ n_ → Gives Try.prog 19 #[.agg c.toArray] w (.int .i64 t.cost) := by
 intro n_
 induction n_ with
 | zero => intro w c t T hm_; exact absurd hm_ (by have := t.sz_pos; omega)
 | succ n_ ih_ =>
 intro w c t T hm_
 have T0 := T
 have hnd := T.need_le
 obtain @⟨kind, size, words, bytes, kids, ws, bs, ks, kc, hk, hs, hW, hwr, hB, hbr, hK, hKs⟩ := T
 obtain ⟨aw, cw, rfl, hcw, hcw2, RW⟩ := hW
 obtain ⟨ab, cb, rfl, hcb, hcb2, RB⟩ := hB
 obtain ⟨ak, ck, rfl, hck, hck2, RK⟩ := hK
 have lw := RW.lim
 have lb := RB.lim
 have lk := RK.lim
 simp only [inR] at hk hs
 have hn0 := Nd.need_nn (Nd.mk kind size words bytes kids)
 have G := Grow.rfl' w
 refine gives_of Try.func19 Try.ntmps19 Try.results19 rfl rfl ?_
 refine W_seq (W_region rfl ?_)
 refine WL_some (og rfl ?_)
 (first | refine r_box_agg rfl ?_ | refine r_box_int rfl ?_ | refine r_box_slice rfl ?_ | refine r_box rfl rfl ?_)
 intro b1 w2 hb3 hc4 g5
 have hge6 := Nat.le_trans G.size hb3
 replace G := G.tr g5
 clear g5 hb3
 refine stp (r_assign_int rfl ?_)
 refine WL_nil ?_
 refine W_seq (W_region rfl ?_)
 refine stp (r_loadAll rfl hc4 (by rfl) ?_)
 refine stp (r_gives (v := .int .i64 ((Nd.mk kind size words bytes kids).need)) rfl (need_calls _ (T0.grow G)) ?_)
 intro w7 g8
 replace hc4 := g8.heap hc4
 replace G := G.tr g8
 clear g8
 refine stp (r_add rfl rfl ?_ ?_); constructor <;> omega
 refine stp (r_assign_int rfl ?_)
 refine WL_nil ?_
 refine W_seq ?_
 refine W_seq (W_region rfl ?_)
 refine stp (r_fieldAddr rfl ?_)
 refine stp (r_load (v := .slice ak kids.length ck) rfl hc4 rfl ?_)
 refine stp (r_len rfl rfl rfl ?_)
 refine stp (r_move_int rfl ?_)
 refine WL_nil ?_
 refine W_block ?_
 refine W_loop (fun m_ e_ w_ => ∃ (k : Nat), m_ = kids.length - k ∧ Fr [(2, .int .i64 0), (10, .slice ak kids.length ck), (11, .int .i64 (kids.length : Int)), (3, .int .i64 (Nd.costL (kids.take k) (1 + (Nd.mk kind size words bytes kids).need))), (12, .int .i64 (k : Int))] e_ ∧ (k ≤ kids.length) ∧ (w_.heap[b1]? = some (.cells #[.int .i64 kind, .int .i64 size, .slice aw words.length cw, .slice ab bytes.length cb, .slice ak kids.length ck] 37 (0, 0))) ∧ Grow w w_) _ ⟨0, rfl, fr_of ⟨rfl, rfl, rfl, congrArg (Value.int .i64) (by simp [Nd.costL]), rfl, trivial⟩, by omega, hc4, G⟩ ?_
 clear hc4
 clear G
 rintro m_ e_ w9 ⟨k, rfl, ⟨e10, rfl⟩, hk2, hc4, G⟩
 refine W_seq (W_region rfl ?_)
 refine stp (r_lss rfl rfl ?_)
 refine WL_nil ?_
 refine W_seq ?_
 refine W_cond2 (b := (decide ((k : Int) < (kids.length : Int)))) rfl (fun hlt => ?_) (fun hlt => ?_)
 ·-- true
  replace hlt := of_decide_eq_true hlt
  have hi : k < kids.length := by omega
  have hat := KidsR.at_ k kids[k] hKs (by simp [hi])
  obtain ⟨y0, y1, ya, yn, yc, za, zn, zc, ua, un, uc, hy⟩ := hat.cells
  rw [hy] at hat
  have hsz := Nd.szs_at kids k kids[k] (by simp [hi])
  simp only [Nd.sz] at hm_
  have c0 := Nd.costL_pos (kids.take k) (1 + (Nd.mk kind size words bytes kids).need) (by omega)
  have c1 := Nd.costL_le (kids.take k) (1 + (Nd.mk kind size words bytes kids).need) (by omega)
  have c2 := kids[k].cost_pos
  have c3 := Nd.cost_le hat.need_le
  refine W_skip ?_
  refine W_seq ?_
  refine W_block ?_
  refine W_seq (W_region rfl ?_)
  refine stp (r_indexN (RK.grow G) rfl rfl ?_ ?_); omega
  refine stp (r_loadNR (RK.grow G) rfl (by decide) (by rw [RK.len]; omega) hy ?_)
  refine stp (r_alloc ?_)
  intro b11 w12 hb13 hc14 g15
  refine stn (r_storeAll rfl rfl hc14 (by rfl) (by rfl) (by rfl) ?_)
  intro w16 hc17 u18
  have g19 := g15.upd u18 hb13
  have hge20 := Nat.le_trans G.size hb13
  have ne21 := Nat.ne_of_lt (Nat.lt_of_lt_of_le (lt_of_heap hc4) hb13)
  replace hc4 := g19.heap hc4
  replace G := G.tr g19
  clear u18 g15 hb13 hc14
  refine WL_nil ?_
  refine W_region rfl ?_
  refine stp (r_move_int rfl ?_)
  refine stp (r_loadAll rfl hc17 (by rfl) ?_)
  refine stp (r_gives (v := .int .i64 (kids[k].cost)) rfl ((by have h := ih_ _ (hat.grow G) (by omega); exact h)) ?_)
  intro w22 g23
  replace hc4 := g23.heap hc4
  replace hc17 := g23.heap hc17
  replace G := G.tr g23
  clear g23
  refine stp (r_add rfl rfl ?_ ?_); constructor <;> omega
  refine stp (r_min rfl rfl rfl ?_)
  refine stp (r_assign_int rfl ?_)
  refine WL_nil ?_
  refine W_region rfl ?_
  refine stp (r_add rfl rfl ?_ ?_); constructor <;> omega
  refine stp (r_move_int rfl ?_)
  refine WL_nil ?_
  refine ⟨_, ?_, k + 1, rfl, fr_of ⟨rfl, rfl, rfl, congrArg (Value.int .i64) (by rw [Nd.costL_take _ hi]; rfl), rfl, trivial⟩, by omega, hc4, G⟩
  omega
 ·-- false
  replace hlt := of_decide_eq_false hlt
  have hk3 : k = kids.length := by omega
  refine W_exit ?_
  refine W_seq (W_region rfl ?_)
  refine stp (r_move_int rfl ?_)
  refine stp (r_assign_int rfl ?_)
  refine WL_nil ?_
  refine W_ret ?_
  refine ret1 (res_tmp (v := .int .i64 (Nd.costL (kids.take k) (1 + (Nd.mk kind size words bytes kids).need))) rfl) ⟨?_, G⟩
  rw [Nd.cost, hk3, List.take_length]

set_option maxRecDepth 100000 in
theorem ask_calls (w : World) {c : List Value} {t : Nd} (T : NodeR w c t) {ad : Option Addr} {c2 : Nat} {steps : List Int} {a : Int} (R : RowAt w 1 ad steps.length (steps.map (.int .i64))) (ha : inR .i64 a) : Gives Try.prog 25 #[.agg c.toArray, .agg #[.slice ad steps.length c2, .int .i64 a]] w (.tuple #[.agg #[.int .i64 ((askT t steps a).1.kind), .int .i64 ((askT t steps a).1.size), .int .i64 ((askT t steps a).1.words), .int .i64 ((askT t steps a).1.kids), .int .u64 ((askT t steps a).1.word)], .int .u16 ((askT t steps a).2)]) := by
 have T0 := T
 have ll := R.lim
 simp only [inR] at ha
 obtain @⟨kind, size, words, bytes, kids, ws, bs, ks, kc, hk, hs, hW, hwr, hB, hbr, hK, hKs⟩ := T
 obtain ⟨aw, cw, rfl, hcw, hcw2, RW⟩ := hW
 obtain ⟨ab, cb, rfl, hcb, hcb2, RB⟩ := hB
 obtain ⟨ak, ck, rfl, hck, hck2, RK⟩ := hK
 have lw := RW.lim
 have lb := RB.lim
 have lk := RK.lim
 simp only [inR] at hk hs
 have G := Grow.rfl' w
 refine gives_of Try.func25 Try.ntmps25 Try.results25 rfl rfl ?_
 refine W_seq (W_region rfl ?_)
 refine WL_some (og rfl ?_)
 (first | refine r_box_agg rfl ?_ | refine r_box_int rfl ?_ | refine r_box_slice rfl ?_ | refine r_box rfl rfl ?_)
 intro b1 w2 hb3 hc4 g5
 have hge6 := Nat.le_trans G.size hb3
 replace G := G.tr g5
 clear g5 hb3
 refine WL_some (og rfl ?_)
 (first | refine r_box_agg rfl ?_ | refine r_box_int rfl ?_ | refine r_box_slice rfl ?_ | refine r_box rfl rfl ?_)
 intro b7 w8 hb9 hc10 g11
 have hge12 := Nat.le_trans G.size hb9
 have ne13 := Nat.ne_of_lt (Nat.lt_of_lt_of_le (lt_of_heap hc4) hb9)
 replace hc4 := g11.heap hc4
 replace G := G.tr g11
 clear g11 hb9
 refine stp (r_alloc ?_)
 intro b14 w15 hb16 hc17 g18
 refine stp (r_assign_int rfl ?_)
 refine WL_nil ?_
 refine W_seq ?_
 refine W_block ?_
 refine W_seq (W_region rfl ?_)
 refine stp (r_fieldAddr rfl ?_)
 have hge19 := Nat.le_trans G.size hb16
 have ne20 := Nat.ne_of_lt (Nat.lt_of_lt_of_le (lt_of_heap hc4) hb16)
 have ne21 := Nat.ne_of_lt (Nat.lt_of_lt_of_le (lt_of_heap hc10) hb16)
 replace hc4 := g18.heap hc4
 replace hc10 := g18.heap hc10
 replace G := G.tr g18
 clear g18 hb16
 refine stp (r_load (v := .slice ad steps.length c2) rfl hc10 rfl ?_)
 refine stp (r_gives (v := .bool ((List.range' 0 steps.length).any fun i => decide (steps.getD i 0 < 0))) rfl (containsI_calls _ (R.grow G) rfl (fun i => decide (steps.getD i 0 < 0)) (fun i hi w' g' => ask1_calls _ _)) ?_)
 intro w22 g23
 replace hc4 := g23.heap hc4
 replace hc10 := g23.heap hc10
 replace hc17 := g23.heap hc17
 replace G := G.tr g23
 clear g23
 refine stp (r_assign_bool rfl ?_)
 refine WL_nil ?_
 refine W_cond2 (b := ((List.range' 0 steps.length).any fun i => decide (steps.getD i 0 < 0))) rfl (fun h1 => ?_) (fun h1 => ?_)
 ·-- true
  refine W_seq (W_region rfl ?_)
  refine stp (r_build (v := .agg #[.int .i64 0, .int .i64 0, .int .i64 0, .int .i64 0, .int .u64 0]) (fun w => by kernel_rfl) ?_)
  refine stn (r_storeAll rfl rfl hc17 (by rfl) (by rfl) (by rfl) ?_)
  intro w24 hc25 u26
  replace hc4 := u26.heap hc4 ne20
  replace hc10 := u26.heap hc10 ne21
  replace G := G.upd u26 hge19
  clear u26 hc17
  refine stp (r_assign_int rfl ?_)
  refine WL_nil ?_
  refine W_ret ?_
  have h9 : (askT (Nd.mk kind size words bytes kids) steps a) = (Vl0, 1) := by unfold askT; rw [if_pos (any_neg.1 h1)]
  refine ret2 (res_all rfl hc25 (by rfl)) (res_tmp (v := .int .u16 1) rfl) ⟨?_, G⟩
  rw [h9] <;> rfl
 ·-- false
  have hno : ¬ ∃ k ∈ steps, k < 0 := fun h_ => by rw [any_neg.2 h_] at h1; cases h1
  refine W_seq (W_region rfl ?_)
  refine stp (r_fieldAddr rfl ?_)
  refine stp (r_load (v := .slice ad steps.length c2) rfl hc10 rfl ?_)
  refine stp (r_len rfl rfl rfl ?_)
  refine stp (r_gtr rfl rfl ?_)
  refine stp (r_assign_bool rfl ?_)
  refine WL_nil ?_
  refine W_cond2 (b := (decide ((steps.length : Int) > 32))) rfl (fun h2 => ?_) (fun h2 => ?_)
  ·-- true
   replace h2 := of_decide_eq_true h2
   refine W_seq (W_region rfl ?_)
   refine stp (r_build (v := .agg #[.int .i64 0, .int .i64 0, .int .i64 0, .int .i64 0, .int .u64 0]) (fun w => by kernel_rfl) ?_)
   refine stn (r_storeAll rfl rfl hc17 (by rfl) (by rfl) (by rfl) ?_)
   intro w27 hc28 u29
   replace hc4 := u29.heap hc4 ne20
   replace hc10 := u29.heap hc10 ne21
   replace G := G.upd u29 hge19
   clear u29 hc17
   refine stp (r_assign_int rfl ?_)
   refine WL_nil ?_
   refine W_ret ?_
   have h9 : (askT (Nd.mk kind size words bytes kids) steps a) = (Vl0, 3) := by unfold askT; rw [if_neg hno, if_pos h2]
   refine ret2 (res_all rfl hc28 (by rfl)) (res_tmp (v := .int .u16 3) rfl) ⟨?_, G⟩
   rw [h9] <;> rfl
  ·-- false
   replace h2 := of_decide_eq_false h2
   refine W_skip ?_
   refine W_seq ?_
   refine W_seq (W_region rfl ?_)
   refine stp (r_fieldAddr rfl ?_)
   refine stp (r_load (v := .slice ad steps.length c2) rfl hc10 rfl ?_)
   refine stp (r_len rfl rfl rfl ?_)
   refine stp (r_move_int rfl ?_)
   refine WL_nil ?_
   refine W_block ?_
   refine W_loop (fun m_ e_ w_ => ∃ (k : Nat) (y0 : Int) (y1 : Int) (ya : Option Addr) (yn : Nat) (yc : Nat) (za : Option Addr) (zn : Nat) (zc : Nat) (ua : Option Addr) (un : Nat) (uc : Nat) (u : Nd), m_ = steps.length - k ∧ Fr [(2, .pointer (some ⟨b1, 0, none⟩)), (3, .pointer (some ⟨b7, 0, none⟩)), (4, .pointer (some ⟨b14, 0, none⟩)), (24, .slice ad steps.length c2), (25, .int .i64 (steps.length : Int)), (26, .int .i64 (k : Int))] e_ ∧ (k ≤ steps.length) ∧ (NodeR w [.int .i64 y0, .int .i64 y1, .slice ya yn yc, .slice za zn zc, .slice ua un uc] u) ∧ (tgo steps (Nd.mk kind size words bytes kids) = tgo (steps.drop k) u) ∧ (w_.heap[b7]? = some (.cells #[.slice ad steps.length c2, .int .i64 a] 33 (0, 0))) ∧ (w_.heap[b14]? = some (.cells #[.int .i64 0, .int .i64 0, .int .i64 0, .int .i64 0, .int .u64 0] 57 (0, 0))) ∧ (w_.heap[b1]? = some (.cells #[.int .i64 y0, .int .i64 y1, .slice ya yn yc, .slice za zn zc, .slice ua un uc] 37 (0, 0))) ∧ Grow w w_) _ ⟨0, kind, size, aw, words.length, cw, ab, bytes.length, cb, ak, kids.length, ck, (Nd.mk kind size words bytes kids), rfl, fr_of ⟨rfl, rfl, rfl, rfl, rfl, rfl, trivial⟩, by omega, T0, rfl, hc10, hc17, hc4, G⟩ ?_
   clear hc4 hc10 hc17
   clear G
   rintro m_ e_ w30 ⟨k, y0, y1, ya, yn, yc, za, zn, zc, ua, un, uc, u, rfl, ⟨e31, rfl⟩, hk2, hT, hw, hc10, hc17, hc4, G⟩
   refine W_seq (W_region rfl ?_)
   refine stp (r_lss rfl rfl ?_)
   refine WL_nil ?_
   refine W_seq ?_
   refine W_cond2 (b := (decide ((k : Int) < (steps.length : Int)))) rfl (fun hlt => ?_) (fun hlt => ?_)
   ·-- true
    replace hlt := of_decide_eq_true hlt
    have hi : k < steps.length := by omega
    have hkk : 0 ≤ (steps.getD k 0) := Int.not_lt.1 fun h_ => hno ⟨_, getD_mem hi, h_⟩
    have hd := tgo_drop hi u
    refine W_skip ?_
    refine W_seq ?_
    refine W_block ?_
    refine W_seq (W_region rfl ?_)
    refine stp (r_indexN (R.grow G) rfl rfl ?_ ?_); omega
    refine stp (r_loadR (v := .int .i64 (steps.getD k 0)) (m := 0) (R.grow G) rfl (map_get1 0 (by omega)) ?_)
    refine stp (r_assign_int rfl ?_)
    refine WL_nil ?_
    refine W_seq (W_region rfl ?_)
    refine stp (r_loadAll rfl hc4 (by rfl) ?_)
    refine stp (r_move_int rfl ?_)
    refine WL_some (og rfl ?_)
    refine r_call rfl (tstep_calls _ hT G hkk) ?_
    rintro v_ w32 ⟨cells, rfl, hT9, g_⟩
    replace hc10 := g_.heap hc10
    replace hc17 := g_.heap hc17
    replace hc4 := g_.heap hc4
    replace G := G.tr g_
    clear g_
    obtain ⟨x0, x1, xa, xn, xc, pa, pn, pc, qa, qn, qc, rfl⟩ := hT9.cells
    refine stp (r_move (v := .tuple #[.agg #[.int .i64 x0, .int .i64 x1, .slice xa xn xc, .slice pa pn pc, .slice qa qn qc], .int .u16 ((tstep u (steps.getD k 0)).2)]) rfl ?_)
    refine stp (r_extract (v := .agg #[.int .i64 x0, .int .i64 x1, .slice xa xn xc, .slice pa pn pc, .slice qa qn qc]) rfl rfl ?_)
    refine stp (r_extract (v := .int .u16 ((tstep u (steps.getD k 0)).2)) rfl rfl ?_)
    refine stp (r_alloc ?_)
    intro b33 w34 hb35 hc36 g37
    refine stn (r_storeAll rfl rfl hc36 (by rfl) (by rfl) (by rfl) ?_)
    intro w38 hc39 u40
    have g41 := g37.upd u40 hb35
    have hge42 := Nat.le_trans G.size hb35
    have ne43 := Nat.ne_of_lt (Nat.lt_of_lt_of_le (lt_of_heap hc10) hb35)
    have ne44 := Nat.ne_of_lt (Nat.lt_of_lt_of_le (lt_of_heap hc17) hb35)
    have ne45 := Nat.ne_of_lt (Nat.lt_of_lt_of_le (lt_of_heap hc4) hb35)
    replace hc10 := g41.heap hc10
    replace hc17 := g41.heap hc17
    replace hc4 := g41.heap hc4
    replace G := G.tr g41
    clear u40 g37 hb35 hc36
    refine stp (r_assign_int rfl ?_)
    refine WL_nil ?_
    refine W_seq ?_
    refine W_seq (W_region rfl ?_)
    refine stp (r_move_int rfl ?_)
    refine stp (r_neq rfl rfl ?_)
    refine WL_nil ?_
    refine W_cond2 (b := (decide (((tstep u (steps.getD k 0)).2) ≠ 0))) rfl (fun h4 => ?_) (fun h4 => ?_)
    ·-- true
     replace h4 := of_decide_eq_true h4
     refine W_seq (W_region rfl ?_)
     refine stp (r_build (v := .agg #[.int .i64 0, .int .i64 0, .int .i64 0, .int .i64 0, .int .u64 0]) (fun w => by kernel_rfl) ?_)
     refine stp (r_move_int rfl ?_)
     refine stn (r_storeAll rfl rfl hc17 (by rfl) (by rfl) (by rfl) ?_)
     intro w46 hc47 u48
     replace hc10 := u48.heap hc10 ne21
     replace hc4 := u48.heap hc4 ne20
     replace hc39 := u48.heap hc39 ne44.symm
     replace G := G.upd u48 hge19
     clear u48 hc17
     refine stp (r_assign_int rfl ?_)
     refine WL_nil ?_
     refine W_ret ?_
     have h9 : (askT (Nd.mk kind size words bytes kids) steps a) = (Vl0, (tstep u (steps.getD k 0)).2) := by unfold askT; rw [if_neg hno, if_neg h2, hw, hd, if_pos h4, if_pos h4]
     refine ret2 (res_all rfl hc47 (by rfl)) (res_tmp (v := .int .u16 ((tstep u (steps.getD k 0)).2)) rfl) ⟨?_, G⟩
     rw [h9] <;> rfl
    ·-- false
     replace h4 := of_decide_eq_false h4
     refine W_skip ?_
     refine W_region rfl ?_
     refine stp (r_loadAll rfl hc39 (by rfl) ?_)
     refine stn (r_storeAll rfl rfl hc4 (by rfl) (by rfl) (by rfl) ?_)
     intro w49 hc50 u51
     replace hc10 := u51.heap hc10 ne13.symm
     replace hc17 := u51.heap hc17 ne20.symm
     replace hc39 := u51.heap hc39 ne45.symm
     replace G := G.upd u51 hge6
     clear u51 hc4
     refine WL_nil ?_
     refine W_region rfl ?_
     refine stp (r_add rfl rfl ?_ ?_); constructor <;> omega
     refine stp (r_move_int rfl ?_)
     refine WL_nil ?_
     refine ⟨_, ?_, k + 1, x0, x1, xa, xn, xc, pa, pn, pc, qa, qn, qc, (tstep u (steps.getD k 0)).1, rfl, fr_of ⟨rfl, rfl, rfl, rfl, rfl, rfl, trivial⟩, by omega, hT9, (by rw [hw, hd, if_neg h4]), hc10, hc17, hc50, G⟩
     omega
   ·-- false
    replace hlt := of_decide_eq_false hlt
    have hk9 : k = steps.length := by omega
    rw [hk9, List.drop_length, tgo] at hw
    obtain ⟨hl1, hl2, hl3, hl4, hl5, hl6, hl7, hl8⟩ := hT.lens
    have hv : (askT (Nd.mk kind size words bytes kids) steps a) = tval u a := by unfold askT; rw [if_neg hno, if_neg h2, hw, if_neg (by simp)]
    refine W_exit ?_
    refine W_seq ?_
    refine W_seq (W_region rfl ?_)
    refine stp (r_fieldAddr rfl ?_)
    refine stp (r_load (v := .int .i64 a) rfl hc10 rfl ?_)
    refine stp (r_lss rfl rfl ?_)
    refine WL_nil ?_
    refine W_cond2 (b := (decide (a < 0))) rfl (fun h3 => ?_) (fun h3 => ?_)
    ·-- true
     replace h3 := of_decide_eq_true h3
     refine W_seq (W_region rfl ?_)
     refine stp (r_fieldAddr rfl ?_)
     refine stp (r_load (v := .int .i64 y0) rfl hc4 rfl ?_)
     refine stp (r_fieldAddr rfl ?_)
     refine stp (r_load (v := .int .i64 y1) rfl hc4 rfl ?_)
     refine stp (r_fieldAddr rfl ?_)
     refine stp (r_load (v := .slice ya yn yc) rfl hc4 rfl ?_)
     refine stp (r_len rfl rfl rfl ?_)
     refine stp (r_fieldAddr rfl ?_)
     refine stp (r_load (v := .slice za zn zc) rfl hc4 rfl ?_)
     refine stp (r_len rfl rfl rfl ?_)
     refine stp (r_add rfl rfl ?_ ?_); constructor <;> omega
     refine stp (r_fieldAddr rfl ?_)
     refine stp (r_load (v := .slice ua un uc) rfl hc4 rfl ?_)
     refine stp (r_len rfl rfl rfl ?_)
     refine stp (r_build (v := .agg #[.int .i64 y0, .int .i64 y1, .int .i64 ((yn : Int) + (zn : Int)), .int .i64 (un : Int), .int .u64 0]) (fun w => by kernel_rfl) ?_)
     refine stn (r_storeAll rfl rfl hc17 (by rfl) (by rfl) (by rfl) ?_)
     intro w52 hc53 u54
     replace hc10 := u54.heap hc10 ne21
     replace hc4 := u54.heap hc4 ne20
     replace G := G.upd u54 hge19
     clear u54 hc17
     refine stp (r_assign_int rfl ?_)
     refine WL_nil ?_
     refine W_ret ?_
     have h9 : (askT (Nd.mk kind size words bytes kids) steps a) = (⟨y0, y1, (yn : Int) + zn, un, 0⟩, 0) := by rw [hv, tval, if_pos h3, hl1, hl2, hl3, hl4, hl5]
     refine ret2 (res_all rfl hc53 (by rfl)) (res_tmp (v := .int .u16 0) rfl) ⟨?_, G⟩
     rw [h9] <;> rfl
    ·-- false
     replace h3 := of_decide_eq_false h3
     refine W_skip ?_
     refine W_seq (W_region rfl ?_)
     refine stp (r_loadAll rfl hc4 (by rfl) ?_)
     refine stp (r_fieldAddr rfl ?_)
     refine stp (r_load (v := .int .i64 a) rfl hc10 rfl ?_)
     refine stp (r_gives (v := .tuple #[.int .u64 ((tat u a).1), .int .u16 ((tat u a).2)]) rfl (tat_calls _ (hT.grow G) (by omega)) ?_)
     intro w55 g56
     replace hc10 := g56.heap hc10
     replace hc17 := g56.heap hc17
     replace hc4 := g56.heap hc4
     replace G := G.tr g56
     clear g56
     refine stp (r_move (v := .tuple #[.int .u64 ((tat u a).1), .int .u16 ((tat u a).2)]) rfl ?_)
     refine stp (r_extract (v := .int .u64 ((tat u a).1)) rfl rfl ?_)
     refine stp (r_extract (v := .int .u16 ((tat u a).2)) rfl rfl ?_)
     refine stp (r_assign_int rfl ?_)
     refine stp (r_assign_int rfl ?_)
     refine WL_nil ?_
     refine W_seq ?_
     refine W_seq (W_region rfl ?_)
     refine stp (r_move_int rfl ?_)
     refine stp (r_neq rfl rfl ?_)
     refine WL_nil ?_
     refine W_cond2 (b := (decide (((tat u a).2) ≠ 0))) rfl (fun h4 => ?_) (fun h4 => ?_)
     ·-- true
      replace h4 := of_decide_eq_true h4
      refine W_seq (W_region rfl ?_)
      refine stp (r_build (v := .agg #[.int .i64 0, .int .i64 0, .int .i64 0, .int .i64 0, .int .u64 0]) (fun w => by kernel_rfl) ?_)
      refine stp (r_move_int rfl ?_)
      refine stn (r_storeAll rfl rfl hc17 (by rfl) (by rfl) (by rfl) ?_)
      intro w57 hc58 u59
      replace hc10 := u59.heap hc10 ne21
      replace hc4 := u59.heap hc4 ne20
      replace G := G.upd u59 hge19
      clear u59 hc17
      refine stp (r_assign_int rfl ?_)
      refine WL_nil ?_
      refine W_ret ?_
      have h9 : (askT (Nd.mk kind size words bytes kids) steps a) = (Vl0, (tat u a).2) := by rw [hv, tval, if_neg h3, if_pos h4]
      refine ret2 (res_all rfl hc58 (by rfl)) (res_tmp (v := .int .u16 ((tat u a).2)) rfl) ⟨?_, G⟩
      rw [h9] <;> rfl
     ·-- false
      replace h4 := of_decide_eq_false h4
      refine W_skip ?_
      refine W_seq (W_region rfl ?_)
      refine stp (r_fieldAddr rfl ?_)
      refine stp (r_load (v := .int .i64 y0) rfl hc4 rfl ?_)
      refine stp (r_move_int rfl ?_)
      refine stp (r_build (v := .agg #[.int .i64 y0, .int .i64 0, .int .i64 0, .int .i64 0, .int .u64 ((tat u a).1)]) (fun w => by kernel_rfl) ?_)
      refine stn (r_storeAll rfl rfl hc17 (by rfl) (by rfl) (by rfl) ?_)
      intro w60 hc61 u62
      replace hc10 := u62.heap hc10 ne21
      replace hc4 := u62.heap hc4 ne20
      replace G := G.upd u62 hge19
      clear u62 hc17
      refine stp (r_assign_int rfl ?_)
      refine WL_nil ?_
      refine W_ret ?_
      have h9 : (askT (Nd.mk kind size words bytes kids) steps a) = (⟨y0, 0, 0, 0, (tat u a).1⟩, 0) := by rw [hv, tval, if_neg h3, if_neg h4, hl1]
      refine ret2 (res_all rfl hc61 (by rfl)) (res_tmp (v := .int .u16 0) rfl) ⟨?_, G⟩
      rw [h9] <;> rfl

set_option maxRecDepth 100000 in
theorem dwords_calls (w : World) {t_ : TypeId} {u_ : Value} {s : Src} (H : SrcOk Try.prog w (.iface t_ u_) s) {bd : Nat} {paid : Int} (hb : w.heap[bd]? = some (.cells #[.iface t_ u_, .int .i64 paid] 85 (0, 0))) (seg : Int) {a : Int} (a0 : 0 ≤ a) (a1 : a ≤ 140737488355328) {n : Nat} (hn : n ≤ 10000) : Calls Try.prog 65 #[.pointer (some ⟨bd, 0, none⟩), .int .i64 seg, .int .i64 a, .int .i64 (n : Int)] w (Ret fun v w' => Row (hide w.heap.size w') 1 v n ((wordsS s seg a n).map (.int .u64)) ∧ Grow w w') := by
 have G := Grow.rfl' w
 refine calls_ret Try.func65 Try.ntmps65 Try.results65 rfl rfl ?_
 refine W_seq (W_region rfl ?_)
 refine stp (r_assign_slice rfl ?_)
 refine WL_nil ?_
 refine W_seq (W_region rfl ?_)
 refine stp (r_assign_slice rfl ?_)
 refine WL_nil ?_
 refine W_seq ?_
 refine W_seq (W_region rfl ?_)
 refine stp (r_move_int rfl ?_)
 refine stp (r_move_int rfl ?_)
 refine WL_nil ?_
 refine W_block ?_
 refine W_loop (fun m_ e_ w_ => ∃ (m : Nat) (ad3 : Option Addr) (n3 : Nat) (c3 : Nat), m_ = n - m ∧ Fr [(0, .pointer (some ⟨bd, 0, none⟩)), (1, .int .i64 seg), (2, .int .i64 a), (8, .slice none 0 0), (13, .int .i64 (n : Int)), (9, .slice ad3 n3 c3), (14, .int .i64 (m : Int))] e_ ∧ (m ≤ n) ∧ (w_.heap[bd]? = some (.cells #[.iface t_ u_, .int .i64 paid] 85 (0, 0))) ∧ (w_.ownsRow w.heap.size 55 1 (.slice ad3 n3 c3) m ((wordsS s seg a m).map (.int .u64))) ∧ Grow w w_) _ ⟨0, none, 0, 0, rfl, fr_of ⟨rfl, rfl, rfl, rfl, rfl, rfl, rfl, trivial⟩, by omega, hb, World.ownsRow_nil _ _ _ _, G⟩ ?_
 clear hb
 clear G
 rintro m_ e_ w1 ⟨m, ad3, n3, c3, rfl, ⟨e2, rfl⟩, hm, hb, own, G⟩
 refine W_seq (W_region rfl ?_)
 refine stp (r_lss rfl rfl ?_)
 refine WL_nil ?_
 refine W_seq ?_
 refine W_cond2 (b := (decide ((m : Int) < (n : Int)))) rfl (fun hlt => ?_) (fun hlt => ?_)
 ·-- true
  replace hlt := of_decide_eq_true hlt
  have hnum := H.num seg (a + (m : Int))
  refine W_skip ?_
  refine W_seq ?_
  refine W_block ?_
  refine W_seq (W_region rfl ?_)
  refine stp (r_move_int rfl ?_)
  refine stp (r_assign_int rfl ?_)
  refine WL_nil ?_
  refine W_seq (W_region rfl ?_)
  refine stp (r_move_ptr rfl ?_)
  refine stp (r_nilCheck rfl ?_)
  refine stp (r_fieldAddr rfl ?_)
  refine stp (r_load (v := .iface t_ u_) rfl hb rfl ?_)
  refine stp (r_move_int rfl ?_)
  refine stp (r_move_int rfl ?_)
  refine stp (r_move_int rfl ?_)
  refine stp (r_add rfl rfl ?_ ?_); constructor <;> omega
  refine stp (r_srcWord H G rfl rfl rfl ?_)
  intro w3 g4
  replace hb := g4.heap hb
  replace own := own_grow own g4
  replace G := G.tr g4
  clear g4
  refine stp (r_move (v := .tuple #[.int .u64 ((s.word seg (a + (m : Int))).1), .int .u16 ((s.word seg (a + (m : Int))).2)]) rfl ?_)
  refine stp (r_extract (v := .int .u64 ((s.word seg (a + (m : Int))).1)) rfl rfl ?_)
  refine stp (r_extract (v := .int .u16 ((s.word seg (a + (m : Int))).2)) rfl rfl ?_)
  refine stp (r_assign_int rfl ?_)
  refine stp (r_assign_int rfl ?_)
  refine WL_nil ?_
  refine W_region rfl ?_
  refine stp (r_move_slice rfl ?_)
  refine stp (r_move_int rfl ?_)
  refine stp (r_buildSlice (cs := #[.int .u64 ((s.word seg (a + (m : Int))).1)]) (el := 55) (fun w => by kernel_rfl) ?_)
  intro bs5 w6 hb7 hc8 g9
  have hge10 := Nat.le_trans G.size hb7
  replace hb := g9.heap hb
  replace own := own_grow own g9
  replace G := G.tr g9
  clear g9
  refine stp (r_append rfl rfl rfl rfl own (Row.of_block (n := 1) hc8 rfl rfl (by omega)) (fun q_ hq_ => by simp at hq_; subst hq_; rfl) (by simp only [maxLen]; omega) (by omega) G.size ?_)
  intro v11 w12 own6 gr6
  replace G := G.grown gr6 (own_ge own)
  replace hb := gr_heap gr6 hb (own_ne own hb (by decide))
  clear own gr6
  obtain ⟨ad4, n4, c4, rfl⟩ := own_slice own6
  refine stp (r_assign_slice rfl ?_)
  refine WL_nil ?_
  refine W_region rfl ?_
  refine stp (r_add rfl rfl ?_ ?_); constructor <;> omega
  refine stp (r_move_int rfl ?_)
  refine WL_nil ?_
  refine ⟨_, ?_, m + 1, ad4, n4, c4, rfl, fr_of ⟨rfl, rfl, rfl, rfl, rfl, rfl, congrArg (Value.int .i64) (by omega), trivial⟩, by omega, hb, (by rw [wordsS_succ, List.map_append]; exact own6), G⟩
  omega
 ·-- false
  replace hlt := of_decide_eq_false hlt
  have hm2 : m = n := by omega
  subst hm2
  refine W_exit ?_
  refine W_seq (W_region rfl ?_)
  refine stp (r_move_slice rfl ?_)
  refine stp (r_assign_slice rfl ?_)
  refine WL_nil ?_
  refine W_ret ?_
  refine ret1 (res_tmp (v := .slice ad3 n3 c3) rfl) ⟨own_hide_range own (wordsS_len _ _ _ _) (by omega), G⟩

set_option maxRecDepth 100000 in
theorem put8_calls (w : World) {x : Int} (h0 : 0 ≤ x) (h1 : x ≤ 18446744073709551615) : Calls Try.prog 93 #[.int .u64 x, .int .i64 8] w (Ret fun v w' => Row w' 1 v 8 ((byt8 x).map (.int .u8)) ∧ Grow w w') := by
 have G := Grow.rfl' w
 refine calls_ret Try.func93 Try.ntmps93 Try.results93 rfl rfl ?_
 refine W_seq (W_region rfl ?_)
 refine stp (r_assign_slice rfl ?_)
 refine WL_nil ?_
 refine W_seq (W_region rfl ?_)
 refine stp (r_move_int rfl ?_)
 refine WL_some (og rfl ?_)
 refine r_min rfl rfl rfl ?_
 rw [show (if (8 : Int) < 8 then 8 else 8) = (8 : Int) from rfl]
 refine WL_some (og rfl ?_)
 refine r_max rfl rfl rfl ?_
 rw [show (if (8 : Int) > 0 then 8 else 0) = (8 : Int) from rfl]
 refine stp (r_make (n := 8) (base := w.heap.size) rfl rfl (by first | omega | (simp only [maxLen]; omega)) (by first | omega | (simp only [maxLen]; omega)) G.size ?_)
 intro bm4 w1 hb2 own5 g3
 rw [show (madeCells (Value.cells (.int .u8 0 : Value)) (8 * 1)).toList = List.replicate 8 (.int .u8 0) from by rw [Nat.mul_one]; exact toList_madeCells_one _ _] at own5
 replace G := G.tr g3
 clear g3
 refine stp (r_assign_slice rfl ?_)
 refine WL_nil ?_
 refine W_seq ?_
 refine W_seq (W_region rfl ?_)
 refine stp (r_move_slice rfl ?_)
 refine stp (r_len rfl rfl rfl ?_)
 refine stp (r_move_int rfl ?_)
 refine WL_nil ?_
 refine W_block ?_
 obtain ⟨hge_, cur0, hc0_, hsz0, hcur0⟩ := own_made' own5
 clear own5
 refine W_loop (fun m_ e_ w_ => ∃ (k : Nat) (cur : Array Value), m_ = 8 - k ∧ Fr [(0, .int .u64 x), (4, .slice none 0 0), (5, .slice (some ⟨bm4, 0, none⟩) 8 8), (12, .int .i64 8), (13, .int .i64 (k : Int))] e_ ∧ (k ≤ 8) ∧ (cur.toList = putCells x k) ∧ (w_.heap[bm4]? = some (.cells cur 5 (0, 0))) ∧ Grow w w_) _ ⟨0, cur0, rfl, fr_of ⟨rfl, rfl, rfl, rfl, rfl, trivial⟩, by omega, hcur0, hc0_, G⟩ ?_
 clear G
 rintro m_ e_ w6 ⟨k, cur, rfl, ⟨e7, rfl⟩, hk, hcur, hc_, G⟩
 refine W_seq (W_region rfl ?_)
 refine stp (r_lss rfl rfl ?_)
 refine WL_nil ?_
 refine W_seq ?_
 refine W_cond2 (b := (decide ((k : Int) < 8))) rfl (fun hlt => ?_) (fun hlt => ?_)
 ·-- true
  replace hlt := of_decide_eq_true hlt
  have hszc : cur.size = 8 := by rw [← Array.length_toList, hcur]; exact putCells_len x k (by omega)
  refine W_skip ?_
  refine W_seq ?_
  refine W_block ?_
  refine W_seq (W_region rfl ?_)
  refine stp (r_move_int rfl ?_)
  refine stp (r_assign_int rfl ?_)
  refine WL_nil ?_
  refine W_region rfl ?_
  refine stp (r_move_slice rfl ?_)
  refine stp (r_move_int rfl ?_)
  refine stp (r_move_int rfl ?_)
  refine stp (r_move_int rfl ?_)
  refine stp (r_mul rfl rfl ?_ ?_); constructor <;> omega
  refine stp (r_shr rfl rfl ?_ ?_); omega
  refine WL_some (og rfl ?_)
  refine r_convw rfl ?_
  rw [put_byte x k h0 h1 (by omega)]
  refine WL_some (og rfl ?_)
  refine r_indexAddr rfl rfl (by omega) (by omega) ?_
  rw [show 0 + ((k : Int)).toNat * 1 = k from by omega]
  refine stn (r_store1 (v := .int .u8 (byt1 x k)) rfl rfl (by rfl) hc_ (Nat.ble_eq_true_of_le (by omega)) (by rfl) ?_)
  intro w8 hc9 u10
  replace G := G.upd u10 hge_
  clear u10 hc_
  refine WL_nil ?_
  refine W_region rfl ?_
  refine stp (r_add rfl rfl ?_ ?_); constructor <;> omega
  refine stp (r_move_int rfl ?_)
  refine WL_nil ?_
  refine ⟨_, ?_, k + 1, _, rfl, fr_of ⟨rfl, rfl, rfl, rfl, congrArg (Value.int .i64) (by omega), trivial⟩, by omega, (by simp only [hcur]; exact putCells_set x k (by omega)), hc9, G⟩
  omega
 ·-- false
  replace hlt := of_decide_eq_false hlt
  have hk8 : k = 8 := by omega
  subst hk8
  refine W_exit ?_
  refine W_seq (W_region rfl ?_)
  refine stp (r_move_slice rfl ?_)
  refine stp (r_assign_slice rfl ?_)
  refine WL_nil ?_
  refine W_ret ?_
  refine ret1 (res_tmp (v := .slice (some ⟨bm4, 0, none⟩) 8 8) rfl) ⟨Row.of_block (n := 8) hc_ (by rw [hcur]; exact putCells_all x) (by simp [byt8]) (by omega), G⟩

set_option maxRecDepth 100000 in
theorem dbytes_calls (w : World) {t_ : TypeId} {u_ : Value} {s : Src} (H : SrcOk Try.prog w (.iface t_ u_) s) {bd : Nat} {paid : Int} (hb : w.heap[bd]? = some (.cells #[.iface t_ u_, .int .i64 paid] 85 (0, 0))) (seg : Int) {a : Int} (a0 : 0 ≤ a) (a1 : a ≤ 140737488355328) {n : Nat} (hn : n ≤ 80000) : Calls Try.prog 66 #[.pointer (some ⟨bd, 0, none⟩), .int .i64 seg, .int .i64 a, .int .i64 (n : Int)] w (Ret fun v w' => Row (hide w.heap.size w') 1 v n ((bytesS s seg a n).map (.int .u8)) ∧ Grow w w') := by
 have G := Grow.rfl' w
 refine calls_ret Try.func66 Try.ntmps66 Try.results66 rfl rfl ?_
 refine W_seq (W_region rfl ?_)
 refine stp (r_assign_slice rfl ?_)
 refine WL_nil ?_
 refine W_seq (W_region rfl ?_)
 refine stp (r_assign_slice rfl ?_)
 refine WL_nil ?_
 refine W_seq ?_
 refine W_seq (W_region rfl ?_)
 refine stp (r_move_ptr rfl ?_)
 refine stp (r_move_int rfl ?_)
 refine stp (r_move_int rfl ?_)
 refine stp (r_move_int rfl ?_)
 refine stp (r_gives (v := .int .i64 (((n + 7) / 8 : Nat) : Int)) rfl (gives_eq (ceil_calls _ _ (by omega) (by omega)) (y := .int .i64 (((n + 7) / 8 : Nat) : Int)) (by congr 1 <;> omega)) ?_)
 intro w1 g2
 replace hb := g2.heap hb
 replace G := G.tr g2
 clear g2
 refine WL_some (og rfl ?_)
 refine r_call rfl (dwords_calls _ (H.grow G) hb seg a0 a1 (n := (n + 7) / 8) (by omega)) ?_
 rintro v_ w3 ⟨⟨ad5, c5, rfl, -, -, R5⟩, g_⟩
 have RW := R5.sees (Sees.seen _ _)
 clear R5
 replace hb := g_.heap hb
 replace G := G.tr g_
 clear g_
 have hB5 := G.size
 have G5 := Grow.rfl' w3
 have hB6 : w3.heap.size ≤ w3.heap.size := Nat.le_refl _
 refine stp (r_len rfl rfl rfl ?_)
 refine stp (r_move_int rfl ?_)
 refine WL_nil ?_
 refine W_block ?_
 refine W_loop (fun m_ e_ w_ => ∃ (m : Nat) (ad3 : Option Addr) (n3 : Nat) (c3 : Nat), m_ = (n + 7) / 8 - m ∧ Fr [(3, .int .i64 (n : Int)), (8, .slice none 0 0), (17, .slice ad5 ((n + 7) / 8) c5), (18, .int .i64 (((n + 7) / 8 : Nat) : Int)), (9, .slice ad3 n3 c3), (19, .int .i64 (m : Int))] e_ ∧ (m ≤ (n + 7) / 8) ∧ (w_.heap[bd]? = some (.cells #[.iface t_ u_, .int .i64 paid] 85 (0, 0))) ∧ (Grow w3 w_) ∧ (w_.ownsRow w3.heap.size 5 1 (.slice ad3 n3 c3) (8 * m) ((((wordsS s seg a ((n + 7) / 8)).take m).flatMap byt8).map (.int .u8))) ∧ Grow w w_) _ ⟨0, none, 0, 0, rfl, fr_of ⟨rfl, rfl, rfl, rfl, rfl, rfl, trivial⟩, by omega, hb, G5, World.ownsRow_nil _ _ _ _, G⟩ ?_
 clear hb G5
 clear G
 rintro m_ e_ w4 ⟨m, ad3, n3, c3, rfl, ⟨e5, rfl⟩, hm, hb, G5, own, G⟩
 refine W_seq (W_region rfl ?_)
 refine stp (r_lss rfl rfl ?_)
 refine WL_nil ?_
 refine W_seq ?_
 refine W_cond2 (b := (decide ((m : Int) < (((n + 7) / 8 : Nat) : Int)))) rfl (fun hlt => ?_) (fun hlt => ?_)
 ·-- true
  replace hlt := of_decide_eq_true hlt
  have hm5 : m < (n + 7) / 8 := by omega
  have hml : m < (wordsS s seg a ((n + 7) / 8)).length := by rw [wordsS_len]; exact hm5
  have hr := wordsS_u64 H seg a ((n + 7) / 8) _ (getD_mem hml)
  simp only [inR] at hr
  refine W_skip ?_
  refine W_seq ?_
  refine W_block ?_
  refine W_seq (W_region rfl ?_)
  refine stp (r_indexN (RW.grow G5) rfl rfl ?_ ?_); omega
  refine stp (r_loadR (v := .int .u64 ((wordsS s seg a ((n + 7) / 8)).getD m 0)) (m := 0) (RW.grow G5) rfl (map_get1 0 (by omega)) ?_)
  refine stp (r_assign_int rfl ?_)
  refine WL_nil ?_
  refine W_region rfl ?_
  refine stp (r_move_slice rfl ?_)
  refine stp (r_move_int rfl ?_)
  refine WL_some (og rfl ?_)
  refine r_call rfl (put8_calls _ hr.1 hr.2) ?_
  rintro v8 w6 ⟨R8, g_⟩
  replace hb := g_.heap hb
  replace G5 := G5.tr g_
  replace own := own_grow own g_
  replace G := G.tr g_
  clear g_
  refine stp (r_append rfl rfl rfl rfl own R8 (fun q_ hq_ => by obtain ⟨z_, -, rfl⟩ := List.mem_map.1 hq_; rfl) (by simp only [maxLen]; omega) (by omega) G5.size ?_)
  intro v7 w8 own6 gr6
  clear R8
  replace G := G.grown gr6 (fun k_ hk_ => Nat.le_trans hB5 (own_ge own k_ hk_))
  replace G5 := G5.grown gr6 (own_ge own)
  replace hb := gr_heap gr6 hb (own_ne own hb (by decide))
  clear own gr6
  obtain ⟨ad4, n4, c4, rfl⟩ := own_slice own6
  refine stp (r_assign_slice rfl ?_)
  refine WL_nil ?_
  refine W_region rfl ?_
  refine stp (r_add rfl rfl ?_ ?_); constructor <;> omega
  refine stp (r_move_int rfl ?_)
  refine WL_nil ?_
  refine ⟨_, ?_, m + 1, ad4, n4, c4, rfl, fr_of ⟨rfl, rfl, rfl, rfl, rfl, congrArg (Value.int .i64) (by omega), trivial⟩, by omega, hb, G5, (by rw [Nat.mul_succ, List.take_add_one, List.getElem?_eq_getElem hml, Option.toList_some, List.flatMap_append, List.map_append, List.flatMap_singleton]; rw [getD_at hml] at own6; exact own6), G⟩
  omega
 ·-- false
  replace hlt := of_decide_eq_false hlt
  have hm2 : m = (n + 7) / 8 := by omega
  rw [hm2, List.take_of_length_le (by rw [wordsS_len]; exact Nat.le_refl _)] at own
  have hfl := flat8_len (wordsS s seg a ((n + 7) / 8))
  rw [wordsS_len] at hfl
  have hR9 := (own_hide own (by omega)).sees (Sees.low hB5 _)
  obtain ⟨ad9, c9, hs9, hc9, hc92, R9⟩ := hR9
  simp only [Value.slice.injEq] at hs9
  obtain ⟨rfl, rfl, rfl⟩ := hs9
  refine W_exit ?_
  refine W_seq (W_region rfl ?_)
  refine stp (r_move_slice rfl ?_)
  refine stp (r_move_int rfl ?_)
  refine stp (r_sliceH rfl rfl (by omega) (by omega) ?_)
  refine stp (r_assign_slice rfl ?_)
  refine WL_nil ?_
  refine W_ret ?_
  have R10 := R9.sliceH (m := n) hc9 (by omega) (by decide)
  rw [← List.map_take, show n * 1 = n from Nat.mul_one n] at R10
  refine ret1 (res_tmp (v := .slice (if c3 = 0 then ad3 else ad3.map (·.add (0 * 1))) (((n : Int)).toNat) c3) rfl) ⟨⟨_, _, rfl, by omega, hc92, R10⟩, G⟩
end Go.Proofs.Ytfhfecepcnapfaa.K

namespace Go.Proofs.Ytfhfecepcnapfaa.K
open Go Go.RowKit Go.Proofs
attribute [local irreducible] Run1 OpG WL W AO Gives
set_option maxRecDepth 100000 in
theorem dnode_calls : ∀ (n_ : Nat) (w : World) {t_ : TypeId} {u_ : Value} {s : Src} {w0 : World} (H : SrcOk Try.prog w0 (.iface t_ u_) s) (g0 : Grow w0 w) {bd : Nat} (hbd : w0.heap.size ≤ bd) {paid : Int} (hb : w.heap[bd]? = some (.cells #[.iface t_ u_, .int .i64 paid] 85 (0, 0))) (hp0 : 0 ≤ paid) (hp1 : paid ≤ 8192) (seg : Int) {a : Int} (a0 : 0 ≤ a) (a1 : a ≤ 140737488455328) {d : Nat} (hd : d ≤ 32), d + 1 ≤ n_ → Calls Try.prog 39 #[.pointer (some ⟨bd, 0, none⟩), .int .i64 seg, .int .i64 a, .int .i64 (d : Int)] w (Ret fun v w' => ∃ cells, v = .tuple #[.agg cells.toArray, .int .u16 (nodeD s d seg a paid).2.2] ∧ NodeR (hide w.heap.size w') cells (nodeD s d seg a paid).2.1 ∧ w'.heap[bd]? = some (.cells #[.iface t_ u_, .int .i64 ((nodeD s d seg a paid).1)] 85 (0, 0)) ∧ Kp [bd] w w') := by
 intro n_
 induction n_ with
 | zero => intro w t_ u_ s w0 H g0 bd hbd paid hb hp0 hp1 seg a a0 a1 d hd hm_; exact absurd hm_ (by have := Nat.succ_pos d; omega)
 | succ n_ ih_ =>
 intro w t_ u_ s w0 H g0 bd hbd paid hb hp0 hp1 seg a a0 a1 d hd hm_
 have K := Kp.refl [bd] w
 have g0w := g0.size
 have hblt := lt_of_heap hb
 have hor := followS_range H seg a
 have hok := followS_kind s seg a
 obtain ⟨hw0, hw1⟩ := wordsO_range hor
 obtain ⟨rk, rs, ra, rd, rp, rz, rc⟩ := hor
 have hor := followS_range H seg a
 have hneq := nodeD_eq s d seg a paid
 refine calls_ret Try.func39 Try.ntmps39 Try.results39 rfl rfl ?_
 refine W_seq (W_region rfl ?_)
 refine stp (r_alloc ?_)
 intro b1 w2 hb3 hc4 g5
 refine stp (r_assign_int rfl ?_)
 refine WL_nil ?_
 refine W_seq (W_region rfl ?_)
 refine stp (r_move_ptr rfl ?_)
 refine stp (r_nilCheck rfl ?_)
 refine stp (r_fieldAddr rfl ?_)
 have hge6 := Nat.le_trans K.size hb3
 have ne7 := Nat.ne_of_lt (Nat.lt_of_lt_of_le (lt_of_heap hb) hb3)
 replace hb := g5.heap hb
 replace K := K.tr g5.kp
 replace g0 := g0.tr g5
 clear g5 hb3
 refine stp (r_load (v := .iface t_ u_) rfl hb rfl ?_)
 refine stp (r_move_int rfl ?_)
 refine stp (r_move_int rfl ?_)
 refine stp (r_gives (v := .tuple #[.agg #[.int .i64 ((followS s seg a).1.kind), .int .i64 ((followS s seg a).1.seg), .int .i64 ((followS s seg a).1.at_), .int .i64 ((followS s seg a).1.data), .int .i64 ((followS s seg a).1.ptrs), .int .i64 ((followS s seg a).1.size), .int .i64 ((followS s seg a).1.count)], .int .u16 ((followS s seg a).2)]) rfl (follow_calls _ (H.grow g0) seg a) ?_)
 intro w8 g9
 replace hb := g9.heap hb
 replace K := K.tr g9.kp
 replace g0 := g0.tr g9
 replace hc4 := g9.heap hc4
 clear g9
 refine stp (r_move (v := .tuple #[.agg #[.int .i64 ((followS s seg a).1.kind), .int .i64 ((followS s seg a).1.seg), .int .i64 ((followS s seg a).1.at_), .int .i64 ((followS s seg a).1.data), .int .i64 ((followS s seg a).1.ptrs), .int .i64 ((followS s seg a).1.size), .int .i64 ((followS s seg a).1.count)], .int .u16 ((followS s seg a).2)]) rfl ?_)
 refine stp (r_extract (v := .agg #[.int .i64 ((followS s seg a).1.kind), .int .i64 ((followS s seg a).1.seg), .int .i64 ((followS s seg a).1.at_), .int .i64 ((followS s seg a).1.data), .int .i64 ((followS s seg a).1.ptrs), .int .i64 ((followS s seg a).1.size), .int .i64 ((followS s seg a).1.count)]) rfl rfl ?_)
 refine stp (r_extract (v := .int .u16 ((followS s seg a).2)) rfl rfl ?_)
 refine stp (r_alloc ?_)
 intro b10 w11 hb12 hc13 g14
 refine stn (r_storeAll rfl rfl hc13 (by rfl) (by rfl) (by rfl) ?_)
 intro w15 hc16 u17
 have g18 := g14.upd u17 hb12
 have hge19 := Nat.le_trans K.size hb12
 have ne20 := Nat.ne_of_lt (Nat.lt_of_lt_of_le (lt_of_heap hb) hb12)
 have ne21 := Nat.ne_of_lt (Nat.lt_of_lt_of_le (lt_of_heap hc4) hb12)
 replace hb := g18.heap hb
 replace K := K.tr g18.kp
 replace g0 := g0.tr g18
 replace hc4 := g18.heap hc4
 clear u17 g14 hb12 hc13
 refine stp (r_assign_int rfl ?_)
 refine WL_nil ?_
 refine W_seq ?_
 refine W_seq (W_region rfl ?_)
 refine stp (r_move_int rfl ?_)
 refine stp (r_neq rfl rfl ?_)
 refine WL_nil ?_
 refine W_cond2 (b := (decide (((followS s seg a).2) ≠ 0))) rfl (fun h1 => ?_) (fun h1 => ?_)
 ·-- true
  replace h1 := of_decide_eq_true h1
  refine W_seq (W_region rfl ?_)
  refine stp (r_loadAll rfl hc4 (by rfl) ?_)
  refine stp (r_move_int rfl ?_)
  refine stn (r_storeAll rfl rfl hc4 (by rfl) (by rfl) (by rfl) ?_)
  intro w22 hc23 u24
  replace hb := u24.heap hb ne7
  replace K := (by first | exact K.upd_new u24 (by assumption) | exact K.tr (Kp.of_upd u24 (by simp)))
  replace g0 := (by first | exact Grow.upd g0 u24 (Nat.le_trans g0w (by assumption)) | exact g0.kp1 (Kp.of_upd u24 (by simp)) hbd)
  replace hc16 := u24.heap hc16 ne21.symm
  clear u24 hc4
  refine stp (r_assign_int rfl ?_)
  refine WL_nil ?_
  refine W_ret ?_
  have h9 : (nodeD s d seg a paid) = (paid, .nil, (followS s seg a).2) := by rw [hneq]; unfold nodeK; rw [if_pos h1]
  rw [h9]
  refine ret2 (res_all rfl hc23 (by rfl)) (res_tmp (v := .int .u16 ((followS s seg a).2)) rfl) ⟨[_, _, _, _, _], rfl, NodeR.zero _, hb, K⟩
 ·-- false
  replace h1 := of_decide_eq_false h1
  refine W_skip ?_
  refine W_seq ?_
  refine W_any 8 [[], [0], [1, 0], [2, 1, 0], [], [0], [1, 0], [6, 5, 4, 3, 2, 1, 0]] mixed (by kernel_rfl) (by kernel_rfl) (by kernel_rfl) ?_
  intro w25 g26
  replace hb := g26.heap hb
  replace K := K.tr g26.kp
  replace g0 := g0.tr g26
  replace hc4 := g26.heap hc4
  replace hc16 := g26.heap hc16
  clear g26
  apply AO_ex
  ·intro w_ g_; refine og rfl ?_; refine r_move_ptr rfl ?_; exact ⟨Grow.rfl' _, rfl⟩
  apply AO_ex
  ·intro w_ g_; refine og rfl ?_; refine r_nilCheck rfl ?_; exact ⟨Grow.rfl' _, rfl⟩
  apply AO_ex
  ·intro w_ g_; refine og rfl ?_; refine r_fieldAddr rfl ?_; exact ⟨Grow.rfl' _, rfl⟩
  apply AO_ex
  ·intro w_ g_; refine og rfl ?_; refine r_load (v := .int .i64 paid) rfl (g_.heap hb) rfl ?_; exact ⟨Grow.rfl' _, rfl⟩
  apply AO_ex
  ·intro w_ g_; refine og rfl ?_; refine r_loadAll rfl (g_.heap hc16) (by rfl) ?_; exact ⟨Grow.rfl' _, rfl⟩
  apply AO_ex
  ·intro w_ g_; refine og rfl ?_; exact r_gives (v := .int .i64 (wordsO (followS s seg a).1)) rfl (owords_calls _ (followS s seg a).1) (fun w2_ g2_ => ⟨g2_, rfl⟩)
  apply AO_ex
  ·intro w_ g_; refine og rfl ?_; refine r_add rfl rfl ?_ ?_; constructor <;> omega; exact ⟨Grow.rfl' _, rfl⟩
  apply AO_ex
  ·intro w_ g_; refine og rfl ?_; refine r_add rfl rfl ?_ ?_; constructor <;> omega; exact ⟨Grow.rfl' _, rfl⟩
  refine AO_nil ?_
  intro w27 g28
  replace hb := g28.heap hb
  replace K := K.tr g28.kp
  replace g0 := g0.tr g28
  replace hc4 := g28.heap hc4
  replace hc16 := g28.heap hc16
  clear g28
  refine stp (r_nilCheck rfl ?_)
  refine stp (r_fieldAddr rfl ?_)
  refine stn (r_store1 (v := .int .i64 (paid + (1 + (wordsO (followS s seg a).1)))) rfl rfl (by rfl) hb (by rfl) (by rfl) ?_)
  intro w29 hc30 u31
  replace K := (by first | exact K.upd_new u31 (by assumption) | exact K.tr (Kp.of_upd u31 (by simp)))
  replace g0 := (by first | exact Grow.upd g0 u31 (Nat.le_trans g0w (by assumption)) | exact g0.kp1 (Kp.of_upd u31 (by simp)) hbd)
  replace hc4 := u31.heap hc4 ne7.symm
  replace hc16 := u31.heap hc16 ne20.symm
  clear u31 hb
  refine WL_nil ?_
  refine W_seq ?_
  refine W_block ?_
  refine W_seq (W_region rfl ?_)
  refine stp (r_fieldAddr rfl ?_)
  refine stp (r_load (v := .int .i64 ((followS s seg a).1.kind)) rfl hc16 rfl ?_)
  refine stp (r_neq rfl rfl ?_)
  refine stp (r_move_bool rfl ?_)
  refine WL_some (og_if (s := .bool (decide (((followS s seg a).1.kind) ≠ 0))) (b := true) (v := .int .i64 (d : Int)) rfl (wgb_t _) (fun hc32 => ?_) ?_)
  ·
   have hc32_ := of_decide_eq_true hc32
   refine r_move_int rfl ?_
   exact ⟨rfl, rfl⟩
  refine WL_some (og_if (s := .bool (decide (((followS s seg a).1.kind) ≠ 0))) (b := true) (v := .bool (decide ((d : Int) = 0))) rfl (wgb_t _) (fun hc33 => ?_) ?_)
  ·
   have hc33_ := of_decide_eq_true hc33
   refine r_eql (gvt hc33) rfl ?_
   exact ⟨rfl, rfl⟩
  refine stp (r_and2 rfl rfl rfl ?_)
  refine stp (r_assign_bool rfl ?_)
  refine WL_nil ?_
  refine W_cond2 (b := ((decide (((followS s seg a).1.kind) ≠ 0)) && (decide ((d : Int) = 0)))) rfl (fun h2 => ?_) (fun h2 => ?_)
  ·-- true
   simp only [sb] at h2
   obtain ⟨h2a, h2b⟩ := h2
   have hd0 : (d == 0) = true := by rw [show d = 0 from by omega]; rfl
   refine W_seq (W_region rfl ?_)
   refine stp (r_loadAll rfl hc4 (by rfl) ?_)
   refine stn (r_storeAll rfl rfl hc4 (by rfl) (by rfl) (by rfl) ?_)
   intro w34 hc35 u36
   replace K := (by first | exact K.upd_new u36 (by assumption) | exact K.tr (Kp.of_upd u36 (by simp)))
   replace g0 := (by first | exact Grow.upd g0 u36 (Nat.le_trans g0w (by assumption)) | exact g0.kp1 (Kp.of_upd u36 (by simp)) hbd)
   replace hc16 := u36.heap hc16 ne21.symm
   replace hc30 := u36.heap hc30 ne7
   clear u36 hc4
   refine stp (r_assign_int rfl ?_)
   refine WL_nil ?_
   refine W_ret ?_
   have h9 : (nodeD s d seg a paid) = ((paid + (1 + wordsO (followS s seg a).1)), .nil, 21) := by rw [hneq]; unfold nodeK; rw [if_neg h1, if_pos ⟨h2a, hd0⟩]
   rw [h9]
   refine ret2 (res_all rfl hc35 (by rfl)) (res_tmp (v := .int .u16 21) rfl) ⟨[_, _, _, _, _], rfl, NodeR.zero _, hc30, K⟩
  ·-- false
   simp only [sb] at h2
   have h2n : ¬ ((followS s seg a).1.kind ≠ 0 ∧ (d == 0) = true) := fun h_ => absurd (eq_of_beq h_.2) (by omega)
   refine W_seq (W_region rfl ?_)
   refine stp (r_move_ptr rfl ?_)
   refine stp (r_nilCheck rfl ?_)
   refine stp (r_fieldAddr rfl ?_)
   refine stp (r_load (v := .int .i64 (paid + (1 + (wordsO (followS s seg a).1)))) rfl hc30 rfl ?_)
   refine stp (r_gtr rfl rfl ?_)
   refine stp (r_assign_bool rfl ?_)
   refine WL_nil ?_
   refine W_cond2 (b := (decide ((paid + (1 + (wordsO (followS s seg a).1))) > 8192))) rfl (fun h3 => ?_) (fun h3 => ?_)
   ·-- true
    replace h3 := of_decide_eq_true h3
    refine W_seq (W_region rfl ?_)
    refine stp (r_loadAll rfl hc4 (by rfl) ?_)
    refine stn (r_storeAll rfl rfl hc4 (by rfl) (by rfl) (by rfl) ?_)
    intro w37 hc38 u39
    replace K := (by first | exact K.upd_new u39 (by assumption) | exact K.tr (Kp.of_upd u39 (by simp)))
    replace g0 := (by first | exact Grow.upd g0 u39 (Nat.le_trans g0w (by assumption)) | exact g0.kp1 (Kp.of_upd u39 (by simp)) hbd)
    replace hc16 := u39.heap hc16 ne21.symm
    replace hc30 := u39.heap hc30 ne7
    clear u39 hc4
    refine stp (r_assign_int rfl ?_)
    refine WL_nil ?_
    refine W_ret ?_
    have h9 : (nodeD s d seg a paid) = ((paid + (1 + wordsO (followS s seg a).1)), .nil, 22) := by rw [hneq]; unfold nodeK; rw [if_neg h1, if_neg h2n, if_pos h3]
    rw [h9]
    refine ret2 (res_all rfl hc38 (by rfl)) (res_tmp (v := .int .u16 22) rfl) ⟨[_, _, _, _, _], rfl, NodeR.zero _, hc30, K⟩
   ·-- false
    replace h3 := of_decide_eq_false h3
    obtain ⟨s1, s2, s3, s4, s5, s6⟩ := ob_small hor hok (by omega)
    obtain ⟨B, hB⟩ : ∃ B, B = w29.heap.size := ⟨_, rfl⟩
    have hB8 : b1 < B := by rw [hB]; exact lt_of_heap hc4
    have hB10 : b10 < B := by rw [hB]; exact lt_of_heap hc16
    have hBd : bd < B := by rw [hB]; exact lt_of_heap hc30
    have hwB : w.heap.size ≤ B := by rw [hB]; exact K.size
    have hBw : B ≤ w29.heap.size := by rw [hB]; exact Nat.le_refl _
    clear hB
    refine W_skip ?_
    refine W_seq ?_
    have kb_hc16 : ∀ w_, Kp [b1] w29 w_ → w_.heap[b10]? = some (.cells #[.int .i64 ((followS s seg a).1.kind), .int .i64 ((followS s seg a).1.seg), .int .i64 ((followS s seg a).1.at_), .int .i64 ((followS s seg a).1.data), .int .i64 ((followS s seg a).1.ptrs), .int .i64 ((followS s seg a).1.size), .int .i64 ((followS s seg a).1.count)] 120 (0, 0)) := fun w_ k_ => k_.heap hc16 (fun hm_ => by simp only [List.mem_singleton] at hm_; first | exact ne21 hm_ | exact ne21 hm_.symm)
    have kb_hc30 : ∀ w_, Kp [b1] w29 w_ → w_.heap[bd]? = some (.cells #[.iface t_ u_, .int .i64 (paid + (1 + (wordsO (followS s seg a).1)))] 85 (0, 0)) := fun w_ k_ => k_.heap hc30 (fun hm_ => by simp only [List.mem_singleton] at hm_; omega)
    have kb_K : ∀ w_, Kp [b1] w29 w_ → Kp [bd] w w_ := fun w_ k_ => K.trans k_ (fun x_ hx_ => by simp only [List.mem_singleton] at hx_; subst hx_; exact .inr hge6)
    have kb_g0 : ∀ w_, Kp [b1] w29 w_ → Grow w0 w_ := fun w_ k_ => g0.trK k_ (fun x_ hx_ => by simp only [List.mem_singleton] at hx_; subst hx_; exact Nat.le_trans g0w hge6)
    have kb_hBw : ∀ w_, Kp [b1] w29 w_ → B ≤ w_.heap.size := fun w_ k_ => Nat.le_trans hBw k_.size
    refine W_anyM 6 [[], [0], [], [0], [3, 2], [4, 3, 0]] [5] [b1] (fun k_ w_ => match k_ with | 0 => w_.heap[b1]? = some (.cells #[.int .i64 0, .int .i64 0, .slice none 0 0, .slice none 0 0, .slice none 0 0] 37 (0, 0)) | _ => w_.heap[b1]? = some (.cells #[.int .i64 ((followS s seg a).1.kind), .int .i64 0, .slice none 0 0, .slice none 0 0, .slice none 0 0] 37 (0, 0))) mixed (by kernel_rfl) (by kernel_rfl) (by kernel_rfl) (by kernel_rfl) (fun k_ w_ w2_ g_ h_ => match k_, h_ with | 0, h_ => g_.heap h_ | n_ + 1, h_ => g_.heap h_) (fun w_ g_ => g_.heap hc4) ?_
    intro w40 g41
    replace kb_hc16 : ∀ w_, Kp [b1] w40 w_ → w_.heap[b10]? = some (.cells #[.int .i64 ((followS s seg a).1.kind), .int .i64 ((followS s seg a).1.seg), .int .i64 ((followS s seg a).1.at_), .int .i64 ((followS s seg a).1.data), .int .i64 ((followS s seg a).1.ptrs), .int .i64 ((followS s seg a).1.size), .int .i64 ((followS s seg a).1.count)] 120 (0, 0)) := fun w_ k_ => kb_hc16 w_ (g41.kp.tr k_)
    replace kb_hc30 : ∀ w_, Kp [b1] w40 w_ → w_.heap[bd]? = some (.cells #[.iface t_ u_, .int .i64 (paid + (1 + (wordsO (followS s seg a).1)))] 85 (0, 0)) := fun w_ k_ => kb_hc30 w_ (g41.kp.tr k_)
    replace kb_K : ∀ w_, Kp [b1] w40 w_ → Kp [bd] w w_ := fun w_ k_ => kb_K w_ (g41.kp.tr k_)
    replace kb_g0 : ∀ w_, Kp [b1] w40 w_ → Grow w0 w_ := fun w_ k_ => kb_g0 w_ (g41.kp.tr k_)
    replace kb_hBw : ∀ w_, Kp [b1] w40 w_ → B ≤ w_.heap.size := fun w_ k_ => kb_hBw w_ (g41.kp.tr k_)
    have k0_ : Kp [b1] w29 w40 := g41.kp
    apply AOM_ex (hm := by rfl)
    ·intro w_ g_; refine og rfl ?_; refine r_fieldAddr rfl ?_; exact ⟨Grow.rfl' _, rfl⟩
    apply AOM_ex (hm := by rfl)
    ·intro w_ g_; refine og rfl ?_; refine r_load (v := .int .i64 ((followS s seg a).1.kind)) rfl (kb_hc16 _ g_) rfl ?_; exact ⟨Grow.rfl' _, rfl⟩
    apply AOM_ex (hm := by rfl)
    ·intro w_ g_; refine og rfl ?_; refine r_fieldAddr rfl ?_; exact ⟨Grow.rfl' _, rfl⟩
    apply AOM_ex (hm := by rfl)
    ·intro w_ g_; refine og rfl ?_; refine r_load (v := .int .i64 ((followS s seg a).1.size)) rfl (kb_hc16 _ g_) rfl ?_; exact ⟨Grow.rfl' _, rfl⟩
    apply AOM_ex (hm := by rfl)
    ·intro w_ g_; refine og rfl ?_; refine r_fieldAddr rfl ?_; exact ⟨Grow.rfl' _, rfl⟩
    apply AOM_mut 0 (hm := by rfl)
    ·intro w_ g_ s_
     refine og rfl ?_
     refine r_store1 (v := .int .i64 ((followS s seg a).1.kind)) rfl rfl (by rfl) s_ (by rfl) (by rfl) ?_
     intro w2_ s2_ u_
     exact ⟨Kp.of_upd u_ (by simp), s2_, rfl⟩
    refine AOM_nil ?_
    intro w42 g43 S_
    replace k0_ := (k0_.tr g43)
    have hc8x := S_
    clear S_
    replace hc16 := kb_hc16 _ g43
    clear kb_hc16
    replace hc30 := kb_hc30 _ g43
    clear kb_hc30
    replace K := kb_K _ g43
    clear kb_K
    replace g0 := kb_g0 _ g43
    clear kb_g0
    replace hBw := kb_hBw _ g43
    clear kb_hBw
    refine stp (r_fieldAddr rfl ?_)
    refine stn (r_store1 (v := .int .i64 ((followS s seg a).1.size)) rfl rfl (by rfl) hc8x (by rfl) (by rfl) ?_)
    intro w44 hc45 u46
    replace K := (by first | exact K.upd_new u46 (by assumption) | exact K.tr (Kp.of_upd u46 (by simp)))
    replace g0 := (by first | exact Grow.upd g0 u46 (Nat.le_trans g0w (by assumption)) | exact g0.kp1 (Kp.of_upd u46 (by simp)) hbd)
    replace hc16 := u46.heap hc16 ne21.symm
    replace hc30 := u46.heap hc30 ne7
    replace hBw := Nat.le_trans hBw (Nat.le_of_eq u46.size.symm)
    clear u46 hc8x
    refine WL_nil ?_
    refine W_seq ?_
    refine W_any 8 [[], [0], [], [0], [], [0], [3, 2, 1, 0], [6, 5]] mixed (by kernel_rfl) (by kernel_rfl) (by kernel_rfl) ?_
    intro w47 g48
    replace K := K.tr g48.kp
    replace g0 := g0.tr g48
    replace hc16 := g48.heap hc16
    replace hc30 := g48.heap hc30
    replace hBw := Nat.le_trans hBw g48.size
    replace hc45 := g48.heap hc45
    clear g48
    apply AO_ex
    ·intro w_ g_; refine og rfl ?_; refine r_fieldAddr rfl ?_; exact ⟨Grow.rfl' _, rfl⟩
    apply AO_ex
    ·intro w_ g_; refine og rfl ?_; refine r_load (v := .int .i64 ((followS s seg a).1.ptrs)) rfl (g_.heap hc16) rfl ?_; exact ⟨Grow.rfl' _, rfl⟩
    apply AO_ex
    ·intro w_ g_; refine og rfl ?_; refine r_fieldAddr rfl ?_; exact ⟨Grow.rfl' _, rfl⟩
    apply AO_ex
    ·intro w_ g_; refine og rfl ?_; refine r_load (v := .int .i64 ((followS s seg a).1.at_)) rfl (g_.heap hc16) rfl ?_; exact ⟨Grow.rfl' _, rfl⟩
    apply AO_ex
    ·intro w_ g_; refine og rfl ?_; refine r_fieldAddr rfl ?_; exact ⟨Grow.rfl' _, rfl⟩
    apply AO_ex
    ·intro w_ g_; refine og rfl ?_; refine r_load (v := .int .i64 ((followS s seg a).1.data)) rfl (g_.heap hc16) rfl ?_; exact ⟨Grow.rfl' _, rfl⟩
    apply AO_ex
    ·intro w_ g_; refine og rfl ?_; refine r_add rfl rfl ?_ ?_; constructor <;> omega; exact ⟨Grow.rfl' _, rfl⟩
    apply AO_ex
    ·intro w_ g_; refine og rfl ?_; refine r_assign_int rfl ?_; exact ⟨Grow.rfl' _, rfl⟩
    refine AO_nil ?_
    intro w49 g50
    replace K := K.tr g50.kp
    replace g0 := g0.tr g50
    replace hc16 := g50.heap hc16
    replace hc30 := g50.heap hc30
    replace hBw := Nat.le_trans hBw g50.size
    replace hc45 := g50.heap hc45
    clear g50
    refine stp (r_assign_int rfl ?_)
    refine WL_nil ?_
    refine W_seq (W_region rfl ?_)
    refine stp (r_move_ptr rfl ?_)
    refine stp (r_fieldAddr rfl ?_)
    refine stp (r_load (v := .int .i64 ((followS s seg a).1.seg)) rfl hc16 rfl ?_)
    refine stp (r_fieldAddr rfl ?_)
    refine stp (r_load (v := .int .i64 ((followS s seg a).1.at_)) rfl hc16 rfl ?_)
    refine stp (r_fieldAddr rfl ?_)
    refine stp (r_load (v := .int .i64 ((followS s seg a).1.data)) rfl hc16 rfl ?_)
    refine WL_some (og rfl ?_)
    have hcal := dwords_calls _ (H.grow g0) hc30 (followS s seg a).1.seg ra.1 ra.2 (n := (followS s seg a).1.data.toNat) (by omega)
    rw [Int.toNat_of_nonneg (by omega)] at hcal
    refine r_call rfl hcal ?_
    rintro v_ w51 ⟨R_, g_⟩
    have hRw := R_.sees (Sees.low hBw _)
    clear R_
    replace K := K.tr g_.kp
    replace g0 := g0.tr g_
    replace hc16 := g_.heap hc16
    replace hc30 := g_.heap hc30
    replace hBw := Nat.le_trans hBw g_.size
    replace hc45 := g_.heap hc45
    clear g_
    obtain ⟨adhRw, cphRw, rfl, -⟩ := id hRw
    refine stp (r_fieldAddr rfl ?_)
    refine stn (r_store1 (v := .slice adhRw ((followS s seg a).1.data.toNat) cphRw) rfl rfl (by rfl) hc45 (by rfl) (by rfl) ?_)
    intro w52 hc53 u54
    replace K := (by first | exact K.upd_new u54 (by assumption) | exact K.tr (Kp.of_upd u54 (by simp)))
    replace g0 := (by first | exact Grow.upd g0 u54 (Nat.le_trans g0w (by assumption)) | exact g0.kp1 (Kp.of_upd u54 (by simp)) hbd)
    replace hc16 := u54.heap hc16 ne21.symm
    replace hc30 := u54.heap hc30 ne7
    replace hBw := Nat.le_trans hBw (Nat.le_of_eq u54.size.symm)
    replace hRw := hRw.sees (Sees.upd u54 (fun h_ => by omega))
    clear u54 hc45
    refine WL_nil ?_
    refine W_cut1 (fun e_ w_ => ∃ (aw : Option Addr) (nw : Nat) (cw : Nat) (ab : Option Addr) (nb : Nat) (cb : Nat), Fr [(0, .pointer (some ⟨bd, 0, none⟩)), (3, .int .i64 (d : Int)), (8, .pointer (some ⟨b1, 0, none⟩)), (9, .int .u16 ((followS s seg a).2)), (10, .pointer (some ⟨b10, 0, none⟩)), (11, .int .i64 (kidN (followS s seg a).1)), (12, .int .i64 (kidA (followS s seg a).1))] e_ ∧ (Kp [bd] w w_) ∧ (Grow w0 w_) ∧ (w_.heap[b10]? = some (.cells #[.int .i64 ((followS s seg a).1.kind), .int .i64 ((followS s seg a).1.seg), .int .i64 ((followS s seg a).1.at_), .int .i64 ((followS s seg a).1.data), .int .i64 ((followS s seg a).1.ptrs), .int .i64 ((followS s seg a).1.size), .int .i64 ((followS s seg a).1.count)] 120 (0, 0))) ∧ (w_.heap[bd]? = some (.cells #[.iface t_ u_, .int .i64 (paid + (1 + (wordsO (followS s seg a).1)))] 85 (0, 0))) ∧ (B ≤ w_.heap.size) ∧ (w_.heap[b1]? = some (.cells #[.int .i64 ((followS s seg a).1.kind), .int .i64 ((followS s seg a).1.size), .slice aw nw cw, .slice ab nb cb, .slice none 0 0] 37 (0, 0))) ∧ (Row (hide B w_) 1 (.slice aw nw cw) (nodL s (followS s seg a).1).length ((nodL s (followS s seg a).1).map (.int .u64))) ∧ (Row (hide B w_) 1 (.slice ab nb cb) (nodB s (followS s seg a).1).length ((nodB s (followS s seg a).1).map (.int .u8)))) ?_ ?_
    ·-- the parts
     refine W_seq (W_region rfl ?_)
     refine stp (r_fieldAddr rfl ?_)
     refine stp (r_load (v := .int .i64 ((followS s seg a).1.size)) rfl hc16 rfl ?_)
     refine WL_nil ?_
     refine W_block ?_
     refine W_seq (W_region rfl ?_)
     refine stp (r_eql rfl rfl ?_)
     refine stp (r_assign_bool rfl ?_)
     refine WL_nil ?_
     refine W_cond2 (b := (decide (((followS s seg a).1.size) = 2))) rfl (fun h4 => ?_) (fun h4 => ?_)
     ·-- true
      replace h4 := of_decide_eq_true h4
      refine W_region rfl ?_
      refine stp (r_move_ptr rfl ?_)
      refine stp (r_fieldAddr rfl ?_)
      refine stp (r_load (v := .int .i64 ((followS s seg a).1.seg)) rfl hc16 rfl ?_)
      refine stp (r_fieldAddr rfl ?_)
      refine stp (r_load (v := .int .i64 ((followS s seg a).1.at_)) rfl hc16 rfl ?_)
      refine stp (r_fieldAddr rfl ?_)
      refine stp (r_load (v := .int .i64 ((followS s seg a).1.count)) rfl hc16 rfl ?_)
      refine WL_some (og rfl ?_)
      have hcal := dbytes_calls _ (H.grow g0) hc30 (followS s seg a).1.seg ra.1 ra.2 (n := (followS s seg a).1.count.toNat) (by omega)
      rw [Int.toNat_of_nonneg (by omega)] at hcal
      refine r_call rfl hcal ?_
      rintro v_ w55 ⟨R_, g_⟩
      have hRb := R_.sees (Sees.low hBw _)
      clear R_
      replace K := K.tr g_.kp
      replace g0 := g0.tr g_
      replace hc16 := g_.heap hc16
      replace hc30 := g_.heap hc30
      replace hBw := Nat.le_trans hBw g_.size
      replace hRw := hRw.sees (Sees.grow g_)
      replace hc53 := g_.heap hc53
      clear g_
      obtain ⟨adhRb, cphRb, rfl, -⟩ := id hRb
      refine stp (r_fieldAddr rfl ?_)
      refine stn (r_store1 (v := .slice adhRb ((followS s seg a).1.count.toNat) cphRb) rfl rfl (by rfl) hc53 (by rfl) (by rfl) ?_)
      intro w56 hc57 u58
      replace K := (by first | exact K.upd_new u58 (by assumption) | exact K.tr (Kp.of_upd u58 (by simp)))
      replace g0 := (by first | exact Grow.upd g0 u58 (Nat.le_trans g0w (by assumption)) | exact g0.kp1 (Kp.of_upd u58 (by simp)) hbd)
      replace hc16 := u58.heap hc16 ne21.symm
      replace hc30 := u58.heap hc30 ne7
      replace hBw := Nat.le_trans hBw (Nat.le_of_eq u58.size.symm)
      replace hRw := hRw.sees (Sees.upd u58 (fun h_ => by omega))
      replace hRb := hRb.sees (Sees.upd u58 (fun h_ => by omega))
      clear u58 hc53
      refine WL_nil ?_
      have hk6 : (followS s seg a).1.size = 6 ∨ (followS s seg a).1.size ≠ 6 := by omega
      exact ⟨adhRw, ((followS s seg a).1.data).toNat, cphRw, adhRb, ((followS s seg a).1.count).toNat, cphRb, fr_of ⟨rfl, rfl, rfl, rfl, rfl, congrArg (Value.int .i64) (by unfold kidN; rw [if_neg (by omega)]), congrArg (Value.int .i64) (by unfold kidA; rw [if_neg (by omega)]), trivial⟩, K, g0, hc16, hc30, hBw, hc57, (by unfold nodL; rw [if_neg (by omega), wordsS_len]; exact hRw), (by unfold nodB; rw [if_pos h4, bytesS_len]; exact hRb)⟩
     ·-- false
      replace h4 := of_decide_eq_false h4
      refine W_seq (W_region rfl ?_)
      refine stp (r_eql rfl rfl ?_)
      refine stp (r_assign_bool rfl ?_)
      refine WL_nil ?_
      refine W_cond2 (b := (decide (((followS s seg a).1.size) = 5))) rfl (fun h5 => ?_) (fun h5 => ?_)
      ·-- true
       replace h5 := of_decide_eq_true h5
       refine W_region rfl ?_
       refine stp (r_move_ptr rfl ?_)
       refine stp (r_fieldAddr rfl ?_)
       refine stp (r_load (v := .int .i64 ((followS s seg a).1.seg)) rfl hc16 rfl ?_)
       refine stp (r_fieldAddr rfl ?_)
       refine stp (r_load (v := .int .i64 ((followS s seg a).1.at_)) rfl hc16 rfl ?_)
       refine stp (r_fieldAddr rfl ?_)
       refine stp (r_load (v := .int .i64 ((followS s seg a).1.count)) rfl hc16 rfl ?_)
       refine WL_some (og rfl ?_)
       have hcal := dwords_calls _ (H.grow g0) hc30 (followS s seg a).1.seg ra.1 ra.2 (n := (followS s seg a).1.count.toNat) (by omega)
       rw [Int.toNat_of_nonneg (by omega)] at hcal
       refine r_call rfl hcal ?_
       rintro v_ w59 ⟨R_, g_⟩
       have hRv := R_.sees (Sees.low hBw _)
       clear R_
       replace K := K.tr g_.kp
       replace g0 := g0.tr g_
       replace hc16 := g_.heap hc16
       replace hc30 := g_.heap hc30
       replace hBw := Nat.le_trans hBw g_.size
       replace hRw := hRw.sees (Sees.grow g_)
       replace hc53 := g_.heap hc53
       clear g_
       obtain ⟨adhRv, cphRv, rfl, -⟩ := id hRv
       refine stp (r_fieldAddr rfl ?_)
       refine stn (r_store1 (v := .slice adhRv ((followS s seg a).1.count.toNat) cphRv) rfl rfl (by rfl) hc53 (by rfl) (by rfl) ?_)
       intro w60 hc61 u62
       replace K := (by first | exact K.upd_new u62 (by assumption) | exact K.tr (Kp.of_upd u62 (by simp)))
       replace g0 := (by first | exact Grow.upd g0 u62 (Nat.le_trans g0w (by assumption)) | exact g0.kp1 (Kp.of_upd u62 (by simp)) hbd)
       replace hc16 := u62.heap hc16 ne21.symm
       replace hc30 := u62.heap hc30 ne7
       replace hBw := Nat.le_trans hBw (Nat.le_of_eq u62.size.symm)
       replace hRw := hRw.sees (Sees.upd u62 (fun h_ => by omega))
       replace hRv := hRv.sees (Sees.upd u62 (fun h_ => by omega))
       clear u62 hc53
       refine WL_nil ?_
       have hk6 : (followS s seg a).1.size = 6 ∨ (followS s seg a).1.size ≠ 6 := by omega
       exact ⟨adhRv, ((followS s seg a).1.count).toNat, cphRv, none, 0, 0, fr_of ⟨rfl, rfl, rfl, rfl, rfl, congrArg (Value.int .i64) (by unfold kidN; rw [if_neg (by omega)]), congrArg (Value.int .i64) (by unfold kidA; rw [if_neg (by omega)]), trivial⟩, K, g0, hc16, hc30, hBw, hc61, (by unfold nodL; rw [if_pos h5, wordsS_len]; exact hRv), (by unfold nodB; rw [if_neg (by omega)]; exact Row.nil _ _)⟩
      ·-- false
       replace h5 := of_decide_eq_false h5
       refine W_seq (W_region rfl ?_)
       refine stp (r_eql rfl rfl ?_)
       refine stp (r_assign_bool rfl ?_)
       refine WL_nil ?_
       refine W_cond2 (b := (decide (((followS s seg a).1.size) = 6))) rfl (fun h6 => ?_) (fun h6 => ?_)
       ·-- true
        replace h6 := of_decide_eq_true h6
        refine W_any 5 [[], [0], [], [0], [3, 2]] mixed (by kernel_rfl) (by kernel_rfl) (by kernel_rfl) ?_
        intro w63 g64
        replace K := K.tr g64.kp
        replace g0 := g0.tr g64
        replace hc16 := g64.heap hc16
        replace hc30 := g64.heap hc30
        replace hBw := Nat.le_trans hBw g64.size
        replace hRw := hRw.sees (Sees.grow g64)
        replace hc53 := g64.heap hc53
        clear g64
        apply AO_ex
        ·intro w_ g_; refine og rfl ?_; refine r_fieldAddr rfl ?_; exact ⟨Grow.rfl' _, rfl⟩
        apply AO_ex
        ·intro w_ g_; refine og rfl ?_; refine r_load (v := .int .i64 ((followS s seg a).1.count)) rfl (g_.heap hc16) rfl ?_; exact ⟨Grow.rfl' _, rfl⟩
        apply AO_ex
        ·intro w_ g_; refine og rfl ?_; refine r_fieldAddr rfl ?_; exact ⟨Grow.rfl' _, rfl⟩
        apply AO_ex
        ·intro w_ g_; refine og rfl ?_; refine r_load (v := .int .i64 ((followS s seg a).1.at_)) rfl (g_.heap hc16) rfl ?_; exact ⟨Grow.rfl' _, rfl⟩
        apply AO_ex
        ·intro w_ g_; refine og rfl ?_; refine r_assign_int rfl ?_; exact ⟨Grow.rfl' _, rfl⟩
        refine AO_nil ?_
        intro w65 g66
        replace K := K.tr g66.kp
        replace g0 := g0.tr g66
        replace hc16 := g66.heap hc16
        replace hc30 := g66.heap hc30
        replace hBw := Nat.le_trans hBw g66.size
        replace hRw := hRw.sees (Sees.grow g66)
        replace hc53 := g66.heap hc53
        clear g66
        refine stp (r_assign_int rfl ?_)
        refine WL_nil ?_
        have hk6 : (followS s seg a).1.size = 6 ∨ (followS s seg a).1.size ≠ 6 := by omega
        exact ⟨adhRw, ((followS s seg a).1.data).toNat, cphRw, none, 0, 0, fr_of ⟨rfl, rfl, rfl, rfl, rfl, congrArg (Value.int .i64) (by unfold kidN; rw [if_pos (by omega)]), congrArg (Value.int .i64) (by unfold kidA; rw [if_pos (by omega)]), trivial⟩, K, g0, hc16, hc30, hBw, hc53, (by unfold nodL; rw [if_neg (by omega), wordsS_len]; exact hRw), (by unfold nodB; rw [if_neg (by omega)]; exact Row.nil _ _)⟩
       ·-- false
        replace h6 := of_decide_eq_false h6
        refine W_skip ?_
        have hk6 : (followS s seg a).1.size = 6 ∨ (followS s seg a).1.size ≠ 6 := by omega
        exact ⟨adhRw, ((followS s seg a).1.data).toNat, cphRw, none, 0, 0, fr_of ⟨rfl, rfl, rfl, rfl, rfl, congrArg (Value.int .i64) (by unfold kidN; rw [if_neg (by omega)]), congrArg (Value.int .i64) (by unfold kidA; rw [if_neg (by omega)]), trivial⟩, K, g0, hc16, hc30, hBw, hc53, (by unfold nodL; rw [if_neg (by omega), wordsS_len]; exact hRw), (by unfold nodB; rw [if_neg (by omega)]; exact Row.nil _ _)⟩
    ·-- behind them
     clear K g0 hc16 hc30 hBw hRw hc53
     rintro e_ w67 ⟨aw, nw, cw, ab, nb, cb, ⟨e68, rfl⟩, K, g0, hc16, hc30, hBw, hc53, hRW, hRB⟩
     refine W_seq ?_
     refine W_seq (W_region rfl ?_)
     refine stp (r_move_int rfl ?_)
     refine stp (r_move_int rfl ?_)
     refine WL_nil ?_
     refine W_block ?_
     obtain ⟨B2, hB2⟩ : ∃ B, B = w67.heap.size := ⟨_, rfl⟩
     have hBB2 : B ≤ B2 := by rw [hB2]; exact hBw
     have hB2w : B2 ≤ w67.heap.size := by rw [hB2]; exact Nat.le_refl _
     have hSW := hRW.sees (Sees.more (V' := (fun x => B ≤ x ∧ x < B2)) w67 (fun x_ h1_ h2_ => ⟨h2_, by rw [hB2]; exact h1_⟩))
     have hSB := hRB.sees (Sees.more (V' := (fun x => B ≤ x ∧ x < B2)) w67 (fun x_ h1_ h2_ => ⟨h2_, by rw [hB2]; exact h1_⟩))
     clear hRW hRB hB2
     refine W_loop (fun m_ e_ w_ => ∃ (j : Nat) (pd : Int) (ks : List Nd) (ad6 : Option Addr) (n6 : Nat) (c6 : Nat) (kc : List Value) (V : Nat → Prop), m_ = (kidN (followS s seg a).1).toNat - j ∧ Fr [(0, .pointer (some ⟨bd, 0, none⟩)), (3, .int .i64 (d : Int)), (8, .pointer (some ⟨b1, 0, none⟩)), (10, .pointer (some ⟨b10, 0, none⟩)), (12, .int .i64 (kidA (followS s seg a).1)), (108, .int .i64 (kidN (followS s seg a).1)), (109, .int .i64 (j : Int))] e_ ∧ ((j : Int) ≤ kidN (followS s seg a).1) ∧ (kidsD (nodeF s d (followS s seg a).1.seg) (kidA (followS s seg a).1) (paid + (1 + wordsO (followS s seg a).1)) j = (pd, ks, 0)) ∧ (0 ≤ pd ∧ pd ≤ 8192) ∧ (∀ x, (Value.slice ad6 n6 c6).ownBlock = some x → ¬ V x) ∧ (Kp [bd] w w_) ∧ (Grow w0 w_) ∧ (w_.heap[b10]? = some (.cells #[.int .i64 ((followS s seg a).1.kind), .int .i64 ((followS s seg a).1.seg), .int .i64 ((followS s seg a).1.at_), .int .i64 ((followS s seg a).1.data), .int .i64 ((followS s seg a).1.ptrs), .int .i64 ((followS s seg a).1.size), .int .i64 ((followS s seg a).1.count)] 120 (0, 0))) ∧ (B ≤ w_.heap.size) ∧ (Row (see (fun x => B ≤ x ∧ x < B2) w_) 1 (.slice aw nw cw) (nodL s (followS s seg a).1).length ((nodL s (followS s seg a).1).map (.int .u64))) ∧ (Row (see (fun x => B ≤ x ∧ x < B2) w_) 1 (.slice ab nb cb) (nodB s (followS s seg a).1).length ((nodB s (followS s seg a).1).map (.int .u8))) ∧ (B2 ≤ w_.heap.size) ∧ (w_.heap[b1]? = some (.cells #[.int .i64 ((followS s seg a).1.kind), .int .i64 ((followS s seg a).1.size), .slice aw nw cw, .slice ab nb cb, .slice ad6 n6 c6] 37 (0, 0))) ∧ (w_.heap[bd]? = some (.cells #[.iface t_ u_, .int .i64 pd] 85 (0, 0))) ∧ (w_.ownsRow B2 37 5 (.slice ad6 n6 c6) j kc) ∧ (∀ x, V x → B2 ≤ x ∧ x < w_.heap.size) ∧ (KidsR (see V w_) kc ks)) _ ⟨0, (paid + (1 + wordsO (followS s seg a).1)), [], none, 0, 0, [], fun _ => False, rfl, fr_of ⟨rfl, rfl, rfl, rfl, rfl, rfl, rfl, trivial⟩, by omega, rfl, by omega, fun x _ h_ => h_, K, g0, hc16, hBw, hSW, hSB, hB2w, hc53, hc30, World.ownsRow_nil _ _ _ _, fun x h_ => h_.elim, .nil⟩ ?_
     clear K g0 hc16 hc30 hBw hc53 hSW hSB hB2w
     rintro m_ e_ w69 ⟨j, pd, ks, ad6, n6, c6, kc, V, rfl, ⟨e70, rfl⟩, hj, hkd, hpd, hVo, K, g0, hc16, hBw, hSW, hSB, hB2w, hc53, hc30, ownk, hV, hK⟩
     refine W_seq (W_region rfl ?_)
     refine stp (r_lss rfl rfl ?_)
     refine WL_nil ?_
     refine W_seq ?_
     refine W_cond2 (b := (decide ((j : Int) < (kidN (followS s seg a).1)))) rfl (fun hlt => ?_) (fun hlt => ?_)
     ·-- true
      replace hlt := of_decide_eq_true hlt
      obtain ⟨d1, hd1⟩ := kid_left hok h2n (j := j) (by omega)
      have hnf : nodeF s d = nodeD s d1 := by rw [hd1]; rfl
      have hka : 0 ≤ kidA (followS s seg a).1 ∧ kidA (followS s seg a).1 ≤ 140737488420864 := by unfold kidA; split <;> omega
      have hq := nodeD_paid H d1 (followS s seg a).1.seg (kidA (followS s seg a).1 + (j : Int)) pd hpd.1 hpd.2
      have hj1 : kidsD (nodeF s d (followS s seg a).1.seg) (kidA (followS s seg a).1) (paid + (1 + wordsO (followS s seg a).1)) (j + 1) = ((nodeD s d1 (followS s seg a).1.seg (kidA (followS s seg a).1 + (j : Int)) pd).1, ks ++ [(nodeD s d1 (followS s seg a).1.seg (kidA (followS s seg a).1 + (j : Int)) pd).2.1], (nodeD s d1 (followS s seg a).1.seg (kidA (followS s seg a).1 + (j : Int)) pd).2.2) := by rw [kidsD, hkd, if_neg (by simp), hnf]
      refine W_skip ?_
      refine W_seq ?_
      refine W_block ?_
      refine W_seq (W_region rfl ?_)
      refine stp (r_move_int rfl ?_)
      refine stp (r_assign_int rfl ?_)
      refine WL_nil ?_
      refine W_seq (W_region rfl ?_)
      refine stp (r_move_ptr rfl ?_)
      refine stp (r_fieldAddr rfl ?_)
      refine stp (r_load (v := .int .i64 ((followS s seg a).1.seg)) rfl hc16 rfl ?_)
      refine stp (r_move_int rfl ?_)
      refine stp (r_move_int rfl ?_)
      refine stp (r_add rfl rfl ?_ ?_); constructor <;> omega
      refine stp (r_move_int rfl ?_)
      refine stp (r_sub rfl rfl ?_ ?_); constructor <;> omega
      refine WL_some (og rfl ?_)
      have hcal := ih_ _ H g0 hbd hc30 hpd.1 hpd.2 (followS s seg a).1.seg (a := kidA (followS s seg a).1 + (j : Int)) (by omega) (by omega) (d := d1) (by omega) (by omega)
      rw [show ((d1 : Nat) : Int) = (d : Int) - 1 from by omega] at hcal
      refine r_call rfl hcal ?_
      rintro v_ w71 ⟨cells, rfl, hT9, hb9, K_⟩
      clear hcal
      have hB2w0 := hB2w
      have hol := fun x hx_ => (ownk.lt x hx_).2
      replace K := K.tr K_
      replace g0 := g0.kp1 K_ hbd
      replace hc16 := K_.heap hc16 (fun hm_ => by simp only [List.mem_singleton] at hm_; first | exact ne20 hm_ | exact ne20 hm_.symm)
      replace hBw := Nat.le_trans hBw K_.size
      replace hSW := hSW.sees (Sees.kp K_ (fun x_ hx_ hv_ => by simp only [List.mem_singleton] at hx_; subst hx_; exact absurd hv_.1 (by omega)))
      replace hSB := hSB.sees (Sees.kp K_ (fun x_ hx_ hv_ => by simp only [List.mem_singleton] at hx_; subst hx_; exact absurd hv_.1 (by omega)))
      replace hB2w := Nat.le_trans hB2w K_.size
      replace hc53 := K_.heap hc53 (fun hm_ => by simp only [List.mem_singleton] at hm_; first | exact ne7 hm_ | exact ne7 hm_.symm)
      replace ownk := own_kp ownk K_ (fun x_ hx_ => by simp only [List.mem_singleton] at hx_; subst hx_; omega)
      replace hV := vlt hV K_.size
      replace hK := hK.sees (Sees.kp K_ (fun x_ hx_ hv_ => by simp only [List.mem_singleton] at hx_; subst hx_; exact absurd (hV _ hv_).1 (by omega)))
      have hszK := K_.size
      clear K_ hc30
      obtain ⟨y0, y1, ya, yn, yc, za, zn, zc, ua, un, uc, rfl⟩ := hT9.cells
      have hT8 := hT9.sees (Sees.more (V' := fun x => V x ∨ (w69.heap.size ≤ x ∧ x < w71.heap.size)) w71 (fun x h1_ h2_ => .inr ⟨h2_, h1_⟩))
      clear hT9
      replace hK := hK.sees (Sees.more (V' := fun x => V x ∨ (w69.heap.size ≤ x ∧ x < w71.heap.size)) w71 (fun x _ h2_ => .inl h2_))
      have hV9 : ∀ x, (V x ∨ (w69.heap.size ≤ x ∧ x < w71.heap.size)) → B2 ≤ x ∧ x < w71.heap.size := fun x hx_ => hx_.elim (fun h_ => hV x h_) (fun h_ => ⟨Nat.le_trans hB2w0 h_.1, h_.2⟩)
      have hVo9 : ∀ x, (Value.slice ad6 n6 c6).ownBlock = some x → ¬ (V x ∨ (w69.heap.size ≤ x ∧ x < w71.heap.size)) := fun x hx_ hv_ => hv_.elim (fun h_ => hVo x hx_ h_) (fun h_ => by have := hol x hx_; omega)
      clear hV hVo
      obtain ⟨V9, hV9e⟩ : ∃ V9 : Nat → Prop, V9 = fun x => V x ∨ (w69.heap.size ≤ x ∧ x < w71.heap.size) := ⟨_, rfl⟩
      rw [← hV9e] at hT8 hK
      have hV : ∀ x, V9 x → B2 ≤ x ∧ x < w71.heap.size := by rw [hV9e]; exact hV9
      have hVo : ∀ x, (Value.slice ad6 n6 c6).ownBlock = some x → ¬ V9 x := by rw [hV9e]; exact hVo9
      clear hV9 hVo9 hV9e hB2w0 hol hszK
      refine stp (r_move (v := .tuple #[.agg #[.int .i64 y0, .int .i64 y1, .slice ya yn yc, .slice za zn zc, .slice ua un uc], .int .u16 ((nodeD s d1 (followS s seg a).1.seg (kidA (followS s seg a).1 + (j : Int)) pd).2.2)]) rfl ?_)
      refine stp (r_extract (v := .agg #[.int .i64 y0, .int .i64 y1, .slice ya yn yc, .slice za zn zc, .slice ua un uc]) rfl rfl ?_)
      refine stp (r_extract (v := .int .u16 ((nodeD s d1 (followS s seg a).1.seg (kidA (followS s seg a).1 + (j : Int)) pd).2.2)) rfl rfl ?_)
      refine stp (r_alloc ?_)
      intro b72 w73 hb74 hc75 g76
      refine stn (r_storeAll rfl rfl hc75 (by rfl) (by rfl) (by rfl) ?_)
      intro w77 hc78 u79
      have g80 := g76.upd u79 hb74
      have hge81 := Nat.le_trans K.size hb74
      have ne82 := Nat.ne_of_lt (Nat.lt_of_lt_of_le (lt_of_heap hc16) hb74)
      have ne83 := Nat.ne_of_lt (Nat.lt_of_lt_of_le (lt_of_heap hc53) hb74)
      have ne84 := Nat.ne_of_lt (Nat.lt_of_lt_of_le (lt_of_heap hb9) hb74)
      replace K := K.tr g80.kp
      replace g0 := g0.tr g80
      replace hc16 := g80.heap hc16
      replace hBw := Nat.le_trans hBw g80.size
      replace hSW := hSW.sees (Sees.grow g80)
      replace hSB := hSB.sees (Sees.grow g80)
      replace hB2w := Nat.le_trans hB2w g80.size
      replace hc53 := g80.heap hc53
      replace ownk := own_grow ownk g80
      replace hK := hK.sees (Sees.grow g80)
      replace hb9 := g80.heap hb9
      replace hT8 := hT8.sees (Sees.grow g80)
      replace hV := vlt hV g80.size
      clear u79 g76 hb74 hc75
      refine stp (r_assign_int rfl ?_)
      refine WL_nil ?_
      refine W_seq ?_
      refine W_seq (W_region rfl ?_)
      refine stp (r_move_int rfl ?_)
      refine stp (r_neq rfl rfl ?_)
      refine WL_nil ?_
      refine W_cond2 (b := (decide (((nodeD s d1 (followS s seg a).1.seg (kidA (followS s seg a).1 + (j : Int)) pd).2.2) ≠ 0))) rfl (fun h7 => ?_) (fun h7 => ?_)
      ·-- true
       replace h7 := of_decide_eq_true h7
       refine W_seq (W_region rfl ?_)
       refine stp (r_build (v := .agg #[.int .i64 0, .int .i64 0, .slice none 0 0, .slice none 0 0, .slice none 0 0]) (fun w => by kernel_rfl) ?_)
       refine stp (r_move_int rfl ?_)
       refine stn (r_storeAll rfl rfl hc53 (by rfl) (by rfl) (by rfl) ?_)
       intro w85 hc86 u87
       replace K := (by first | exact K.upd_new u87 (by assumption) | exact K.tr (Kp.of_upd u87 (by simp)))
       replace g0 := (by first | exact Grow.upd g0 u87 (Nat.le_trans g0w (by assumption)) | exact g0.kp1 (Kp.of_upd u87 (by simp)) hbd)
       replace hc16 := u87.heap hc16 ne21.symm
       replace hBw := Nat.le_trans hBw (Nat.le_of_eq u87.size.symm)
       replace hSW := hSW.sees (Sees.upd u87 (fun h_ => by have := h_.1; omega))
       replace hSB := hSB.sees (Sees.upd u87 (fun h_ => by have := h_.1; omega))
       replace hB2w := Nat.le_trans hB2w (Nat.le_of_eq u87.size.symm)
       replace ownk := own_upd ownk u87 (fun he_ => by have := own_ge ownk _ he_; omega)
       replace hb9 := u87.heap hb9 ne7
       replace hc78 := u87.heap hc78 ne83.symm
       clear u87 hc53
       refine stp (r_assign_int rfl ?_)
       refine WL_nil ?_
       refine W_ret ?_
       have h9 : (nodeD s d seg a paid) = ((nodeD s d1 (followS s seg a).1.seg (kidA (followS s seg a).1 + (j : Int)) pd).1, .nil, (nodeD s d1 (followS s seg a).1.seg (kidA (followS s seg a).1 + (j : Int)) pd).2.2) := by rw [hneq]; unfold nodeK; rw [if_neg h1, if_neg h2n, if_neg h3, kidsD_stop' (k := j + 1) (by rw [hj1]; exact h7) (by omega), hj1, if_pos h7]
       rw [h9]
       refine ret2 (res_all rfl hc86 (by rfl)) (res_tmp (v := .int .u16 ((nodeD s d1 (followS s seg a).1.seg (kidA (followS s seg a).1 + (j : Int)) pd).2.2)) rfl) ⟨[_, _, _, _, _], rfl, NodeR.zero _, hb9, K⟩
      ·-- false
       replace h7 := of_decide_eq_false h7
       have h70 : (nodeD s d1 (followS s seg a).1.seg (kidA (followS s seg a).1 + (j : Int)) pd).2.2 = 0 := by omega
       refine W_skip ?_
       refine W_region rfl ?_
       refine stp (r_fieldAddr rfl ?_)
       refine stp (r_load (v := .slice ad6 n6 c6) rfl hc53 rfl ?_)
       refine stp (r_loadAll rfl hc78 (by rfl) ?_)
       refine stp (r_buildSlice (cs := #[.int .i64 y0, .int .i64 y1, .slice ya yn yc, .slice za zn zc, .slice ua un uc]) (el := 37) (fun w => by kernel_rfl) ?_)
       intro bs88 w89 hb90 hc91 g92
       have hge93 := Nat.le_trans K.size hb90
       have ne94 := Nat.ne_of_lt (Nat.lt_of_lt_of_le (lt_of_heap hc16) hb90)
       have ne95 := Nat.ne_of_lt (Nat.lt_of_lt_of_le (lt_of_heap hc53) hb90)
       have ne96 := Nat.ne_of_lt (Nat.lt_of_lt_of_le (lt_of_heap hc78) hb90)
       replace K := K.tr g92.kp
       replace g0 := g0.tr g92
       replace hc16 := g92.heap hc16
       replace hBw := Nat.le_trans hBw g92.size
       replace hSW := hSW.sees (Sees.grow g92)
       replace hSB := hSB.sees (Sees.grow g92)
       replace hB2w := Nat.le_trans hB2w g92.size
       replace hc53 := g92.heap hc53
       replace ownk := own_grow ownk g92
       replace hK := hK.sees (Sees.grow g92)
       replace hb9 := g92.heap hb9
       replace hT8 := hT8.sees (Sees.grow g92)
       replace hV := vlt hV g92.size
       replace hc78 := g92.heap hc78
       clear g92
       refine stp (r_appendB rfl rfl rfl rfl ownk (Row.of_block (n := 1) hc91 rfl rfl (by omega)) (fun q_ hq_ => by simp at hq_; rcases hq_ with rfl | rfl | rfl | rfl | rfl <;> rfl) (by simp only [maxLen]; omega) (by omega) hB2w ?_)
       intro v97 w98 own6 gr6 hbk6
       have k6_ : Kp (Value.slice ad6 n6 c6).ownBlock.toList w89 w98 := Kp.of_grownBy gr6 (fun k_ hk_ => by rw [Option.mem_toList]; exact hk_)
       have hF6 : ∀ x ∈ (Value.slice ad6 n6 c6).ownBlock.toList, B2 ≤ x := fun x hx_ => own_ge ownk x (Option.mem_toList.1 hx_)
       have hF7 : ∀ x ∈ (Value.slice ad6 n6 c6).ownBlock.toList, ¬ V9 x := fun x hx_ => hVo x (Option.mem_toList.1 hx_)
       have hVo6 : ∀ x, v97.ownBlock = some x → ¬ V9 x := fun x hx_ hv_ => hbk6.elim (fun h_ => hVo x (h_ ▸ hx_) hv_) (fun h_ => by rw [h_] at hx_; simp only [Option.some.injEq] at hx_; have := (hV x hv_).2; omega)
       replace K := K.trans k6_ (fun x_ hx_ => .inr (Nat.le_trans hwB (Nat.le_trans hBB2 (hF6 x_ hx_))))
       replace g0 := g0.trK k6_ (fun x_ hx_ => Nat.le_trans g0w (Nat.le_trans hwB (Nat.le_trans hBB2 (hF6 x_ hx_))))
       replace hc16 := k6_.heap hc16 (fun hm_ => by have h1_ := hF6 _ hm_; omega)
       replace hBw := Nat.le_trans hBw k6_.size
       replace hSW := hSW.sees (Sees.kp k6_ (fun x_ hx_ hv_ => by have := hF6 x_ hx_; have := hv_.2; omega))
       replace hSB := hSB.sees (Sees.kp k6_ (fun x_ hx_ hv_ => by have := hF6 x_ hx_; have := hv_.2; omega))
       replace hB2w := Nat.le_trans hB2w k6_.size
       replace hc53 := k6_.heap hc53 (fun hm_ => by have h1_ := hF6 _ hm_; omega)
       replace hK := hK.sees (Sees.kp k6_ hF7)
       replace hb9 := k6_.heap hb9 (fun hm_ => by have h1_ := hF6 _ hm_; omega)
       replace hT8 := hT8.sees (Sees.kp k6_ hF7)
       replace hV := fun x hx_ => (⟨(hV x hx_).1, Nat.lt_of_lt_of_le (hV x hx_).2 k6_.size⟩ : B2 ≤ x ∧ x < w98.heap.size)
       clear hc78
       clear hc91
       clear ownk gr6 hVo k6_ hF6 hF7 hbk6
       obtain ⟨ad7, n7, c7, rfl⟩ := own_slice own6
       refine stp (r_fieldAddr rfl ?_)
       refine stn (r_store1 (v := .slice ad7 n7 c7) rfl rfl (by rfl) hc53 (by rfl) (by rfl) ?_)
       intro w99 hc100 u101
       replace K := (by first | exact K.upd_new u101 (by assumption) | exact K.tr (Kp.of_upd u101 (by simp)))
       replace g0 := (by first | exact Grow.upd g0 u101 (Nat.le_trans g0w (by assumption)) | exact g0.kp1 (Kp.of_upd u101 (by simp)) hbd)
       replace hc16 := u101.heap hc16 (fun hm_ => by first | exact ne21 hm_ | exact ne21 hm_.symm)
       replace hBw := Nat.le_trans hBw (Nat.le_of_eq u101.size.symm)
       replace hSW := hSW.sees (Sees.upd u101 (fun h_ => by have := h_.1; omega))
       replace hSB := hSB.sees (Sees.upd u101 (fun h_ => by have := h_.1; omega))
       replace hB2w := Nat.le_trans hB2w (Nat.le_of_eq u101.size.symm)
       replace hK := hK.sees (Sees.upd u101 (fun h_ => by have := (hV _ h_).1; omega))
       replace hb9 := u101.heap hb9 (fun hm_ => by first | exact ne7 hm_ | exact ne7 hm_.symm)
       replace hT8 := hT8.sees (Sees.upd u101 (fun h_ => by have := (hV _ h_).1; omega))
       replace hV := fun x hx_ => (⟨(hV x hx_).1, Nat.lt_of_lt_of_le (hV x hx_).2 (Nat.le_of_eq u101.size.symm)⟩ : B2 ≤ x ∧ x < w99.heap.size)
       replace own6 := own_upd own6 u101 (fun he_ => by have := own_ge own6 _ he_; omega)
       clear hc53 u101
       refine WL_nil ?_
       refine W_region rfl ?_
       refine stp (r_add rfl rfl ?_ ?_); constructor <;> omega
       refine stp (r_move_int rfl ?_)
       refine WL_nil ?_
       refine ⟨_, ?_, j + 1, (nodeD s d1 (followS s seg a).1.seg (kidA (followS s seg a).1 + (j : Int)) pd).1, ks ++ [(nodeD s d1 (followS s seg a).1.seg (kidA (followS s seg a).1 + (j : Int)) pd).2.1], ad7, n7, c7, _, V9, rfl, fr_of ⟨rfl, rfl, rfl, rfl, rfl, rfl, congrArg (Value.int .i64) (by omega), trivial⟩, by omega, (by rw [hj1, h70]), ⟨hq.1, hq.2.2 h70⟩, hVo6, K, g0, hc16, hBw, hSW, hSB, hB2w, hc100, hb9, own6, hV, (KidsR.append hK (by have := KidsR.cons hT8 .nil; simpa using this))⟩
       omega
     ·-- false
      replace hlt := of_decide_eq_false hlt
      have hjn : (kidN (followS s seg a).1).toNat = j := by omega
      have hlk : ks.length = j := by have := kidsD_count (f := nodeF s d (followS s seg a).1.seg) (a := kidA (followS s seg a).1) (p := (paid + (1 + wordsO (followS s seg a).1))) j (by rw [hkd]); rw [hkd] at this; exact this
      have hrk : Row (hide B2 w69) 5 (.slice ad6 n6 c6) ks.length kc := by rw [hlk]; exact own_hide ownk (by omega)
      have hK9 := hK.sees (Sees.more (V' := fun x => B2 ≤ x) _ (fun x _ hx_ => (hV x hx_).1))
      clear hK hV ownk
      refine W_exit ?_
      refine W_seq (W_region rfl ?_)
      refine stp (r_loadAll rfl hc53 (by rfl) ?_)
      refine stn (r_storeAll rfl rfl hc53 (by rfl) (by rfl) (by rfl) ?_)
      intro w102 hc103 u104
      replace K := (by first | exact K.upd_new u104 (by assumption) | exact K.tr (Kp.of_upd u104 (by simp)))
      replace g0 := (by first | exact Grow.upd g0 u104 (Nat.le_trans g0w (by assumption)) | exact g0.kp1 (Kp.of_upd u104 (by simp)) hbd)
      replace hc16 := u104.heap hc16 ne21.symm
      replace hBw := Nat.le_trans hBw (Nat.le_of_eq u104.size.symm)
      replace hSW := hSW.sees (Sees.upd u104 (fun h_ => by have := h_.1; omega))
      replace hSB := hSB.sees (Sees.upd u104 (fun h_ => by have := h_.1; omega))
      replace hB2w := Nat.le_trans hB2w (Nat.le_of_eq u104.size.symm)
      replace hc30 := u104.heap hc30 ne7
      replace hrk := hrk.sees (Sees.upd u104 (fun h_ => absurd h_ (by omega)))
      replace hK9 := hK9.sees (Sees.upd u104 (fun h_ => absurd h_ (by omega)))
      clear u104 hc53
      refine stp (r_assign_int rfl ?_)
      refine WL_nil ?_
      refine W_ret ?_
      have h9 : (nodeD s d seg a paid) = (pd, .mk (followS s seg a).1.kind (followS s seg a).1.size (nodL s (followS s seg a).1) (nodB s (followS s seg a).1) ks, 0) := by rw [hneq]; unfold nodeK; rw [if_neg h1, if_neg h2n, if_neg h3, hjn, hkd, if_neg (by simp)]
      rw [h9]
      refine ret2 (res_all rfl hc103 (by rfl)) (res_tmp (v := .int .u16 0) rfl) ⟨[_, _, _, _, _], rfl, (.mk (by simp only [inR]; omega) (by simp only [inR]; omega) (hSW.sees (Sees.more _ (fun x _ hx_ => Nat.le_trans hwB hx_.1))) (nodL_u64 H _) (hSB.sees (Sees.more _ (fun x _ hx_ => Nat.le_trans hwB hx_.1))) (nodB_u8 s _) (hrk.sees (Sees.low (Nat.le_trans hwB hBB2) _)) (hK9.sees (Sees.low (Nat.le_trans hwB hBB2) _))), hc30, K⟩

set_option maxRecDepth 100000 in
theorem Decode_calls (w : World) {u : Value} {A : List (List Int)} (hA : ArenaR w u A) (hr : OkA A) : Calls Try.prog 22 #[u] w (Ret fun v w' => ∃ cells, v = .tuple #[.agg cells.toArray, .int .u16 (nodeD (wholeS A) 32 0 0 0).2.2] ∧ NodeR (hide w.heap.size w') cells (nodeD (wholeS A) 32 0 0 0).2.1 ∧ Grow w w') := by
 have hA0 := hA
 obtain ⟨segs_, ⟨ada, ca, rfl, hc1_, hc2_, RA⟩, hrows⟩ := hA
 have G := Grow.rfl' w
 refine calls_ret Try.func22 Try.ntmps22 Try.results22 rfl rfl ?_
 refine W_seq (W_region rfl ?_)
 refine stp (r_alloc ?_)
 intro b1 w2 hb3 hc4 g5
 refine stp (r_assign_int rfl ?_)
 refine WL_nil ?_
 refine W_seq ?_
 refine W_seq (W_region rfl ?_)
 refine stp (r_move_slice rfl ?_)
 have hge6 := Nat.le_trans G.size hb3
 replace G := G.tr g5
 clear g5 hb3
 refine stp (r_gives (v := .bool true) rfl (aright_calls _ (RA.grow G) rfl (fun i q hq => by obtain ⟨v, h1, h2⟩ := hrows i q hq; exact ⟨v, h1, h2.grow G⟩) hr.one hr.most hr.first hr.all) ?_)
 intro w7 g8
 replace hc4 := g8.heap hc4
 replace G := G.tr g8
 clear g8
 refine stp (r_not_f rfl rfl ?_)
 refine WL_nil ?_
 refine W_false rfl ?_
 refine W_skip ?_
 refine W_seq (W_region rfl ?_)
 refine stp (r_move_slice rfl ?_)
 refine stp (r_gives (v := .iface 118 (.agg #[.slice ada A.length ca])) rfl (whole_calls _) ?_)
 intro w9 g10
 replace hc4 := g10.heap hc4
 replace G := G.tr g10
 clear g10
 refine stp (r_build (v := .agg #[.iface 118 (.agg #[.slice ada A.length ca]), .int .i64 0]) (fun w => by kernel_rfl) ?_)
 refine WL_some (og rfl ?_)
 (first | refine r_box_agg rfl ?_ | refine r_box_int rfl ?_ | refine r_box_slice rfl ?_ | refine r_box rfl rfl ?_)
 intro b11 w12 hb13 hc14 g15
 have hge16 := Nat.le_trans G.size hb13
 have ne17 := Nat.ne_of_lt (Nat.lt_of_lt_of_le (lt_of_heap hc4) hb13)
 replace hc4 := g15.heap hc4
 replace G := G.tr g15
 clear g15 hb13
 refine stp (r_assign_ptr rfl ?_)
 refine WL_nil ?_
 refine W_seq (W_region rfl ?_)
 refine stp (r_move_ptr rfl ?_)
 refine WL_some (og rfl ?_)
 have hcal := dnode_calls _ _ (whole_ok hA0 hr) G hge16 hc14 (by decide) (by decide) 0 (a := 0) (by decide) (by decide) (d := 32) (by decide) (Nat.le_refl _)
 have hlow := G.size
 have hlt1 := lt_of_heap hc4
 refine r_call rfl hcal ?_
 rintro v_ w18 ⟨cells, rfl, hT9, hb9, K_⟩
 clear hcal
 replace hc4 := K_.heap hc4 (fun hm_ => by simp only [List.mem_singleton] at hm_; first | exact ne17 hm_ | exact ne17 hm_.symm)
 replace G := G.trK K_ (fun x_ hx_ => by simp only [List.mem_singleton] at hx_; subst hx_; exact hge16)
 clear K_ hc14
 obtain ⟨y0, y1, ya, yn, yc, za, zn, zc, ua, un, uc, rfl⟩ := hT9.cells
 refine stp (r_extract (v := .agg #[.int .i64 y0, .int .i64 y1, .slice ya yn yc, .slice za zn zc, .slice ua un uc]) rfl rfl ?_)
 refine stp (r_extract (v := .int .u16 ((nodeD (wholeS A) 32 0 0 0).2.2)) rfl rfl ?_)
 refine stn (r_storeAll rfl rfl hc4 (by rfl) (by rfl) (by rfl) ?_)
 intro w19 hc20 u21
 replace hb9 := u21.heap hb9 ne17.symm
 replace hT9 := hT9.sees (Sees.upd u21 (fun h_ => absurd h_ (Nat.not_le.2 hlt1)))
 replace G := G.upd u21 hge6
 clear u21 hc4
 refine stp (r_assign_int rfl ?_)
 refine WL_nil ?_
 refine W_ret ?_
 refine ret2 (res_all rfl hc20 (by rfl)) (res_tmp (v := .int .u16 ((nodeD (wholeS A) 32 0 0 0).2.2)) rfl) ⟨_, rfl, hT9.sees (Sees.low hlow _), G⟩
end Go.Proofs.Ytfhfecepcnapfaa.K

