/- Laid together: BR, MA, P08, U09, T10, T11, K10, R16, BB, BC. Each part is plain law, a rule, or a walk of the functions that its names tell. -/
import Derived.Test.YtifhcfhdajkhlaaX2
set_option linter.unusedVariables false
set_option linter.unusedSimpArgs false
namespace Go.Proofs.Ytifhcfhdajkhlaa.K
open Go Go.RowKit Go.Proofs
attribute [local irreducible] Run1 OpG WL W AO Gives
instance : IfcI Try.prog 109 := ⟨⟨_, Try.underlying109⟩⟩
set_option maxRecDepth 100000 in
theorem addg_calls (w : World) {a b m : Int} (ha : inR .i64 a) (hb : inR .i64 b) (hm : inR .i64 m) : Gives Try.prog 86 #[.int .i64 a, .int .i64 b, .int .i64 m] w (.tuple #[.int .i64 (if addOk a b m then a + b else 0), .bool (addOk a b m)]) := by
 simp only [inR] at ha hb hm
 have G := Grow.rfl' w
 refine gives_of Try.func86 Try.ntmps86 Try.results86 rfl rfl ?_
 refine W_seq (W_region rfl ?_)
 refine stp (r_assign_int rfl ?_)
 refine stp (r_assign (v := .bool false) rfl ?_)
 refine WL_nil ?_
 refine W_seq ?_
 refine W_seq (W_region rfl ?_)
 refine stp (r_move_int rfl ?_)
 refine stp (r_move_int rfl ?_)
 refine stp (r_min rfl rfl rfl ?_)
 refine stp (r_lss rfl rfl ?_)
 refine stp (r_move_bool rfl ?_)
 refine WL_some (og_if (s := .bool (decide ((if b < a then b else a) < 0))) (b := false) (v := .int .i64 a) rfl (wgb_f _) (fun hc1 => ?_) ?_)
 ·
  have hc1_ := hc1
  try simp only [sb] at hc1_
  refine r_move_int rfl ?_
  exact ⟨rfl, rfl⟩
 refine WL_some (og_if (s := .bool (decide ((if b < a then b else a) < 0))) (b := false) (v := .int .i64 m) rfl (wgb_f _) (fun hc2 => ?_) ?_)
 ·
  have hc2_ := hc2
  try simp only [sb] at hc2_
  refine r_move_int rfl ?_
  exact ⟨rfl, rfl⟩
 refine WL_some (og_if (s := .bool (decide ((if b < a then b else a) < 0))) (b := false) (v := .bool (decide (a > m))) rfl (wgb_f _) (fun hc3 => ?_) ?_)
 ·
  have hc3_ := hc3
  try simp only [sb] at hc3_
  refine r_gtr (gvt hc3) (gvt hc3) ?_
  exact ⟨rfl, rfl⟩
 refine stp (r_or2 rfl rfl rfl ?_)
 refine stp (r_move_bool rfl ?_)
 refine WL_some (og_if (s := .bool ((decide ((if b < a then b else a) < 0)) || (decide (a > m)))) (b := false) (v := .int .i64 b) rfl (wgb_f _) (fun hc4 => ?_) ?_)
 ·
  have hc4_ := hc4
  try simp only [sb] at hc4_
  refine r_move_int rfl ?_
  exact ⟨rfl, rfl⟩
 refine WL_some (og_if (s := .bool ((decide ((if b < a then b else a) < 0)) || (decide (a > m)))) (b := false) (v := .int .i64 m) rfl (wgb_f _) (fun hc5 => ?_) ?_)
 ·
  have hc5_ := hc5
  try simp only [sb] at hc5_
  refine r_move_int rfl ?_
  exact ⟨rfl, rfl⟩
 refine WL_some (og_if (s := .bool ((decide ((if b < a then b else a) < 0)) || (decide (a > m)))) (b := false) (v := .int .i64 a) rfl (wgb_f _) (fun hc6 => ?_) ?_)
 ·
  have hc6_ := hc6
  try simp only [sb] at hc6_
  refine r_move_int rfl ?_
  exact ⟨rfl, rfl⟩
 refine WL_some (og_if (s := .bool ((decide ((if b < a then b else a) < 0)) || (decide (a > m)))) (b := false) (v := .int .i64 (m - a)) rfl (wgb_f _) (fun hc7 => ?_) ?_)
 ·
  have hc7_ := hc7
  try simp only [sb] at hc7_
  refine r_sub (gvt hc7) (gvt hc7) ?_ ?_; constructor <;> omega
  exact ⟨rfl, rfl⟩
 refine WL_some (og_if (s := .bool ((decide ((if b < a then b else a) < 0)) || (decide (a > m)))) (b := false) (v := .bool (decide (b > (m - a)))) rfl (wgb_f _) (fun hc8 => ?_) ?_)
 ·
  have hc8_ := hc8
  try simp only [sb] at hc8_
  refine r_gtr (gvt hc8) (gvt hc8) ?_
  exact ⟨rfl, rfl⟩
 refine stp (r_or2 rfl rfl rfl ?_)
 refine WL_nil ?_
 refine W_cond2 (b := (((decide ((if b < a then b else a) < 0)) || (decide (a > m))) || (decide (b > (m - a))))) rfl (fun h1 => ?_) (fun h1 => ?_)
 ·-- true
  simp only [sb] at h1
  refine W_seq (W_region rfl ?_)
  refine stp (r_assign_int rfl ?_)
  refine stp (r_assign (v := .bool false) rfl ?_)
  refine WL_nil ?_
  refine W_ret ?_
  refine ret2 (res_tmp (v := .int .i64 0) rfl) (res_tmp (v := .bool false) rfl) ⟨?_, G⟩
  have h9 : addOk a b m = false := by simp only [addOk]; exact decide_eq_false (by omega)
  rw [h9]; rfl
 ·-- false
  simp only [sb] at h1
  have h9 : addOk a b m = true := by simp only [addOk]; exact decide_eq_true (by omega)
  refine W_skip ?_
  refine W_seq (W_region rfl ?_)
  refine stp (r_move_int rfl ?_)
  refine stp (r_move_int rfl ?_)
  refine stp (r_add rfl rfl ?_ ?_); constructor <;> omega
  refine stp (r_assign_int rfl ?_)
  refine stp (r_assign (v := .bool true) rfl ?_)
  refine WL_nil ?_
  refine W_ret ?_
  refine ret2 (res_tmp (v := .int .i64 (a + b)) rfl) (res_tmp (v := .bool true) rfl) ⟨?_, G⟩
  rw [h9]; rfl

set_option maxRecDepth 100000 in
theorem within_calls (w : World) {ad : Option Addr} {c : Nat} {sz : List Int} {seg a n : Int} (R : RowAt w 1 ad sz.length (sz.map (.int .i64))) (hs : ∀ i, i < sz.length → 0 ≤ sz.getD i 0 ∧ sz.getD i 0 ≤ 140737488355328) (ha : inR .i64 a) (hn : inR .i64 n) : Gives Try.prog 92 #[.slice ad sz.length c, .int .i64 seg, .int .i64 a, .int .i64 n] w (.bool (withinP sz seg a n)) := by
 have ll := R.lim
 have G := Grow.rfl' w
 refine gives_of Try.func92 Try.ntmps92 Try.results92 rfl rfl ?_
 refine W_seq (W_region rfl ?_)
 refine stp (r_assign (v := .bool false) rfl ?_)
 refine WL_nil ?_
 refine W_seq ?_
 refine W_seq (W_region rfl ?_)
 refine stp (r_move_int rfl ?_)
 refine stp (r_lss rfl rfl ?_)
 refine stp (r_move_bool rfl ?_)
 refine WL_some (og_if (s := .bool (decide (seg < 0))) (b := false) (v := .int .i64 seg) rfl (wgb_f _) (fun hc1 => ?_) ?_)
 ·
  have hc1_ := hc1
  try simp only [sb] at hc1_
  refine r_move_int rfl ?_
  exact ⟨rfl, rfl⟩
 refine WL_some (og_if (s := .bool (decide (seg < 0))) (b := false) (v := .slice ad sz.length c) rfl (wgb_f _) (fun hc2 => ?_) ?_)
 ·
  have hc2_ := hc2
  try simp only [sb] at hc2_
  refine r_move_slice rfl ?_
  exact ⟨rfl, rfl⟩
 refine WL_some (og_if (s := .bool (decide (seg < 0))) (b := false) (v := .int .i64 (sz.length : Int)) rfl (wgb_f _) (fun hc3 => ?_) ?_)
 ·
  have hc3_ := hc3
  try simp only [sb] at hc3_
  refine r_len rfl rfl (gvt hc3) ?_
  exact ⟨rfl, rfl⟩
 refine WL_some (og_if (s := .bool (decide (seg < 0))) (b := false) (v := .bool (decide (seg ≥ (sz.length : Int)))) rfl (wgb_f _) (fun hc4 => ?_) ?_)
 ·
  have hc4_ := hc4
  try simp only [sb] at hc4_
  refine r_geq (gvt hc4) (gvt hc4) ?_
  exact ⟨rfl, rfl⟩
 refine stp (r_or2 rfl rfl rfl ?_)
 refine WL_nil ?_
 refine W_cond2 (b := ((decide (seg < 0)) || (decide (seg ≥ (sz.length : Int))))) rfl (fun h1 => ?_) (fun h1 => ?_)
 ·-- true
  simp only [sb] at h1
  refine W_seq (W_region rfl ?_)
  refine stp (r_assign (v := .bool false) rfl ?_)
  refine WL_nil ?_
  refine W_ret ?_
  refine ret1 (res_tmp (v := .bool false) rfl) ⟨?_, G⟩
  have h9 : withinP sz seg a n = false := by unfold withinP; rw [decide_eq_false (by omega), Bool.false_and]
  rw [h9]
 ·-- false
  simp only [sb] at h1
  have h9 := hs seg.toNat (by omega)
  refine W_skip ?_
  refine W_seq (W_region rfl ?_)
  refine stp (r_move_int rfl ?_)
  refine stp (r_move_int rfl ?_)
  refine stp (r_move_slice rfl ?_)
  refine stp (r_move_int rfl ?_)
  refine stp (r_indexR (R.grow G) rfl rfl ?_ ?_ ?_); omega; omega
  refine stp (r_loadR (v := .int .i64 (sz.getD seg.toNat 0)) (m := 0) (R.grow G) rfl (by rw [Nat.mul_one]; exact map_get 0 (by omega)) ?_)
  refine stp (r_gives (v := .tuple #[.int .i64 (if addOk a n (sz.getD seg.toNat 0) then a + n else 0), .bool (addOk a n (sz.getD seg.toNat 0))]) rfl (addg_calls _ ha hn (m := sz.getD seg.toNat 0) (by simp only [inR]; omega)) ?_)
  intro w5 g6
  replace G := G.tr g6
  clear g6
  refine stp (r_move (v := .tuple #[.int .i64 (if addOk a n (sz.getD seg.toNat 0) then a + n else 0), .bool (addOk a n (sz.getD seg.toNat 0))]) rfl ?_)
  refine stp (r_extract (v := .int .i64 (if addOk a n (sz.getD seg.toNat 0) then a + n else 0)) rfl rfl ?_)
  refine stp (r_extract (v := .bool (addOk a n (sz.getD seg.toNat 0))) rfl rfl ?_)
  refine stp (r_assign_int rfl ?_)
  refine stp (r_assign_bool rfl ?_)
  refine WL_nil ?_
  refine W_seq (W_region rfl ?_)
  refine stp (r_move_bool rfl ?_)
  refine stp (r_assign_bool rfl ?_)
  refine WL_nil ?_
  refine W_ret ?_
  refine ret1 (res_tmp (v := .bool (addOk a n (sz.getD seg.toNat 0))) rfl) ⟨?_, G⟩
  unfold withinP; rw [decide_eq_true (by omega), Bool.true_and]

set_option maxRecDepth 100000 in
theorem isnear_calls (w : World) (p : Pt) : Gives Try.prog 79 #[.agg #[.int .i64 p.kind, .int .i64 p.off, .int .i64 p.data, .int .i64 p.ptrs, .int .i64 p.size, .int .i64 p.count, .int .i64 p.seg, .bool p.dbl]] w (.bool (nearP p)) := by
 have G := Grow.rfl' w
 refine gives_of Try.func79 Try.ntmps79 Try.results79 rfl rfl ?_
 refine W_seq (W_region rfl ?_)
 refine WL_some (og rfl ?_)
 (first | refine r_box_agg rfl ?_ | refine r_box_int rfl ?_ | refine r_box_slice rfl ?_ | refine r_box rfl rfl ?_)
 intro b1 w2 hb3 hc4 g5
 have hge6 := Nat.le_trans G.size hb3
 replace G := G.tr g5
 clear g5 hb3
 refine stp (r_assign (v := .bool false) rfl ?_)
 refine WL_nil ?_
 refine W_seq (W_region rfl ?_)
 refine stp (r_fieldAddr rfl ?_)
 refine stp (r_load (v := .int .i64 p.kind) rfl hc4 rfl ?_)
 refine stp (r_eql rfl rfl ?_)
 refine stp (r_move_bool rfl ?_)
 refine WL_some (og_if (s := .bool (decide (p.kind = 1))) (b := false) (v := .pointer (some ⟨b1, 0, none⟩)) rfl (wgb_f _) (fun hc7 => ?_) ?_)
 ·
  have hc7_ := hc7
  try simp only [sb] at hc7_
  refine r_fieldAddr rfl ?_
  exact ⟨rfl, rfl⟩
 refine WL_some (og_if (s := .bool (decide (p.kind = 1))) (b := false) (v := .int .i64 p.kind) rfl (wgb_f _) (fun hc8 => ?_) ?_)
 ·
  have hc8_ := hc8
  try simp only [sb] at hc8_
  refine r_load (v := .int .i64 p.kind) (gvt hc8) hc4 rfl ?_
  exact ⟨rfl, rfl⟩
 refine WL_some (og_if (s := .bool (decide (p.kind = 1))) (b := false) (v := .bool (decide (p.kind = 2))) rfl (wgb_f _) (fun hc9 => ?_) ?_)
 ·
  have hc9_ := hc9
  try simp only [sb] at hc9_
  refine r_eql (gvt hc9) rfl ?_
  exact ⟨rfl, rfl⟩
 refine stp (r_or2 rfl rfl rfl ?_)
 refine stp (r_assign_bool rfl ?_)
 refine WL_nil ?_
 refine W_ret ?_
 refine ret1 (res_tmp (v := .bool ((decide (p.kind = 1)) || (decide (p.kind = 2)))) rfl) ⟨?_, G⟩
 rfl

set_option maxRecDepth 100000 in
theorem of_calls (w : World) (o : Ob) : Gives Try.prog 91 #[.agg #[.int .i64 o.kind, .int .i64 o.seg, .int .i64 o.at_, .int .i64 o.data, .int .i64 o.ptrs, .int .i64 o.size, .int .i64 o.count]] w (.agg #[.int .i64 o.kind, .int .i64 0, .int .i64 o.data, .int .i64 o.ptrs, .int .i64 o.size, .int .i64 o.count, .int .i64 0, .bool false]) := by
 have G := Grow.rfl' w
 refine gives_of Try.func91 Try.ntmps91 Try.results91 rfl rfl ?_
 refine W_seq (W_region rfl ?_)
 refine WL_some (og rfl ?_)
 (first | refine r_box_agg rfl ?_ | refine r_box_int rfl ?_ | refine r_box_slice rfl ?_ | refine r_box rfl rfl ?_)
 intro b1 w2 hb3 hc4 g5
 have hge6 := Nat.le_trans G.size hb3
 replace G := G.tr g5
 clear g5 hb3
 refine stp (r_alloc ?_)
 intro b7 w8 hb9 hc10 g11
 refine WL_nil ?_
 refine W_seq (W_region rfl ?_)
 refine stp (r_fieldAddr rfl ?_)
 have hge12 := Nat.le_trans G.size hb9
 have ne13 := Nat.ne_of_lt (Nat.lt_of_lt_of_le (lt_of_heap hc4) hb9)
 replace hc4 := g11.heap hc4
 replace G := G.tr g11
 clear g11 hb9
 refine stp (r_load (v := .int .i64 o.kind) rfl hc4 rfl ?_)
 refine stp (r_fieldAddr rfl ?_)
 refine stp (r_load (v := .int .i64 o.data) rfl hc4 rfl ?_)
 refine stp (r_fieldAddr rfl ?_)
 refine stp (r_load (v := .int .i64 o.ptrs) rfl hc4 rfl ?_)
 refine stp (r_fieldAddr rfl ?_)
 refine stp (r_load (v := .int .i64 o.size) rfl hc4 rfl ?_)
 refine stp (r_fieldAddr rfl ?_)
 refine stp (r_load (v := .int .i64 o.count) rfl hc4 rfl ?_)
 refine stp (r_build (v := .agg #[.int .i64 o.kind, .int .i64 0, .int .i64 o.data, .int .i64 o.ptrs, .int .i64 o.size, .int .i64 o.count, .int .i64 0, .bool false]) (fun w => by kernel_rfl) ?_)
 refine stn (r_storeAll rfl rfl hc10 (by rfl) (by rfl) (by rfl) ?_)
 intro w14 hc15 u16
 replace hc4 := u16.heap hc4 ne13
 replace G := G.upd u16 hge12
 clear u16 hc10
 refine WL_nil ?_
 refine W_ret ?_
 refine ret1 (res_all rfl hc15 (by rfl)) ⟨?_, G⟩
 rfl

set_option maxRecDepth 100000 in
theorem owords_calls (w : World) (o : Ob) : Gives Try.prog 83 #[.agg #[.int .i64 o.kind, .int .i64 o.seg, .int .i64 o.at_, .int .i64 o.data, .int .i64 o.ptrs, .int .i64 o.size, .int .i64 o.count]] w (.int .i64 (wordsO o)) := by
 have G := Grow.rfl' w
 refine gives_of Try.func83 Try.ntmps83 Try.results83 rfl rfl ?_
 refine W_seq (W_region rfl ?_)
 refine WL_some (og rfl ?_)
 (first | refine r_box_agg rfl ?_ | refine r_box_int rfl ?_ | refine r_box_slice rfl ?_ | refine r_box rfl rfl ?_)
 intro b1 w2 hb3 hc4 g5
 have hge6 := Nat.le_trans G.size hb3
 replace G := G.tr g5
 clear g5 hb3
 refine stp (r_assign_int rfl ?_)
 refine WL_nil ?_
 refine W_seq ?_
 refine W_seq (W_region rfl ?_)
 refine stp (r_fieldAddr rfl ?_)
 refine stp (r_load (v := .int .i64 o.kind) rfl hc4 rfl ?_)
 refine stp (r_eql rfl rfl ?_)
 refine WL_nil ?_
 refine W_cond2 (b := (decide (o.kind = 3))) rfl (fun h1 => ?_) (fun h1 => ?_)
 ·-- true
  replace h1 := of_decide_eq_true h1
  refine W_seq (W_region rfl ?_)
  refine stp (r_assign_int rfl ?_)
  refine WL_nil ?_
  refine W_ret ?_
  refine ret1 (res_tmp (v := .int .i64 0) rfl) ⟨?_, G⟩
  simp [wordsO, Ob.pt, *]
 ·-- false
  replace h1 := of_decide_eq_false h1
  refine W_skip ?_
  refine W_seq (W_region rfl ?_)
  refine stp (r_loadAll rfl hc4 (by rfl) ?_)
  refine stp (r_gives (v := .agg #[.int .i64 o.kind, .int .i64 0, .int .i64 o.data, .int .i64 o.ptrs, .int .i64 o.size, .int .i64 o.count, .int .i64 0, .bool false]) rfl (of_calls _ ⟨o.kind, o.seg, o.at_, o.data, o.ptrs, o.size, o.count⟩) ?_)
  intro w7 g8
  replace hc4 := g8.heap hc4
  replace G := G.tr g8
  clear g8
  refine stp (r_gives (v := .tuple #[.int .i64 (wordsN ⟨o.kind, 0, o.data, o.ptrs, o.size, o.count, 0, false⟩), .int .u16 (wordsE ⟨o.kind, 0, o.data, o.ptrs, o.size, o.count, 0, false⟩)]) rfl (words_calls _ ⟨o.kind, 0, o.data, o.ptrs, o.size, o.count, 0, false⟩) ?_)
  intro w9 g10
  replace hc4 := g10.heap hc4
  replace G := G.tr g10
  clear g10
  refine stp (r_move (v := .tuple #[.int .i64 (wordsN ⟨o.kind, 0, o.data, o.ptrs, o.size, o.count, 0, false⟩), .int .u16 (wordsE ⟨o.kind, 0, o.data, o.ptrs, o.size, o.count, 0, false⟩)]) rfl ?_)
  refine stp (r_extract (v := .int .i64 (wordsN ⟨o.kind, 0, o.data, o.ptrs, o.size, o.count, 0, false⟩)) rfl rfl ?_)
  refine stp (r_extract (v := .int .u16 (wordsE ⟨o.kind, 0, o.data, o.ptrs, o.size, o.count, 0, false⟩)) rfl rfl ?_)
  refine stp (r_assign_int rfl ?_)
  refine stp (r_assign_int rfl ?_)
  refine WL_nil ?_
  refine W_seq (W_region rfl ?_)
  refine stp (r_move_int rfl ?_)
  refine stp (r_assign_int rfl ?_)
  refine WL_nil ?_
  refine W_ret ?_
  refine ret1 (res_tmp (v := .int .i64 (wordsN ⟨o.kind, 0, o.data, o.ptrs, o.size, o.count, 0, false⟩)) rfl) ⟨?_, G⟩
  simp [wordsO, Ob.pt, *]

set_option maxRecDepth 100000 in
theorem pointer_calls (w : World) {src : Value} {s : Src} (H : SrcOk Try.prog w src s) (seg a : Int) : Gives Try.prog 78 #[src, .int .i64 seg, .int .i64 a] w (.tuple #[.agg #[.int .i64 ((ptrS s seg a).1.kind), .int .i64 ((ptrS s seg a).1.off), .int .i64 ((ptrS s seg a).1.data), .int .i64 ((ptrS s seg a).1.ptrs), .int .i64 ((ptrS s seg a).1.size), .int .i64 ((ptrS s seg a).1.count), .int .i64 ((ptrS s seg a).1.seg), .bool ((ptrS s seg a).1.dbl)], .int .u16 ((ptrS s seg a).2)]) := by
 have G := Grow.rfl' w
 refine gives_of Try.func78 Try.ntmps78 Try.results78 rfl rfl ?_
 refine W_seq (W_region rfl ?_)
 refine stp (r_alloc ?_)
 intro b1 w2 hb3 hc4 g5
 refine stp (r_assign_int rfl ?_)
 refine WL_nil ?_
 refine W_seq (W_region rfl ?_)
 refine stp (r_move (v := src) rfl ?_)
 refine stp (r_move_int rfl ?_)
 refine stp (r_move_int rfl ?_)
 have hge6 := Nat.le_trans G.size hb3
 replace G := G.tr g5
 clear g5 hb3
 refine stp (r_srcWord H G rfl rfl rfl ?_)
 intro w7 g8
 replace hc4 := g8.heap hc4
 replace G := G.tr g8
 clear g8
 refine stp (r_move (v := .tuple #[.int .u64 ((s.word seg a).1), .int .u16 ((s.word seg a).2)]) rfl ?_)
 refine stp (r_extract (v := .int .u64 ((s.word seg a).1)) rfl rfl ?_)
 refine stp (r_extract (v := .int .u16 ((s.word seg a).2)) rfl rfl ?_)
 refine stp (r_assign_int rfl ?_)
 refine stp (r_assign_int rfl ?_)
 refine WL_nil ?_
 refine W_seq ?_
 refine W_seq (W_region rfl ?_)
 refine stp (r_move_int rfl ?_)
 refine stp (r_neq rfl rfl ?_)
 refine WL_nil ?_
 refine W_cond2 (b := (decide (((s.word seg a).2) ≠ 0))) rfl (fun h1 => ?_) (fun h1 => ?_)
 ·-- true
  replace h1 := of_decide_eq_true h1
  refine W_seq (W_region rfl ?_)
  refine stp (r_build (v := .agg #[.int .i64 0, .int .i64 0, .int .i64 0, .int .i64 0, .int .i64 0, .int .i64 0, .int .i64 0, .bool false]) (fun w => by kernel_rfl) ?_)
  refine stp (r_move_int rfl ?_)
  refine stn (r_storeAll rfl rfl hc4 (by rfl) (by rfl) (by rfl) ?_)
  intro w9 hc10 u11
  replace G := G.upd u11 hge6
  clear u11 hc4
  refine stp (r_assign_int rfl ?_)
  refine WL_nil ?_
  refine W_ret ?_
  refine ret2 (res_all rfl hc10 (by rfl)) (res_tmp (v := .int .u16 ((s.word seg a).2)) rfl) ⟨?_, G⟩
  have h9 : ptrS s seg a = (Pt0, (s.word seg a).2) := by unfold ptrS; rw [if_pos h1]
  rw [h9]; rfl
 ·-- false
  replace h1 := of_decide_eq_false h1
  refine W_skip ?_
  refine W_seq (W_region rfl ?_)
  refine stp (r_move_int rfl ?_)
  refine stp (r_gives (v := .tuple #[.agg #[.int .i64 ((decP (s.word seg a).1).kind), .int .i64 ((decP (s.word seg a).1).off), .int .i64 ((decP (s.word seg a).1).data), .int .i64 ((decP (s.word seg a).1).ptrs), .int .i64 ((decP (s.word seg a).1).size), .int .i64 ((decP (s.word seg a).1).count), .int .i64 ((decP (s.word seg a).1).seg), .bool ((decP (s.word seg a).1).dbl)], .int .u16 (decE (s.word seg a).1)]) rfl (decode_calls _ _ (H.num seg a).1 (H.num seg a).2.1) ?_)
  intro w12 g13
  replace hc4 := g13.heap hc4
  replace G := G.tr g13
  clear g13
  refine stp (r_extract (v := .agg #[.int .i64 ((decP (s.word seg a).1).kind), .int .i64 ((decP (s.word seg a).1).off), .int .i64 ((decP (s.word seg a).1).data), .int .i64 ((decP (s.word seg a).1).ptrs), .int .i64 ((decP (s.word seg a).1).size), .int .i64 ((decP (s.word seg a).1).count), .int .i64 ((decP (s.word seg a).1).seg), .bool ((decP (s.word seg a).1).dbl)]) rfl rfl ?_)
  refine stp (r_extract (v := .int .u16 (decE (s.word seg a).1)) rfl rfl ?_)
  refine stn (r_storeAll rfl rfl hc4 (by rfl) (by rfl) (by rfl) ?_)
  intro w14 hc15 u16
  replace G := G.upd u16 hge6
  clear u16 hc4
  refine stp (r_assign_int rfl ?_)
  refine WL_nil ?_
  refine W_ret ?_
  refine ret2 (res_all rfl hc15 (by rfl)) (res_tmp (v := .int .u16 (decE (s.word seg a).1)) rfl) ⟨?_, G⟩
  have h9 : ptrS s seg a = (decP (s.word seg a).1, decE (s.word seg a).1) := by unfold ptrS; rw [if_neg h1]
  rw [h9]

set_option maxRecDepth 100000 in
theorem found_calls (w : World) {src : Value} {s : Src} (H : SrcOk Try.prog w src s) (p : Pt) (seg a : Int) (hp : PtR p) (ha : inR .i64 a) : Gives Try.prog 80 #[src, .agg #[.int .i64 p.kind, .int .i64 p.off, .int .i64 p.data, .int .i64 p.ptrs, .int .i64 p.size, .int .i64 p.count, .int .i64 p.seg, .bool p.dbl], .int .i64 seg, .int .i64 a] w (.tuple #[.agg #[.int .i64 ((foundS s p seg a).1.kind), .int .i64 ((foundS s p seg a).1.seg), .int .i64 ((foundS s p seg a).1.at_), .int .i64 ((foundS s p seg a).1.data), .int .i64 ((foundS s p seg a).1.ptrs), .int .i64 ((foundS s p seg a).1.size), .int .i64 ((foundS s p seg a).1.count)], .int .u16 ((foundS s p seg a).2)]) := by
 have hw9 := wordsN_range hp.of
 have G := Grow.rfl' w
 refine gives_of Try.func80 Try.ntmps80 Try.results80 rfl rfl ?_
 refine W_seq (W_region rfl ?_)
 refine WL_some (og rfl ?_)
 (first | refine r_box_agg rfl ?_ | refine r_box_int rfl ?_ | refine r_box_slice rfl ?_ | refine r_box rfl rfl ?_)
 intro b1 w2 hb3 hc4 g5
 have hge6 := Nat.le_trans G.size hb3
 replace G := G.tr g5
 clear g5 hb3
 refine stp (r_alloc ?_)
 intro b7 w8 hb9 hc10 g11
 refine stp (r_assign_int rfl ?_)
 refine WL_nil ?_
 refine W_seq (W_region rfl ?_)
 refine stp (r_fieldAddr rfl ?_)
 have hge12 := Nat.le_trans G.size hb9
 have ne13 := Nat.ne_of_lt (Nat.lt_of_lt_of_le (lt_of_heap hc4) hb9)
 replace hc4 := g11.heap hc4
 replace G := G.tr g11
 clear g11 hb9
 refine stp (r_load (v := .int .i64 p.kind) rfl hc4 rfl ?_)
 refine stp (r_move_int rfl ?_)
 refine stp (r_move_int rfl ?_)
 refine stp (r_fieldAddr rfl ?_)
 refine stp (r_load (v := .int .i64 p.data) rfl hc4 rfl ?_)
 refine stp (r_fieldAddr rfl ?_)
 refine stp (r_load (v := .int .i64 p.ptrs) rfl hc4 rfl ?_)
 refine stp (r_fieldAddr rfl ?_)
 refine stp (r_load (v := .int .i64 p.size) rfl hc4 rfl ?_)
 refine stp (r_fieldAddr rfl ?_)
 refine stp (r_load (v := .int .i64 p.count) rfl hc4 rfl ?_)
 refine stp (r_build (v := .agg #[.int .i64 p.kind, .int .i64 seg, .int .i64 a, .int .i64 p.data, .int .i64 p.ptrs, .int .i64 p.size, .int .i64 p.count]) (fun w => by kernel_rfl) ?_)
 refine stp (r_alloc ?_)
 intro b14 w15 hb16 hc17 g18
 refine stn (r_storeAll rfl rfl hc17 (by rfl) (by rfl) (by rfl) ?_)
 intro w19 hc20 u21
 have g22 := g18.upd u21 hb16
 have hge23 := Nat.le_trans G.size hb16
 have ne24 := Nat.ne_of_lt (Nat.lt_of_lt_of_le (lt_of_heap hc4) hb16)
 have ne25 := Nat.ne_of_lt (Nat.lt_of_lt_of_le (lt_of_heap hc10) hb16)
 replace hc4 := g22.heap hc4
 replace hc10 := g22.heap hc10
 replace G := G.tr g22
 clear u21 g18 hb16 hc17
 refine WL_nil ?_
 refine W_seq (W_region rfl ?_)
 refine stp (r_loadAll rfl hc20 (by rfl) ?_)
 refine stp (r_gives (v := .agg #[.int .i64 p.kind, .int .i64 0, .int .i64 p.data, .int .i64 p.ptrs, .int .i64 p.size, .int .i64 p.count, .int .i64 0, .bool false]) rfl (of_calls _ ⟨p.kind, seg, a, p.data, p.ptrs, p.size, p.count⟩) ?_)
 intro w26 g27
 replace hc4 := g27.heap hc4
 replace hc10 := g27.heap hc10
 replace hc20 := g27.heap hc20
 replace G := G.tr g27
 clear g27
 refine stp (r_gives (v := .tuple #[.int .i64 (wordsN ⟨p.kind, 0, p.data, p.ptrs, p.size, p.count, 0, false⟩), .int .u16 (wordsE ⟨p.kind, 0, p.data, p.ptrs, p.size, p.count, 0, false⟩)]) rfl (words_calls _ ⟨p.kind, 0, p.data, p.ptrs, p.size, p.count, 0, false⟩) ?_)
 intro w28 g29
 replace hc4 := g29.heap hc4
 replace hc10 := g29.heap hc10
 replace hc20 := g29.heap hc20
 replace G := G.tr g29
 clear g29
 refine stp (r_move (v := .tuple #[.int .i64 (wordsN ⟨p.kind, 0, p.data, p.ptrs, p.size, p.count, 0, false⟩), .int .u16 (wordsE ⟨p.kind, 0, p.data, p.ptrs, p.size, p.count, 0, false⟩)]) rfl ?_)
 refine stp (r_extract (v := .int .i64 (wordsN ⟨p.kind, 0, p.data, p.ptrs, p.size, p.count, 0, false⟩)) rfl rfl ?_)
 refine stp (r_extract (v := .int .u16 (wordsE ⟨p.kind, 0, p.data, p.ptrs, p.size, p.count, 0, false⟩)) rfl rfl ?_)
 refine stp (r_assign_int rfl ?_)
 refine stp (r_assign_int rfl ?_)
 refine WL_nil ?_
 refine W_seq ?_
 refine W_block ?_
 refine W_seq (W_region rfl ?_)
 refine stp (r_move_int rfl ?_)
 refine stp (r_neq rfl rfl ?_)
 refine stp (r_assign_bool rfl ?_)
 refine WL_nil ?_
 refine W_cond2 (b := (decide ((wordsE ⟨p.kind, 0, p.data, p.ptrs, p.size, p.count, 0, false⟩) ≠ 0))) rfl (fun h1 => ?_) (fun h1 => ?_)
 ·-- true
  replace h1 := of_decide_eq_true h1
  refine W_seq (W_region rfl ?_)
  refine stp (r_build (v := .agg #[.int .i64 0, .int .i64 0, .int .i64 0, .int .i64 0, .int .i64 0, .int .i64 0, .int .i64 0]) (fun w => by kernel_rfl) ?_)
  refine stp (r_move_int rfl ?_)
  refine stn (r_storeAll rfl rfl hc10 (by rfl) (by rfl) (by rfl) ?_)
  intro w30 hc31 u32
  replace hc4 := u32.heap hc4 ne13
  replace hc20 := u32.heap hc20 ne25.symm
  replace G := G.upd u32 hge12
  clear u32 hc10
  refine stp (r_assign_int rfl ?_)
  refine WL_nil ?_
  refine W_ret ?_
  refine ret2 (res_all rfl hc31 (by rfl)) (res_tmp (v := .int .u16 (wordsE ⟨p.kind, 0, p.data, p.ptrs, p.size, p.count, 0, false⟩)) rfl) ⟨?_, G⟩
  have h9 : foundS s p seg a = (Ob0, wordsE ⟨p.kind, 0, p.data, p.ptrs, p.size, p.count, 0, false⟩) := by unfold foundS; exact if_pos h1
  rw [h9]; rfl
 ·-- false
  replace h1 := of_decide_eq_false h1
  refine W_seq (W_region rfl ?_)
  refine stp (r_move (v := src) rfl ?_)
  refine stp (r_srcSizes H G rfl ?_)
  intro adz cz w33 g34 Rz
  replace hc4 := g34.heap hc4
  replace hc10 := g34.heap hc10
  replace hc20 := g34.heap hc20
  replace G := G.tr g34
  clear g34
  refine stp (r_move_int rfl ?_)
  refine stp (r_move_int rfl ?_)
  refine stp (r_move_int rfl ?_)
  refine stp (r_gives (v := .bool (withinP s.sizes seg a (wordsN ⟨p.kind, 0, p.data, p.ptrs, p.size, p.count, 0, false⟩))) rfl (within_calls _ Rz H.each ha (by simp only [inR]; omega)) ?_)
  intro w35 g36
  replace hc4 := g36.heap hc4
  replace hc10 := g36.heap hc10
  replace hc20 := g36.heap hc20
  replace Rz := Rz.grow g36
  replace G := G.tr g36
  clear g36
  refine stp (r_not rfl ?_)
  refine stp (r_assign_bool rfl ?_)
  refine WL_nil ?_
  refine W_cond2 (b := (!(withinP s.sizes seg a (wordsN ⟨p.kind, 0, p.data, p.ptrs, p.size, p.count, 0, false⟩)))) rfl (fun h2 => ?_) (fun h2 => ?_)
  ·-- true
   simp only [sb] at h2
   refine W_seq (W_region rfl ?_)
   refine stp (r_build (v := .agg #[.int .i64 0, .int .i64 0, .int .i64 0, .int .i64 0, .int .i64 0, .int .i64 0, .int .i64 0]) (fun w => by kernel_rfl) ?_)
   refine stn (r_storeAll rfl rfl hc10 (by rfl) (by rfl) (by rfl) ?_)
   intro w37 hc38 u39
   replace hc4 := u39.heap hc4 ne13
   replace hc20 := u39.heap hc20 ne25.symm
   replace G := G.upd u39 hge12
   clear u39 hc10
   refine stp (r_assign_int rfl ?_)
   refine WL_nil ?_
   refine W_ret ?_
   refine ret2 (res_all rfl hc38 (by rfl)) (res_tmp (v := .int .u16 20) rfl) ⟨?_, G⟩
   have h9 : foundS s p seg a = (Ob0, 20) := by unfold foundS; exact (if_neg h1).trans (if_pos (show withinP s.sizes seg a (wordsN ⟨p.kind, 0, p.data, p.ptrs, p.size, p.count, 0, false⟩) = false from by simpa using h2))
   rw [h9]; rfl
  ·-- false
   simp only [sb] at h2
   refine W_skip ?_
   refine W_seq (W_region rfl ?_)
   refine stp (r_loadAll rfl hc20 (by rfl) ?_)
   refine stn (r_storeAll rfl rfl hc10 (by rfl) (by rfl) (by rfl) ?_)
   intro w40 hc41 u42
   replace hc4 := u42.heap hc4 ne13
   replace hc20 := u42.heap hc20 ne25.symm
   replace G := G.upd u42 hge12
   clear u42 hc10
   refine stp (r_assign_int rfl ?_)
   refine WL_nil ?_
   refine W_ret ?_
   refine ret2 (res_all rfl hc41 (by rfl)) (res_tmp (v := .int .u16 0) rfl) ⟨?_, G⟩
   have h9 : foundS s p seg a = (objP p seg a, 0) := by unfold foundS; exact (if_neg h1).trans (if_neg (show ¬ withinP s.sizes seg a (wordsN ⟨p.kind, 0, p.data, p.ptrs, p.size, p.count, 0, false⟩) = false from by simpa using h2))
   rw [h9]; rfl

set_option maxRecDepth 100000 in
theorem landed_calls (w : World) {src : Value} {s : Src} (H : SrcOk Try.prog w src s) (p : Pt) (hp : PtR p) : Gives Try.prog 82 #[src, .agg #[.int .i64 p.kind, .int .i64 p.off, .int .i64 p.data, .int .i64 p.ptrs, .int .i64 p.size, .int .i64 p.count, .int .i64 p.seg, .bool p.dbl]] w (.tuple #[.agg #[.int .i64 ((landedS s p).1.kind), .int .i64 ((landedS s p).1.seg), .int .i64 ((landedS s p).1.at_), .int .i64 ((landedS s p).1.data), .int .i64 ((landedS s p).1.ptrs), .int .i64 ((landedS s p).1.size), .int .i64 ((landedS s p).1.count)], .int .u16 ((landedS s p).2)]) := by
 have hq := ptrS_range H p.seg p.off
 have hqo := hq.off
 have hpo := hp.off
 have G := Grow.rfl' w
 refine gives_of Try.func82 Try.ntmps82 Try.results82 rfl rfl ?_
 refine W_seq (W_region rfl ?_)
 refine WL_some (og rfl ?_)
 (first | refine r_box_agg rfl ?_ | refine r_box_int rfl ?_ | refine r_box_slice rfl ?_ | refine r_box rfl rfl ?_)
 intro b1 w2 hb3 hc4 g5
 have hge6 := Nat.le_trans G.size hb3
 replace G := G.tr g5
 clear g5 hb3
 refine stp (r_alloc ?_)
 intro b7 w8 hb9 hc10 g11
 refine stp (r_assign_int rfl ?_)
 refine WL_nil ?_
 refine W_seq (W_region rfl ?_)
 refine stp (r_move (v := src) rfl ?_)
 refine stp (r_fieldAddr rfl ?_)
 have hge12 := Nat.le_trans G.size hb9
 have ne13 := Nat.ne_of_lt (Nat.lt_of_lt_of_le (lt_of_heap hc4) hb9)
 replace hc4 := g11.heap hc4
 replace G := G.tr g11
 clear g11 hb9
 refine stp (r_load (v := .int .i64 p.seg) rfl hc4 rfl ?_)
 refine stp (r_fieldAddr rfl ?_)
 refine stp (r_load (v := .int .i64 p.off) rfl hc4 rfl ?_)
 refine stp (r_gives (v := .tuple #[.agg #[.int .i64 ((ptrS s p.seg p.off).1.kind), .int .i64 ((ptrS s p.seg p.off).1.off), .int .i64 ((ptrS s p.seg p.off).1.data), .int .i64 ((ptrS s p.seg p.off).1.ptrs), .int .i64 ((ptrS s p.seg p.off).1.size), .int .i64 ((ptrS s p.seg p.off).1.count), .int .i64 ((ptrS s p.seg p.off).1.seg), .bool ((ptrS s p.seg p.off).1.dbl)], .int .u16 ((ptrS s p.seg p.off).2)]) rfl (pointer_calls _ (H.grow G) p.seg p.off) ?_)
 intro w14 g15
 replace hc4 := g15.heap hc4
 replace hc10 := g15.heap hc10
 replace G := G.tr g15
 clear g15
 refine stp (r_move (v := .tuple #[.agg #[.int .i64 ((ptrS s p.seg p.off).1.kind), .int .i64 ((ptrS s p.seg p.off).1.off), .int .i64 ((ptrS s p.seg p.off).1.data), .int .i64 ((ptrS s p.seg p.off).1.ptrs), .int .i64 ((ptrS s p.seg p.off).1.size), .int .i64 ((ptrS s p.seg p.off).1.count), .int .i64 ((ptrS s p.seg p.off).1.seg), .bool ((ptrS s p.seg p.off).1.dbl)], .int .u16 ((ptrS s p.seg p.off).2)]) rfl ?_)
 refine stp (r_extract (v := .agg #[.int .i64 ((ptrS s p.seg p.off).1.kind), .int .i64 ((ptrS s p.seg p.off).1.off), .int .i64 ((ptrS s p.seg p.off).1.data), .int .i64 ((ptrS s p.seg p.off).1.ptrs), .int .i64 ((ptrS s p.seg p.off).1.size), .int .i64 ((ptrS s p.seg p.off).1.count), .int .i64 ((ptrS s p.seg p.off).1.seg), .bool ((ptrS s p.seg p.off).1.dbl)]) rfl rfl ?_)
 refine stp (r_extract (v := .int .u16 ((ptrS s p.seg p.off).2)) rfl rfl ?_)
 refine stp (r_alloc ?_)
 intro b16 w17 hb18 hc19 g20
 refine stn (r_storeAll rfl rfl hc19 (by rfl) (by rfl) (by rfl) ?_)
 intro w21 hc22 u23
 have g24 := g20.upd u23 hb18
 have hge25 := Nat.le_trans G.size hb18
 have ne26 := Nat.ne_of_lt (Nat.lt_of_lt_of_le (lt_of_heap hc4) hb18)
 have ne27 := Nat.ne_of_lt (Nat.lt_of_lt_of_le (lt_of_heap hc10) hb18)
 replace hc4 := g24.heap hc4
 replace hc10 := g24.heap hc10
 replace G := G.tr g24
 clear u23 g20 hb18 hc19
 refine stp (r_assign_int rfl ?_)
 refine WL_nil ?_
 refine W_seq ?_
 refine W_block ?_
 refine W_seq (W_region rfl ?_)
 refine stp (r_move_int rfl ?_)
 refine stp (r_neq rfl rfl ?_)
 refine stp (r_assign_bool rfl ?_)
 refine WL_nil ?_
 refine W_cond2 (b := (decide (((ptrS s p.seg p.off).2) ≠ 0))) rfl (fun h1 => ?_) (fun h1 => ?_)
 ·-- true
  replace h1 := of_decide_eq_true h1
  refine W_seq (W_region rfl ?_)
  refine stp (r_build (v := .agg #[.int .i64 0, .int .i64 0, .int .i64 0, .int .i64 0, .int .i64 0, .int .i64 0, .int .i64 0]) (fun w => by kernel_rfl) ?_)
  refine stp (r_move_int rfl ?_)
  refine stn (r_storeAll rfl rfl hc10 (by rfl) (by rfl) (by rfl) ?_)
  intro w28 hc29 u30
  replace hc4 := u30.heap hc4 ne13
  replace hc22 := u30.heap hc22 ne27.symm
  replace G := G.upd u30 hge12
  clear u30 hc10
  refine stp (r_assign_int rfl ?_)
  refine WL_nil ?_
  refine W_ret ?_
  refine ret2 (res_all rfl hc29 (by rfl)) (res_tmp (v := .int .u16 ((ptrS s p.seg p.off).2)) rfl) ⟨?_, G⟩
  have h9 : landedS s p = (Ob0, (ptrS s p.seg p.off).2) := by unfold landedS; rw [if_pos h1]
  rw [h9]; rfl
 ·-- false
  replace h1 := of_decide_eq_false h1
  refine W_seq (W_region rfl ?_)
  refine stp (r_loadAll rfl hc22 (by rfl) ?_)
  refine stp (r_gives (v := .bool (nearP ((ptrS s p.seg p.off).1))) rfl (isnear_calls _ ((ptrS s p.seg p.off).1)) ?_)
  intro w31 g32
  replace hc4 := g32.heap hc4
  replace hc10 := g32.heap hc10
  replace hc22 := g32.heap hc22
  replace G := G.tr g32
  clear g32
  refine stp (r_not rfl ?_)
  refine stp (r_assign_bool rfl ?_)
  refine WL_nil ?_
  refine W_cond2 (b := (!(nearP ((ptrS s p.seg p.off).1)))) rfl (fun h2 => ?_) (fun h2 => ?_)
  ·-- true
   simp only [sb] at h2
   refine W_seq (W_region rfl ?_)
   refine stp (r_build (v := .agg #[.int .i64 0, .int .i64 0, .int .i64 0, .int .i64 0, .int .i64 0, .int .i64 0, .int .i64 0]) (fun w => by kernel_rfl) ?_)
   refine stn (r_storeAll rfl rfl hc10 (by rfl) (by rfl) (by rfl) ?_)
   intro w33 hc34 u35
   replace hc4 := u35.heap hc4 ne13
   replace hc22 := u35.heap hc22 ne27.symm
   replace G := G.upd u35 hge12
   clear u35 hc10
   refine stp (r_assign_int rfl ?_)
   refine WL_nil ?_
   refine W_ret ?_
   refine ret2 (res_all rfl hc34 (by rfl)) (res_tmp (v := .int .u16 23) rfl) ⟨?_, G⟩
   have h9 : landedS s p = (Ob0, 23) := by unfold landedS; rw [if_neg h1, if_pos (by simpa using h2)]
   rw [h9]; rfl
  ·-- false
   simp only [sb] at h2
   refine W_skip ?_
   refine W_seq (W_region rfl ?_)
   refine stp (r_move (v := src) rfl ?_)
   refine stp (r_loadAll rfl hc22 (by rfl) ?_)
   refine stp (r_fieldAddr rfl ?_)
   refine stp (r_load (v := .int .i64 p.seg) rfl hc4 rfl ?_)
   refine stp (r_fieldAddr rfl ?_)
   refine stp (r_load (v := .int .i64 p.off) rfl hc4 rfl ?_)
   refine stp (r_add rfl rfl ?_ ?_); constructor <;> omega
   refine stp (r_fieldAddr rfl ?_)
   refine stp (r_load (v := .int .i64 ((ptrS s p.seg p.off).1.off)) rfl hc22 rfl ?_)
   refine stp (r_add rfl rfl ?_ ?_); constructor <;> omega
   refine stp (r_gives (v := .tuple #[.agg #[.int .i64 ((foundS s ((ptrS s p.seg p.off).1) p.seg ((p.off + 1) + ((ptrS s p.seg p.off).1.off))).1.kind), .int .i64 ((foundS s ((ptrS s p.seg p.off).1) p.seg ((p.off + 1) + ((ptrS s p.seg p.off).1.off))).1.seg), .int .i64 ((foundS s ((ptrS s p.seg p.off).1) p.seg ((p.off + 1) + ((ptrS s p.seg p.off).1.off))).1.at_), .int .i64 ((foundS s ((ptrS s p.seg p.off).1) p.seg ((p.off + 1) + ((ptrS s p.seg p.off).1.off))).1.data), .int .i64 ((foundS s ((ptrS s p.seg p.off).1) p.seg ((p.off + 1) + ((ptrS s p.seg p.off).1.off))).1.ptrs), .int .i64 ((foundS s ((ptrS s p.seg p.off).1) p.seg ((p.off + 1) + ((ptrS s p.seg p.off).1.off))).1.size), .int .i64 ((foundS s ((ptrS s p.seg p.off).1) p.seg ((p.off + 1) + ((ptrS s p.seg p.off).1.off))).1.count)], .int .u16 ((foundS s ((ptrS s p.seg p.off).1) p.seg ((p.off + 1) + ((ptrS s p.seg p.off).1.off))).2)]) rfl (found_calls _ (H.grow G) ((ptrS s p.seg p.off).1) p.seg ((p.off + 1) + ((ptrS s p.seg p.off).1.off)) hq (by simp only [inR]; omega)) ?_)
   intro w36 g37
   replace hc4 := g37.heap hc4
   replace hc10 := g37.heap hc10
   replace hc22 := g37.heap hc22
   replace G := G.tr g37
   clear g37
   refine stp (r_extract (v := .agg #[.int .i64 ((foundS s ((ptrS s p.seg p.off).1) p.seg ((p.off + 1) + ((ptrS s p.seg p.off).1.off))).1.kind), .int .i64 ((foundS s ((ptrS s p.seg p.off).1) p.seg ((p.off + 1) + ((ptrS s p.seg p.off).1.off))).1.seg), .int .i64 ((foundS s ((ptrS s p.seg p.off).1) p.seg ((p.off + 1) + ((ptrS s p.seg p.off).1.off))).1.at_), .int .i64 ((foundS s ((ptrS s p.seg p.off).1) p.seg ((p.off + 1) + ((ptrS s p.seg p.off).1.off))).1.data), .int .i64 ((foundS s ((ptrS s p.seg p.off).1) p.seg ((p.off + 1) + ((ptrS s p.seg p.off).1.off))).1.ptrs), .int .i64 ((foundS s ((ptrS s p.seg p.off).1) p.seg ((p.off + 1) + ((ptrS s p.seg p.off).1.off))).1.size), .int .i64 ((foundS s ((ptrS s p.seg p.off).1) p.seg ((p.off + 1) + ((ptrS s p.seg p.off).1.off))).1.count)]) rfl rfl ?_)
   refine stp (r_extract (v := .int .u16 ((foundS s ((ptrS s p.seg p.off).1) p.seg ((p.off + 1) + ((ptrS s p.seg p.off).1.off))).2)) rfl rfl ?_)
   refine stn (r_storeAll rfl rfl hc10 (by rfl) (by rfl) (by rfl) ?_)
   intro w38 hc39 u40
   replace hc4 := u40.heap hc4 ne13
   replace hc22 := u40.heap hc22 ne27.symm
   replace G := G.upd u40 hge12
   clear u40 hc10
   refine stp (r_assign_int rfl ?_)
   refine WL_nil ?_
   refine W_ret ?_
   refine ret2 (res_all rfl hc39 (by rfl)) (res_tmp (v := .int .u16 ((foundS s ((ptrS s p.seg p.off).1) p.seg ((p.off + 1) + ((ptrS s p.seg p.off).1.off))).2)) rfl) ⟨?_, G⟩
   have h9 : landedS s p = foundS s (ptrS s p.seg p.off).1 p.seg (p.off + 1 + (ptrS s p.seg p.off).1.off) := by unfold landedS; rw [if_neg h1, if_neg (by simpa using h2)]
   rw [h9]

set_option maxRecDepth 100000 in
theorem twice_calls (w : World) {src : Value} {s : Src} (H : SrcOk Try.prog w src s) (p : Pt) (hp : PtR p) : Gives Try.prog 81 #[src, .agg #[.int .i64 p.kind, .int .i64 p.off, .int .i64 p.data, .int .i64 p.ptrs, .int .i64 p.size, .int .i64 p.count, .int .i64 p.seg, .bool p.dbl]] w (.tuple #[.agg #[.int .i64 ((twiceS s p).1.kind), .int .i64 ((twiceS s p).1.seg), .int .i64 ((twiceS s p).1.at_), .int .i64 ((twiceS s p).1.data), .int .i64 ((twiceS s p).1.ptrs), .int .i64 ((twiceS s p).1.size), .int .i64 ((twiceS s p).1.count)], .int .u16 ((twiceS s p).2)]) := by
 have hpo := hp.off
 obtain ⟨n1, n2, -, -⟩ := H.num p.seg p.off
 obtain ⟨n3, n4, -, -⟩ := H.num p.seg (p.off + 1)
 have hq := decP_range _ n1 n2
 have hr := decP_range _ n3 n4
 have hqo := hq.off
 have G := Grow.rfl' w
 refine gives_of Try.func81 Try.ntmps81 Try.results81 rfl rfl ?_
 refine W_seq (W_region rfl ?_)
 refine WL_some (og rfl ?_)
 (first | refine r_box_agg rfl ?_ | refine r_box_int rfl ?_ | refine r_box_slice rfl ?_ | refine r_box rfl rfl ?_)
 intro b1 w2 hb3 hc4 g5
 have hge6 := Nat.le_trans G.size hb3
 replace G := G.tr g5
 clear g5 hb3
 refine stp (r_alloc ?_)
 intro b7 w8 hb9 hc10 g11
 refine stp (r_assign_int rfl ?_)
 refine WL_nil ?_
 refine W_seq (W_region rfl ?_)
 refine stp (r_move (v := src) rfl ?_)
 refine stp (r_fieldAddr rfl ?_)
 have hge12 := Nat.le_trans G.size hb9
 have ne13 := Nat.ne_of_lt (Nat.lt_of_lt_of_le (lt_of_heap hc4) hb9)
 replace hc4 := g11.heap hc4
 replace G := G.tr g11
 clear g11 hb9
 refine stp (r_load (v := .int .i64 p.seg) rfl hc4 rfl ?_)
 refine stp (r_fieldAddr rfl ?_)
 refine stp (r_load (v := .int .i64 p.off) rfl hc4 rfl ?_)
 refine stp (r_srcWord H G rfl rfl rfl ?_)
 intro w14 g15
 replace hc4 := g15.heap hc4
 replace hc10 := g15.heap hc10
 replace G := G.tr g15
 clear g15
 refine stp (r_move (v := .tuple #[.int .u64 ((s.word p.seg p.off).1), .int .u16 ((s.word p.seg p.off).2)]) rfl ?_)
 refine stp (r_extract (v := .int .u64 ((s.word p.seg p.off).1)) rfl rfl ?_)
 refine stp (r_extract (v := .int .u16 ((s.word p.seg p.off).2)) rfl rfl ?_)
 refine stp (r_assign_int rfl ?_)
 refine stp (r_assign_int rfl ?_)
 refine WL_nil ?_
 refine W_seq ?_
 refine W_seq (W_region rfl ?_)
 refine stp (r_move_int rfl ?_)
 refine stp (r_neq rfl rfl ?_)
 refine WL_nil ?_
 refine W_cond2 (b := (decide (((s.word p.seg p.off).2) ≠ 0))) rfl (fun h1 => ?_) (fun h1 => ?_)
 ·-- true
  replace h1 := of_decide_eq_true h1
  refine W_seq (W_region rfl ?_)
  refine stp (r_build (v := .agg #[.int .i64 0, .int .i64 0, .int .i64 0, .int .i64 0, .int .i64 0, .int .i64 0, .int .i64 0]) (fun w => by kernel_rfl) ?_)
  refine stp (r_move_int rfl ?_)
  refine stn (r_storeAll rfl rfl hc10 (by rfl) (by rfl) (by rfl) ?_)
  intro w16 hc17 u18
  replace hc4 := u18.heap hc4 ne13
  replace G := G.upd u18 hge12
  clear u18 hc10
  refine stp (r_assign_int rfl ?_)
  refine WL_nil ?_
  refine W_ret ?_
  refine ret2 (res_all rfl hc17 (by rfl)) (res_tmp (v := .int .u16 ((s.word p.seg p.off).2)) rfl) ⟨?_, G⟩
  have h9 : twiceS s p = (Ob0, (s.word p.seg p.off).2) := by unfold twiceS; rw [if_pos h1]
  rw [h9]; rfl
 ·-- false
  replace h1 := of_decide_eq_false h1
  refine W_skip ?_
  refine W_seq (W_region rfl ?_)
  refine stp (r_move (v := src) rfl ?_)
  refine stp (r_fieldAddr rfl ?_)
  refine stp (r_load (v := .int .i64 p.seg) rfl hc4 rfl ?_)
  refine stp (r_fieldAddr rfl ?_)
  refine stp (r_load (v := .int .i64 p.off) rfl hc4 rfl ?_)
  refine stp (r_add rfl rfl ?_ ?_); constructor <;> omega
  refine stp (r_srcWord H G rfl rfl rfl ?_)
  intro w19 g20
  replace hc4 := g20.heap hc4
  replace hc10 := g20.heap hc10
  replace G := G.tr g20
  clear g20
  refine stp (r_move (v := .tuple #[.int .u64 ((s.word p.seg (p.off + 1)).1), .int .u16 ((s.word p.seg (p.off + 1)).2)]) rfl ?_)
  refine stp (r_extract (v := .int .u64 ((s.word p.seg (p.off + 1)).1)) rfl rfl ?_)
  refine stp (r_extract (v := .int .u16 ((s.word p.seg (p.off + 1)).2)) rfl rfl ?_)
  refine stp (r_assign_int rfl ?_)
  refine stp (r_assign_int rfl ?_)
  refine WL_nil ?_
  refine W_seq ?_
  refine W_seq (W_region rfl ?_)
  refine stp (r_move_int rfl ?_)
  refine stp (r_neq rfl rfl ?_)
  refine WL_nil ?_
  refine W_cond2 (b := (decide (((s.word p.seg (p.off + 1)).2) ≠ 0))) rfl (fun h2 => ?_) (fun h2 => ?_)
  ·-- true
   replace h2 := of_decide_eq_true h2
   refine W_seq (W_region rfl ?_)
   refine stp (r_build (v := .agg #[.int .i64 0, .int .i64 0, .int .i64 0, .int .i64 0, .int .i64 0, .int .i64 0, .int .i64 0]) (fun w => by kernel_rfl) ?_)
   refine stp (r_move_int rfl ?_)
   refine stn (r_storeAll rfl rfl hc10 (by rfl) (by rfl) (by rfl) ?_)
   intro w21 hc22 u23
   replace hc4 := u23.heap hc4 ne13
   replace G := G.upd u23 hge12
   clear u23 hc10
   refine stp (r_assign_int rfl ?_)
   refine WL_nil ?_
   refine W_ret ?_
   refine ret2 (res_all rfl hc22 (by rfl)) (res_tmp (v := .int .u16 ((s.word p.seg (p.off + 1)).2)) rfl) ⟨?_, G⟩
   have h9 : twiceS s p = (Ob0, (s.word p.seg (p.off + 1)).2) := by unfold twiceS; rw [if_neg h1, if_pos h2]
   rw [h9]; rfl
  ·-- false
   replace h2 := of_decide_eq_false h2
   refine W_skip ?_
   refine W_seq (W_region rfl ?_)
   refine stp (r_move_int rfl ?_)
   refine stp (r_gives (v := .tuple #[.agg #[.int .i64 ((decP (s.word p.seg p.off).1).kind), .int .i64 ((decP (s.word p.seg p.off).1).off), .int .i64 ((decP (s.word p.seg p.off).1).data), .int .i64 ((decP (s.word p.seg p.off).1).ptrs), .int .i64 ((decP (s.word p.seg p.off).1).size), .int .i64 ((decP (s.word p.seg p.off).1).count), .int .i64 ((decP (s.word p.seg p.off).1).seg), .bool ((decP (s.word p.seg p.off).1).dbl)], .int .u16 (decE (s.word p.seg p.off).1)]) rfl (decode_calls _ _ (H.num p.seg p.off).1 (H.num p.seg p.off).2.1) ?_)
   intro w24 g25
   replace hc4 := g25.heap hc4
   replace hc10 := g25.heap hc10
   replace G := G.tr g25
   clear g25
   refine stp (r_move (v := .tuple #[.agg #[.int .i64 ((decP (s.word p.seg p.off).1).kind), .int .i64 ((decP (s.word p.seg p.off).1).off), .int .i64 ((decP (s.word p.seg p.off).1).data), .int .i64 ((decP (s.word p.seg p.off).1).ptrs), .int .i64 ((decP (s.word p.seg p.off).1).size), .int .i64 ((decP (s.word p.seg p.off).1).count), .int .i64 ((decP (s.word p.seg p.off).1).seg), .bool ((decP (s.word p.seg p.off).1).dbl)], .int .u16 (decE (s.word p.seg p.off).1)]) rfl ?_)
   refine stp (r_extract (v := .agg #[.int .i64 ((decP (s.word p.seg p.off).1).kind), .int .i64 ((decP (s.word p.seg p.off).1).off), .int .i64 ((decP (s.word p.seg p.off).1).data), .int .i64 ((decP (s.word p.seg p.off).1).ptrs), .int .i64 ((decP (s.word p.seg p.off).1).size), .int .i64 ((decP (s.word p.seg p.off).1).count), .int .i64 ((decP (s.word p.seg p.off).1).seg), .bool ((decP (s.word p.seg p.off).1).dbl)]) rfl rfl ?_)
   refine stp (r_extract (v := .int .u16 (decE (s.word p.seg p.off).1)) rfl rfl ?_)
   refine stp (r_alloc ?_)
   intro b26 w27 hb28 hc29 g30
   refine stn (r_storeAll rfl rfl hc29 (by rfl) (by rfl) (by rfl) ?_)
   intro w31 hc32 u33
   have g34 := g30.upd u33 hb28
   have hge35 := Nat.le_trans G.size hb28
   have ne36 := Nat.ne_of_lt (Nat.lt_of_lt_of_le (lt_of_heap hc4) hb28)
   have ne37 := Nat.ne_of_lt (Nat.lt_of_lt_of_le (lt_of_heap hc10) hb28)
   replace hc4 := g34.heap hc4
   replace hc10 := g34.heap hc10
   replace G := G.tr g34
   clear u33 g30 hb28 hc29
   refine stp (r_assign_int rfl ?_)
   refine WL_nil ?_
   refine W_seq ?_
   refine W_seq (W_region rfl ?_)
   refine stp (r_move_int rfl ?_)
   refine stp (r_neq rfl rfl ?_)
   refine WL_nil ?_
   refine W_cond2 (b := (decide ((decE (s.word p.seg p.off).1) ≠ 0))) rfl (fun h3 => ?_) (fun h3 => ?_)
   ·-- true
    replace h3 := of_decide_eq_true h3
    refine W_seq (W_region rfl ?_)
    refine stp (r_build (v := .agg #[.int .i64 0, .int .i64 0, .int .i64 0, .int .i64 0, .int .i64 0, .int .i64 0, .int .i64 0]) (fun w => by kernel_rfl) ?_)
    refine stp (r_move_int rfl ?_)
    refine stn (r_storeAll rfl rfl hc10 (by rfl) (by rfl) (by rfl) ?_)
    intro w38 hc39 u40
    replace hc4 := u40.heap hc4 ne13
    replace hc32 := u40.heap hc32 ne37.symm
    replace G := G.upd u40 hge12
    clear u40 hc10
    refine stp (r_assign_int rfl ?_)
    refine WL_nil ?_
    refine W_ret ?_
    refine ret2 (res_all rfl hc39 (by rfl)) (res_tmp (v := .int .u16 (decE (s.word p.seg p.off).1)) rfl) ⟨?_, G⟩
    have h9 : twiceS s p = (Ob0, decE (s.word p.seg p.off).1) := by unfold twiceS; rw [if_neg h1, if_neg h2, if_pos h3]
    rw [h9]; rfl
   ·-- false
    replace h3 := of_decide_eq_false h3
    refine W_skip ?_
    refine W_seq (W_region rfl ?_)
    refine stp (r_move_int rfl ?_)
    refine stp (r_gives (v := .tuple #[.agg #[.int .i64 ((decP (s.word p.seg (p.off + 1)).1).kind), .int .i64 ((decP (s.word p.seg (p.off + 1)).1).off), .int .i64 ((decP (s.word p.seg (p.off + 1)).1).data), .int .i64 ((decP (s.word p.seg (p.off + 1)).1).ptrs), .int .i64 ((decP (s.word p.seg (p.off + 1)).1).size), .int .i64 ((decP (s.word p.seg (p.off + 1)).1).count), .int .i64 ((decP (s.word p.seg (p.off + 1)).1).seg), .bool ((decP (s.word p.seg (p.off + 1)).1).dbl)], .int .u16 (decE (s.word p.seg (p.off + 1)).1)]) rfl (decode_calls _ _ (H.num p.seg (p.off + 1)).1 (H.num p.seg (p.off + 1)).2.1) ?_)
    intro w41 g42
    replace hc4 := g42.heap hc4
    replace hc10 := g42.heap hc10
    replace hc32 := g42.heap hc32
    replace G := G.tr g42
    clear g42
    refine stp (r_move (v := .tuple #[.agg #[.int .i64 ((decP (s.word p.seg (p.off + 1)).1).kind), .int .i64 ((decP (s.word p.seg (p.off + 1)).1).off), .int .i64 ((decP (s.word p.seg (p.off + 1)).1).data), .int .i64 ((decP (s.word p.seg (p.off + 1)).1).ptrs), .int .i64 ((decP (s.word p.seg (p.off + 1)).1).size), .int .i64 ((decP (s.word p.seg (p.off + 1)).1).count), .int .i64 ((decP (s.word p.seg (p.off + 1)).1).seg), .bool ((decP (s.word p.seg (p.off + 1)).1).dbl)], .int .u16 (decE (s.word p.seg (p.off + 1)).1)]) rfl ?_)
    refine stp (r_extract (v := .agg #[.int .i64 ((decP (s.word p.seg (p.off + 1)).1).kind), .int .i64 ((decP (s.word p.seg (p.off + 1)).1).off), .int .i64 ((decP (s.word p.seg (p.off + 1)).1).data), .int .i64 ((decP (s.word p.seg (p.off + 1)).1).ptrs), .int .i64 ((decP (s.word p.seg (p.off + 1)).1).size), .int .i64 ((decP (s.word p.seg (p.off + 1)).1).count), .int .i64 ((decP (s.word p.seg (p.off + 1)).1).seg), .bool ((decP (s.word p.seg (p.off + 1)).1).dbl)]) rfl rfl ?_)
    refine stp (r_extract (v := .int .u16 (decE (s.word p.seg (p.off + 1)).1)) rfl rfl ?_)
    refine stp (r_alloc ?_)
    intro b43 w44 hb45 hc46 g47
    refine stn (r_storeAll rfl rfl hc46 (by rfl) (by rfl) (by rfl) ?_)
    intro w48 hc49 u50
    have g51 := g47.upd u50 hb45
    have hge52 := Nat.le_trans G.size hb45
    have ne53 := Nat.ne_of_lt (Nat.lt_of_lt_of_le (lt_of_heap hc4) hb45)
    have ne54 := Nat.ne_of_lt (Nat.lt_of_lt_of_le (lt_of_heap hc10) hb45)
    have ne55 := Nat.ne_of_lt (Nat.lt_of_lt_of_le (lt_of_heap hc32) hb45)
    replace hc4 := g51.heap hc4
    replace hc10 := g51.heap hc10
    replace hc32 := g51.heap hc32
    replace G := G.tr g51
    clear u50 g47 hb45 hc46
    refine stp (r_assign_int rfl ?_)
    refine WL_nil ?_
    refine W_seq ?_
    refine W_block ?_
    refine W_seq (W_region rfl ?_)
    refine stp (r_move_int rfl ?_)
    refine stp (r_neq rfl rfl ?_)
    refine stp (r_assign_bool rfl ?_)
    refine WL_nil ?_
    refine W_cond2 (b := (decide ((decE (s.word p.seg (p.off + 1)).1) ≠ 0))) rfl (fun h4 => ?_) (fun h4 => ?_)
    ·-- true
     replace h4 := of_decide_eq_true h4
     refine W_seq (W_region rfl ?_)
     refine stp (r_build (v := .agg #[.int .i64 0, .int .i64 0, .int .i64 0, .int .i64 0, .int .i64 0, .int .i64 0, .int .i64 0]) (fun w => by kernel_rfl) ?_)
     refine stp (r_move_int rfl ?_)
     refine stn (r_storeAll rfl rfl hc10 (by rfl) (by rfl) (by rfl) ?_)
     intro w56 hc57 u58
     replace hc4 := u58.heap hc4 ne13
     replace hc32 := u58.heap hc32 ne37.symm
     replace hc49 := u58.heap hc49 ne54.symm
     replace G := G.upd u58 hge12
     clear u58 hc10
     refine stp (r_assign_int rfl ?_)
     refine WL_nil ?_
     refine W_ret ?_
     refine ret2 (res_all rfl hc57 (by rfl)) (res_tmp (v := .int .u16 (decE (s.word p.seg (p.off + 1)).1)) rfl) ⟨?_, G⟩
     have h9 : twiceS s p = (Ob0, decE (s.word p.seg (p.off + 1)).1) := by unfold twiceS; rw [if_neg h1, if_neg h2, if_neg h3, if_pos h4]
     rw [h9]; rfl
    ·-- false
     replace h4 := of_decide_eq_false h4
     refine W_seq (W_region rfl ?_)
     refine stp (r_fieldAddr rfl ?_)
     refine stp (r_load (v := .int .i64 ((decP (s.word p.seg p.off).1).kind)) rfl hc32 rfl ?_)
     refine stp (r_neq rfl rfl ?_)
     refine stp (r_move_bool rfl ?_)
     refine WL_some (og_if (s := .bool (decide (((decP (s.word p.seg p.off).1).kind) ≠ 3))) (b := false) (v := .pointer (some ⟨b26, 7, none⟩)) rfl (wgb_f _) (fun hc59 => ?_) ?_)
     ·
      have hc59_ := hc59
      try simp only [sb] at hc59_
      refine r_fieldAddr rfl ?_
      exact ⟨rfl, rfl⟩
     refine WL_some (og_if (s := .bool (decide (((decP (s.word p.seg p.off).1).kind) ≠ 3))) (b := false) (v := .bool ((decP (s.word p.seg p.off).1).dbl)) rfl (wgb_f _) (fun hc60 => ?_) ?_)
     ·
      have hc60_ := hc60
      try simp only [sb] at hc60_
      refine r_load (v := .bool ((decP (s.word p.seg p.off).1).dbl)) (gvt hc60) hc32 rfl ?_
      exact ⟨rfl, rfl⟩
     refine stp (r_or2 rfl rfl rfl ?_)
     refine stp (r_move_bool rfl ?_)
     refine WL_some (og_if (s := .bool ((decide (((decP (s.word p.seg p.off).1).kind) ≠ 3)) || ((decP (s.word p.seg p.off).1).dbl))) (b := false) (v := .agg #[.int .i64 ((decP (s.word p.seg (p.off + 1)).1).kind), .int .i64 ((decP (s.word p.seg (p.off + 1)).1).off), .int .i64 ((decP (s.word p.seg (p.off + 1)).1).data), .int .i64 ((decP (s.word p.seg (p.off + 1)).1).ptrs), .int .i64 ((decP (s.word p.seg (p.off + 1)).1).size), .int .i64 ((decP (s.word p.seg (p.off + 1)).1).count), .int .i64 ((decP (s.word p.seg (p.off + 1)).1).seg), .bool ((decP (s.word p.seg (p.off + 1)).1).dbl)]) rfl (wgb_f _) (fun hc61 => ?_) ?_)
     ·
      have hc61_ := hc61
      try simp only [sb] at hc61_
      refine r_loadAll rfl hc49 (by rfl) ?_
      exact ⟨rfl, rfl⟩
     refine WL_some (og_ifg (s := .bool ((decide (((decP (s.word p.seg p.off).1).kind) ≠ 3)) || ((decP (s.word p.seg p.off).1).dbl))) (b := false) (v := .bool (nearP (decP (s.word p.seg (p.off + 1)).1))) rfl (wgb_f _) (fun hc62 => ?_) ?_)
     ·
      have hc62_ := hc62
      try simp only [sb] at hc62_
      exact r_givesA (l := ([.agg #[.int .i64 ((decP (s.word p.seg (p.off + 1)).1).kind), .int .i64 ((decP (s.word p.seg (p.off + 1)).1).off), .int .i64 ((decP (s.word p.seg (p.off + 1)).1).data), .int .i64 ((decP (s.word p.seg (p.off + 1)).1).ptrs), .int .i64 ((decP (s.word p.seg (p.off + 1)).1).size), .int .i64 ((decP (s.word p.seg (p.off + 1)).1).count), .int .i64 ((decP (s.word p.seg (p.off + 1)).1).seg), .bool ((decP (s.word p.seg (p.off + 1)).1).dbl)]] : List Value)) rfl (by show ([gv (!((decide (((decP (s.word p.seg p.off).1).kind) ≠ 3)) || ((decP (s.word p.seg p.off).1).dbl))) (.agg #[.int .i64 ((decP (s.word p.seg (p.off + 1)).1).kind), .int .i64 ((decP (s.word p.seg (p.off + 1)).1).off), .int .i64 ((decP (s.word p.seg (p.off + 1)).1).data), .int .i64 ((decP (s.word p.seg (p.off + 1)).1).ptrs), .int .i64 ((decP (s.word p.seg (p.off + 1)).1).size), .int .i64 ((decP (s.word p.seg (p.off + 1)).1).count), .int .i64 ((decP (s.word p.seg (p.off + 1)).1).seg), .bool ((decP (s.word p.seg (p.off + 1)).1).dbl)])] : List Value) = _; rw [gvt hc62]) (isnear_calls _ (decP (s.word p.seg (p.off + 1)).1)) (fun w2_ g2_ => ⟨rfl, g2_⟩)
     intro w63 g64
     replace hc4 := g64.heap hc4
     replace hc10 := g64.heap hc10
     replace hc32 := g64.heap hc32
     replace hc49 := g64.heap hc49
     replace G := G.tr g64
     clear g64
     refine WL_some (og_if (s := .bool ((decide (((decP (s.word p.seg p.off).1).kind) ≠ 3)) || ((decP (s.word p.seg p.off).1).dbl))) (b := false) (v := .bool (!(nearP (decP (s.word p.seg (p.off + 1)).1)))) rfl (wgb_f _) (fun hc65 => ?_) ?_)
     ·
      have hc65_ := hc65
      try simp only [sb] at hc65_
      refine r_not (gvt hc65) ?_
      exact ⟨rfl, rfl⟩
     refine stp (r_or2 rfl rfl rfl ?_)
     refine stp (r_move_bool rfl ?_)
     refine WL_some (og_if (s := .bool (((decide (((decP (s.word p.seg p.off).1).kind) ≠ 3)) || ((decP (s.word p.seg p.off).1).dbl)) || (!(nearP (decP (s.word p.seg (p.off + 1)).1))))) (b := false) (v := .pointer (some ⟨b43, 1, none⟩)) rfl (wgb_f _) (fun hc66 => ?_) ?_)
     ·
      have hc66_ := hc66
      try simp only [sb] at hc66_
      refine r_fieldAddr rfl ?_
      exact ⟨rfl, rfl⟩
     refine WL_some (og_if (s := .bool (((decide (((decP (s.word p.seg p.off).1).kind) ≠ 3)) || ((decP (s.word p.seg p.off).1).dbl)) || (!(nearP (decP (s.word p.seg (p.off + 1)).1))))) (b := false) (v := .int .i64 ((decP (s.word p.seg (p.off + 1)).1).off)) rfl (wgb_f _) (fun hc67 => ?_) ?_)
     ·
      have hc67_ := hc67
      try simp only [sb] at hc67_
      refine r_load (v := .int .i64 ((decP (s.word p.seg (p.off + 1)).1).off)) (gvt hc67) hc49 rfl ?_
      exact ⟨rfl, rfl⟩
     refine WL_some (og_if (s := .bool (((decide (((decP (s.word p.seg p.off).1).kind) ≠ 3)) || ((decP (s.word p.seg p.off).1).dbl)) || (!(nearP (decP (s.word p.seg (p.off + 1)).1))))) (b := false) (v := .bool (decide (((decP (s.word p.seg (p.off + 1)).1).off) ≠ 0))) rfl (wgb_f _) (fun hc68 => ?_) ?_)
     ·
      have hc68_ := hc68
      try simp only [sb] at hc68_
      refine r_neq (gvt hc68) rfl ?_
      exact ⟨rfl, rfl⟩
     refine stp (r_or2 rfl rfl rfl ?_)
     refine stp (r_assign_bool rfl ?_)
     refine WL_nil ?_
     refine W_cond2 (b := ((((decide (((decP (s.word p.seg p.off).1).kind) ≠ 3)) || ((decP (s.word p.seg p.off).1).dbl)) || (!(nearP (decP (s.word p.seg (p.off + 1)).1)))) || (decide (((decP (s.word p.seg (p.off + 1)).1).off) ≠ 0)))) rfl (fun h5 => ?_) (fun h5 => ?_)
     ·-- true
      simp only [sb] at h5
      have h8 : (decP (s.word p.seg p.off).1).kind ≠ 3 ∨ (decP (s.word p.seg p.off).1).dbl = true ∨ nearP (decP (s.word p.seg (p.off + 1)).1) = false ∨ (decP (s.word p.seg (p.off + 1)).1).off ≠ 0 := by simpa [or_assoc] using h5
      refine W_seq (W_region rfl ?_)
      refine stp (r_build (v := .agg #[.int .i64 0, .int .i64 0, .int .i64 0, .int .i64 0, .int .i64 0, .int .i64 0, .int .i64 0]) (fun w => by kernel_rfl) ?_)
      refine stn (r_storeAll rfl rfl hc10 (by rfl) (by rfl) (by rfl) ?_)
      intro w69 hc70 u71
      replace hc4 := u71.heap hc4 ne13
      replace hc32 := u71.heap hc32 ne37.symm
      replace hc49 := u71.heap hc49 ne54.symm
      replace G := G.upd u71 hge12
      clear u71 hc10
      refine stp (r_assign_int rfl ?_)
      refine WL_nil ?_
      refine W_ret ?_
      refine ret2 (res_all rfl hc70 (by rfl)) (res_tmp (v := .int .u16 23) rfl) ⟨?_, G⟩
      have h9 : twiceS s p = (Ob0, 23) := by unfold twiceS; rw [if_neg h1, if_neg h2, if_neg h3, if_neg h4, if_pos h8]
      rw [h9]; rfl
     ·-- false
      simp only [sb] at h5
      have h8 : ¬ ((decP (s.word p.seg p.off).1).kind ≠ 3 ∨ (decP (s.word p.seg p.off).1).dbl = true ∨ nearP (decP (s.word p.seg (p.off + 1)).1) = false ∨ (decP (s.word p.seg (p.off + 1)).1).off ≠ 0) := by simpa [and_assoc] using h5
      refine W_skip ?_
      refine W_seq (W_region rfl ?_)
      refine stp (r_move (v := src) rfl ?_)
      refine stp (r_loadAll rfl hc49 (by rfl) ?_)
      refine stp (r_fieldAddr rfl ?_)
      refine stp (r_load (v := .int .i64 ((decP (s.word p.seg p.off).1).seg)) rfl hc32 rfl ?_)
      refine stp (r_fieldAddr rfl ?_)
      refine stp (r_load (v := .int .i64 ((decP (s.word p.seg p.off).1).off)) rfl hc32 rfl ?_)
      refine stp (r_gives (v := .tuple #[.agg #[.int .i64 ((foundS s (decP (s.word p.seg (p.off + 1)).1) ((decP (s.word p.seg p.off).1).seg) ((decP (s.word p.seg p.off).1).off)).1.kind), .int .i64 ((foundS s (decP (s.word p.seg (p.off + 1)).1) ((decP (s.word p.seg p.off).1).seg) ((decP (s.word p.seg p.off).1).off)).1.seg), .int .i64 ((foundS s (decP (s.word p.seg (p.off + 1)).1) ((decP (s.word p.seg p.off).1).seg) ((decP (s.word p.seg p.off).1).off)).1.at_), .int .i64 ((foundS s (decP (s.word p.seg (p.off + 1)).1) ((decP (s.word p.seg p.off).1).seg) ((decP (s.word p.seg p.off).1).off)).1.data), .int .i64 ((foundS s (decP (s.word p.seg (p.off + 1)).1) ((decP (s.word p.seg p.off).1).seg) ((decP (s.word p.seg p.off).1).off)).1.ptrs), .int .i64 ((foundS s (decP (s.word p.seg (p.off + 1)).1) ((decP (s.word p.seg p.off).1).seg) ((decP (s.word p.seg p.off).1).off)).1.size), .int .i64 ((foundS s (decP (s.word p.seg (p.off + 1)).1) ((decP (s.word p.seg p.off).1).seg) ((decP (s.word p.seg p.off).1).off)).1.count)], .int .u16 ((foundS s (decP (s.word p.seg (p.off + 1)).1) ((decP (s.word p.seg p.off).1).seg) ((decP (s.word p.seg p.off).1).off)).2)]) rfl (found_calls _ (H.grow G) (decP (s.word p.seg (p.off + 1)).1) ((decP (s.word p.seg p.off).1).seg) ((decP (s.word p.seg p.off).1).off) hr (by simp only [inR]; omega)) ?_)
      intro w72 g73
      replace hc4 := g73.heap hc4
      replace hc10 := g73.heap hc10
      replace hc32 := g73.heap hc32
      replace hc49 := g73.heap hc49
      replace G := G.tr g73
      clear g73
      refine stp (r_extract (v := .agg #[.int .i64 ((foundS s (decP (s.word p.seg (p.off + 1)).1) ((decP (s.word p.seg p.off).1).seg) ((decP (s.word p.seg p.off).1).off)).1.kind), .int .i64 ((foundS s (decP (s.word p.seg (p.off + 1)).1) ((decP (s.word p.seg p.off).1).seg) ((decP (s.word p.seg p.off).1).off)).1.seg), .int .i64 ((foundS s (decP (s.word p.seg (p.off + 1)).1) ((decP (s.word p.seg p.off).1).seg) ((decP (s.word p.seg p.off).1).off)).1.at_), .int .i64 ((foundS s (decP (s.word p.seg (p.off + 1)).1) ((decP (s.word p.seg p.off).1).seg) ((decP (s.word p.seg p.off).1).off)).1.data), .int .i64 ((foundS s (decP (s.word p.seg (p.off + 1)).1) ((decP (s.word p.seg p.off).1).seg) ((decP (s.word p.seg p.off).1).off)).1.ptrs), .int .i64 ((foundS s (decP (s.word p.seg (p.off + 1)).1) ((decP (s.word p.seg p.off).1).seg) ((decP (s.word p.seg p.off).1).off)).1.size), .int .i64 ((foundS s (decP (s.word p.seg (p.off + 1)).1) ((decP (s.word p.seg p.off).1).seg) ((decP (s.word p.seg p.off).1).off)).1.count)]) rfl rfl ?_)
      refine stp (r_extract (v := .int .u16 ((foundS s (decP (s.word p.seg (p.off + 1)).1) ((decP (s.word p.seg p.off).1).seg) ((decP (s.word p.seg p.off).1).off)).2)) rfl rfl ?_)
      refine stn (r_storeAll rfl rfl hc10 (by rfl) (by rfl) (by rfl) ?_)
      intro w74 hc75 u76
      replace hc4 := u76.heap hc4 ne13
      replace hc32 := u76.heap hc32 ne37.symm
      replace hc49 := u76.heap hc49 ne54.symm
      replace G := G.upd u76 hge12
      clear u76 hc10
      refine stp (r_assign_int rfl ?_)
      refine WL_nil ?_
      refine W_ret ?_
      refine ret2 (res_all rfl hc75 (by rfl)) (res_tmp (v := .int .u16 ((foundS s (decP (s.word p.seg (p.off + 1)).1) ((decP (s.word p.seg p.off).1).seg) ((decP (s.word p.seg p.off).1).off)).2)) rfl) ⟨?_, G⟩
      have h9 : twiceS s p = foundS s (decP (s.word p.seg (p.off + 1)).1) (decP (s.word p.seg p.off).1).seg (decP (s.word p.seg p.off).1).off := by unfold twiceS; rw [if_neg h1, if_neg h2, if_neg h3, if_neg h4, if_neg h8]
      rw [h9]

set_option maxRecDepth 100000 in
theorem follow_calls (w : World) {src : Value} {s : Src} (H : SrcOk Try.prog w src s) (seg a : Int) : Gives Try.prog 55 #[src, .int .i64 seg, .int .i64 a] w (.tuple #[.agg #[.int .i64 ((followS s seg a).1.kind), .int .i64 ((followS s seg a).1.seg), .int .i64 ((followS s seg a).1.at_), .int .i64 ((followS s seg a).1.data), .int .i64 ((followS s seg a).1.ptrs), .int .i64 ((followS s seg a).1.size), .int .i64 ((followS s seg a).1.count)], .int .u16 ((followS s seg a).2)]) := by
 obtain ⟨t_, u_, f_, hsrc, -, -⟩ := H.word
 have hq := ptrS_range H seg a
 have hqo := hq.off
 have G := Grow.rfl' w
 refine gives_of Try.func55 Try.ntmps55 Try.results55 rfl rfl ?_
 refine W_seq (W_region rfl ?_)
 refine stp (r_alloc ?_)
 intro b1 w2 hb3 hc4 g5
 refine stp (r_assign_int rfl ?_)
 refine WL_nil ?_
 refine W_seq ?_
 refine W_seq (W_region rfl ?_)
 refine stp (r_move (v := src) rfl ?_)
 refine stp (r_eqlIfc (T := t_) (v := u_) hsrc rfl ?_)
 refine WL_nil ?_
 have hge6 := Nat.le_trans G.size hb3
 replace G := G.tr g5
 clear g5 hb3
 refine W_false rfl ?_
 refine W_skip ?_
 refine W_seq (W_region rfl ?_)
 refine stp (r_move (v := src) rfl ?_)
 refine stp (r_move_int rfl ?_)
 refine stp (r_move_int rfl ?_)
 refine stp (r_gives (v := .tuple #[.agg #[.int .i64 ((ptrS s seg a).1.kind), .int .i64 ((ptrS s seg a).1.off), .int .i64 ((ptrS s seg a).1.data), .int .i64 ((ptrS s seg a).1.ptrs), .int .i64 ((ptrS s seg a).1.size), .int .i64 ((ptrS s seg a).1.count), .int .i64 ((ptrS s seg a).1.seg), .bool ((ptrS s seg a).1.dbl)], .int .u16 ((ptrS s seg a).2)]) rfl (pointer_calls _ (H.grow G) seg a) ?_)
 intro w7 g8
 replace hc4 := g8.heap hc4
 replace G := G.tr g8
 clear g8
 refine stp (r_move (v := .tuple #[.agg #[.int .i64 ((ptrS s seg a).1.kind), .int .i64 ((ptrS s seg a).1.off), .int .i64 ((ptrS s seg a).1.data), .int .i64 ((ptrS s seg a).1.ptrs), .int .i64 ((ptrS s seg a).1.size), .int .i64 ((ptrS s seg a).1.count), .int .i64 ((ptrS s seg a).1.seg), .bool ((ptrS s seg a).1.dbl)], .int .u16 ((ptrS s seg a).2)]) rfl ?_)
 refine stp (r_extract (v := .agg #[.int .i64 ((ptrS s seg a).1.kind), .int .i64 ((ptrS s seg a).1.off), .int .i64 ((ptrS s seg a).1.data), .int .i64 ((ptrS s seg a).1.ptrs), .int .i64 ((ptrS s seg a).1.size), .int .i64 ((ptrS s seg a).1.count), .int .i64 ((ptrS s seg a).1.seg), .bool ((ptrS s seg a).1.dbl)]) rfl rfl ?_)
 refine stp (r_extract (v := .int .u16 ((ptrS s seg a).2)) rfl rfl ?_)
 refine stp (r_alloc ?_)
 intro b9 w10 hb11 hc12 g13
 refine stn (r_storeAll rfl rfl hc12 (by rfl) (by rfl) (by rfl) ?_)
 intro w14 hc15 u16
 have g17 := g13.upd u16 hb11
 have hge18 := Nat.le_trans G.size hb11
 have ne19 := Nat.ne_of_lt (Nat.lt_of_lt_of_le (lt_of_heap hc4) hb11)
 replace hc4 := g17.heap hc4
 replace G := G.tr g17
 clear u16 g13 hb11 hc12
 refine stp (r_assign_int rfl ?_)
 refine WL_nil ?_
 refine W_seq ?_
 refine W_block ?_
 refine W_seq (W_region rfl ?_)
 refine stp (r_move_int rfl ?_)
 refine stp (r_neq rfl rfl ?_)
 refine stp (r_move_bool rfl ?_)
 refine WL_some (og_if (s := .bool (decide (((ptrS s seg a).2) ≠ 0))) (b := false) (v := .pointer (some ⟨b9, 0, none⟩)) rfl (wgb_f _) (fun hc20 => ?_) ?_)
 ·
  have hc20_ := hc20
  try simp only [sb] at hc20_
  refine r_fieldAddr rfl ?_
  exact ⟨rfl, rfl⟩
 refine WL_some (og_if (s := .bool (decide (((ptrS s seg a).2) ≠ 0))) (b := false) (v := .int .i64 ((ptrS s seg a).1.kind)) rfl (wgb_f _) (fun hc21 => ?_) ?_)
 ·
  have hc21_ := hc21
  try simp only [sb] at hc21_
  refine r_load (v := .int .i64 ((ptrS s seg a).1.kind)) (gvt hc21) hc15 rfl ?_
  exact ⟨rfl, rfl⟩
 refine WL_some (og_if (s := .bool (decide (((ptrS s seg a).2) ≠ 0))) (b := false) (v := .bool (decide (((ptrS s seg a).1.kind) = 0))) rfl (wgb_f _) (fun hc22 => ?_) ?_)
 ·
  have hc22_ := hc22
  try simp only [sb] at hc22_
  refine r_eql (gvt hc22) rfl ?_
  exact ⟨rfl, rfl⟩
 refine stp (r_or2 rfl rfl rfl ?_)
 refine stp (r_assign_bool rfl ?_)
 refine WL_nil ?_
 refine W_cond2 (b := ((decide (((ptrS s seg a).2) ≠ 0)) || (decide (((ptrS s seg a).1.kind) = 0)))) rfl (fun h1 => ?_) (fun h1 => ?_)
 ·-- true
  simp only [sb] at h1
  refine W_seq (W_region rfl ?_)
  refine stp (r_build (v := .agg #[.int .i64 0, .int .i64 0, .int .i64 0, .int .i64 0, .int .i64 0, .int .i64 0, .int .i64 0]) (fun w => by kernel_rfl) ?_)
  refine stp (r_move_int rfl ?_)
  refine stn (r_storeAll rfl rfl hc4 (by rfl) (by rfl) (by rfl) ?_)
  intro w23 hc24 u25
  replace hc15 := u25.heap hc15 ne19.symm
  replace G := G.upd u25 hge6
  clear u25 hc4
  refine stp (r_assign_int rfl ?_)
  refine WL_nil ?_
  refine W_ret ?_
  refine ret2 (res_all rfl hc24 (by rfl)) (res_tmp (v := .int .u16 ((ptrS s seg a).2)) rfl) ⟨?_, G⟩
  have h9 : followS s seg a = (Ob0, (ptrS s seg a).2) := by unfold followS; rw [if_pos h1]
  rw [h9]; rfl
 ·-- false
  simp only [sb] at h1
  have hz : (ptrS s seg a).2 = 0 := by omega
  have hb := ptrS_at H hz
  have h1n : ¬ ((ptrS s seg a).2 ≠ 0 ∨ (ptrS s seg a).1.kind = 0) := by omega
  refine W_seq (W_region rfl ?_)
  refine stp (r_loadAll rfl hc15 (by rfl) ?_)
  refine stp (r_gives (v := .bool (nearP ((ptrS s seg a).1))) rfl (isnear_calls _ ((ptrS s seg a).1)) ?_)
  intro w26 g27
  replace hc4 := g27.heap hc4
  replace hc15 := g27.heap hc15
  replace G := G.tr g27
  clear g27
  refine stp (r_assign_bool rfl ?_)
  refine WL_nil ?_
  refine W_cond2 (b := (nearP ((ptrS s seg a).1))) rfl (fun h2 => ?_) (fun h2 => ?_)
  ·-- true
   refine W_seq (W_region rfl ?_)
   refine stp (r_move (v := src) rfl ?_)
   refine stp (r_loadAll rfl hc15 (by rfl) ?_)
   refine stp (r_move_int rfl ?_)
   refine stp (r_move_int rfl ?_)
   refine stp (r_add rfl rfl ?_ ?_); constructor <;> omega
   refine stp (r_fieldAddr rfl ?_)
   refine stp (r_load (v := .int .i64 ((ptrS s seg a).1.off)) rfl hc15 rfl ?_)
   refine stp (r_add rfl rfl ?_ ?_); constructor <;> omega
   refine stp (r_gives (v := .tuple #[.agg #[.int .i64 ((foundS s ((ptrS s seg a).1) seg ((a + 1) + ((ptrS s seg a).1.off))).1.kind), .int .i64 ((foundS s ((ptrS s seg a).1) seg ((a + 1) + ((ptrS s seg a).1.off))).1.seg), .int .i64 ((foundS s ((ptrS s seg a).1) seg ((a + 1) + ((ptrS s seg a).1.off))).1.at_), .int .i64 ((foundS s ((ptrS s seg a).1) seg ((a + 1) + ((ptrS s seg a).1.off))).1.data), .int .i64 ((foundS s ((ptrS s seg a).1) seg ((a + 1) + ((ptrS s seg a).1.off))).1.ptrs), .int .i64 ((foundS s ((ptrS s seg a).1) seg ((a + 1) + ((ptrS s seg a).1.off))).1.size), .int .i64 ((foundS s ((ptrS s seg a).1) seg ((a + 1) + ((ptrS s seg a).1.off))).1.count)], .int .u16 ((foundS s ((ptrS s seg a).1) seg ((a + 1) + ((ptrS s seg a).1.off))).2)]) rfl (found_calls _ (H.grow G) ((ptrS s seg a).1) seg ((a + 1) + ((ptrS s seg a).1.off)) hq (by simp only [inR]; omega)) ?_)
   intro w28 g29
   replace hc4 := g29.heap hc4
   replace hc15 := g29.heap hc15
   replace G := G.tr g29
   clear g29
   refine stp (r_extract (v := .agg #[.int .i64 ((foundS s ((ptrS s seg a).1) seg ((a + 1) + ((ptrS s seg a).1.off))).1.kind), .int .i64 ((foundS s ((ptrS s seg a).1) seg ((a + 1) + ((ptrS s seg a).1.off))).1.seg), .int .i64 ((foundS s ((ptrS s seg a).1) seg ((a + 1) + ((ptrS s seg a).1.off))).1.at_), .int .i64 ((foundS s ((ptrS s seg a).1) seg ((a + 1) + ((ptrS s seg a).1.off))).1.data), .int .i64 ((foundS s ((ptrS s seg a).1) seg ((a + 1) + ((ptrS s seg a).1.off))).1.ptrs), .int .i64 ((foundS s ((ptrS s seg a).1) seg ((a + 1) + ((ptrS s seg a).1.off))).1.size), .int .i64 ((foundS s ((ptrS s seg a).1) seg ((a + 1) + ((ptrS s seg a).1.off))).1.count)]) rfl rfl ?_)
   refine stp (r_extract (v := .int .u16 ((foundS s ((ptrS s seg a).1) seg ((a + 1) + ((ptrS s seg a).1.off))).2)) rfl rfl ?_)
   refine stn (r_storeAll rfl rfl hc4 (by rfl) (by rfl) (by rfl) ?_)
   intro w30 hc31 u32
   replace hc15 := u32.heap hc15 ne19.symm
   replace G := G.upd u32 hge6
   clear u32 hc4
   refine stp (r_assign_int rfl ?_)
   refine WL_nil ?_
   refine W_ret ?_
   refine ret2 (res_all rfl hc31 (by rfl)) (res_tmp (v := .int .u16 ((foundS s ((ptrS s seg a).1) seg ((a + 1) + ((ptrS s seg a).1.off))).2)) rfl) ⟨?_, G⟩
   have h9 : followS s seg a = foundS s (ptrS s seg a).1 seg (a + 1 + (ptrS s seg a).1.off) := by unfold followS; rw [if_neg h1n, if_pos h2]
   rw [h9]
  ·-- false
   refine W_seq (W_region rfl ?_)
   refine stp (r_fieldAddr rfl ?_)
   refine stp (r_load (v := .bool ((ptrS s seg a).1.dbl)) rfl hc15 rfl ?_)
   refine stp (r_assign_bool rfl ?_)
   refine WL_nil ?_
   refine W_cond2 (b := ((ptrS s seg a).1.dbl)) rfl (fun h3 => ?_) (fun h3 => ?_)
   ·-- true
    refine W_seq (W_region rfl ?_)
    refine stp (r_move (v := src) rfl ?_)
    refine stp (r_loadAll rfl hc15 (by rfl) ?_)
    refine stp (r_gives (v := .tuple #[.agg #[.int .i64 ((twiceS s (ptrS s seg a).1).1.kind), .int .i64 ((twiceS s (ptrS s seg a).1).1.seg), .int .i64 ((twiceS s (ptrS s seg a).1).1.at_), .int .i64 ((twiceS s (ptrS s seg a).1).1.data), .int .i64 ((twiceS s (ptrS s seg a).1).1.ptrs), .int .i64 ((twiceS s (ptrS s seg a).1).1.size), .int .i64 ((twiceS s (ptrS s seg a).1).1.count)], .int .u16 ((twiceS s (ptrS s seg a).1).2)]) rfl (twice_calls _ (H.grow G) (ptrS s seg a).1 hq) ?_)
    intro w33 g34
    replace hc4 := g34.heap hc4
    replace hc15 := g34.heap hc15
    replace G := G.tr g34
    clear g34
    refine stp (r_extract (v := .agg #[.int .i64 ((twiceS s (ptrS s seg a).1).1.kind), .int .i64 ((twiceS s (ptrS s seg a).1).1.seg), .int .i64 ((twiceS s (ptrS s seg a).1).1.at_), .int .i64 ((twiceS s (ptrS s seg a).1).1.data), .int .i64 ((twiceS s (ptrS s seg a).1).1.ptrs), .int .i64 ((twiceS s (ptrS s seg a).1).1.size), .int .i64 ((twiceS s (ptrS s seg a).1).1.count)]) rfl rfl ?_)
    refine stp (r_extract (v := .int .u16 ((twiceS s (ptrS s seg a).1).2)) rfl rfl ?_)
    refine stn (r_storeAll rfl rfl hc4 (by rfl) (by rfl) (by rfl) ?_)
    intro w35 hc36 u37
    replace hc15 := u37.heap hc15 ne19.symm
    replace G := G.upd u37 hge6
    clear u37 hc4
    refine stp (r_assign_int rfl ?_)
    refine WL_nil ?_
    refine W_ret ?_
    refine ret2 (res_all rfl hc36 (by rfl)) (res_tmp (v := .int .u16 ((twiceS s (ptrS s seg a).1).2)) rfl) ⟨?_, G⟩
    have h9 : followS s seg a = twiceS s (ptrS s seg a).1 := by unfold followS; rw [if_neg h1n, if_neg (by simp [h2]), if_pos h3]
    rw [h9]
   ·-- false
    refine W_skip ?_
    refine W_seq (W_region rfl ?_)
    refine stp (r_move (v := src) rfl ?_)
    refine stp (r_loadAll rfl hc15 (by rfl) ?_)
    refine stp (r_gives (v := .tuple #[.agg #[.int .i64 ((landedS s (ptrS s seg a).1).1.kind), .int .i64 ((landedS s (ptrS s seg a).1).1.seg), .int .i64 ((landedS s (ptrS s seg a).1).1.at_), .int .i64 ((landedS s (ptrS s seg a).1).1.data), .int .i64 ((landedS s (ptrS s seg a).1).1.ptrs), .int .i64 ((landedS s (ptrS s seg a).1).1.size), .int .i64 ((landedS s (ptrS s seg a).1).1.count)], .int .u16 ((landedS s (ptrS s seg a).1).2)]) rfl (landed_calls _ (H.grow G) (ptrS s seg a).1 hq) ?_)
    intro w38 g39
    replace hc4 := g39.heap hc4
    replace hc15 := g39.heap hc15
    replace G := G.tr g39
    clear g39
    refine stp (r_extract (v := .agg #[.int .i64 ((landedS s (ptrS s seg a).1).1.kind), .int .i64 ((landedS s (ptrS s seg a).1).1.seg), .int .i64 ((landedS s (ptrS s seg a).1).1.at_), .int .i64 ((landedS s (ptrS s seg a).1).1.data), .int .i64 ((landedS s (ptrS s seg a).1).1.ptrs), .int .i64 ((landedS s (ptrS s seg a).1).1.size), .int .i64 ((landedS s (ptrS s seg a).1).1.count)]) rfl rfl ?_)
    refine stp (r_extract (v := .int .u16 ((landedS s (ptrS s seg a).1).2)) rfl rfl ?_)
    refine stn (r_storeAll rfl rfl hc4 (by rfl) (by rfl) (by rfl) ?_)
    intro w40 hc41 u42
    replace hc15 := u42.heap hc15 ne19.symm
    replace G := G.upd u42 hge6
    clear u42 hc4
    refine stp (r_assign_int rfl ?_)
    refine WL_nil ?_
    refine W_ret ?_
    refine ret2 (res_all rfl hc41 (by rfl)) (res_tmp (v := .int .u16 ((landedS s (ptrS s seg a).1).2)) rfl) ⟨?_, G⟩
    have h9 : followS s seg a = landedS s (ptrS s seg a).1 := by unfold followS; rw [if_neg h1n, if_neg (by simp [h2]), if_neg (by simp [h3])]
    rw [h9]

set_option maxRecDepth 100000 in
theorem pay_calls (w : World) {b : Nat} {o : Ob} {left : Int} {t_ : TypeId} {u_ : Value} (hb : w.heap[b]? = some (.cells #[.iface t_ u_, .int .i64 o.kind, .int .i64 o.seg, .int .i64 o.at_, .int .i64 o.data, .int .i64 o.ptrs, .int .i64 o.size, .int .i64 o.count, .int .i64 left] 116 (0, 0))) (h0 : -1 ≤ left ∧ left ≤ 9223372036854775807) (h1 : 0 ≤ wordsO o ∧ wordsO o ≤ 536870912) : Calls Try.prog 56 #[.pointer (some ⟨b, 0, none⟩)] w (Ret fun v w' => v = .int .u16 (if left - (1 + wordsO o) < 0 then 22 else 0) ∧ w'.heap[b]? = some (.cells #[.iface t_ u_, .int .i64 o.kind, .int .i64 o.seg, .int .i64 o.at_, .int .i64 o.data, .int .i64 o.ptrs, .int .i64 o.size, .int .i64 o.count, .int .i64 (left - (1 + wordsO o))] 116 (0, 0)) ∧ Kp [b] w w') := by
 have K := Kp.refl [b] w
 refine calls_ret Try.func56 Try.ntmps56 Try.results56 rfl rfl ?_
 refine W_seq (W_region rfl ?_)
 refine stp (r_assign_int rfl ?_)
 refine WL_nil ?_
 refine W_seq ?_
 refine W_any 12 [[], [0], [1, 0], [2, 1, 0], [], [0], [1, 0], [2, 1, 0], [3, 2, 1, 0], [4, 3, 2, 1, 0], [9, 8, 7, 6, 5, 4, 3, 2, 1, 0], [10, 9, 8, 7, 6, 5, 4, 3, 2, 1, 0]] mixed (by kernel_rfl) (by kernel_rfl) (by kernel_rfl) ?_
 intro w1 g2
 replace hb := g2.heap hb
 replace K := K.tr g2.kp
 clear g2
 apply AO_ex
 ·intro w_ g_; refine og rfl ?_; refine r_move_ptr rfl ?_; exact ⟨Grow.rfl' _, rfl⟩
 apply AO_ex
 ·intro w_ g_; refine og rfl ?_; refine r_nilCheck rfl ?_; exact ⟨Grow.rfl' _, rfl⟩
 apply AO_ex
 ·intro w_ g_; refine og rfl ?_; refine r_fieldAddr rfl ?_; exact ⟨Grow.rfl' _, rfl⟩
 apply AO_ex
 ·intro w_ g_; refine og rfl ?_; refine r_load (v := .int .i64 left) rfl (g_.heap hb) rfl ?_; exact ⟨Grow.rfl' _, rfl⟩
 apply AO_ex
 ·intro w_ g_; refine og rfl ?_; refine r_move_ptr rfl ?_; exact ⟨Grow.rfl' _, rfl⟩
 apply AO_ex
 ·intro w_ g_; refine og rfl ?_; refine r_nilCheck rfl ?_; exact ⟨Grow.rfl' _, rfl⟩
 apply AO_ex
 ·intro w_ g_; refine og rfl ?_; refine r_fieldAddr rfl ?_; exact ⟨Grow.rfl' _, rfl⟩
 apply AO_ex
 ·intro w_ g_; refine og rfl ?_; refine r_loadN rfl (g_.heap hb) (by rfl) (by rfl) ?_; exact ⟨Grow.rfl' _, rfl⟩
 apply AO_ex
 ·intro w_ g_; refine og rfl ?_; exact r_gives (v := .int .i64 (wordsO o)) rfl (owords_calls _ o) (fun w2_ g2_ => ⟨g2_, rfl⟩)
 apply AO_ex
 ·intro w_ g_; refine og rfl ?_; refine r_add rfl rfl ?_ ?_; constructor <;> omega; exact ⟨Grow.rfl' _, rfl⟩
 apply AO_ex
 ·intro w_ g_; refine og rfl ?_; refine r_sub rfl rfl ?_ ?_; constructor <;> omega; exact ⟨Grow.rfl' _, rfl⟩
 apply AO_ex
 ·intro w_ g_; refine og rfl ?_; refine r_nilCheck rfl ?_; exact ⟨Grow.rfl' _, rfl⟩
 refine AO_nil ?_
 intro w3 g4
 replace hb := g4.heap hb
 replace K := K.tr g4.kp
 clear g4
 refine stp (r_fieldAddr rfl ?_)
 refine stn (r_store1 (v := .int .i64 (left - (1 + (wordsO o)))) rfl rfl (by rfl) hb (by rfl) (by rfl) ?_)
 intro w5 hc6 u7
 replace K := K.tr (Kp.of_upd u7 (by simp))
 clear u7 hb
 refine WL_nil ?_
 refine W_seq ?_
 refine W_seq (W_region rfl ?_)
 refine stp (r_move_ptr rfl ?_)
 refine stp (r_nilCheck rfl ?_)
 refine stp (r_fieldAddr rfl ?_)
 refine stp (r_load (v := .int .i64 (left - (1 + (wordsO o)))) rfl hc6 rfl ?_)
 refine stp (r_lss rfl rfl ?_)
 refine WL_nil ?_
 refine W_cond2 (b := (decide ((left - (1 + (wordsO o))) < 0))) rfl (fun h2 => ?_) (fun h2 => ?_)
 ·-- true
  replace h2 := of_decide_eq_true h2
  refine W_seq (W_region rfl ?_)
  refine stp (r_assign_int rfl ?_)
  refine WL_nil ?_
  refine W_ret ?_
  refine ret1 (res_tmp (v := .int .u16 22) rfl) ⟨by rw [if_pos h2], hc6, K⟩
 ·-- false
  replace h2 := of_decide_eq_false h2
  refine W_skip ?_
  refine W_seq (W_region rfl ?_)
  refine stp (r_assign_int rfl ?_)
  refine WL_nil ?_
  refine W_ret ?_
  refine ret1 (res_tmp (v := .int .u16 0) rfl) ⟨by rw [if_neg h2], hc6, K⟩

set_option maxRecDepth 100000 in
theorem step_calls (w : World) {w0 : World} {s : Src} {t_ : TypeId} {u_ : Value} (H : SrcOk Try.prog w0 (.iface t_ u_) s) (g0 : Grow w0 w) {b : Nat} {o : Ob} {left k : Int} (hb0 : w0.heap.size ≤ b) (hb : w.heap[b]? = some (.cells #[.iface t_ u_, .int .i64 o.kind, .int .i64 o.seg, .int .i64 o.at_, .int .i64 o.data, .int .i64 o.ptrs, .int .i64 o.size, .int .i64 o.count, .int .i64 left] 116 (0, 0))) (ho : ObR o) (hk : 0 ≤ k) : Calls Try.prog 57 #[.pointer (some ⟨b, 0, none⟩), .int .i64 k] w (Ret fun v w' => v = .int .u16 (stepS s o k).2 ∧ w'.heap[b]? = some (.cells #[.iface t_ u_, .int .i64 ((stepS s o k).1.kind), .int .i64 ((stepS s o k).1.seg), .int .i64 ((stepS s o k).1.at_), .int .i64 ((stepS s o k).1.data), .int .i64 ((stepS s o k).1.ptrs), .int .i64 ((stepS s o k).1.size), .int .i64 ((stepS s o k).1.count), .int .i64 left] 116 (0, 0)) ∧ Kp [b] w w') := by
 obtain ⟨rk, rs, ra, rd, rp, rz, rc⟩ := ho
 have K := Kp.refl [b] w
 refine calls_ret Try.func57 Try.ntmps57 Try.results57 rfl rfl ?_
 have hblt := lt_of_heap hb
 refine W_seq (W_region rfl ?_)
 refine stp (r_assign_int rfl ?_)
 refine WL_nil ?_
 refine W_seq (W_region rfl ?_)
 refine stp (r_move_ptr rfl ?_)
 refine stp (r_nilCheck rfl ?_)
 refine stp (r_fieldAddr rfl ?_)
 refine stp (r_loadN rfl hb (by rfl) (by rfl) ?_)
 refine stp (r_alloc ?_)
 intro b1 w2 hb3 hc4 g5
 refine stn (r_storeAll rfl rfl hc4 (by rfl) (by rfl) (by rfl) ?_)
 intro w6 hc7 u8
 have g9 := g5.upd u8 hb3
 have hge10 := Nat.le_trans K.size hb3
 replace hb := g9.heap hb
 replace K := K.tr g9.kp
 replace g0 := g0.tr g9
 clear u8 g5 hb3 hc4
 refine WL_nil ?_
 refine W_seq (W_region rfl ?_)
 refine stp (r_fieldAddr rfl ?_)
 refine stp (r_load (v := .int .i64 o.at_) rfl hc7 rfl ?_)
 refine stp (r_move_int rfl ?_)
 refine stp (r_addw rfl rfl ?_)
 obtain ⟨at9, hat9⟩ : ∃ x, x = IntKind.i64.wrap (o.at_ + k) := ⟨_, rfl⟩
 rw [← hat9]
 refine stp (r_assign_int rfl ?_)
 refine WL_nil ?_
 refine W_seq ?_
 refine W_block ?_
 refine W_seq (W_region rfl ?_)
 refine stp (r_fieldAddr rfl ?_)
 refine stp (r_load (v := .int .i64 o.kind) rfl hc7 rfl ?_)
 refine stp (r_eql rfl rfl ?_)
 refine stp (r_move_bool rfl ?_)
 refine WL_some (og_if (s := .bool (decide (o.kind = 0))) (b := false) (v := .pointer (some ⟨b1, 0, none⟩)) rfl (wgb_f _) (fun hc11 => ?_) ?_)
 ·
  have hc11_ := hc11
  try simp only [sb] at hc11_
  refine r_fieldAddr rfl ?_
  exact ⟨rfl, rfl⟩
 refine WL_some (og_if (s := .bool (decide (o.kind = 0))) (b := false) (v := .int .i64 o.kind) rfl (wgb_f _) (fun hc12 => ?_) ?_)
 ·
  have hc12_ := hc12
  try simp only [sb] at hc12_
  refine r_load (v := .int .i64 o.kind) (gvt hc12) hc7 rfl ?_
  exact ⟨rfl, rfl⟩
 refine WL_some (og_if (s := .bool (decide (o.kind = 0))) (b := false) (v := .bool (decide (o.kind = 1))) rfl (wgb_f _) (fun hc13 => ?_) ?_)
 ·
  have hc13_ := hc13
  try simp only [sb] at hc13_
  refine r_eql (gvt hc13) rfl ?_
  exact ⟨rfl, rfl⟩
 refine WL_some (og_if (s := .bool (decide (o.kind = 0))) (b := false) (v := .bool (decide (o.kind = 1))) rfl (wgb_f _) (fun hc14 => ?_) ?_)
 ·
  have hc14_ := hc14
  try simp only [sb] at hc14_
  refine r_move (v := .bool (decide (o.kind = 1))) (gvt hc14) ?_
  exact ⟨rfl, rfl⟩
 refine WL_some (og_if (s := gv (!(decide (o.kind = 0))) (.bool (decide (o.kind = 1)))) (b := true) (v := .int .i64 k) rfl (wgb_gt _ _) (fun hc15 => ?_) ?_)
 ·
  obtain ⟨hc15a, hc15b⟩ := and_t hc15
  have hc15a_ := hc15a
  try simp only [sb] at hc15a_
  have hc15b_ := of_decide_eq_true hc15b
  refine r_move_int rfl ?_
  exact ⟨rfl, rfl⟩
 refine WL_some (og_if (s := gv (!(decide (o.kind = 0))) (.bool (decide (o.kind = 1)))) (b := true) (v := .pointer (some ⟨b1, 4, none⟩)) rfl (wgb_gt _ _) (fun hc16 => ?_) ?_)
 ·
  obtain ⟨hc16a, hc16b⟩ := and_t hc16
  have hc16a_ := hc16a
  try simp only [sb] at hc16a_
  have hc16b_ := of_decide_eq_true hc16b
  refine r_fieldAddr rfl ?_
  exact ⟨rfl, rfl⟩
 refine WL_some (og_if (s := gv (!(decide (o.kind = 0))) (.bool (decide (o.kind = 1)))) (b := true) (v := .int .i64 o.ptrs) rfl (wgb_gt _ _) (fun hc17 => ?_) ?_)
 ·
  obtain ⟨hc17a, hc17b⟩ := and_t hc17
  have hc17a_ := hc17a
  try simp only [sb] at hc17a_
  have hc17b_ := of_decide_eq_true hc17b
  refine r_load (v := .int .i64 o.ptrs) (gvt hc17) hc7 rfl ?_
  exact ⟨rfl, rfl⟩
 refine WL_some (og_if (s := gv (!(decide (o.kind = 0))) (.bool (decide (o.kind = 1)))) (b := true) (v := .bool (decide (k ≥ o.ptrs))) rfl (wgb_gt _ _) (fun hc18 => ?_) ?_)
 ·
  obtain ⟨hc18a, hc18b⟩ := and_t hc18
  have hc18a_ := hc18a
  try simp only [sb] at hc18a_
  have hc18b_ := of_decide_eq_true hc18b
  refine r_geq (gvt hc18) (gvt hc18) ?_
  exact ⟨rfl, rfl⟩
 refine WL_some (og_if (s := .bool (decide (o.kind = 0))) (b := false) (v := .bool ((decide (o.kind = 1)) && (decide (k ≥ o.ptrs)))) rfl (wgb_f _) (fun hc19 => ?_) ?_)
 ·
  have hc19_ := hc19
  try simp only [sb] at hc19_
  refine r_and3 hc19 (gvt hc19) rfl rfl ?_
  exact ⟨rfl, rfl⟩
 refine stp (r_or2 rfl rfl rfl ?_)
 refine stp (r_assign_bool rfl ?_)
 refine WL_nil ?_
 refine W_cond2 (b := ((decide (o.kind = 0)) || ((decide (o.kind = 1)) && (decide (k ≥ o.ptrs))))) rfl (fun h1 => ?_) (fun h1 => ?_)
 ·-- true
  simp only [sb] at h1
  refine W_seq (W_region rfl ?_)
  refine stp (r_move_ptr rfl ?_)
  refine stp (r_build (v := .agg #[.int .i64 0, .int .i64 0, .int .i64 0, .int .i64 0, .int .i64 0, .int .i64 0, .int .i64 0]) (fun w => by kernel_rfl) ?_)
  refine stp (r_nilCheck rfl ?_)
  refine stp (r_fieldAddr rfl ?_)
  refine stn (r_store (cs' := #[.iface t_ u_, .int .i64 0, .int .i64 0, .int .i64 0, .int .i64 0, .int .i64 0, .int .i64 0, .int .i64 0, .int .i64 left]) rfl rfl (by rfl) hb (by rfl) (by rfl) (by rfl) (by rfl) ?_)
  intro w20 hc21 u22
  replace K := K.tr (Kp.of_upd u22 (by simp))
  replace g0 := g0.kp1 (Kp.of_upd u22 (by simp)) hb0
  clear u22 hb
  refine WL_nil ?_
  refine W_seq (W_region rfl ?_)
  refine stp (r_assign_int rfl ?_)
  refine WL_nil ?_
  refine W_ret ?_
  have h9 : stepS s o k = (Ob0, 0) := by unfold stepS; rw [if_pos h1]
  refine ret1 (res_tmp (v := .int .u16 0) rfl) ⟨by rw [h9], by rw [h9]; exact hc21, K⟩
 ·-- false
  simp only [sb] at h1
  have h1n : ¬ (o.kind = 0 ∨ o.kind = 1 ∧ k ≥ o.ptrs) := by omega
  refine W_seq (W_region rfl ?_)
  refine stp (r_fieldAddr rfl ?_)
  refine stp (r_load (v := .int .i64 o.kind) rfl hc7 rfl ?_)
  refine stp (r_eql rfl rfl ?_)
  refine stp (r_assign_bool rfl ?_)
  refine WL_nil ?_
  refine W_cond2 (b := (decide (o.kind = 1))) rfl (fun h2 => ?_) (fun h2 => ?_)
  ·-- true
   replace h2 := of_decide_eq_true h2
   have hat8 : at9 = o.at_ + k := by rw [hat9]; exact wrap_in (by simp only [inR]; omega)
   refine W_region rfl ?_
   refine stp (r_move_int rfl ?_)
   refine stp (r_fieldAddr rfl ?_)
   refine stp (r_load (v := .int .i64 o.data) rfl hc7 rfl ?_)
   refine stp (r_add rfl rfl ?_ ?_); constructor <;> omega
   refine stp (r_assign_int rfl ?_)
   refine WL_nil ?_
   refine W_seq ?_
   have kb_hc7 : ∀ w_, Kp [b] w6 w_ → w_.heap[b1]? = some (.cells #[.int .i64 o.kind, .int .i64 o.seg, .int .i64 o.at_, .int .i64 o.data, .int .i64 o.ptrs, .int .i64 o.size, .int .i64 o.count] 111 (0, 0)) := fun w_ k_ => k_.heap hc7 (fun hm_ => by simp only [List.mem_singleton] at hm_; have := hge10; omega)
   have kb_g0 : ∀ w_, Kp [b] w6 w_ → Grow w0 w_ := fun w_ k_ => g0.kp1 k_ hb0
   have kb_K : ∀ w_, Kp [b] w6 w_ → Kp [b] w w_ := fun w_ k_ => K.tr k_
   refine W_anyM 15 [[], [], [0], [1, 0], [2, 1, 0], [], [0], [], [6, 5, 4, 3, 2, 1, 0], [7, 6, 5, 4, 3, 2, 1, 0], [8, 7, 6, 5, 4, 3, 2, 1, 0], [9, 8, 7, 6, 5, 4, 3, 2, 1], [11, 10, 9, 8, 7, 6, 5, 4, 3, 2, 1], [12, 11, 10, 9, 8, 7, 6, 5, 4, 3, 2, 0], [13, 12, 11, 10, 9, 8, 7, 6, 5, 4, 3, 1, 0]] [4, 14] [b] (fun k_ w_ => match k_ with | 0 => w_.heap[b]? = some (.cells #[.iface t_ u_, .int .i64 o.kind, .int .i64 o.seg, .int .i64 o.at_, .int .i64 o.data, .int .i64 o.ptrs, .int .i64 o.size, .int .i64 o.count, .int .i64 left] 116 (0, 0)) | 1 => w_.heap[b]? = some (.cells #[.iface t_ u_, .int .i64 o.kind, .int .i64 o.seg, .int .i64 o.at_, .int .i64 o.data, .int .i64 o.ptrs, .int .i64 o.size, .int .i64 o.count, .int .i64 left] 116 (0, 0)) | _ => w_.heap[b]? = some (.cells #[.iface t_ u_, .int .i64 ((followS s o.seg (at9 + o.data)).1.kind), .int .i64 ((followS s o.seg (at9 + o.data)).1.seg), .int .i64 ((followS s o.seg (at9 + o.data)).1.at_), .int .i64 ((followS s o.seg (at9 + o.data)).1.data), .int .i64 ((followS s o.seg (at9 + o.data)).1.ptrs), .int .i64 ((followS s o.seg (at9 + o.data)).1.size), .int .i64 ((followS s o.seg (at9 + o.data)).1.count), .int .i64 left] 116 (0, 0))) mixed (by kernel_rfl) (by kernel_rfl) (by kernel_rfl) (by kernel_rfl) (fun k_ w_ w2_ g_ h_ => match k_, h_ with | 0, h_ => g_.heap h_ | 1, h_ => g_.heap h_ | n_ + 2, h_ => g_.heap h_) (fun w_ g_ => g_.heap hb) ?_
   intro w23 g24
   replace kb_hc7 : ∀ w_, Kp [b] w23 w_ → w_.heap[b1]? = some (.cells #[.int .i64 o.kind, .int .i64 o.seg, .int .i64 o.at_, .int .i64 o.data, .int .i64 o.ptrs, .int .i64 o.size, .int .i64 o.count] 111 (0, 0)) := fun w_ k_ => kb_hc7 w_ (g24.kp.tr k_)
   replace kb_g0 : ∀ w_, Kp [b] w23 w_ → Grow w0 w_ := fun w_ k_ => kb_g0 w_ (g24.kp.tr k_)
   replace kb_K : ∀ w_, Kp [b] w23 w_ → Kp [b] w w_ := fun w_ k_ => kb_K w_ (g24.kp.tr k_)
   have k0_ : Kp [b] w6 w23 := g24.kp
   apply AOM_ex (hm := by rfl)
   ·intro w_ g_; refine og rfl ?_; refine r_move_ptr rfl ?_; exact ⟨Grow.rfl' _, rfl⟩
   apply AOM_ex (hm := by rfl)
   ·intro w_ g_; refine og rfl ?_; refine r_move_ptr rfl ?_; exact ⟨Grow.rfl' _, rfl⟩
   apply AOM_ex (hm := by rfl)
   ·intro w_ g_; refine og rfl ?_; refine r_nilCheck rfl ?_; exact ⟨Grow.rfl' _, rfl⟩
   apply AOM_ex (hm := by rfl)
   ·intro w_ g_; refine og rfl ?_; refine r_fieldAddr rfl ?_; exact ⟨Grow.rfl' _, rfl⟩
   apply AOM_mut 0 (hm := by rfl)
   ·intro w_ g_ s_
    refine og rfl ?_
    refine r_load (v := .iface t_ u_) rfl s_ rfl ?_
    exact ⟨Kp.of_grow (Grow.rfl' _), s_, rfl⟩
   apply AOM_ex (hm := by rfl)
   ·intro w_ g_; refine og rfl ?_; refine r_fieldAddr rfl ?_; exact ⟨Grow.rfl' _, rfl⟩
   apply AOM_ex (hm := by rfl)
   ·intro w_ g_; refine og rfl ?_; refine r_load (v := .int .i64 o.seg) rfl (kb_hc7 _ g_) rfl ?_; exact ⟨Grow.rfl' _, rfl⟩
   apply AOM_ex (hm := by rfl)
   ·intro w_ g_; refine og rfl ?_; refine r_move_int rfl ?_; exact ⟨Grow.rfl' _, rfl⟩
   apply AOM_ex (hm := by rfl)
   ·intro w_ g_; refine og rfl ?_; exact r_gives (v := .tuple #[.agg #[.int .i64 ((followS s o.seg (at9 + o.data)).1.kind), .int .i64 ((followS s o.seg (at9 + o.data)).1.seg), .int .i64 ((followS s o.seg (at9 + o.data)).1.at_), .int .i64 ((followS s o.seg (at9 + o.data)).1.data), .int .i64 ((followS s o.seg (at9 + o.data)).1.ptrs), .int .i64 ((followS s o.seg (at9 + o.data)).1.size), .int .i64 ((followS s o.seg (at9 + o.data)).1.count)], .int .u16 ((followS s o.seg (at9 + o.data)).2)]) rfl (follow_calls _ (H.grow (kb_g0 _ g_)) o.seg (at9 + o.data)) (fun w2_ g2_ => ⟨g2_, rfl⟩)
   apply AOM_ex (hm := by rfl)
   ·intro w_ g_; refine og rfl ?_; refine r_move (v := .tuple #[.agg #[.int .i64 ((followS s o.seg (at9 + o.data)).1.kind), .int .i64 ((followS s o.seg (at9 + o.data)).1.seg), .int .i64 ((followS s o.seg (at9 + o.data)).1.at_), .int .i64 ((followS s o.seg (at9 + o.data)).1.data), .int .i64 ((followS s o.seg (at9 + o.data)).1.ptrs), .int .i64 ((followS s o.seg (at9 + o.data)).1.size), .int .i64 ((followS s o.seg (at9 + o.data)).1.count)], .int .u16 ((followS s o.seg (at9 + o.data)).2)]) rfl ?_; exact ⟨Grow.rfl' _, rfl⟩
   apply AOM_ex (hm := by rfl)
   ·intro w_ g_; refine og rfl ?_; refine r_extract (v := .agg #[.int .i64 ((followS s o.seg (at9 + o.data)).1.kind), .int .i64 ((followS s o.seg (at9 + o.data)).1.seg), .int .i64 ((followS s o.seg (at9 + o.data)).1.at_), .int .i64 ((followS s o.seg (at9 + o.data)).1.data), .int .i64 ((followS s o.seg (at9 + o.data)).1.ptrs), .int .i64 ((followS s o.seg (at9 + o.data)).1.size), .int .i64 ((followS s o.seg (at9 + o.data)).1.count)]) rfl rfl ?_; exact ⟨Grow.rfl' _, rfl⟩
   apply AOM_ex (hm := by rfl)
   ·intro w_ g_; refine og rfl ?_; refine r_extract (v := .int .u16 ((followS s o.seg (at9 + o.data)).2)) rfl rfl ?_; exact ⟨Grow.rfl' _, rfl⟩
   apply AOM_ex (hm := by rfl)
   ·intro w_ g_; refine og rfl ?_; refine r_nilCheck rfl ?_; exact ⟨Grow.rfl' _, rfl⟩
   apply AOM_ex (hm := by rfl)
   ·intro w_ g_; refine og rfl ?_; refine r_fieldAddr rfl ?_; exact ⟨Grow.rfl' _, rfl⟩
   apply AOM_mut 1 (hm := by rfl)
   ·intro w_ g_ s_
    refine og rfl ?_
    refine r_store (cs' := #[.iface t_ u_, .int .i64 ((followS s o.seg (at9 + o.data)).1.kind), .int .i64 ((followS s o.seg (at9 + o.data)).1.seg), .int .i64 ((followS s o.seg (at9 + o.data)).1.at_), .int .i64 ((followS s o.seg (at9 + o.data)).1.data), .int .i64 ((followS s o.seg (at9 + o.data)).1.ptrs), .int .i64 ((followS s o.seg (at9 + o.data)).1.size), .int .i64 ((followS s o.seg (at9 + o.data)).1.count), .int .i64 left]) rfl rfl (by rfl) s_ (by rfl) (by rfl) (by rfl) (by rfl) ?_
    intro w2_ s2_ u_
    exact ⟨Kp.of_upd u_ (by simp), s2_, rfl⟩
   refine AOM_nil ?_
   intro w25 g26 S_
   replace k0_ := (k0_.tr g26)
   have hb9 := S_
   clear S_
   replace hc7 := kb_hc7 _ g26
   clear kb_hc7
   replace g0 := kb_g0 _ g26
   clear kb_g0
   replace K := kb_K _ g26
   clear kb_K
   refine stp (r_assign_int rfl ?_)
   refine WL_nil ?_
   refine W_seq (W_region rfl ?_)
   refine stp (r_move_int rfl ?_)
   refine stp (r_assign_int rfl ?_)
   refine WL_nil ?_
   refine W_ret ?_
   have h9 : stepS s o k = followS s o.seg (at9 + o.data) := by unfold stepS; rw [if_neg h1n, if_pos h2, hat8]
   refine ret1 (res_tmp (v := .int .u16 ((followS s o.seg (at9 + o.data)).2)) rfl) ⟨by rw [h9], by rw [h9]; exact hb9, K⟩
  ·-- false
   replace h2 := of_decide_eq_false h2
   refine W_seq (W_region rfl ?_)
   refine stp (r_fieldAddr rfl ?_)
   refine stp (r_load (v := .int .i64 o.size) rfl hc7 rfl ?_)
   refine stp (r_neq rfl rfl ?_)
   refine stp (r_assign_bool rfl ?_)
   refine WL_nil ?_
   refine W_cond2 (b := (decide (o.size ≠ 6))) rfl (fun h3 => ?_) (fun h3 => ?_)
   ·-- true
    replace h3 := of_decide_eq_true h3
    refine W_seq (W_region rfl ?_)
    refine stp (r_assign_int rfl ?_)
    refine WL_nil ?_
    refine W_ret ?_
    have h9 : stepS s o k = (o, 23) := by unfold stepS; rw [if_neg h1n, if_neg h2, if_pos h3]
    refine ret1 (res_tmp (v := .int .u16 23) rfl) ⟨by rw [h9], by rw [h9]; exact hb, K⟩
   ·-- false
    replace h3 := of_decide_eq_false h3
    refine W_seq (W_region rfl ?_)
    refine stp (r_move_int rfl ?_)
    refine stp (r_fieldAddr rfl ?_)
    refine stp (r_load (v := .int .i64 o.count) rfl hc7 rfl ?_)
    refine stp (r_geq rfl rfl ?_)
    refine stp (r_assign_bool rfl ?_)
    refine WL_nil ?_
    refine W_cond2 (b := (decide (k ≥ o.count))) rfl (fun h4 => ?_) (fun h4 => ?_)
    ·-- true
     replace h4 := of_decide_eq_true h4
     refine W_seq (W_region rfl ?_)
     refine stp (r_assign_int rfl ?_)
     refine WL_nil ?_
     refine W_ret ?_
     have h9 : stepS s o k = (o, 20) := by unfold stepS; rw [if_neg h1n, if_neg h2, if_neg h3, if_pos h4]
     refine ret1 (res_tmp (v := .int .u16 20) rfl) ⟨by rw [h9], by rw [h9]; exact hb, K⟩
    ·-- false
     replace h4 := of_decide_eq_false h4
     have hat8 : at9 = o.at_ + k := by rw [hat9]; exact wrap_in (by simp only [inR]; omega)
     refine W_skip ?_
     refine W_seq ?_
     have kb_hc7 : ∀ w_, Kp [b] w6 w_ → w_.heap[b1]? = some (.cells #[.int .i64 o.kind, .int .i64 o.seg, .int .i64 o.at_, .int .i64 o.data, .int .i64 o.ptrs, .int .i64 o.size, .int .i64 o.count] 111 (0, 0)) := fun w_ k_ => k_.heap hc7 (fun hm_ => by simp only [List.mem_singleton] at hm_; have := hge10; omega)
     have kb_g0 : ∀ w_, Kp [b] w6 w_ → Grow w0 w_ := fun w_ k_ => g0.kp1 k_ hb0
     have kb_K : ∀ w_, Kp [b] w6 w_ → Kp [b] w w_ := fun w_ k_ => K.tr k_
     refine W_anyM 15 [[], [], [0], [1, 0], [2, 1, 0], [], [0], [], [6, 5, 4, 3, 2, 1, 0], [7, 6, 5, 4, 3, 2, 1, 0], [8, 7, 6, 5, 4, 3, 2, 1, 0], [9, 8, 7, 6, 5, 4, 3, 2, 1], [11, 10, 9, 8, 7, 6, 5, 4, 3, 2, 1], [12, 11, 10, 9, 8, 7, 6, 5, 4, 3, 2, 0], [13, 12, 11, 10, 9, 8, 7, 6, 5, 4, 3, 1, 0]] [4, 14] [b] (fun k_ w_ => match k_ with | 0 => w_.heap[b]? = some (.cells #[.iface t_ u_, .int .i64 o.kind, .int .i64 o.seg, .int .i64 o.at_, .int .i64 o.data, .int .i64 o.ptrs, .int .i64 o.size, .int .i64 o.count, .int .i64 left] 116 (0, 0)) | 1 => w_.heap[b]? = some (.cells #[.iface t_ u_, .int .i64 o.kind, .int .i64 o.seg, .int .i64 o.at_, .int .i64 o.data, .int .i64 o.ptrs, .int .i64 o.size, .int .i64 o.count, .int .i64 left] 116 (0, 0)) | _ => w_.heap[b]? = some (.cells #[.iface t_ u_, .int .i64 ((followS s o.seg at9).1.kind), .int .i64 ((followS s o.seg at9).1.seg), .int .i64 ((followS s o.seg at9).1.at_), .int .i64 ((followS s o.seg at9).1.data), .int .i64 ((followS s o.seg at9).1.ptrs), .int .i64 ((followS s o.seg at9).1.size), .int .i64 ((followS s o.seg at9).1.count), .int .i64 left] 116 (0, 0))) mixed (by kernel_rfl) (by kernel_rfl) (by kernel_rfl) (by kernel_rfl) (fun k_ w_ w2_ g_ h_ => match k_, h_ with | 0, h_ => g_.heap h_ | 1, h_ => g_.heap h_ | n_ + 2, h_ => g_.heap h_) (fun w_ g_ => g_.heap hb) ?_
     intro w27 g28
     replace kb_hc7 : ∀ w_, Kp [b] w27 w_ → w_.heap[b1]? = some (.cells #[.int .i64 o.kind, .int .i64 o.seg, .int .i64 o.at_, .int .i64 o.data, .int .i64 o.ptrs, .int .i64 o.size, .int .i64 o.count] 111 (0, 0)) := fun w_ k_ => kb_hc7 w_ (g28.kp.tr k_)
     replace kb_g0 : ∀ w_, Kp [b] w27 w_ → Grow w0 w_ := fun w_ k_ => kb_g0 w_ (g28.kp.tr k_)
     replace kb_K : ∀ w_, Kp [b] w27 w_ → Kp [b] w w_ := fun w_ k_ => kb_K w_ (g28.kp.tr k_)
     have k0_ : Kp [b] w6 w27 := g28.kp
     apply AOM_ex (hm := by rfl)
     ·intro w_ g_; refine og rfl ?_; refine r_move_ptr rfl ?_; exact ⟨Grow.rfl' _, rfl⟩
     apply AOM_ex (hm := by rfl)
     ·intro w_ g_; refine og rfl ?_; refine r_move_ptr rfl ?_; exact ⟨Grow.rfl' _, rfl⟩
     apply AOM_ex (hm := by rfl)
     ·intro w_ g_; refine og rfl ?_; refine r_nilCheck rfl ?_; exact ⟨Grow.rfl' _, rfl⟩
     apply AOM_ex (hm := by rfl)
     ·intro w_ g_; refine og rfl ?_; refine r_fieldAddr rfl ?_; exact ⟨Grow.rfl' _, rfl⟩
     apply AOM_mut 0 (hm := by rfl)
     ·intro w_ g_ s_
      refine og rfl ?_
      refine r_load (v := .iface t_ u_) rfl s_ rfl ?_
      exact ⟨Kp.of_grow (Grow.rfl' _), s_, rfl⟩
     apply AOM_ex (hm := by rfl)
     ·intro w_ g_; refine og rfl ?_; refine r_fieldAddr rfl ?_; exact ⟨Grow.rfl' _, rfl⟩
     apply AOM_ex (hm := by rfl)
     ·intro w_ g_; refine og rfl ?_; refine r_load (v := .int .i64 o.seg) rfl (kb_hc7 _ g_) rfl ?_; exact ⟨Grow.rfl' _, rfl⟩
     apply AOM_ex (hm := by rfl)
     ·intro w_ g_; refine og rfl ?_; refine r_move_int rfl ?_; exact ⟨Grow.rfl' _, rfl⟩
     apply AOM_ex (hm := by rfl)
     ·intro w_ g_; refine og rfl ?_; exact r_gives (v := .tuple #[.agg #[.int .i64 ((followS s o.seg at9).1.kind), .int .i64 ((followS s o.seg at9).1.seg), .int .i64 ((followS s o.seg at9).1.at_), .int .i64 ((followS s o.seg at9).1.data), .int .i64 ((followS s o.seg at9).1.ptrs), .int .i64 ((followS s o.seg at9).1.size), .int .i64 ((followS s o.seg at9).1.count)], .int .u16 ((followS s o.seg at9).2)]) rfl (follow_calls _ (H.grow (kb_g0 _ g_)) o.seg at9) (fun w2_ g2_ => ⟨g2_, rfl⟩)
     apply AOM_ex (hm := by rfl)
     ·intro w_ g_; refine og rfl ?_; refine r_move (v := .tuple #[.agg #[.int .i64 ((followS s o.seg at9).1.kind), .int .i64 ((followS s o.seg at9).1.seg), .int .i64 ((followS s o.seg at9).1.at_), .int .i64 ((followS s o.seg at9).1.data), .int .i64 ((followS s o.seg at9).1.ptrs), .int .i64 ((followS s o.seg at9).1.size), .int .i64 ((followS s o.seg at9).1.count)], .int .u16 ((followS s o.seg at9).2)]) rfl ?_; exact ⟨Grow.rfl' _, rfl⟩
     apply AOM_ex (hm := by rfl)
     ·intro w_ g_; refine og rfl ?_; refine r_extract (v := .agg #[.int .i64 ((followS s o.seg at9).1.kind), .int .i64 ((followS s o.seg at9).1.seg), .int .i64 ((followS s o.seg at9).1.at_), .int .i64 ((followS s o.seg at9).1.data), .int .i64 ((followS s o.seg at9).1.ptrs), .int .i64 ((followS s o.seg at9).1.size), .int .i64 ((followS s o.seg at9).1.count)]) rfl rfl ?_; exact ⟨Grow.rfl' _, rfl⟩
     apply AOM_ex (hm := by rfl)
     ·intro w_ g_; refine og rfl ?_; refine r_extract (v := .int .u16 ((followS s o.seg at9).2)) rfl rfl ?_; exact ⟨Grow.rfl' _, rfl⟩
     apply AOM_ex (hm := by rfl)
     ·intro w_ g_; refine og rfl ?_; refine r_nilCheck rfl ?_; exact ⟨Grow.rfl' _, rfl⟩
     apply AOM_ex (hm := by rfl)
     ·intro w_ g_; refine og rfl ?_; refine r_fieldAddr rfl ?_; exact ⟨Grow.rfl' _, rfl⟩
     apply AOM_mut 1 (hm := by rfl)
     ·intro w_ g_ s_
      refine og rfl ?_
      refine r_store (cs' := #[.iface t_ u_, .int .i64 ((followS s o.seg at9).1.kind), .int .i64 ((followS s o.seg at9).1.seg), .int .i64 ((followS s o.seg at9).1.at_), .int .i64 ((followS s o.seg at9).1.data), .int .i64 ((followS s o.seg at9).1.ptrs), .int .i64 ((followS s o.seg at9).1.size), .int .i64 ((followS s o.seg at9).1.count), .int .i64 left]) rfl rfl (by rfl) s_ (by rfl) (by rfl) (by rfl) (by rfl) ?_
      intro w2_ s2_ u_
      exact ⟨Kp.of_upd u_ (by simp), s2_, rfl⟩
     refine AOM_nil ?_
     intro w29 g30 S_
     replace k0_ := (k0_.tr g30)
     have hb9 := S_
     clear S_
     replace hc7 := kb_hc7 _ g30
     clear kb_hc7
     replace g0 := kb_g0 _ g30
     clear kb_g0
     replace K := kb_K _ g30
     clear kb_K
     refine stp (r_assign_int rfl ?_)
     refine WL_nil ?_
     refine W_seq (W_region rfl ?_)
     refine stp (r_move_int rfl ?_)
     refine stp (r_assign_int rfl ?_)
     refine WL_nil ?_
     refine W_ret ?_
     have h9 : stepS s o k = followS s o.seg at9 := by unfold stepS; rw [if_neg h1n, if_neg h2, if_neg h3, if_neg h4, hat8]
     refine ret1 (res_tmp (v := .int .u16 ((followS s o.seg at9).2)) rfl) ⟨by rw [h9], by rw [h9]; exact hb9, K⟩

set_option maxRecDepth 100000 in
theorem is_calls (w : World) {b : Nat} {o : Ob} {left : Int} {t_ : TypeId} {u_ : Value} (hb : w.heap[b]? = some (.cells #[.iface t_ u_, .int .i64 o.kind, .int .i64 o.seg, .int .i64 o.at_, .int .i64 o.data, .int .i64 o.ptrs, .int .i64 o.size, .int .i64 o.count, .int .i64 left] 116 (0, 0))) : Gives Try.prog 58 #[.pointer (some ⟨b, 0, none⟩)] w (.agg #[.int .i64 ((isS o).kind), .int .i64 ((isS o).size), .int .i64 ((isS o).words), .int .i64 ((isS o).kids), .int .u64 ((isS o).word)]) := by
 have G := Grow.rfl' w
 refine gives_of Try.func58 Try.ntmps58 Try.results58 rfl rfl ?_
 refine W_seq (W_region rfl ?_)
 refine stp (r_alloc ?_)
 intro b1 w2 hb3 hc4 g5
 refine WL_nil ?_
 refine W_seq (W_region rfl ?_)
 refine stp (r_move_ptr rfl ?_)
 refine stp (r_nilCheck rfl ?_)
 refine stp (r_fieldAddr rfl ?_)
 have hge6 := Nat.le_trans G.size hb3
 have ne7 := Nat.ne_of_lt (Nat.lt_of_lt_of_le (lt_of_heap hb) hb3)
 replace hb := g5.heap hb
 replace G := G.tr g5
 clear g5 hb3
 refine stp (r_loadN rfl hb (by rfl) (by rfl) ?_)
 refine stp (r_alloc ?_)
 intro b8 w9 hb10 hc11 g12
 refine stn (r_storeAll rfl rfl hc11 (by rfl) (by rfl) (by rfl) ?_)
 intro w13 hc14 u15
 have g16 := g12.upd u15 hb10
 have hge17 := Nat.le_trans G.size hb10
 have ne18 := Nat.ne_of_lt (Nat.lt_of_lt_of_le (lt_of_heap hb) hb10)
 have ne19 := Nat.ne_of_lt (Nat.lt_of_lt_of_le (lt_of_heap hc4) hb10)
 replace hb := g16.heap hb
 replace hc4 := g16.heap hc4
 replace G := G.tr g16
 clear u15 g12 hb10 hc11
 refine WL_nil ?_
 refine W_seq (W_region rfl ?_)
 refine stp (r_fieldAddr rfl ?_)
 refine stp (r_load (v := .int .i64 o.kind) rfl hc14 rfl ?_)
 refine stp (r_fieldAddr rfl ?_)
 refine stp (r_load (v := .int .i64 o.size) rfl hc14 rfl ?_)
 refine stp (r_fieldAddr rfl ?_)
 refine stp (r_load (v := .int .i64 o.data) rfl hc14 rfl ?_)
 refine stp (r_fieldAddr rfl ?_)
 refine stp (r_load (v := .int .i64 o.ptrs) rfl hc14 rfl ?_)
 refine stp (r_build (v := .agg #[.int .i64 o.kind, .int .i64 o.size, .int .i64 o.data, .int .i64 o.ptrs, .int .u64 0]) (fun w => by kernel_rfl) ?_)
 refine stp (r_alloc ?_)
 intro b20 w21 hb22 hc23 g24
 refine stn (r_storeAll rfl rfl hc23 (by rfl) (by rfl) (by rfl) ?_)
 intro w25 hc26 u27
 have g28 := g24.upd u27 hb22
 have hge29 := Nat.le_trans G.size hb22
 have ne30 := Nat.ne_of_lt (Nat.lt_of_lt_of_le (lt_of_heap hb) hb22)
 have ne31 := Nat.ne_of_lt (Nat.lt_of_lt_of_le (lt_of_heap hc4) hb22)
 have ne32 := Nat.ne_of_lt (Nat.lt_of_lt_of_le (lt_of_heap hc14) hb22)
 replace hb := g28.heap hb
 replace hc4 := g28.heap hc4
 replace hc14 := g28.heap hc14
 replace G := G.tr g28
 clear u27 g24 hb22 hc23
 refine WL_nil ?_
 refine W_seq ?_
 refine W_block ?_
 refine W_seq (W_region rfl ?_)
 refine stp (r_fieldAddr rfl ?_)
 refine stp (r_load (v := .int .i64 o.kind) rfl hc14 rfl ?_)
 refine stp (r_neq rfl rfl ?_)
 refine stp (r_assign_bool rfl ?_)
 refine WL_nil ?_
 refine W_cond2 (b := (decide (o.kind ≠ 2))) rfl (fun h1 => ?_) (fun h1 => ?_)
 ·-- true
  replace h1 := of_decide_eq_true h1
  refine W_skip ?_
  refine W_seq (W_region rfl ?_)
  refine stp (r_loadAll rfl hc26 (by rfl) ?_)
  refine stn (r_storeAll rfl rfl hc4 (by rfl) (by rfl) (by rfl) ?_)
  intro w33 hc34 u35
  replace hb := u35.heap hb ne7
  replace hc14 := u35.heap hc14 ne19.symm
  replace hc26 := u35.heap hc26 ne31.symm
  replace G := G.upd u35 hge6
  clear u35 hc4
  refine WL_nil ?_
  refine W_ret ?_
  refine ret1 (res_all rfl hc34 (by rfl)) ⟨?_, G⟩
  simp [isS, *]
 ·-- false
  replace h1 := of_decide_eq_false h1
  refine W_seq (W_region rfl ?_)
  refine stp (r_fieldAddr rfl ?_)
  refine stp (r_load (v := .int .i64 o.size) rfl hc14 rfl ?_)
  refine stp (r_eql rfl rfl ?_)
  refine stp (r_assign_bool rfl ?_)
  refine WL_nil ?_
  refine W_cond2 (b := (decide (o.size = 6))) rfl (fun h2 => ?_) (fun h2 => ?_)
  ·-- true
   replace h2 := of_decide_eq_true h2
   refine W_region rfl ?_
   refine stp (r_fieldAddr rfl ?_)
   refine stp (r_load (v := .int .i64 o.count) rfl hc14 rfl ?_)
   refine stp (r_fieldAddr rfl ?_)
   refine stn (r_store1 (v := .int .i64 o.count) rfl rfl (by rfl) hc26 (by rfl) (by rfl) ?_)
   intro w36 hc37 u38
   replace hb := u38.heap hb ne30
   replace hc4 := u38.heap hc4 ne31
   replace hc14 := u38.heap hc14 ne32
   replace G := G.upd u38 hge29
   clear u38 hc26
   refine WL_nil ?_
   refine W_seq (W_region rfl ?_)
   refine stp (r_loadAll rfl hc37 (by rfl) ?_)
   refine stn (r_storeAll rfl rfl hc4 (by rfl) (by rfl) (by rfl) ?_)
   intro w39 hc40 u41
   replace hb := u41.heap hb ne7
   replace hc14 := u41.heap hc14 ne19.symm
   replace hc37 := u41.heap hc37 ne31.symm
   replace G := G.upd u41 hge6
   clear u41 hc4
   refine WL_nil ?_
   refine W_ret ?_
   refine ret1 (res_all rfl hc40 (by rfl)) ⟨?_, G⟩
   simp [isS, *]
  ·-- false
   replace h2 := of_decide_eq_false h2
   refine W_region rfl ?_
   refine stp (r_fieldAddr rfl ?_)
   refine stp (r_load (v := .int .i64 o.count) rfl hc14 rfl ?_)
   refine stp (r_fieldAddr rfl ?_)
   refine stn (r_store1 (v := .int .i64 o.count) rfl rfl (by rfl) hc26 (by rfl) (by rfl) ?_)
   intro w42 hc43 u44
   replace hb := u44.heap hb ne30
   replace hc4 := u44.heap hc4 ne31
   replace hc14 := u44.heap hc14 ne32
   replace G := G.upd u44 hge29
   clear u44 hc26
   refine WL_nil ?_
   refine W_seq (W_region rfl ?_)
   refine stp (r_loadAll rfl hc43 (by rfl) ?_)
   refine stn (r_storeAll rfl rfl hc4 (by rfl) (by rfl) (by rfl) ?_)
   intro w45 hc46 u47
   replace hb := u47.heap hb ne7
   replace hc14 := u47.heap hc14 ne19.symm
   replace hc43 := u47.heap hc43 ne31.symm
   replace G := G.upd u47 hge6
   clear u47 hc4
   refine WL_nil ?_
   refine W_ret ?_
   refine ret1 (res_all rfl hc46 (by rfl)) ⟨?_, G⟩
   simp [isS, *]

set_option maxRecDepth 100000 in
theorem wword_calls (w : World) {w0 : World} {s : Src} {t_ : TypeId} {u_ : Value} (H : SrcOk Try.prog w0 (.iface t_ u_) s) (g0 : Grow w0 w) {b : Nat} {o : Ob} {left k : Int} (hb0 : w0.heap.size ≤ b) (hb : w.heap[b]? = some (.cells #[.iface t_ u_, .int .i64 o.kind, .int .i64 o.seg, .int .i64 o.at_, .int .i64 o.data, .int .i64 o.ptrs, .int .i64 o.size, .int .i64 o.count, .int .i64 left] 116 (0, 0))) (ho : ObR o) (hk : 0 ≤ k) (hk2 : k ≤ 9223372036854775807) : Gives Try.prog 59 #[.pointer (some ⟨b, 0, none⟩), .int .i64 k] w (.tuple #[.int .u64 ((atS s o k).1), .int .u16 ((atS s o k).2)]) := by
 obtain ⟨rk, rs, ra, rd, rp, rz, rc⟩ := ho
 obtain ⟨n1, n2, -, -⟩ := H.num o.seg (o.at_ + k / 8)
 have G := Grow.rfl' w
 refine gives_of Try.func59 Try.ntmps59 Try.results59 rfl rfl ?_
 refine W_seq (W_region rfl ?_)
 refine stp (r_assign_int rfl ?_)
 refine stp (r_assign_int rfl ?_)
 refine WL_nil ?_
 refine W_seq (W_region rfl ?_)
 refine stp (r_move_ptr rfl ?_)
 refine stp (r_nilCheck rfl ?_)
 refine stp (r_fieldAddr rfl ?_)
 refine stp (r_loadN rfl hb (by rfl) (by rfl) ?_)
 refine stp (r_alloc ?_)
 intro b1 w2 hb3 hc4 g5
 refine stn (r_storeAll rfl rfl hc4 (by rfl) (by rfl) (by rfl) ?_)
 intro w6 hc7 u8
 have g9 := g5.upd u8 hb3
 have hge10 := Nat.le_trans G.size hb3
 have ne11 := Nat.ne_of_lt (Nat.lt_of_lt_of_le (lt_of_heap hb) hb3)
 replace hb := g9.heap hb
 replace G := G.tr g9
 clear u8 g5 hb3 hc4
 refine WL_nil ?_
 refine W_seq ?_
 refine W_block ?_
 refine W_seq ?_
 refine W_seq (W_region rfl ?_)
 refine stp (r_fieldAddr rfl ?_)
 refine stp (r_load (v := .int .i64 o.kind) rfl hc7 rfl ?_)
 refine stp (r_eql rfl rfl ?_)
 refine stp (r_assign_bool rfl ?_)
 refine WL_nil ?_
 refine W_cond2 (b := (decide (o.kind = 0))) rfl (fun h1 => ?_) (fun h1 => ?_)
 ·-- true
  replace h1 := of_decide_eq_true h1
  refine W_skip ?_
  refine W_true (show _ = Value.bool true from congrArg Value.bool (decide_eq_true h1)) ?_
  refine W_seq (W_region rfl ?_)
  refine stp (r_assign_int rfl ?_)
  refine stp (r_assign_int rfl ?_)
  refine WL_nil ?_
  refine W_ret ?_
  refine ret2 (res_tmp (v := .int .u64 0) rfl) (res_tmp (v := .int .u16 0) rfl) ⟨?_, G⟩
  have h9 : atS s o k = (0, 0) := by unfold atS; rw [if_pos (.inl h1)]
  rw [h9]
 ·-- false
  replace h1 := of_decide_eq_false h1
  refine W_region rfl ?_
  refine stp (r_fieldAddr rfl ?_)
  refine stp (r_load (v := .int .i64 o.kind) rfl hc7 rfl ?_)
  refine stp (r_eql rfl rfl ?_)
  refine stp (r_move_bool rfl ?_)
  refine WL_some (og_if (s := .bool (decide (o.kind = 1))) (b := true) (v := .int .i64 k) rfl (wgb_t _) (fun hc12 => ?_) ?_)
  ·
   have hc12_ := of_decide_eq_true hc12
   refine r_move_int rfl ?_
   exact ⟨rfl, rfl⟩
  refine WL_some (og_if (s := .bool (decide (o.kind = 1))) (b := true) (v := .pointer (some ⟨b1, 3, none⟩)) rfl (wgb_t _) (fun hc13 => ?_) ?_)
  ·
   have hc13_ := of_decide_eq_true hc13
   refine r_fieldAddr rfl ?_
   exact ⟨rfl, rfl⟩
  refine WL_some (og_if (s := .bool (decide (o.kind = 1))) (b := true) (v := .int .i64 o.data) rfl (wgb_t _) (fun hc14 => ?_) ?_)
  ·
   have hc14_ := of_decide_eq_true hc14
   refine r_load (v := .int .i64 o.data) (gvt hc14) hc7 rfl ?_
   exact ⟨rfl, rfl⟩
  refine WL_some (og_if (s := .bool (decide (o.kind = 1))) (b := true) (v := .bool (decide (k ≥ o.data))) rfl (wgb_t _) (fun hc15 => ?_) ?_)
  ·
   have hc15_ := of_decide_eq_true hc15
   refine r_geq (gvt hc15) (gvt hc15) ?_
   exact ⟨rfl, rfl⟩
  refine stp (r_and2 rfl rfl rfl ?_)
  refine stp (r_assign_bool rfl ?_)
  refine WL_nil ?_
  refine W_cond2 (b := ((decide (o.kind = 1)) && (decide (k ≥ o.data)))) rfl (fun h2 => ?_) (fun h2 => ?_)
  ·-- true
   simp only [sb] at h2
   refine W_seq (W_region rfl ?_)
   refine stp (r_assign_int rfl ?_)
   refine stp (r_assign_int rfl ?_)
   refine WL_nil ?_
   refine W_ret ?_
   refine ret2 (res_tmp (v := .int .u64 0) rfl) (res_tmp (v := .int .u16 0) rfl) ⟨?_, G⟩
   have h9 : atS s o k = (0, 0) := by unfold atS; rw [if_pos (.inr h2)]
   rw [h9]
  ·-- false
   simp only [sb] at h2
   have h1n : ¬ (o.kind = 0 ∨ o.kind = 1 ∧ k ≥ o.data) := by omega
   refine W_seq (W_region rfl ?_)
   refine stp (r_fieldAddr rfl ?_)
   refine stp (r_load (v := .int .i64 o.kind) rfl hc7 rfl ?_)
   refine stp (r_eql rfl rfl ?_)
   refine stp (r_assign_bool rfl ?_)
   refine WL_nil ?_
   refine W_cond2 (b := (decide (o.kind = 1))) rfl (fun h3 => ?_) (fun h3 => ?_)
   ·-- true
    replace h3 := of_decide_eq_true h3
    refine W_seq ?_
    refine W_any 15 [[], [0], [1, 0], [2, 1, 0], [], [0], [], [0], [], [2, 1, 0], [9, 8, 7, 6, 5, 4, 3, 2, 1, 0], [10, 9, 8, 7, 6, 5, 4, 3, 2, 1, 0], [11, 10, 9, 8, 7, 6, 5, 4, 3, 2, 1], [12, 11, 10, 9, 8, 7, 6, 5, 4, 3, 2, 1, 0], [13, 12, 11, 10, 9, 8, 7, 6, 5, 4, 3, 2, 1, 0]] mixed (by kernel_rfl) (by kernel_rfl) (by kernel_rfl) ?_
    intro w16 g17
    replace hb := g17.heap hb
    replace hc7 := g17.heap hc7
    replace G := G.tr g17
    clear g17
    apply AO_ex
    ·intro w_ g_; refine og rfl ?_; refine r_move_ptr rfl ?_; exact ⟨Grow.rfl' _, rfl⟩
    apply AO_ex
    ·intro w_ g_; refine og rfl ?_; refine r_nilCheck rfl ?_; exact ⟨Grow.rfl' _, rfl⟩
    apply AO_ex
    ·intro w_ g_; refine og rfl ?_; refine r_fieldAddr rfl ?_; exact ⟨Grow.rfl' _, rfl⟩
    apply AO_ex
    ·intro w_ g_; refine og rfl ?_; refine r_load (v := .iface t_ u_) rfl (g_.heap hb) rfl ?_; exact ⟨Grow.rfl' _, rfl⟩
    apply AO_ex
    ·intro w_ g_; refine og rfl ?_; refine r_fieldAddr rfl ?_; exact ⟨Grow.rfl' _, rfl⟩
    apply AO_ex
    ·intro w_ g_; refine og rfl ?_; refine r_load (v := .int .i64 o.seg) rfl (g_.heap hc7) rfl ?_; exact ⟨Grow.rfl' _, rfl⟩
    apply AO_ex
    ·intro w_ g_; refine og rfl ?_; refine r_fieldAddr rfl ?_; exact ⟨Grow.rfl' _, rfl⟩
    apply AO_ex
    ·intro w_ g_; refine og rfl ?_; refine r_load (v := .int .i64 o.at_) rfl (g_.heap hc7) rfl ?_; exact ⟨Grow.rfl' _, rfl⟩
    apply AO_ex
    ·intro w_ g_; refine og rfl ?_; refine r_move_int rfl ?_; exact ⟨Grow.rfl' _, rfl⟩
    apply AO_ex
    ·intro w_ g_; refine og rfl ?_; refine r_add rfl rfl ?_ ?_; constructor <;> omega; exact ⟨Grow.rfl' _, rfl⟩
    apply AO_ex
    ·intro w_ g_; refine og rfl ?_; exact r_srcWord H ((g0.tr G).tr g_) rfl rfl rfl (fun w2_ g2_ => ⟨g2_, rfl⟩)
    apply AO_ex
    ·intro w_ g_; refine og rfl ?_; refine r_extract (v := .int .u64 ((s.word o.seg (o.at_ + k)).1)) rfl rfl ?_; exact ⟨Grow.rfl' _, rfl⟩
    apply AO_ex
    ·intro w_ g_; refine og rfl ?_; refine r_extract (v := .int .u16 ((s.word o.seg (o.at_ + k)).2)) rfl rfl ?_; exact ⟨Grow.rfl' _, rfl⟩
    apply AO_ex
    ·intro w_ g_; refine og rfl ?_; refine r_assign_int rfl ?_; exact ⟨Grow.rfl' _, rfl⟩
    apply AO_ex
    ·intro w_ g_; refine og rfl ?_; refine r_assign_int rfl ?_; exact ⟨Grow.rfl' _, rfl⟩
    refine AO_nil ?_
    intro w18 g19
    replace hb := g19.heap hb
    replace hc7 := g19.heap hc7
    replace G := G.tr g19
    clear g19
    refine WL_nil ?_
    refine W_ret ?_
    refine ret2 (res_tmp (v := .int .u64 ((s.word o.seg (o.at_ + k)).1)) rfl) (res_tmp (v := .int .u16 ((s.word o.seg (o.at_ + k)).2)) rfl) ⟨?_, G⟩
    have h9 : atS s o k = s.word o.seg (o.at_ + k) := by unfold atS; rw [if_neg h1n, if_pos h3]
    rw [h9]
   ·-- false
    replace h3 := of_decide_eq_false h3
    refine W_seq (W_region rfl ?_)
    refine stp (r_fieldAddr rfl ?_)
    refine stp (r_load (v := .int .i64 o.size) rfl hc7 rfl ?_)
    refine stp (r_eql rfl rfl ?_)
    refine stp (r_assign_bool rfl ?_)
    refine WL_nil ?_
    refine W_cond2 (b := (decide (o.size = 6))) rfl (fun h4 => ?_) (fun h4 => ?_)
    ·-- true
     replace h4 := of_decide_eq_true h4
     refine W_seq (W_region rfl ?_)
     refine stp (r_assign_int rfl ?_)
     refine stp (r_assign_int rfl ?_)
     refine WL_nil ?_
     refine W_ret ?_
     refine ret2 (res_tmp (v := .int .u64 0) rfl) (res_tmp (v := .int .u16 23) rfl) ⟨?_, G⟩
     have h9 : atS s o k = (0, 23) := by unfold atS; rw [if_neg h1n, if_neg h3, if_pos h4]
     rw [h9]
    ·-- false
     replace h4 := of_decide_eq_false h4
     refine W_seq (W_region rfl ?_)
     refine stp (r_move_int rfl ?_)
     refine stp (r_fieldAddr rfl ?_)
     refine stp (r_load (v := .int .i64 o.count) rfl hc7 rfl ?_)
     refine stp (r_geq rfl rfl ?_)
     refine stp (r_assign_bool rfl ?_)
     refine WL_nil ?_
     refine W_cond2 (b := (decide (k ≥ o.count))) rfl (fun h5 => ?_) (fun h5 => ?_)
     ·-- true
      replace h5 := of_decide_eq_true h5
      refine W_seq (W_region rfl ?_)
      refine stp (r_assign_int rfl ?_)
      refine stp (r_assign_int rfl ?_)
      refine WL_nil ?_
      refine W_ret ?_
      refine ret2 (res_tmp (v := .int .u64 0) rfl) (res_tmp (v := .int .u16 20) rfl) ⟨?_, G⟩
      have h9 : atS s o k = (0, 20) := by unfold atS; rw [if_neg h1n, if_neg h3, if_neg h4, if_pos h5]
      rw [h9]
     ·-- false
      replace h5 := of_decide_eq_false h5
      refine W_seq (W_region rfl ?_)
      refine stp (r_fieldAddr rfl ?_)
      refine stp (r_load (v := .int .i64 o.size) rfl hc7 rfl ?_)
      refine stp (r_eql rfl rfl ?_)
      refine stp (r_assign_bool rfl ?_)
      refine WL_nil ?_
      refine W_cond2 (b := (decide (o.size = 5))) rfl (fun h6 => ?_) (fun h6 => ?_)
      ·-- true
       replace h6 := of_decide_eq_true h6
       refine W_seq ?_
       refine W_any 15 [[], [0], [1, 0], [2, 1, 0], [], [0], [], [0], [], [2, 1, 0], [9, 8, 7, 6, 5, 4, 3, 2, 1, 0], [10, 9, 8, 7, 6, 5, 4, 3, 2, 1, 0], [11, 10, 9, 8, 7, 6, 5, 4, 3, 2, 1], [12, 11, 10, 9, 8, 7, 6, 5, 4, 3, 2, 1, 0], [13, 12, 11, 10, 9, 8, 7, 6, 5, 4, 3, 2, 1, 0]] mixed (by kernel_rfl) (by kernel_rfl) (by kernel_rfl) ?_
       intro w20 g21
       replace hb := g21.heap hb
       replace hc7 := g21.heap hc7
       replace G := G.tr g21
       clear g21
       apply AO_ex
       ·intro w_ g_; refine og rfl ?_; refine r_move_ptr rfl ?_; exact ⟨Grow.rfl' _, rfl⟩
       apply AO_ex
       ·intro w_ g_; refine og rfl ?_; refine r_nilCheck rfl ?_; exact ⟨Grow.rfl' _, rfl⟩
       apply AO_ex
       ·intro w_ g_; refine og rfl ?_; refine r_fieldAddr rfl ?_; exact ⟨Grow.rfl' _, rfl⟩
       apply AO_ex
       ·intro w_ g_; refine og rfl ?_; refine r_load (v := .iface t_ u_) rfl (g_.heap hb) rfl ?_; exact ⟨Grow.rfl' _, rfl⟩
       apply AO_ex
       ·intro w_ g_; refine og rfl ?_; refine r_fieldAddr rfl ?_; exact ⟨Grow.rfl' _, rfl⟩
       apply AO_ex
       ·intro w_ g_; refine og rfl ?_; refine r_load (v := .int .i64 o.seg) rfl (g_.heap hc7) rfl ?_; exact ⟨Grow.rfl' _, rfl⟩
       apply AO_ex
       ·intro w_ g_; refine og rfl ?_; refine r_fieldAddr rfl ?_; exact ⟨Grow.rfl' _, rfl⟩
       apply AO_ex
       ·intro w_ g_; refine og rfl ?_; refine r_load (v := .int .i64 o.at_) rfl (g_.heap hc7) rfl ?_; exact ⟨Grow.rfl' _, rfl⟩
       apply AO_ex
       ·intro w_ g_; refine og rfl ?_; refine r_move_int rfl ?_; exact ⟨Grow.rfl' _, rfl⟩
       apply AO_ex
       ·intro w_ g_; refine og rfl ?_; refine r_add rfl rfl ?_ ?_; constructor <;> omega; exact ⟨Grow.rfl' _, rfl⟩
       apply AO_ex
       ·intro w_ g_; refine og rfl ?_; exact r_srcWord H ((g0.tr G).tr g_) rfl rfl rfl (fun w2_ g2_ => ⟨g2_, rfl⟩)
       apply AO_ex
       ·intro w_ g_; refine og rfl ?_; refine r_extract (v := .int .u64 ((s.word o.seg (o.at_ + k)).1)) rfl rfl ?_; exact ⟨Grow.rfl' _, rfl⟩
       apply AO_ex
       ·intro w_ g_; refine og rfl ?_; refine r_extract (v := .int .u16 ((s.word o.seg (o.at_ + k)).2)) rfl rfl ?_; exact ⟨Grow.rfl' _, rfl⟩
       apply AO_ex
       ·intro w_ g_; refine og rfl ?_; refine r_assign_int rfl ?_; exact ⟨Grow.rfl' _, rfl⟩
       apply AO_ex
       ·intro w_ g_; refine og rfl ?_; refine r_assign_int rfl ?_; exact ⟨Grow.rfl' _, rfl⟩
       refine AO_nil ?_
       intro w22 g23
       replace hb := g23.heap hb
       replace hc7 := g23.heap hc7
       replace G := G.tr g23
       clear g23
       refine WL_nil ?_
       refine W_ret ?_
       refine ret2 (res_tmp (v := .int .u64 ((s.word o.seg (o.at_ + k)).1)) rfl) (res_tmp (v := .int .u16 ((s.word o.seg (o.at_ + k)).2)) rfl) ⟨?_, G⟩
       have h9 : atS s o k = s.word o.seg (o.at_ + k) := by unfold atS; rw [if_neg h1n, if_neg h3, if_neg h4, if_neg h5, if_pos h6]
       rw [h9]
      ·-- false
       replace h6 := of_decide_eq_false h6
       refine W_skip ?_
       refine W_seq ?_
       refine W_any 17 [[], [0], [1, 0], [2, 1, 0], [], [0], [], [0], [], [0], [3, 2, 1, 0], [10, 9, 8, 7, 6, 5, 4, 3, 2, 1, 0], [11, 10, 9, 8, 7, 6, 5, 4, 3, 2, 1, 0], [12, 11, 10, 9, 8, 7, 6, 5, 4, 3, 2, 1, 0], [13, 12, 11, 10, 9, 8, 7, 6, 5, 4, 3, 2, 1], [14, 13, 12, 11, 10, 9, 8, 7, 6, 5, 4, 3, 2, 1], [15, 14, 13, 12, 11, 10, 9, 8, 7, 6, 5, 4, 3, 2, 1, 0]] mixed (by kernel_rfl) (by kernel_rfl) (by kernel_rfl) ?_
       intro w24 g25
       replace hb := g25.heap hb
       replace hc7 := g25.heap hc7
       replace G := G.tr g25
       clear g25
       apply AO_ex
       ·intro w_ g_; refine og rfl ?_; refine r_move_ptr rfl ?_; exact ⟨Grow.rfl' _, rfl⟩
       apply AO_ex
       ·intro w_ g_; refine og rfl ?_; refine r_nilCheck rfl ?_; exact ⟨Grow.rfl' _, rfl⟩
       apply AO_ex
       ·intro w_ g_; refine og rfl ?_; refine r_fieldAddr rfl ?_; exact ⟨Grow.rfl' _, rfl⟩
       apply AO_ex
       ·intro w_ g_; refine og rfl ?_; refine r_load (v := .iface t_ u_) rfl (g_.heap hb) rfl ?_; exact ⟨Grow.rfl' _, rfl⟩
       apply AO_ex
       ·intro w_ g_; refine og rfl ?_; refine r_fieldAddr rfl ?_; exact ⟨Grow.rfl' _, rfl⟩
       apply AO_ex
       ·intro w_ g_; refine og rfl ?_; refine r_load (v := .int .i64 o.seg) rfl (g_.heap hc7) rfl ?_; exact ⟨Grow.rfl' _, rfl⟩
       apply AO_ex
       ·intro w_ g_; refine og rfl ?_; refine r_fieldAddr rfl ?_; exact ⟨Grow.rfl' _, rfl⟩
       apply AO_ex
       ·intro w_ g_; refine og rfl ?_; refine r_load (v := .int .i64 o.at_) rfl (g_.heap hc7) rfl ?_; exact ⟨Grow.rfl' _, rfl⟩
       apply AO_ex
       ·intro w_ g_; refine og rfl ?_; refine r_move_int rfl ?_; exact ⟨Grow.rfl' _, rfl⟩
       apply AO_ex
       ·intro w_ g_; refine og rfl ?_; refine r_quo rfl rfl ?_ ?_ ?_ ?_; omega; omega; (constructor <;> omega); exact ⟨Grow.rfl' _, rfl⟩
       apply AO_ex
       ·intro w_ g_; refine og rfl ?_; refine r_add rfl rfl ?_ ?_; constructor <;> omega; exact ⟨Grow.rfl' _, rfl⟩
       apply AO_ex
       ·intro w_ g_; refine og rfl ?_; exact r_srcWord H ((g0.tr G).tr g_) rfl rfl rfl (fun w2_ g2_ => ⟨g2_, rfl⟩)
       apply AO_ex
       ·intro w_ g_; refine og rfl ?_; refine r_move (v := .tuple #[.int .u64 ((s.word o.seg (o.at_ + (k / 8))).1), .int .u16 ((s.word o.seg (o.at_ + (k / 8))).2)]) rfl ?_; exact ⟨Grow.rfl' _, rfl⟩
       apply AO_ex
       ·intro w_ g_; refine og rfl ?_; refine r_extract (v := .int .u64 ((s.word o.seg (o.at_ + (k / 8))).1)) rfl rfl ?_; exact ⟨Grow.rfl' _, rfl⟩
       apply AO_ex
       ·intro w_ g_; refine og rfl ?_; refine r_extract (v := .int .u16 ((s.word o.seg (o.at_ + (k / 8))).2)) rfl rfl ?_; exact ⟨Grow.rfl' _, rfl⟩
       apply AO_ex
       ·intro w_ g_; refine og rfl ?_; refine r_assign_int rfl ?_; exact ⟨Grow.rfl' _, rfl⟩
       apply AO_ex
       ·intro w_ g_; refine og rfl ?_; refine r_assign_int rfl ?_; exact ⟨Grow.rfl' _, rfl⟩
       refine AO_nil ?_
       intro w26 g27
       replace hb := g27.heap hb
       replace hc7 := g27.heap hc7
       replace G := G.tr g27
       clear g27
       refine WL_nil ?_
       refine W_seq (W_region rfl ?_)
       refine stp (r_move_int rfl ?_)
       refine stp (r_move_int rfl ?_)
       refine stp (r_rem rfl rfl ?_ ?_ ?_); omega; omega
       refine stp (r_mul rfl rfl ?_ ?_); constructor <;> omega
       refine stp (r_shr rfl rfl ?_ ?_); omega
       refine WL_some (og rfl ?_)
       refine r_and rfl rfl ?_
       rw [show (IntKind.bits .u64) = 64 from rfl, shr_byte _ (k % 8 * 8) n1 n2 (by omega) (by omega)]
       refine stp (r_move_int rfl ?_)
       refine stp (r_assign_int rfl ?_)
       refine stp (r_assign_int rfl ?_)
       refine WL_nil ?_
       refine W_ret ?_
       refine ret2 (res_tmp (v := .int .u64 ((s.word o.seg (o.at_ + k / 8)).1 / 2 ^ (k % 8 * 8).toNat % 256)) rfl) (res_tmp (v := .int .u16 ((s.word o.seg (o.at_ + (k / 8))).2)) rfl) ⟨?_, G⟩
       have h9 : atS s o k = ((s.word o.seg (o.at_ + k / 8)).1 / 2 ^ (k % 8 * 8).toNat % 256, (s.word o.seg (o.at_ + k / 8)).2) := by unfold atS; rw [if_neg h1n, if_neg h3, if_neg h4, if_neg h5, if_neg h6]
       rw [h9]

set_option maxRecDepth 100000 in
theorem walk_calls (w : World) {src : Value} {s : Src} (H : SrcOk Try.prog w src s) {ad : Option Addr} {c : Nat} {steps : List Int} {a cost : Int} (R : RowAt w 1 ad steps.length (steps.map (.int .i64))) (hR : ∀ x ∈ steps, inR .i64 x) (ha : inR .i64 a) (hc : inR .i64 cost) : Gives Try.prog 28 #[src, .agg #[.slice ad steps.length c, .int .i64 a], .int .i64 cost] w (.tuple #[.agg #[.int .i64 ((walkS s steps a cost).1.kind), .int .i64 ((walkS s steps a cost).1.size), .int .i64 ((walkS s steps a cost).1.words), .int .i64 ((walkS s steps a cost).1.kids), .int .u64 ((walkS s steps a cost).1.word)], .int .u16 ((walkS s steps a cost).2)]) := by
 obtain ⟨t_, u_, f_, rfl, -, -⟩ := H.word
 have ll := R.lim
 simp only [inR] at ha hc
 have G := Grow.rfl' w
 refine gives_of Try.func28 Try.ntmps28 Try.results28 rfl rfl ?_
 refine W_seq (W_region rfl ?_)
 refine WL_some (og rfl ?_)
 (first | refine r_box_agg rfl ?_ | refine r_box_int rfl ?_ | refine r_box_slice rfl ?_ | refine r_box rfl rfl ?_)
 intro b1 w2 hb3 hc4 g5
 have hge6 := Nat.le_trans G.size hb3
 replace G := G.tr g5
 clear g5 hb3
 refine stp (r_alloc ?_)
 intro b7 w8 hb9 hc10 g11
 refine stp (r_assign_int rfl ?_)
 refine WL_nil ?_
 refine W_scope ?_
 refine W_seq ?_
 refine W_seq (W_region rfl ?_)
 refine stp (r_fieldAddr rfl ?_)
 have hge12 := Nat.le_trans G.size hb9
 have ne13 := Nat.ne_of_lt (Nat.lt_of_lt_of_le (lt_of_heap hc4) hb9)
 replace hc4 := g11.heap hc4
 replace G := G.tr g11
 clear g11 hb9
 refine stp (r_load (v := .slice ad steps.length c) rfl hc4 rfl ?_)
 refine stp (r_len rfl rfl rfl ?_)
 refine stp (r_move_int rfl ?_)
 refine WL_nil ?_
 refine W_block ?_
 refine W_loop (fun m_ e_ w_ => ∃ (k : Nat), m_ = steps.length - k ∧ Fr [(0, .iface t_ u_), (2, .int .i64 cost), (4, .pointer (some ⟨b1, 0, none⟩)), (6, .pointer (some ⟨b7, 0, none⟩)), (20, .slice ad steps.length c), (21, .int .i64 (steps.length : Int)), (22, .int .i64 (k : Int))] e_ ∧ (k ≤ steps.length) ∧ (∀ j, j < k → 0 ≤ steps.getD j 0) ∧ (w_.heap[b1]? = some (.cells #[.slice ad steps.length c, .int .i64 a] 29 (0, 0))) ∧ (w_.heap[b7]? = some (.cells #[.int .i64 0, .int .i64 0, .int .i64 0, .int .i64 0, .int .u64 0] 35 (0, 0))) ∧ Grow w w_) _ ⟨0, rfl, fr_of ⟨rfl, rfl, rfl, rfl, rfl, rfl, rfl, trivial⟩, by omega, fun j hj => by omega, hc4, hc10, G⟩ ?_
 clear hc4 hc10
 clear G
 rintro m_ e_ w14 ⟨k, rfl, ⟨e15, rfl⟩, hk2, hnn, hc4, hc10, G⟩
 refine W_seq (W_region rfl ?_)
 refine stp (r_lss rfl rfl ?_)
 refine WL_nil ?_
 refine W_seq ?_
 refine W_cond2 (b := (decide ((k : Int) < (steps.length : Int)))) rfl (fun hlt1 => ?_) (fun hlt1 => ?_)
 ·-- true
  replace hlt1 := of_decide_eq_true hlt1
  have hi : k < steps.length := by omega
  refine W_skip ?_
  refine W_seq ?_
  refine W_block ?_
  refine W_seq (W_region rfl ?_)
  refine stp (r_indexN (R.grow G) rfl rfl ?_ ?_); omega
  refine stp (r_loadR (v := .int .i64 (steps.getD k 0)) (m := 0) (R.grow G) rfl (map_get1 0 (by omega)) ?_)
  refine stp (r_assign_int rfl ?_)
  refine WL_nil ?_
  refine W_seq (W_region rfl ?_)
  refine stp (r_move_int rfl ?_)
  refine stp (r_lss rfl rfl ?_)
  refine WL_nil ?_
  refine W_cond2 (b := (decide ((steps.getD k 0) < 0))) rfl (fun h2 => ?_) (fun h2 => ?_)
  ·-- true
   replace h2 := of_decide_eq_true h2
   refine W_seq (W_region rfl ?_)
   refine stp (r_build (v := .agg #[.int .i64 0, .int .i64 0, .int .i64 0, .int .i64 0, .int .u64 0]) (fun w => by kernel_rfl) ?_)
   refine stn (r_storeAll rfl rfl hc10 (by rfl) (by rfl) (by rfl) ?_)
   intro w16 hc17 u18
   replace hc4 := u18.heap hc4 ne13
   replace G := G.upd u18 hge12
   clear u18 hc10
   refine stp (r_assign_int rfl ?_)
   refine WL_nil ?_
   refine W_ret ?_
   have h9 : (walkS s steps a cost) = (Vl0, 1) := by unfold walkS; rw [if_pos ⟨_, getD_mem hi, h2⟩]
   refine ret2 (res_all rfl hc17 (by rfl)) (res_tmp (v := .int .u16 1) rfl) ⟨?_, G⟩
   rw [h9] <;> rfl
  ·-- false
   replace h2 := of_decide_eq_false h2
   refine W_skip ?_
   refine W_region rfl ?_
   refine stp (r_add rfl rfl ?_ ?_); constructor <;> omega
   refine stp (r_move_int rfl ?_)
   refine WL_nil ?_
   refine ⟨_, ?_, k + 1, rfl, fr_of ⟨rfl, rfl, rfl, rfl, rfl, rfl, rfl, trivial⟩, by omega, fun j hj => by rcases Nat.lt_succ_iff_lt_or_eq.1 hj with h_ | h_; exact hnn j h_; subst h_; omega, hc4, hc10, G⟩
   omega
 ·-- false
  replace hlt1 := of_decide_eq_false hlt1
  replace hnn : ∀ j, j < steps.length → 0 ≤ steps.getD j 0 := fun j hj => hnn j (by omega)
  have hno : ¬ ∃ k ∈ steps, k < 0 := fun ⟨x_, hx_, hlt_⟩ => by obtain ⟨j_, hj_, he_⟩ := List.getElem_of_mem hx_; have := hnn j_ hj_; rw [getD_at hj_] at this; omega
  refine W_exit ?_
  refine W_seq ?_
  refine W_seq (W_region rfl ?_)
  refine stp (r_fieldAddr rfl ?_)
  refine stp (r_load (v := .slice ad steps.length c) rfl hc4 rfl ?_)
  refine stp (r_len rfl rfl rfl ?_)
  refine stp (r_gtr rfl rfl ?_)
  refine WL_nil ?_
  refine W_cond2 (b := (decide ((steps.length : Int) > 32))) rfl (fun h3 => ?_) (fun h3 => ?_)
  ·-- true
   replace h3 := of_decide_eq_true h3
   refine W_seq (W_region rfl ?_)
   refine stp (r_build (v := .agg #[.int .i64 0, .int .i64 0, .int .i64 0, .int .i64 0, .int .u64 0]) (fun w => by kernel_rfl) ?_)
   refine stn (r_storeAll rfl rfl hc10 (by rfl) (by rfl) (by rfl) ?_)
   intro w19 hc20 u21
   replace hc4 := u21.heap hc4 ne13
   replace G := G.upd u21 hge12
   clear u21 hc10
   refine stp (r_assign_int rfl ?_)
   refine WL_nil ?_
   refine W_ret ?_
   have h9 : (walkS s steps a cost) = (Vl0, 3) := by unfold walkS; rw [if_neg hno, if_pos h3]
   refine ret2 (res_all rfl hc20 (by rfl)) (res_tmp (v := .int .u16 3) rfl) ⟨?_, G⟩
   rw [h9] <;> rfl
  ·-- false
   replace h3 := of_decide_eq_false h3
   refine W_skip ?_
   refine W_seq (W_region rfl ?_)
   refine stp (r_move (v := .iface t_ u_) rfl ?_)
   refine stp (r_gives (v := .tuple #[.agg #[.int .i64 ((followS s 0 0).1.kind), .int .i64 ((followS s 0 0).1.seg), .int .i64 ((followS s 0 0).1.at_), .int .i64 ((followS s 0 0).1.data), .int .i64 ((followS s 0 0).1.ptrs), .int .i64 ((followS s 0 0).1.size), .int .i64 ((followS s 0 0).1.count)], .int .u16 ((followS s 0 0).2)]) rfl (follow_calls _ (H.grow G) 0 0) ?_)
   intro w22 g23
   replace hc4 := g23.heap hc4
   replace hc10 := g23.heap hc10
   replace G := G.tr g23
   clear g23
   refine stp (r_move (v := .tuple #[.agg #[.int .i64 ((followS s 0 0).1.kind), .int .i64 ((followS s 0 0).1.seg), .int .i64 ((followS s 0 0).1.at_), .int .i64 ((followS s 0 0).1.data), .int .i64 ((followS s 0 0).1.ptrs), .int .i64 ((followS s 0 0).1.size), .int .i64 ((followS s 0 0).1.count)], .int .u16 ((followS s 0 0).2)]) rfl ?_)
   refine stp (r_extract (v := .agg #[.int .i64 ((followS s 0 0).1.kind), .int .i64 ((followS s 0 0).1.seg), .int .i64 ((followS s 0 0).1.at_), .int .i64 ((followS s 0 0).1.data), .int .i64 ((followS s 0 0).1.ptrs), .int .i64 ((followS s 0 0).1.size), .int .i64 ((followS s 0 0).1.count)]) rfl rfl ?_)
   refine stp (r_extract (v := .int .u16 ((followS s 0 0).2)) rfl rfl ?_)
   refine stp (r_alloc ?_)
   intro b24 w25 hb26 hc27 g28
   refine stn (r_storeAll rfl rfl hc27 (by rfl) (by rfl) (by rfl) ?_)
   intro w29 hc30 u31
   have g32 := g28.upd u31 hb26
   have hge33 := Nat.le_trans G.size hb26
   have ne34 := Nat.ne_of_lt (Nat.lt_of_lt_of_le (lt_of_heap hc4) hb26)
   have ne35 := Nat.ne_of_lt (Nat.lt_of_lt_of_le (lt_of_heap hc10) hb26)
   replace hc4 := g32.heap hc4
   replace hc10 := g32.heap hc10
   replace G := G.tr g32
   clear u31 g28 hb26 hc27
   refine stp (r_assign_int rfl ?_)
   refine WL_nil ?_
   refine W_seq ?_
   refine W_seq (W_region rfl ?_)
   refine stp (r_move_int rfl ?_)
   refine stp (r_neq rfl rfl ?_)
   refine WL_nil ?_
   refine W_cond2 (b := (decide (((followS s 0 0).2) ≠ 0))) rfl (fun h4 => ?_) (fun h4 => ?_)
   ·-- true
    replace h4 := of_decide_eq_true h4
    refine W_seq (W_region rfl ?_)
    refine stp (r_build (v := .agg #[.int .i64 0, .int .i64 0, .int .i64 0, .int .i64 0, .int .u64 0]) (fun w => by kernel_rfl) ?_)
    refine stp (r_move_int rfl ?_)
    refine stn (r_storeAll rfl rfl hc10 (by rfl) (by rfl) (by rfl) ?_)
    intro w36 hc37 u38
    replace hc4 := u38.heap hc4 ne13
    replace hc30 := u38.heap hc30 ne35.symm
    replace G := G.upd u38 hge12
    clear u38 hc10
    refine stp (r_assign_int rfl ?_)
    refine WL_nil ?_
    refine W_ret ?_
    have h9 : (walkS s steps a cost) = (Vl0, (followS s 0 0).2) := by unfold walkS; rw [if_neg hno, if_neg h3, if_pos h4]
    refine ret2 (res_all rfl hc37 (by rfl)) (res_tmp (v := .int .u16 ((followS s 0 0).2)) rfl) ⟨?_, G⟩
    rw [h9] <;> rfl
   ·-- false
    replace h4 := of_decide_eq_false h4
    have hr0_ := followS_range H 0 0
    refine W_skip ?_
    refine W_seq (W_region rfl ?_)
    refine stp (r_move (v := .iface t_ u_) rfl ?_)
    refine stp (r_loadAll rfl hc30 (by rfl) ?_)
    refine stp (r_move_int rfl ?_)
    refine WL_some (og rfl ?_)
    refine r_max rfl rfl rfl ?_
    rw [show (if (-1 : Int) > cost then -1 else cost) = max cost (-1) from by split <;> omega]
    obtain ⟨left0, hl0⟩ : ∃ x, x = max cost (-1) := ⟨_, rfl⟩
    rw [← hl0]
    refine stp (r_build (v := .agg #[.iface t_ u_, .int .i64 ((followS s 0 0).1.kind), .int .i64 ((followS s 0 0).1.seg), .int .i64 ((followS s 0 0).1.at_), .int .i64 ((followS s 0 0).1.data), .int .i64 ((followS s 0 0).1.ptrs), .int .i64 ((followS s 0 0).1.size), .int .i64 ((followS s 0 0).1.count), .int .i64 left0]) (fun w => by kernel_rfl) ?_)
    refine WL_some (og rfl ?_)
    (first | refine r_box_agg rfl ?_ | refine r_box_int rfl ?_ | refine r_box_slice rfl ?_ | refine r_box rfl rfl ?_)
    intro b39 w40 hb41 hc42 g43
    have hge44 := Nat.le_trans G.size hb41
    have ne45 := Nat.ne_of_lt (Nat.lt_of_lt_of_le (lt_of_heap hc10) hb41)
    have ne46 := Nat.ne_of_lt (Nat.lt_of_lt_of_le (lt_of_heap hc30) hb41)
    replace hc4 := g43.heap hc4
    replace hc10 := g43.heap hc10
    replace hc30 := g43.heap hc30
    replace G := G.tr g43
    clear g43 hb41
    refine stp (r_assign_ptr rfl ?_)
    refine WL_nil ?_
    refine W_seq (W_region rfl ?_)
    refine stp (r_move_ptr rfl ?_)
    refine stp (r_makeFunc (vs := [.pointer (some ⟨b39, 0, none⟩)]) (us := []) rfl rfl ?_)
    refine stp (r_assign_func rfl ?_)
    refine WL_nil ?_
    refine W_seq ?_
    refine W_seq (W_region rfl ?_)
    refine stp (r_move_func rfl ?_)
    refine WL_some (og rfl ?_)
    refine r_call rfl (pay_calls _ hc42 (by omega) (wordsO_range (followS_range H 0 0))) ?_
    rintro v_ w47 ⟨rfl, hb48, K_⟩
    replace hc4 := K_.heap hc4 (fun hm_ => by simp only [List.mem_singleton] at hm_; rw [hm_, hc42] at hc4; exact absurd hc4 (by simp))
    replace hc10 := K_.heap hc10 (fun hm_ => by simp only [List.mem_singleton] at hm_; first | exact ne45 hm_ | exact ne45 hm_.symm)
    replace hc30 := K_.heap hc30 (fun hm_ => by simp only [List.mem_singleton] at hm_; first | exact ne46 hm_ | exact ne46 hm_.symm)
    replace G := G.trK K_ (fun x_ hx_ => by simp only [List.mem_singleton] at hx_; subst hx_; exact hge44)
    clear K_ hc42
    obtain ⟨e49, he49⟩ : ∃ x, x = (if left0 - (1 + wordsO (followS s 0 0).1) < 0 then (22 : Int) else 0) := ⟨_, rfl⟩
    rw [← he49]
    have hqe49 : (left0 - (1 + wordsO (followS s 0 0).1) < 0 ∧ e49 = 22) ∨ (¬ left0 - (1 + wordsO (followS s 0 0).1) < 0 ∧ e49 = 0) := by rw [he49]; split <;> omega
    refine stp (r_assign_int rfl ?_)
    refine WL_nil ?_
    refine W_seq (W_region rfl ?_)
    refine stp (r_move_int rfl ?_)
    refine stp (r_neq rfl rfl ?_)
    refine WL_nil ?_
    refine W_cond2 (b := (decide (e49 ≠ 0))) rfl (fun h5 => ?_) (fun h5 => ?_)
    ·-- true
     replace h5 := of_decide_eq_true h5
     have he_ : e49 = 22 := by omega
     refine W_seq (W_region rfl ?_)
     refine stp (r_build (v := .agg #[.int .i64 0, .int .i64 0, .int .i64 0, .int .i64 0, .int .u64 0]) (fun w => by kernel_rfl) ?_)
     refine stp (r_move_int rfl ?_)
     refine stn (r_storeAll rfl rfl hc10 (by rfl) (by rfl) (by rfl) ?_)
     intro w50 hc51 u52
     replace hc4 := u52.heap hc4 ne13
     replace hc30 := u52.heap hc30 ne35.symm
     replace hb48 := u52.heap hb48 ne45.symm
     replace G := G.upd u52 hge12
     clear u52 hc10
     refine stp (r_assign_int rfl ?_)
     refine WL_nil ?_
     refine W_ret ?_
     have h9 : (walkS s steps a cost) = (Vl0, 22) := by unfold walkS; rw [if_neg hno, if_neg h3, if_neg h4, ← hl0, if_pos (by omega)]
     refine ret2 (res_all rfl hc51 (by rfl)) (res_tmp (v := .int .u16 e49) rfl) ⟨?_, G⟩
     rw [h9, he_] <;> rfl
    ·-- false
     replace h5 := of_decide_eq_false h5
     have hw0 : (walkS s steps a cost) = nextS s a (steps.drop 0) (followS s 0 0).1 (left0 - (1 + wordsO (followS s 0 0).1)) := by unfold walkS; rw [if_neg hno, if_neg h3, if_neg h4, ← hl0, if_neg (by omega)]; rfl
     refine W_skip ?_
     refine W_seq ?_
     refine W_label ?_
     refine W_seq ?_
     refine W_seq (W_region rfl ?_)
     refine stp (r_fieldAddr rfl ?_)
     refine stp (r_load (v := .slice ad steps.length c) rfl hc4 rfl ?_)
     refine stp (r_len rfl rfl rfl ?_)
     refine stp (r_move_int rfl ?_)
     refine WL_nil ?_
     refine W_block ?_
     have hlw := wordsO_range hr0_
     refine W_loop (fun m_ e_ w_ => ∃ (k : Nat) (o : Ob) (left : Int), m_ = steps.length - k ∧ Fr [(4, .pointer (some ⟨b1, 0, none⟩)), (6, .pointer (some ⟨b7, 0, none⟩)), (11, .int .u16 ((followS s 0 0).2)), (12, .pointer (some ⟨b39, 0, none⟩)), (13, .func (.func 56) #[.pointer (some ⟨b39, 0, none⟩)] #[]), (59, .slice ad steps.length c), (60, .int .i64 (steps.length : Int)), (61, .int .i64 (k : Int))] e_ ∧ (k ≤ steps.length) ∧ (ObR o) ∧ (0 ≤ left ∧ left ≤ 9223372036854775807) ∧ ((walkS s steps a cost) = nextS s a (steps.drop k) o left) ∧ (w_.heap[b1]? = some (.cells #[.slice ad steps.length c, .int .i64 a] 29 (0, 0))) ∧ (w_.heap[b7]? = some (.cells #[.int .i64 0, .int .i64 0, .int .i64 0, .int .i64 0, .int .u64 0] 35 (0, 0))) ∧ (w_.heap[b24]? = some (.cells #[.int .i64 ((followS s 0 0).1.kind), .int .i64 ((followS s 0 0).1.seg), .int .i64 ((followS s 0 0).1.at_), .int .i64 ((followS s 0 0).1.data), .int .i64 ((followS s 0 0).1.ptrs), .int .i64 ((followS s 0 0).1.size), .int .i64 ((followS s 0 0).1.count)] 111 (0, 0))) ∧ (w_.heap[b39]? = some (.cells #[.iface t_ u_, .int .i64 o.kind, .int .i64 o.seg, .int .i64 o.at_, .int .i64 o.data, .int .i64 o.ptrs, .int .i64 o.size, .int .i64 o.count, .int .i64 left] 116 (0, 0))) ∧ Grow w w_) _ ⟨0, (followS s 0 0).1, (left0 - (1 + wordsO (followS s 0 0).1)), rfl, fr_of ⟨rfl, rfl, rfl, rfl, rfl, rfl, rfl, rfl, trivial⟩, by omega, hr0_, by omega, hw0, hc4, hc10, hc30, hb48, G⟩ ?_
     clear hc4 hc10 hc30 hb48
     clear G
     rintro m_ e_ w53 ⟨k, o, left, rfl, ⟨e54, rfl⟩, hk2, ho, hlf, hw, hc4, hc10, hc30, hb48, G⟩
     refine W_seq (W_region rfl ?_)
     refine stp (r_lss rfl rfl ?_)
     refine WL_nil ?_
     refine W_seq ?_
     refine W_cond2 (b := (decide ((k : Int) < (steps.length : Int)))) rfl (fun hlt => ?_) (fun hlt => ?_)
     ·-- true
      replace hlt := of_decide_eq_true hlt
      have hi : k < steps.length := by omega
      have hdr : steps.drop k = (steps.getD k 0) :: steps.drop (k + 1) := by rw [List.drop_eq_getElem_cons hi, getD_at hi]
      have hkk := hnn k hi
      have hso := stepS_range H ho (steps.getD k 0)
      have hsw := wordsO_range hso
      refine W_skip ?_
      refine W_seq ?_
      refine W_block ?_
      refine W_seq (W_region rfl ?_)
      refine stp (r_indexN (R.grow G) rfl rfl ?_ ?_); omega
      refine stp (r_loadR (v := .int .i64 (steps.getD k 0)) (m := 0) (R.grow G) rfl (map_get1 0 (by omega)) ?_)
      refine stp (r_assign_int rfl ?_)
      refine WL_nil ?_
      refine W_seq (W_region rfl ?_)
      refine stp (r_move_ptr rfl ?_)
      refine stp (r_move_int rfl ?_)
      refine WL_some (og rfl ?_)
      refine r_call rfl (step_calls _ H G hge44 hb48 ho hkk) ?_
      rintro v_ w55 ⟨rfl, hb56, K_⟩
      replace hc4 := K_.heap hc4 (fun hm_ => by simp only [List.mem_singleton] at hm_; rw [hm_, hb48] at hc4; exact absurd hc4 (by simp))
      replace hc10 := K_.heap hc10 (fun hm_ => by simp only [List.mem_singleton] at hm_; first | exact ne45 hm_ | exact ne45 hm_.symm)
      replace hc30 := K_.heap hc30 (fun hm_ => by simp only [List.mem_singleton] at hm_; first | exact ne46 hm_ | exact ne46 hm_.symm)
      replace G := G.trK K_ (fun x_ hx_ => by simp only [List.mem_singleton] at hx_; subst hx_; exact hge44)
      clear K_ hb48
      refine stp (r_assign_int rfl ?_)
      refine WL_nil ?_
      refine W_seq ?_
      refine W_seq (W_region rfl ?_)
      refine stp (r_move_int rfl ?_)
      refine stp (r_eql rfl rfl ?_)
      refine WL_nil ?_
      refine W_cond2 (b := (decide (((stepS s o (steps.getD k 0)).2) = 0))) rfl (fun h7 => ?_) (fun h7 => ?_)
      ·-- true
       replace h7 := of_decide_eq_true h7
       refine W_region rfl ?_
       refine stp (r_move_func rfl ?_)
       refine WL_some (og rfl ?_)
       refine r_call rfl (pay_calls _ hb56 (by omega) (wordsO_range hso)) ?_
       rintro v_ w57 ⟨rfl, hb58, K_⟩
       replace hc4 := K_.heap hc4 (fun hm_ => by simp only [List.mem_singleton] at hm_; rw [hm_, hb56] at hc4; exact absurd hc4 (by simp))
       replace hc10 := K_.heap hc10 (fun hm_ => by simp only [List.mem_singleton] at hm_; first | exact ne45 hm_ | exact ne45 hm_.symm)
       replace hc30 := K_.heap hc30 (fun hm_ => by simp only [List.mem_singleton] at hm_; first | exact ne46 hm_ | exact ne46 hm_.symm)
       replace G := G.trK K_ (fun x_ hx_ => by simp only [List.mem_singleton] at hx_; subst hx_; exact hge44)
       clear K_ hb56
       obtain ⟨e59, he59⟩ : ∃ x, x = (if left - (1 + wordsO (stepS s o (steps.getD k 0)).1) < 0 then (22 : Int) else 0) := ⟨_, rfl⟩
       rw [← he59]
       have hqe59 : (left - (1 + wordsO (stepS s o (steps.getD k 0)).1) < 0 ∧ e59 = 22) ∨ (¬ left - (1 + wordsO (stepS s o (steps.getD k 0)).1) < 0 ∧ e59 = 0) := by rw [he59]; split <;> omega
       refine stp (r_assign_int rfl ?_)
       refine WL_nil ?_
       refine W_seq ?_
       refine W_seq (W_region rfl ?_)
       refine stp (r_move_int rfl ?_)
       refine stp (r_eql rfl rfl ?_)
       refine WL_nil ?_
       refine W_cond2 (b := (decide (e59 = 0))) rfl (fun h8 => ?_) (fun h8 => ?_)
       ·-- true
        replace h8 := of_decide_eq_true h8
        refine W_exit ?_
        refine W_region rfl ?_
        refine stp (r_add rfl rfl ?_ ?_); constructor <;> omega
        refine stp (r_move_int rfl ?_)
        refine WL_nil ?_
        refine ⟨_, ?_, k + 1, (stepS s o (steps.getD k 0)).1, left - (1 + wordsO (stepS s o (steps.getD k 0)).1), rfl, fr_of ⟨rfl, rfl, rfl, rfl, rfl, rfl, rfl, rfl, trivial⟩, by omega, hso, by omega, by rw [hw, hdr, nextS, if_neg (by omega), if_neg (by omega)], hc4, hc10, hc30, hb58, G⟩
        omega
       ·-- false
        replace h8 := of_decide_eq_false h8
        have he_ : e59 = 22 := by omega
        refine W_skip ?_
        refine W_seq (W_region rfl ?_)
        refine stp (r_build (v := .agg #[.int .i64 0, .int .i64 0, .int .i64 0, .int .i64 0, .int .u64 0]) (fun w => by kernel_rfl) ?_)
        refine stp (r_move_int rfl ?_)
        refine stn (r_storeAll rfl rfl hc10 (by rfl) (by rfl) (by rfl) ?_)
        intro w60 hc61 u62
        replace hc4 := u62.heap hc4 ne13
        replace hc30 := u62.heap hc30 ne35.symm
        replace hb58 := u62.heap hb58 ne45.symm
        replace G := G.upd u62 hge12
        clear u62 hc10
        refine stp (r_assign_int rfl ?_)
        refine WL_nil ?_
        refine W_ret ?_
        have h9 : (walkS s steps a cost) = (Vl0, 22) := by rw [hw, hdr, nextS, if_neg (by omega), if_pos (by omega)]
        refine ret2 (res_all rfl hc61 (by rfl)) (res_tmp (v := .int .u16 e59) rfl) ⟨?_, G⟩
        rw [h9, he_] <;> rfl
      ·-- false
       replace h7 := of_decide_eq_false h7
       refine W_skip ?_
       refine W_seq ?_
       refine W_seq (W_region rfl ?_)
       refine stp (r_move_int rfl ?_)
       refine stp (r_eql_f rfl rfl (by omega) ?_)
       refine WL_nil ?_
       refine W_false rfl ?_
       refine W_skip ?_
       refine W_seq (W_region rfl ?_)
       refine stp (r_build (v := .agg #[.int .i64 0, .int .i64 0, .int .i64 0, .int .i64 0, .int .u64 0]) (fun w => by kernel_rfl) ?_)
       refine stp (r_move_int rfl ?_)
       refine stn (r_storeAll rfl rfl hc10 (by rfl) (by rfl) (by rfl) ?_)
       intro w63 hc64 u65
       replace hc4 := u65.heap hc4 ne13
       replace hc30 := u65.heap hc30 ne35.symm
       replace hb56 := u65.heap hb56 ne45.symm
       replace G := G.upd u65 hge12
       clear u65 hc10
       refine stp (r_assign_int rfl ?_)
       refine WL_nil ?_
       refine W_ret ?_
       have h9 : (walkS s steps a cost) = (Vl0, (stepS s o (steps.getD k 0)).2) := by rw [hw, hdr, nextS, if_pos h7]
       refine ret2 (res_all rfl hc64 (by rfl)) (res_tmp (v := .int .u16 ((stepS s o (steps.getD k 0)).2)) rfl) ⟨?_, G⟩
       rw [h9] <;> rfl
     ·-- false
      replace hlt := of_decide_eq_false hlt
      have hk9 : k = steps.length := by omega
      have hv : (walkS s steps a cost) = valS s o a := by rw [hw, hk9, List.drop_length, nextS]
      refine W_exit ?_
      refine W_seq ?_
      refine W_seq (W_region rfl ?_)
      refine stp (r_fieldAddr rfl ?_)
      refine stp (r_load (v := .int .i64 a) rfl hc4 rfl ?_)
      refine stp (r_lss rfl rfl ?_)
      refine WL_nil ?_
      refine W_cond2 (b := (decide (a < 0))) rfl (fun h6 => ?_) (fun h6 => ?_)
      ·-- true
       replace h6 := of_decide_eq_true h6
       refine W_seq (W_region rfl ?_)
       refine stp (r_move_ptr rfl ?_)
       refine stp (r_gives (v := .agg #[.int .i64 ((isS o).kind), .int .i64 ((isS o).size), .int .i64 ((isS o).words), .int .i64 ((isS o).kids), .int .u64 ((isS o).word)]) rfl (is_calls _ hb48) ?_)
       intro w66 g67
       replace hc4 := g67.heap hc4
       replace hc10 := g67.heap hc10
       replace hc30 := g67.heap hc30
       replace hb48 := g67.heap hb48
       replace G := G.tr g67
       clear g67
       refine stn (r_storeAll rfl rfl hc10 (by rfl) (by rfl) (by rfl) ?_)
       intro w68 hc69 u70
       replace hc4 := u70.heap hc4 ne13
       replace hc30 := u70.heap hc30 ne35.symm
       replace hb48 := u70.heap hb48 ne45.symm
       replace G := G.upd u70 hge12
       clear u70 hc10
       refine stp (r_assign_int rfl ?_)
       refine WL_nil ?_
       refine W_ret ?_
       have h9 : (walkS s steps a cost) = (isS o, 0) := by rw [hv, valS, if_pos h6]
       refine ret2 (res_all rfl hc69 (by rfl)) (res_tmp (v := .int .u16 0) rfl) ⟨?_, G⟩
       rw [h9] <;> rfl
      ·-- false
       replace h6 := of_decide_eq_false h6
       refine W_skip ?_
       refine W_seq (W_region rfl ?_)
       refine stp (r_move_ptr rfl ?_)
       refine stp (r_fieldAddr rfl ?_)
       refine stp (r_load (v := .int .i64 a) rfl hc4 rfl ?_)
       refine stp (r_gives (v := .tuple #[.int .u64 ((atS s o a).1), .int .u16 ((atS s o a).2)]) rfl (wword_calls _ H G hge44 hb48 ho (by omega) (by omega)) ?_)
       intro w71 g72
       replace hc4 := g72.heap hc4
       replace hc10 := g72.heap hc10
       replace hc30 := g72.heap hc30
       replace hb48 := g72.heap hb48
       replace G := G.tr g72
       clear g72
       refine stp (r_move (v := .tuple #[.int .u64 ((atS s o a).1), .int .u16 ((atS s o a).2)]) rfl ?_)
       refine stp (r_extract (v := .int .u64 ((atS s o a).1)) rfl rfl ?_)
       refine stp (r_extract (v := .int .u16 ((atS s o a).2)) rfl rfl ?_)
       refine stp (r_assign_int rfl ?_)
       refine stp (r_assign_int rfl ?_)
       refine WL_nil ?_
       refine W_seq ?_
       refine W_seq (W_region rfl ?_)
       refine stp (r_move_int rfl ?_)
       refine stp (r_neq rfl rfl ?_)
       refine WL_nil ?_
       refine W_cond2 (b := (decide (((atS s o a).2) ≠ 0))) rfl (fun h7 => ?_) (fun h7 => ?_)
       ·-- true
        replace h7 := of_decide_eq_true h7
        refine W_seq (W_region rfl ?_)
        refine stp (r_build (v := .agg #[.int .i64 0, .int .i64 0, .int .i64 0, .int .i64 0, .int .u64 0]) (fun w => by kernel_rfl) ?_)
        refine stp (r_move_int rfl ?_)
        refine stn (r_storeAll rfl rfl hc10 (by rfl) (by rfl) (by rfl) ?_)
        intro w73 hc74 u75
        replace hc4 := u75.heap hc4 ne13
        replace hc30 := u75.heap hc30 ne35.symm
        replace hb48 := u75.heap hb48 ne45.symm
        replace G := G.upd u75 hge12
        clear u75 hc10
        refine stp (r_assign_int rfl ?_)
        refine WL_nil ?_
        refine W_ret ?_
        have h9 : (walkS s steps a cost) = (Vl0, (atS s o a).2) := by rw [hv, valS, if_neg h6, if_pos h7]
        refine ret2 (res_all rfl hc74 (by rfl)) (res_tmp (v := .int .u16 ((atS s o a).2)) rfl) ⟨?_, G⟩
        rw [h9] <;> rfl
       ·-- false
        replace h7 := of_decide_eq_false h7
        refine W_skip ?_
        refine W_seq (W_region rfl ?_)
        refine stp (r_move_ptr rfl ?_)
        refine stp (r_nilCheck rfl ?_)
        refine stp (r_fieldAddr rfl ?_)
        refine stp (r_fieldAddr rfl ?_)
        refine stp (r_load (v := .int .i64 o.kind) rfl hb48 rfl ?_)
        refine stp (r_move_int rfl ?_)
        refine stp (r_build (v := .agg #[.int .i64 o.kind, .int .i64 0, .int .i64 0, .int .i64 0, .int .u64 ((atS s o a).1)]) (fun w => by kernel_rfl) ?_)
        refine stn (r_storeAll rfl rfl hc10 (by rfl) (by rfl) (by rfl) ?_)
        intro w76 hc77 u78
        replace hc4 := u78.heap hc4 ne13
        replace hc30 := u78.heap hc30 ne35.symm
        replace hb48 := u78.heap hb48 ne45.symm
        replace G := G.upd u78 hge12
        clear u78 hc10
        refine stp (r_assign_int rfl ?_)
        refine WL_nil ?_
        refine W_ret ?_
        have h9 : (walkS s steps a cost) = (⟨o.kind, 0, 0, 0, (atS s o a).1⟩, 0) := by rw [hv, valS, if_neg h6, if_neg h7]
        refine ret2 (res_all rfl hc77 (by rfl)) (res_tmp (v := .int .u16 0) rfl) ⟨?_, G⟩
        rw [h9] <;> rfl
end Go.Proofs.Ytifhcfhdajkhlaa.K

namespace Go.Proofs.Ytifhcfhdajkhlaa.K
open Go Go.RowKit Go.Proofs
attribute [local irreducible] Run1 OpG WL W AO Gives
set_option maxRecDepth 100000 in
theorem afits_calls (w : World) {ad : Option Addr} {c : Nat} {sz : List Int} (R : RowAt w 1 ad sz.length (sz.map (.int .i64))) (hr : ∀ x ∈ sz, inR .i64 x) : Gives Try.prog 67 #[.slice ad sz.length c] w (.bool (fitsL sz)) := by
 have lR := R.lim
 have hg : ∀ i, inR .i64 (sz.getD i 0) := fun i => by rw [List.getD_eq_getElem?_getD]; cases hi_ : sz[i]? with | none => simp [inR] | some x_ => exact hr x_ (List.mem_of_getElem? hi_)
 have hg0 := hg 0
 simp only [inR] at hg0
 have G := Grow.rfl' w
 refine gives_of Try.func67 Try.ntmps67 Try.results67 rfl rfl ?_
 refine W_seq (W_region rfl ?_)
 refine stp (r_assign (v := .bool false) rfl ?_)
 refine WL_nil ?_
 refine W_seq ?_
 refine W_seq (W_region rfl ?_)
 refine stp (r_move_slice rfl ?_)
 refine stp (r_len rfl rfl rfl ?_)
 refine stp (r_lss rfl rfl ?_)
 refine stp (r_move_bool rfl ?_)
 refine WL_some (og_if (s := .bool (decide ((sz.length : Int) < 1))) (b := false) (v := .slice ad sz.length c) rfl (wgb_f _) (fun hc1 => ?_) ?_)
 ·
  have hc1_ := hc1
  try simp only [sb] at hc1_
  refine r_move_slice rfl ?_
  exact ⟨rfl, rfl⟩
 refine WL_some (og_if (s := .bool (decide ((sz.length : Int) < 1))) (b := false) (v := .int .i64 (sz.length : Int)) rfl (wgb_f _) (fun hc2 => ?_) ?_)
 ·
  have hc2_ := hc2
  try simp only [sb] at hc2_
  refine r_len rfl rfl (gvt hc2) ?_
  exact ⟨rfl, rfl⟩
 refine WL_some (og_if (s := .bool (decide ((sz.length : Int) < 1))) (b := false) (v := .bool (decide ((sz.length : Int) > 16))) rfl (wgb_f _) (fun hc3 => ?_) ?_)
 ·
  have hc3_ := hc3
  try simp only [sb] at hc3_
  refine r_gtr (gvt hc3) rfl ?_
  exact ⟨rfl, rfl⟩
 refine stp (r_or2 rfl rfl rfl ?_)
 refine stp (r_move_bool rfl ?_)
 refine WL_some (og_if (s := .bool ((decide ((sz.length : Int) < 1)) || (decide ((sz.length : Int) > 16)))) (b := false) (v := .slice ad sz.length c) rfl (wgb_f _) (fun hc4 => ?_) ?_)
 ·
  have hc4_ := hc4
  try simp only [sb] at hc4_
  refine r_move_slice rfl ?_
  exact ⟨rfl, rfl⟩
 refine WL_some (og_if (s := .bool ((decide ((sz.length : Int) < 1)) || (decide ((sz.length : Int) > 16)))) (b := false) (v := .pointer (some (eadr ad ((0 : Int).toNat * 1)))) rfl (wgb_f _) (fun hc5 => ?_) ?_)
 ·
  have hc5_ := hc5
  try simp only [sb] at hc5_
  refine r_indexR (R.grow G) (gvt hc5) rfl ?_ ?_ ?_; omega; omega
  exact ⟨rfl, rfl⟩
 refine WL_some (og_if (s := .bool ((decide ((sz.length : Int) < 1)) || (decide ((sz.length : Int) > 16)))) (b := false) (v := .int .i64 (sz.getD 0 0)) rfl (wgb_f _) (fun hc6 => ?_) ?_)
 ·
  have hc6_ := hc6
  try simp only [sb] at hc6_
  refine r_loadR (v := .int .i64 (sz.getD 0 0)) (m := 0) (R.grow G) (gvt hc6) (show _ from map_get1 (j := 0) 0 (by omega)) ?_
  exact ⟨rfl, rfl⟩
 refine WL_some (og_if (s := .bool ((decide ((sz.length : Int) < 1)) || (decide ((sz.length : Int) > 16)))) (b := false) (v := .bool (decide ((sz.getD 0 0) < 1))) rfl (wgb_f _) (fun hc7 => ?_) ?_)
 ·
  have hc7_ := hc7
  try simp only [sb] at hc7_
  refine r_lss (gvt hc7) rfl ?_
  exact ⟨rfl, rfl⟩
 refine stp (r_or2 rfl rfl rfl ?_)
 refine WL_nil ?_
 refine W_cond2 (b := (((decide ((sz.length : Int) < 1)) || (decide ((sz.length : Int) > 16))) || (decide ((sz.getD 0 0) < 1)))) rfl (fun h1 => ?_) (fun h1 => ?_)
 ·-- true
  simp only [sb] at h1
  refine W_seq (W_region rfl ?_)
  refine stp (r_assign (v := .bool false) rfl ?_)
  refine WL_nil ?_
  refine W_ret ?_
  have h9 : fitsL sz = false := fits_head (by omega)
  refine ret1 (res_tmp (v := .bool false) rfl) ⟨?_, G⟩
  rw [h9]
 ·-- false
  simp only [sb] at h1
  have h1' : 1 ≤ sz.length ∧ sz.length ≤ 16 ∧ 1 ≤ sz.getD 0 0 := by omega
  clear h1
  refine W_skip ?_
  refine W_seq (W_region rfl ?_)
  refine stp (r_assign_int rfl ?_)
  refine WL_nil ?_
  refine W_seq ?_
  refine W_seq (W_region rfl ?_)
  refine stp (r_move_slice rfl ?_)
  refine stp (r_len rfl rfl rfl ?_)
  refine stp (r_move_int rfl ?_)
  refine WL_nil ?_
  refine W_block ?_
  refine W_loop (fun m_ e_ w_ => ∃ (k : Nat), m_ = sz.length - k ∧ Fr [(22, .slice ad sz.length c), (23, .int .i64 (sz.length : Int)), (3, .int .i64 (sumL (sz.take k))), (24, .int .i64 (k : Int))] e_ ∧ (k ≤ sz.length) ∧ (0 ≤ sumL (sz.take k) ∧ sumL (sz.take k) ≤ 4096) ∧ (∀ j, j < k → 0 ≤ sz.getD j 0) ∧ Grow w w_) _ ⟨0, rfl, fr_of ⟨rfl, rfl, rfl, rfl, trivial⟩, by omega, by simp [sumL], fun j hj => by omega, G⟩ ?_
  clear G
  rintro m_ e_ w8 ⟨k, rfl, ⟨e9, rfl⟩, hk, htk, hnn, G⟩
  have hgk := hg k
  simp only [inR] at hgk
  refine W_seq (W_region rfl ?_)
  refine stp (r_lss rfl rfl ?_)
  refine WL_nil ?_
  refine W_seq ?_
  refine W_cond2 (b := (decide ((k : Int) < (sz.length : Int)))) rfl (fun hlt => ?_) (fun hlt => ?_)
  ·-- true
   replace hlt := of_decide_eq_true hlt
   have hi : k < sz.length := by omega
   have ht := sumL_take hi
   have hadd : addOk (sumL (sz.take k)) (sz.getD k 0) 4096 = decide (0 ≤ sz.getD k 0 ∧ sumL (sz.take k) + sz.getD k 0 ≤ 4096) := by unfold addOk; exact decide_eq_decide.2 (by omega)
   refine W_skip ?_
   refine W_seq ?_
   refine W_block ?_
   refine W_seq (W_region rfl ?_)
   refine stp (r_indexN (R.grow G) rfl rfl ?_ ?_); omega
   refine stp (r_loadR (v := .int .i64 (sz.getD k 0)) (m := 0) (R.grow G) rfl (map_get1 0 (by omega)) ?_)
   refine stp (r_assign_int rfl ?_)
   refine WL_nil ?_
   refine W_seq (W_region rfl ?_)
   refine stp (r_move_int rfl ?_)
   refine stp (r_move_int rfl ?_)
   refine stp (r_gives (v := .tuple #[.int .i64 (if addOk (sumL (sz.take k)) (sz.getD k 0) 4096 then sumL (sz.take k) + sz.getD k 0 else 0), .bool (addOk (sumL (sz.take k)) (sz.getD k 0) 4096)]) rfl (addg_calls _ (a := sumL (sz.take k)) (b := sz.getD k 0) (m := 4096) (by simp only [inR]; omega) (hg k) (by simp only [inR]; omega)) ?_)
   intro w10 g11
   replace G := G.tr g11
   clear g11
   refine stp (r_move (v := .tuple #[.int .i64 (if addOk (sumL (sz.take k)) (sz.getD k 0) 4096 then sumL (sz.take k) + sz.getD k 0 else 0), .bool (addOk (sumL (sz.take k)) (sz.getD k 0) 4096)]) rfl ?_)
   refine stp (r_extract (v := .int .i64 (if addOk (sumL (sz.take k)) (sz.getD k 0) 4096 then sumL (sz.take k) + sz.getD k 0 else 0)) rfl rfl ?_)
   refine stp (r_extract (v := .bool (addOk (sumL (sz.take k)) (sz.getD k 0) 4096)) rfl rfl ?_)
   refine stp (r_assign_int rfl ?_)
   refine stp (r_assign_bool rfl ?_)
   refine WL_nil ?_
   refine W_seq ?_
   refine W_seq (W_region rfl ?_)
   refine stp (r_move_bool rfl ?_)
   refine stp (r_not rfl ?_)
   refine WL_nil ?_
   refine W_cond2 (b := (!(addOk (sumL (sz.take k)) (sz.getD k 0) 4096))) rfl (fun h3 => ?_) (fun h3 => ?_)
   ·-- true
    simp only [sb] at h3
    rw [hadd] at h3
    refine W_seq (W_region rfl ?_)
    refine stp (r_assign (v := .bool false) rfl ?_)
    refine WL_nil ?_
    refine W_ret ?_
    have h9 : fitsL sz = false := fits_no hi (by simpa using h3)
    refine ret1 (res_tmp (v := .bool false) rfl) ⟨?_, G⟩
    rw [h9]
   ·-- false
    simp only [sb] at h3
    rw [hadd] at h3
    have h3' : 0 ≤ sz.getD k 0 ∧ sumL (sz.take k) + sz.getD k 0 ≤ 4096 := by simpa using h3
    refine W_skip ?_
    refine W_region rfl ?_
    refine stp (r_move_int rfl ?_)
    refine stp (r_assign_int rfl ?_)
    refine WL_nil ?_
    refine W_region rfl ?_
    refine stp (r_add rfl rfl ?_ ?_); constructor <;> omega
    refine stp (r_move_int rfl ?_)
    refine WL_nil ?_
    refine ⟨_, ?_, k + 1, rfl, fr_of ⟨rfl, rfl, congrArg (Value.int .i64) (by rw [hadd, decide_eq_true h3', if_pos rfl]; omega), rfl, trivial⟩, by omega, by omega, fun j hj => by rcases Nat.lt_succ_iff_lt_or_eq.1 hj with h_ | h_; exact hnn j h_; (subst h_; exact h3'.1), G⟩
    omega
  ·-- false
   replace hlt := of_decide_eq_false hlt
   have hk2 : k = sz.length := by omega
   subst hk2
   refine W_exit ?_
   refine W_seq (W_region rfl ?_)
   refine stp (r_assign (v := .bool true) rfl ?_)
   refine WL_nil ?_
   refine W_ret ?_
   have h9 : fitsL sz = true := fits_yes h1'.1 h1'.2.1 h1'.2.2 hnn htk.2
   refine ret1 (res_tmp (v := .bool true) rfl) ⟨?_, G⟩
   rw [h9]

set_option maxRecDepth 100000 in
theorem rfitsL_calls (w : World) {ad : Option Addr} {c : Nat} {sz : List Int} (R : RowAt w 1 ad sz.length (sz.map (.int .i64))) (hr : ∀ x ∈ sz, inR .i64 x) : Gives Try.prog 60 #[.slice ad sz.length c] w (.bool (fitsL sz)) := by
 have lR := R.lim
 have hg : ∀ i, inR .i64 (sz.getD i 0) := fun i => by rw [List.getD_eq_getElem?_getD]; cases hi_ : sz[i]? with | none => simp [inR] | some x_ => exact hr x_ (List.mem_of_getElem? hi_)
 have hg0 := hg 0
 simp only [inR] at hg0
 have G := Grow.rfl' w
 refine gives_of Try.func60 Try.ntmps60 Try.results60 rfl rfl ?_
 refine W_seq (W_region rfl ?_)
 refine stp (r_assign (v := .bool false) rfl ?_)
 refine WL_nil ?_
 refine W_seq ?_
 refine W_seq (W_region rfl ?_)
 refine stp (r_move_slice rfl ?_)
 refine stp (r_len rfl rfl rfl ?_)
 refine stp (r_lss rfl rfl ?_)
 refine stp (r_move_bool rfl ?_)
 refine WL_some (og_if (s := .bool (decide ((sz.length : Int) < 1))) (b := false) (v := .slice ad sz.length c) rfl (wgb_f _) (fun hc1 => ?_) ?_)
 ·
  have hc1_ := hc1
  try simp only [sb] at hc1_
  refine r_move_slice rfl ?_
  exact ⟨rfl, rfl⟩
 refine WL_some (og_if (s := .bool (decide ((sz.length : Int) < 1))) (b := false) (v := .int .i64 (sz.length : Int)) rfl (wgb_f _) (fun hc2 => ?_) ?_)
 ·
  have hc2_ := hc2
  try simp only [sb] at hc2_
  refine r_len rfl rfl (gvt hc2) ?_
  exact ⟨rfl, rfl⟩
 refine WL_some (og_if (s := .bool (decide ((sz.length : Int) < 1))) (b := false) (v := .bool (decide ((sz.length : Int) > 16))) rfl (wgb_f _) (fun hc3 => ?_) ?_)
 ·
  have hc3_ := hc3
  try simp only [sb] at hc3_
  refine r_gtr (gvt hc3) rfl ?_
  exact ⟨rfl, rfl⟩
 refine stp (r_or2 rfl rfl rfl ?_)
 refine stp (r_move_bool rfl ?_)
 refine WL_some (og_if (s := .bool ((decide ((sz.length : Int) < 1)) || (decide ((sz.length : Int) > 16)))) (b := false) (v := .slice ad sz.length c) rfl (wgb_f _) (fun hc4 => ?_) ?_)
 ·
  have hc4_ := hc4
  try simp only [sb] at hc4_
  refine r_move_slice rfl ?_
  exact ⟨rfl, rfl⟩
 refine WL_some (og_if (s := .bool ((decide ((sz.length : Int) < 1)) || (decide ((sz.length : Int) > 16)))) (b := false) (v := .pointer (some (eadr ad ((0 : Int).toNat * 1)))) rfl (wgb_f _) (fun hc5 => ?_) ?_)
 ·
  have hc5_ := hc5
  try simp only [sb] at hc5_
  refine r_indexR (R.grow G) (gvt hc5) rfl ?_ ?_ ?_; omega; omega
  exact ⟨rfl, rfl⟩
 refine WL_some (og_if (s := .bool ((decide ((sz.length : Int) < 1)) || (decide ((sz.length : Int) > 16)))) (b := false) (v := .int .i64 (sz.getD 0 0)) rfl (wgb_f _) (fun hc6 => ?_) ?_)
 ·
  have hc6_ := hc6
  try simp only [sb] at hc6_
  refine r_loadR (v := .int .i64 (sz.getD 0 0)) (m := 0) (R.grow G) (gvt hc6) (show _ from map_get1 (j := 0) 0 (by omega)) ?_
  exact ⟨rfl, rfl⟩
 refine WL_some (og_if (s := .bool ((decide ((sz.length : Int) < 1)) || (decide ((sz.length : Int) > 16)))) (b := false) (v := .bool (decide ((sz.getD 0 0) < 1))) rfl (wgb_f _) (fun hc7 => ?_) ?_)
 ·
  have hc7_ := hc7
  try simp only [sb] at hc7_
  refine r_lss (gvt hc7) rfl ?_
  exact ⟨rfl, rfl⟩
 refine stp (r_or2 rfl rfl rfl ?_)
 refine WL_nil ?_
 refine W_cond2 (b := (((decide ((sz.length : Int) < 1)) || (decide ((sz.length : Int) > 16))) || (decide ((sz.getD 0 0) < 1)))) rfl (fun h1 => ?_) (fun h1 => ?_)
 ·-- true
  simp only [sb] at h1
  refine W_seq (W_region rfl ?_)
  refine stp (r_assign (v := .bool false) rfl ?_)
  refine WL_nil ?_
  refine W_ret ?_
  have h9 : fitsL sz = false := fits_head (by omega)
  refine ret1 (res_tmp (v := .bool false) rfl) ⟨?_, G⟩
  rw [h9]
 ·-- false
  simp only [sb] at h1
  have h1' : 1 ≤ sz.length ∧ sz.length ≤ 16 ∧ 1 ≤ sz.getD 0 0 := by omega
  clear h1
  refine W_skip ?_
  refine W_seq (W_region rfl ?_)
  refine stp (r_assign_int rfl ?_)
  refine WL_nil ?_
  refine W_seq ?_
  refine W_seq (W_region rfl ?_)
  refine stp (r_assign_int rfl ?_)
  refine WL_nil ?_
  refine W_block ?_
  refine W_loop (fun m_ e_ w_ => ∃ (k : Nat), m_ = sz.length - k ∧ Fr [(0, .slice ad sz.length c), (3, .int .i64 (sumL (sz.take k))), (4, .int .i64 (k : Int))] e_ ∧ (k ≤ sz.length) ∧ (0 ≤ sumL (sz.take k) ∧ sumL (sz.take k) ≤ 4096) ∧ (∀ j, j < k → 0 ≤ sz.getD j 0) ∧ Grow w w_) _ ⟨0, rfl, fr_of ⟨rfl, rfl, rfl, trivial⟩, by omega, by simp [sumL], fun j hj => by omega, G⟩ ?_
  clear G
  rintro m_ e_ w8 ⟨k, rfl, ⟨e9, rfl⟩, hk, htk, hnn, G⟩
  have hgk := hg k
  simp only [inR] at hgk
  refine W_seq ?_
  refine W_seq (W_region rfl ?_)
  refine stp (r_move_int rfl ?_)
  refine stp (r_move_slice rfl ?_)
  refine stp (r_len rfl rfl rfl ?_)
  refine stp (r_lss rfl rfl ?_)
  refine WL_nil ?_
  refine W_cond2 (b := (decide ((k : Int) < (sz.length : Int)))) rfl (fun hlt => ?_) (fun hlt => ?_)
  ·-- true
   replace hlt := of_decide_eq_true hlt
   have hi : k < sz.length := by omega
   have ht := sumL_take hi
   refine W_skip ?_
   refine W_seq ?_
   refine W_block ?_
   refine W_seq ?_
   refine W_seq (W_region rfl ?_)
   refine stp (r_move_slice rfl ?_)
   refine stp (r_move_int rfl ?_)
   refine stp (r_indexN (R.grow G) rfl rfl ?_ ?_); omega
   refine stp (r_loadR (v := .int .i64 (sz.getD k 0)) (m := 0) (R.grow G) rfl (map_get1 0 (by omega)) ?_)
   refine stp (r_lss rfl rfl ?_)
   refine stp (r_move_bool rfl ?_)
   refine WL_some (og_if (s := .bool (decide ((sz.getD k 0) < 0))) (b := false) (v := .slice ad sz.length c) rfl (wgb_f _) (fun hc10 => ?_) ?_)
   ·
    have hc10_ := hc10
    try simp only [sb] at hc10_
    refine r_move_slice rfl ?_
    exact ⟨rfl, rfl⟩
   refine WL_some (og_if (s := .bool (decide ((sz.getD k 0) < 0))) (b := false) (v := .int .i64 (k : Int)) rfl (wgb_f _) (fun hc11 => ?_) ?_)
   ·
    have hc11_ := hc11
    try simp only [sb] at hc11_
    refine r_move_int rfl ?_
    exact ⟨rfl, rfl⟩
   refine WL_some (og_if (s := .bool (decide ((sz.getD k 0) < 0))) (b := false) (v := .pointer (some (eadr ad (k * 1)))) rfl (wgb_f _) (fun hc12 => ?_) ?_)
   ·
    have hc12_ := hc12
    try simp only [sb] at hc12_
    refine r_indexN (R.grow G) (gvt hc12) (gvt hc12) ?_ ?_; omega
    exact ⟨rfl, rfl⟩
   refine WL_some (og_if (s := .bool (decide ((sz.getD k 0) < 0))) (b := false) (v := .int .i64 (sz.getD k 0)) rfl (wgb_f _) (fun hc13 => ?_) ?_)
   ·
    have hc13_ := hc13
    try simp only [sb] at hc13_
    refine r_loadR (v := .int .i64 (sz.getD k 0)) (m := 0) (R.grow G) (gvt hc13) (map_get1 0 (by omega)) ?_
    exact ⟨rfl, rfl⟩
   refine WL_some (og_if (s := .bool (decide ((sz.getD k 0) < 0))) (b := false) (v := .int .i64 (sumL (sz.take k))) rfl (wgb_f _) (fun hc14 => ?_) ?_)
   ·
    have hc14_ := hc14
    try simp only [sb] at hc14_
    refine r_move_int rfl ?_
    exact ⟨rfl, rfl⟩
   refine WL_some (og_if (s := .bool (decide ((sz.getD k 0) < 0))) (b := false) (v := .int .i64 (4096 - (sumL (sz.take k)))) rfl (wgb_f _) (fun hc15 => ?_) ?_)
   ·
    have hc15_ := hc15
    try simp only [sb] at hc15_
    refine r_sub rfl (gvt hc15) ?_ ?_; constructor <;> omega
    exact ⟨rfl, rfl⟩
   refine WL_some (og_if (s := .bool (decide ((sz.getD k 0) < 0))) (b := false) (v := .bool (decide ((sz.getD k 0) > (4096 - (sumL (sz.take k)))))) rfl (wgb_f _) (fun hc16 => ?_) ?_)
   ·
    have hc16_ := hc16
    try simp only [sb] at hc16_
    refine r_gtr (gvt hc16) (gvt hc16) ?_
    exact ⟨rfl, rfl⟩
   refine stp (r_or2 rfl rfl rfl ?_)
   refine WL_nil ?_
   refine W_cond2 (b := ((decide ((sz.getD k 0) < 0)) || (decide ((sz.getD k 0) > (4096 - (sumL (sz.take k))))))) rfl (fun h3 => ?_) (fun h3 => ?_)
   ·-- true
    simp only [sb] at h3
    refine W_seq (W_region rfl ?_)
    refine stp (r_assign (v := .bool false) rfl ?_)
    refine WL_nil ?_
    refine W_ret ?_
    have h9 : fitsL sz = false := fits_no hi (by omega)
    refine ret1 (res_tmp (v := .bool false) rfl) ⟨?_, G⟩
    rw [h9]
   ·-- false
    simp only [sb] at h3
    have h3' : 0 ≤ sz.getD k 0 ∧ sumL (sz.take k) + sz.getD k 0 ≤ 4096 := by omega
    refine W_skip ?_
    refine W_region rfl ?_
    refine stp (r_move_int rfl ?_)
    refine stp (r_move_slice rfl ?_)
    refine stp (r_move_int rfl ?_)
    refine stp (r_indexN (R.grow G) rfl rfl ?_ ?_); omega
    refine stp (r_loadR (v := .int .i64 (sz.getD k 0)) (m := 0) (R.grow G) rfl (map_get1 0 (by omega)) ?_)
    refine stp (r_add rfl rfl ?_ ?_); constructor <;> omega
    refine stp (r_assign_int rfl ?_)
    refine WL_nil ?_
    refine W_region rfl ?_
    refine stp (r_move_int rfl ?_)
    refine stp (r_add rfl rfl ?_ ?_); constructor <;> omega
    refine stp (r_assign_int rfl ?_)
    refine WL_nil ?_
    refine ⟨_, ?_, k + 1, rfl, fr_of ⟨rfl, congrArg (Value.int .i64) (by omega), congrArg (Value.int .i64) (by omega), trivial⟩, by omega, by omega, fun j hj => by rcases Nat.lt_succ_iff_lt_or_eq.1 hj with h_ | h_; exact hnn j h_; (subst h_; exact h3'.1), G⟩
    omega
  ·-- false
   replace hlt := of_decide_eq_false hlt
   have hk2 : k = sz.length := by omega
   subst hk2
   refine W_exit ?_
   refine W_seq (W_region rfl ?_)
   refine stp (r_assign (v := .bool true) rfl ?_)
   refine WL_nil ?_
   refine W_ret ?_
   have h9 : fitsL sz = true := fits_yes h1'.1 h1'.2.1 h1'.2.2 hnn htk.2
   refine ret1 (res_tmp (v := .bool true) rfl) ⟨?_, G⟩
   rw [h9]

set_option maxRecDepth 100000 in
theorem addq_calls (w : World) {a m : Int} (hm : 0 ≤ m ∧ m ≤ 140737488355328) : Gives Try.prog 86 #[.int .i64 a, .int .i64 1, .int .i64 m] w (.tuple #[.int .i64 (if addOk a 1 m then a + 1 else 0), .bool (addOk a 1 m)]) := by
 have G := Grow.rfl' w
 refine gives_of Try.func86 Try.ntmps86 Try.results86 rfl rfl ?_
 refine W_seq (W_region rfl ?_)
 refine stp (r_assign_int rfl ?_)
 refine stp (r_assign (v := .bool false) rfl ?_)
 refine WL_nil ?_
 refine W_seq ?_
 refine W_seq (W_region rfl ?_)
 refine stp (r_move_int rfl ?_)
 refine stp (r_move_int rfl ?_)
 refine stp (r_min rfl rfl rfl ?_)
 refine stp (r_lss rfl rfl ?_)
 refine stp (r_move_bool rfl ?_)
 refine WL_some (og_if (s := .bool (decide ((if 1 < a then 1 else a) < 0))) (b := false) (v := .int .i64 a) rfl (wgb_f _) (fun hc1 => ?_) ?_)
 ·
  have hc1_ := hc1
  try simp only [sb] at hc1_
  refine r_move_int rfl ?_
  exact ⟨rfl, rfl⟩
 refine WL_some (og_if (s := .bool (decide ((if 1 < a then 1 else a) < 0))) (b := false) (v := .int .i64 m) rfl (wgb_f _) (fun hc2 => ?_) ?_)
 ·
  have hc2_ := hc2
  try simp only [sb] at hc2_
  refine r_move_int rfl ?_
  exact ⟨rfl, rfl⟩
 refine WL_some (og_if (s := .bool (decide ((if 1 < a then 1 else a) < 0))) (b := false) (v := .bool (decide (a > m))) rfl (wgb_f _) (fun hc3 => ?_) ?_)
 ·
  have hc3_ := hc3
  try simp only [sb] at hc3_
  refine r_gtr (gvt hc3) (gvt hc3) ?_
  exact ⟨rfl, rfl⟩
 refine stp (r_or2 rfl rfl rfl ?_)
 refine stp (r_move_bool rfl ?_)
 refine WL_some (og_if (s := .bool ((decide ((if 1 < a then 1 else a) < 0)) || (decide (a > m)))) (b := false) (v := .int .i64 1) rfl (wgb_f _) (fun hc4 => ?_) ?_)
 ·
  have hc4_ := hc4
  try simp only [sb] at hc4_
  refine r_move_int rfl ?_
  exact ⟨rfl, rfl⟩
 refine WL_some (og_if (s := .bool ((decide ((if 1 < a then 1 else a) < 0)) || (decide (a > m)))) (b := false) (v := .int .i64 m) rfl (wgb_f _) (fun hc5 => ?_) ?_)
 ·
  have hc5_ := hc5
  try simp only [sb] at hc5_
  refine r_move_int rfl ?_
  exact ⟨rfl, rfl⟩
 refine WL_some (og_if (s := .bool ((decide ((if 1 < a then 1 else a) < 0)) || (decide (a > m)))) (b := false) (v := .int .i64 a) rfl (wgb_f _) (fun hc6 => ?_) ?_)
 ·
  have hc6_ := hc6
  try simp only [sb] at hc6_
  refine r_move_int rfl ?_
  exact ⟨rfl, rfl⟩
 refine WL_some (og_if (s := .bool ((decide ((if 1 < a then 1 else a) < 0)) || (decide (a > m)))) (b := false) (v := .int .i64 (m - a)) rfl (wgb_f _) (fun hc7 => ?_) ?_)
 ·
  have hc7_ := hc7
  try simp only [sb] at hc7_
  refine r_sub (gvt hc7) (gvt hc7) ?_ ?_; constructor <;> omega
  exact ⟨rfl, rfl⟩
 refine WL_some (og_if (s := .bool ((decide ((if 1 < a then 1 else a) < 0)) || (decide (a > m)))) (b := false) (v := .bool (decide (1 > (m - a)))) rfl (wgb_f _) (fun hc8 => ?_) ?_)
 ·
  have hc8_ := hc8
  try simp only [sb] at hc8_
  refine r_gtr (gvt hc8) (gvt hc8) ?_
  exact ⟨rfl, rfl⟩
 refine stp (r_or2 rfl rfl rfl ?_)
 refine WL_nil ?_
 refine W_cond2 (b := (((decide ((if 1 < a then 1 else a) < 0)) || (decide (a > m))) || (decide (1 > (m - a))))) rfl (fun h1 => ?_) (fun h1 => ?_)
 ·-- true
  simp only [sb] at h1
  refine W_seq (W_region rfl ?_)
  refine stp (r_assign_int rfl ?_)
  refine stp (r_assign (v := .bool false) rfl ?_)
  refine WL_nil ?_
  refine W_ret ?_
  refine ret2 (res_tmp (v := .int .i64 0) rfl) (res_tmp (v := .bool false) rfl) ⟨?_, G⟩
  have h9 : addOk a 1 m = false := by simp only [addOk]; exact decide_eq_false (by omega)
  rw [h9]; rfl
 ·-- false
  simp only [sb] at h1
  have h9 : addOk a 1 m = true := by simp only [addOk]; exact decide_eq_true (by omega)
  refine W_skip ?_
  refine W_seq (W_region rfl ?_)
  refine stp (r_move_int rfl ?_)
  refine stp (r_move_int rfl ?_)
  refine stp (r_add rfl rfl ?_ ?_); constructor <;> omega
  refine stp (r_assign_int rfl ?_)
  refine stp (r_assign (v := .bool true) rfl ?_)
  refine WL_nil ?_
  refine W_ret ?_
  refine ret2 (res_tmp (v := .int .i64 (a + 1)) rfl) (res_tmp (v := .bool true) rfl) ⟨?_, G⟩
  rw [h9]; rfl

set_option maxRecDepth 100000 in
theorem withinq_calls (w : World) {ad : Option Addr} {c : Nat} {sz : List Int} {seg a : Int} (R : RowAt w 1 ad sz.length (sz.map (.int .i64))) (hs : ∀ i, i < sz.length → 0 ≤ sz.getD i 0 ∧ sz.getD i 0 ≤ 140737488355328) : Gives Try.prog 92 #[.slice ad sz.length c, .int .i64 seg, .int .i64 a, .int .i64 1] w (.bool (withinP sz seg a 1)) := by
 have ll := R.lim
 have G := Grow.rfl' w
 refine gives_of Try.func92 Try.ntmps92 Try.results92 rfl rfl ?_
 refine W_seq (W_region rfl ?_)
 refine stp (r_assign (v := .bool false) rfl ?_)
 refine WL_nil ?_
 refine W_seq ?_
 refine W_seq (W_region rfl ?_)
 refine stp (r_move_int rfl ?_)
 refine stp (r_lss rfl rfl ?_)
 refine stp (r_move_bool rfl ?_)
 refine WL_some (og_if (s := .bool (decide (seg < 0))) (b := false) (v := .int .i64 seg) rfl (wgb_f _) (fun hc1 => ?_) ?_)
 ·
  have hc1_ := hc1
  try simp only [sb] at hc1_
  refine r_move_int rfl ?_
  exact ⟨rfl, rfl⟩
 refine WL_some (og_if (s := .bool (decide (seg < 0))) (b := false) (v := .slice ad sz.length c) rfl (wgb_f _) (fun hc2 => ?_) ?_)
 ·
  have hc2_ := hc2
  try simp only [sb] at hc2_
  refine r_move_slice rfl ?_
  exact ⟨rfl, rfl⟩
 refine WL_some (og_if (s := .bool (decide (seg < 0))) (b := false) (v := .int .i64 (sz.length : Int)) rfl (wgb_f _) (fun hc3 => ?_) ?_)
 ·
  have hc3_ := hc3
  try simp only [sb] at hc3_
  refine r_len rfl rfl (gvt hc3) ?_
  exact ⟨rfl, rfl⟩
 refine WL_some (og_if (s := .bool (decide (seg < 0))) (b := false) (v := .bool (decide (seg ≥ (sz.length : Int)))) rfl (wgb_f _) (fun hc4 => ?_) ?_)
 ·
  have hc4_ := hc4
  try simp only [sb] at hc4_
  refine r_geq (gvt hc4) (gvt hc4) ?_
  exact ⟨rfl, rfl⟩
 refine stp (r_or2 rfl rfl rfl ?_)
 refine WL_nil ?_
 refine W_cond2 (b := ((decide (seg < 0)) || (decide (seg ≥ (sz.length : Int))))) rfl (fun h1 => ?_) (fun h1 => ?_)
 ·-- true
  simp only [sb] at h1
  refine W_seq (W_region rfl ?_)
  refine stp (r_assign (v := .bool false) rfl ?_)
  refine WL_nil ?_
  refine W_ret ?_
  refine ret1 (res_tmp (v := .bool false) rfl) ⟨?_, G⟩
  have h9 : withinP sz seg a 1 = false := by unfold withinP; rw [decide_eq_false (by omega), Bool.false_and]
  rw [h9]
 ·-- false
  simp only [sb] at h1
  have h9 := hs seg.toNat (by omega)
  refine W_skip ?_
  refine W_seq (W_region rfl ?_)
  refine stp (r_move_int rfl ?_)
  refine stp (r_move_int rfl ?_)
  refine stp (r_move_slice rfl ?_)
  refine stp (r_move_int rfl ?_)
  refine stp (r_indexR (R.grow G) rfl rfl ?_ ?_ ?_); omega; omega
  refine stp (r_loadR (v := .int .i64 (sz.getD seg.toNat 0)) (m := 0) (R.grow G) rfl (by rw [Nat.mul_one]; exact map_get 0 (by omega)) ?_)
  refine stp (r_gives (v := .tuple #[.int .i64 (if addOk a 1 (sz.getD seg.toNat 0) then a + 1 else 0), .bool (addOk a 1 (sz.getD seg.toNat 0))]) rfl (addq_calls _ (m := sz.getD seg.toNat 0) h9) ?_)
  intro w5 g6
  replace G := G.tr g6
  clear g6
  refine stp (r_move (v := .tuple #[.int .i64 (if addOk a 1 (sz.getD seg.toNat 0) then a + 1 else 0), .bool (addOk a 1 (sz.getD seg.toNat 0))]) rfl ?_)
  refine stp (r_extract (v := .int .i64 (if addOk a 1 (sz.getD seg.toNat 0) then a + 1 else 0)) rfl rfl ?_)
  refine stp (r_extract (v := .bool (addOk a 1 (sz.getD seg.toNat 0))) rfl rfl ?_)
  refine stp (r_assign_int rfl ?_)
  refine stp (r_assign_bool rfl ?_)
  refine WL_nil ?_
  refine W_seq (W_region rfl ?_)
  refine stp (r_move_bool rfl ?_)
  refine stp (r_assign_bool rfl ?_)
  refine WL_nil ?_
  refine W_ret ?_
  refine ret1 (res_tmp (v := .bool (addOk a 1 (sz.getD seg.toNat 0))) rfl) ⟨?_, G⟩
  unfold withinP; rw [decide_eq_true (by omega), Bool.true_and]

set_option maxRecDepth 100000 in
theorem aplace_calls (w : World) {ad : Option Addr} {c : Nat} {sz : List Int} (R : RowAt w 1 ad sz.length (sz.map (.int .i64))) (hr : ∀ x ∈ sz, inR .i64 x) {seg a : Int} (hc : sz.length ≤ c) : Gives Try.prog 122 #[.slice ad sz.length c, .int .i64 seg, .int .i64 a] w (.int .i64 (placeM sz seg a)) := by
 have lR := R.lim
 have G := Grow.rfl' w
 refine gives_of Try.func122 Try.ntmps122 Try.results122 rfl rfl ?_
 refine W_seq (W_region rfl ?_)
 refine stp (r_assign_int rfl ?_)
 refine WL_nil ?_
 refine W_seq ?_
 refine W_seq (W_region rfl ?_)
 refine stp (r_move_slice rfl ?_)
 refine stp (r_gives (v := .bool (fitsL sz)) rfl (afits_calls _ (R.grow G) hr) ?_)
 intro w1 g2
 replace G := G.tr g2
 clear g2
 refine stp (r_not rfl ?_)
 refine stp (r_move_bool rfl ?_)
 refine WL_some (og_if (s := .bool (!(fitsL sz))) (b := false) (v := .slice ad sz.length c) rfl (wgb_f _) (fun hc3 => ?_) ?_)
 ·
  have hc3_ := hc3
  try simp only [sb] at hc3_
  refine r_move_slice rfl ?_
  exact ⟨rfl, rfl⟩
 refine WL_some (og_if (s := .bool (!(fitsL sz))) (b := false) (v := .int .i64 seg) rfl (wgb_f _) (fun hc4 => ?_) ?_)
 ·
  have hc4_ := hc4
  try simp only [sb] at hc4_
  refine r_move_int rfl ?_
  exact ⟨rfl, rfl⟩
 refine WL_some (og_if (s := .bool (!(fitsL sz))) (b := false) (v := .int .i64 a) rfl (wgb_f _) (fun hc5 => ?_) ?_)
 ·
  have hc5_ := hc5
  try simp only [sb] at hc5_
  refine r_move_int rfl ?_
  exact ⟨rfl, rfl⟩
 refine WL_some (og_ifg (s := .bool (!(fitsL sz))) (b := false) (v := .bool (decide (0 ≤ seg ∧ seg < sz.length ∧ 0 ≤ a ∧ a < sz.getD seg.toNat 0))) rfl (wgb_f _) (fun hc6 => ?_) ?_)
 ·
  have hc6_ := hc6
  try simp only [sb] at hc6_
  exact r_givesA (l := ([.slice ad sz.length c, .int .i64 seg, .int .i64 a, .int .i64 1] : List Value)) rfl (by show ([gv (!(!(fitsL sz))) (.slice ad sz.length c), gv (!(!(fitsL sz))) (.int .i64 seg), gv (!(!(fitsL sz))) (.int .i64 a), .int .i64 1] : List Value) = _; rw [gvt hc6, gvt hc6, gvt hc6]) ((by have hf_ : fitsL sz = true := (by simpa using hc6); exact gives_eq (withinq_calls _ (R.grow G) (fun i _ => by have := fitsL_size hf_ i; omega)) (y := .bool (decide (0 ≤ seg ∧ seg < sz.length ∧ 0 ≤ a ∧ a < sz.getD seg.toNat 0))) (by rw [within_fit hf_]))) (fun w2_ g2_ => ⟨rfl, g2_⟩)
 intro w7 g8
 replace G := G.tr g8
 clear g8
 refine WL_some (og_if (s := .bool (!(fitsL sz))) (b := false) (v := .bool (!(decide (0 ≤ seg ∧ seg < sz.length ∧ 0 ≤ a ∧ a < sz.getD seg.toNat 0)))) rfl (wgb_f _) (fun hc9 => ?_) ?_)
 ·
  have hc9_ := hc9
  try simp only [sb] at hc9_
  refine r_not (gvt hc9) ?_
  exact ⟨rfl, rfl⟩
 refine stp (r_or2 rfl rfl rfl ?_)
 refine WL_nil ?_
 refine W_cond2 (b := ((!(fitsL sz)) || (!(decide (0 ≤ seg ∧ seg < sz.length ∧ 0 ≤ a ∧ a < sz.getD seg.toNat 0))))) rfl (fun h1 => ?_) (fun h1 => ?_)
 ·-- true
  simp only [sb] at h1
  refine W_seq (W_region rfl ?_)
  refine stp (r_assign_int rfl ?_)
  refine WL_nil ?_
  refine W_ret ?_
  have h9 : placeM sz seg a = -1 := by unfold placeM; rw [if_neg]; rintro ⟨x1, x2⟩; rcases h1 with h_ | h_; (rw [x1] at h_; cases h_); exact absurd x2 h_
  refine ret1 (res_tmp (v := .int .i64 (-1)) rfl) ⟨?_, G⟩
  rw [h9]
 ·-- false
  simp only [sb] at h1
  obtain ⟨hf, hw⟩ := h1
  have hw' := hw
  obtain ⟨n, hn⟩ : ∃ n : Nat, seg = (n : Int) := ⟨seg.toNat, by omega⟩
  have h9 : placeM sz seg a = a + sumL (sz.take n) := by unfold placeM; rw [if_pos ⟨hf, hw'⟩, hn, Int.toNat_natCast]
  obtain ⟨f1, f2, f3, f4, f5⟩ := fitsL_of hf
  have hsz := fitsL_size hf
  have hsg := hsz seg.toNat
  refine W_skip ?_
  refine W_seq ?_
  refine W_seq (W_region rfl ?_)
  refine stp (r_move_slice rfl ?_)
  refine stp (r_move_int rfl ?_)
  refine stp (r_sliceH rfl rfl (by omega) (by omega) ?_)
  have R2 := R.sliceH (m := n) hc (by omega) (by decide)
  rw [show seg.toNat = n from by omega]
  generalize (if c = 0 then ad else ad.map (·.add (0 * 1))) = ad2 at R2 ⊢
  refine stp (r_len rfl rfl rfl ?_)
  refine stp (r_move_int rfl ?_)
  refine WL_nil ?_
  refine W_block ?_
  refine W_loop (fun m_ e_ w_ => ∃ (k : Nat), m_ = n - k ∧ Fr [(6, .int .i64 0), (21, .slice ad2 n c), (22, .int .i64 (n : Int)), (2, .int .i64 (a + sumL (sz.take k))), (23, .int .i64 (k : Int))] e_ ∧ (k ≤ n) ∧ Grow w w_) _ ⟨0, rfl, fr_of ⟨rfl, rfl, rfl, congrArg (Value.int .i64) (by simp [sumL]), rfl, trivial⟩, by omega, G⟩ ?_
  clear G
  rintro m_ e_ w10 ⟨k, rfl, ⟨e11, rfl⟩, hk, G⟩
  have hkz := hsz k
  have htk := sumL_take_le f4 k
  refine W_seq (W_region rfl ?_)
  refine stp (r_lss rfl rfl ?_)
  refine WL_nil ?_
  refine W_seq ?_
  refine W_cond2 (b := (decide ((k : Int) < (n : Int)))) rfl (fun hlt => ?_) (fun hlt => ?_)
  ·-- true
   replace hlt := of_decide_eq_true hlt
   have hi : k < sz.length := by omega
   have ht := sumL_take hi
   refine W_skip ?_
   refine W_seq ?_
   refine W_block ?_
   refine W_seq (W_region rfl ?_)
   refine stp (r_indexN (R2.grow G) rfl rfl ?_ ?_); omega
   refine stp (r_loadR (v := .int .i64 (sz.getD k 0)) (m := 0) (R2.grow G) rfl (show _ from take_get (by omega) (by omega)) ?_)
   refine stp (r_assign_int rfl ?_)
   refine WL_nil ?_
   refine W_region rfl ?_
   refine stp (r_move_int rfl ?_)
   refine stp (r_move_int rfl ?_)
   refine stp (r_add rfl rfl ?_ ?_); constructor <;> omega
   refine stp (r_assign_int rfl ?_)
   refine WL_nil ?_
   refine W_region rfl ?_
   refine stp (r_add rfl rfl ?_ ?_); constructor <;> omega
   refine stp (r_move_int rfl ?_)
   refine WL_nil ?_
   refine ⟨_, ?_, k + 1, rfl, fr_of ⟨rfl, rfl, rfl, congrArg (Value.int .i64) (by omega), congrArg (Value.int .i64) (by omega), trivial⟩, by omega, G⟩
   omega
  ·-- false
   replace hlt := of_decide_eq_false hlt
   have hkn : k = n := by omega
   refine W_exit ?_
   refine W_seq (W_region rfl ?_)
   refine stp (r_move_int rfl ?_)
   refine stp (r_assign_int rfl ?_)
   refine WL_nil ?_
   refine W_ret ?_
   refine ret1 (res_tmp (v := .int .i64 (a + sumL (sz.take k))) rfl) ⟨?_, G⟩
   rw [h9, hkn]

set_option maxRecDepth 100000 in
theorem mright_calls (w : World) {ses sum : Int} {ad : Option Addr} {c : Nat} {sz : List Int} (R : RowAt w 1 ad sz.length (sz.map (.int .i64))) (hr : ∀ x ∈ sz, inR .i64 x) : Gives Try.prog 46 #[.agg #[.int .u64 ses, .slice ad sz.length c, .int .u32 sum]] w (.bool (fitsL sz)) := by
 have G := Grow.rfl' w
 refine gives_of Try.func46 Try.ntmps46 Try.results46 rfl rfl ?_
 refine W_seq (W_region rfl ?_)
 refine WL_some (og rfl ?_)
 (first | refine r_box_agg rfl ?_ | refine r_box_int rfl ?_ | refine r_box_slice rfl ?_ | refine r_box rfl rfl ?_)
 intro b1 w2 hb3 hc4 g5
 have hge6 := Nat.le_trans G.size hb3
 replace G := G.tr g5
 clear g5 hb3
 refine stp (r_assign (v := .bool false) rfl ?_)
 refine WL_nil ?_
 refine W_seq (W_region rfl ?_)
 refine stp (r_fieldAddr rfl ?_)
 refine stp (r_load (v := .slice ad sz.length c) rfl hc4 rfl ?_)
 refine stp (r_gives (v := .bool (fitsL sz)) rfl (afits_calls _ (R.grow G) hr) ?_)
 intro w7 g8
 replace hc4 := g8.heap hc4
 replace G := G.tr g8
 clear g8
 refine stp (r_assign_bool rfl ?_)
 refine WL_nil ?_
 refine W_ret ?_
 refine ret1 (res_tmp (v := .bool (fitsL sz)) rfl) ⟨?_, G⟩
 rfl

set_option maxRecDepth 100000 in
theorem mwords_calls (w : World) {ses sum : Int} {ad : Option Addr} {c : Nat} {sz : List Int} (R : RowAt w 1 ad sz.length (sz.map (.int .i64))) (hr : ∀ x ∈ sz, inR .i64 x) : Gives Try.prog 48 #[.agg #[.int .u64 ses, .slice ad sz.length c, .int .u32 sum]] w (.int .i64 (wordsM sz : Int)) := by
 have lR := R.lim
 have G := Grow.rfl' w
 refine gives_of Try.func48 Try.ntmps48 Try.results48 rfl rfl ?_
 refine W_seq (W_region rfl ?_)
 refine WL_some (og rfl ?_)
 (first | refine r_box_agg rfl ?_ | refine r_box_int rfl ?_ | refine r_box_slice rfl ?_ | refine r_box rfl rfl ?_)
 intro b1 w2 hb3 hc4 g5
 have hge6 := Nat.le_trans G.size hb3
 replace G := G.tr g5
 clear g5 hb3
 refine stp (r_assign_int rfl ?_)
 refine WL_nil ?_
 refine W_seq ?_
 refine W_seq (W_region rfl ?_)
 refine stp (r_loadAll rfl hc4 (by rfl) ?_)
 refine stp (r_gives (v := .bool (fitsL sz)) rfl (mright_calls _ (R.grow G) hr) ?_)
 intro w7 g8
 replace hc4 := g8.heap hc4
 replace G := G.tr g8
 clear g8
 refine stp (r_not rfl ?_)
 refine WL_nil ?_
 refine W_cond2 (b := (!(fitsL sz))) rfl (fun h1 => ?_) (fun h1 => ?_)
 ·-- true
  simp only [sb] at h1
  refine W_seq (W_region rfl ?_)
  refine stp (r_assign_int rfl ?_)
  refine WL_nil ?_
  refine W_ret ?_
  have h9 : wordsM sz = 0 := by unfold wordsM; rw [if_neg (by simpa using h1)]
  refine ret1 (res_tmp (v := .int .i64 0) rfl) ⟨?_, G⟩
  rw [h9]; rfl
 ·-- false
  simp only [sb] at h1
  have hf : fitsL sz = true := by simpa using h1
  obtain ⟨f1, f2, f3, f4, f5⟩ := fitsL_of hf
  have hsz := fitsL_size hf
  refine W_skip ?_
  refine W_seq (W_region rfl ?_)
  refine stp (r_assign_int rfl ?_)
  refine WL_nil ?_
  refine W_seq ?_
  refine W_seq (W_region rfl ?_)
  refine stp (r_fieldAddr rfl ?_)
  refine stp (r_load (v := .slice ad sz.length c) rfl hc4 rfl ?_)
  refine stp (r_len rfl rfl rfl ?_)
  refine stp (r_move_int rfl ?_)
  refine WL_nil ?_
  refine W_block ?_
  refine W_loop (fun m_ e_ w_ => ∃ (k : Nat), m_ = sz.length - k ∧ Fr [(2, .int .i64 0), (10, .slice ad sz.length c), (11, .int .i64 (sz.length : Int)), (3, .int .i64 (sumL (sz.take k))), (12, .int .i64 (k : Int))] e_ ∧ (k ≤ sz.length) ∧ (w_.heap[b1]? = some (.cells #[.int .u64 ses, .slice ad sz.length c, .int .u32 sum] 46 (0, 0))) ∧ Grow w w_) _ ⟨0, rfl, fr_of ⟨rfl, rfl, rfl, rfl, rfl, trivial⟩, by omega, hc4, G⟩ ?_
  clear hc4
  clear G
  rintro m_ e_ w9 ⟨k, rfl, ⟨e10, rfl⟩, hk, hc4, G⟩
  have hkz := hsz k
  have htk := sumL_take_le f4 k
  refine W_seq (W_region rfl ?_)
  refine stp (r_lss rfl rfl ?_)
  refine WL_nil ?_
  refine W_seq ?_
  refine W_cond2 (b := (decide ((k : Int) < (sz.length : Int)))) rfl (fun hlt => ?_) (fun hlt => ?_)
  ·-- true
   replace hlt := of_decide_eq_true hlt
   have hi : k < sz.length := by omega
   have ht := sumL_take hi
   refine W_skip ?_
   refine W_seq ?_
   refine W_block ?_
   refine W_seq (W_region rfl ?_)
   refine stp (r_indexN (R.grow G) rfl rfl ?_ ?_); omega
   refine stp (r_loadR (v := .int .i64 (sz.getD k 0)) (m := 0) (R.grow G) rfl (map_get1 0 (by omega)) ?_)
   refine stp (r_assign_int rfl ?_)
   refine WL_nil ?_
   refine W_region rfl ?_
   refine stp (r_move_int rfl ?_)
   refine stp (r_move_int rfl ?_)
   refine stp (r_add rfl rfl ?_ ?_); constructor <;> omega
   refine stp (r_assign_int rfl ?_)
   refine WL_nil ?_
   refine W_region rfl ?_
   refine stp (r_add rfl rfl ?_ ?_); constructor <;> omega
   refine stp (r_move_int rfl ?_)
   refine WL_nil ?_
   refine ⟨_, ?_, k + 1, rfl, fr_of ⟨rfl, rfl, rfl, congrArg (Value.int .i64) (by omega), congrArg (Value.int .i64) (by omega), trivial⟩, by omega, hc4, G⟩
   omega
  ·-- false
   replace hlt := of_decide_eq_false hlt
   have hk2 : k = sz.length := by omega
   refine W_exit ?_
   refine W_seq (W_region rfl ?_)
   refine stp (r_move_int rfl ?_)
   refine stp (r_assign_int rfl ?_)
   refine WL_nil ?_
   refine W_ret ?_
   refine ret1 (res_tmp (v := .int .i64 (sumL (sz.take k))) rfl) ⟨?_, G⟩
   rw [(wordsM_fit hf).1, hk2, List.take_length]

set_option maxRecDepth 100000 in
theorem mchunks_calls (w : World) {ses sum : Int} {ad : Option Addr} {c : Nat} {sz : List Int} (R : RowAt w 1 ad sz.length (sz.map (.int .i64))) (hr : ∀ x ∈ sz, inR .i64 x) : Gives Try.prog 38 #[.agg #[.int .u64 ses, .slice ad sz.length c, .int .u32 sum]] w (.int .i64 (chunksM sz : Int)) := by
 have hle := wordsM_le sz
 have G := Grow.rfl' w
 refine gives_of Try.func38 Try.ntmps38 Try.results38 rfl rfl ?_
 refine W_seq (W_region rfl ?_)
 refine WL_some (og rfl ?_)
 (first | refine r_box_agg rfl ?_ | refine r_box_int rfl ?_ | refine r_box_slice rfl ?_ | refine r_box rfl rfl ?_)
 intro b1 w2 hb3 hc4 g5
 have hge6 := Nat.le_trans G.size hb3
 replace G := G.tr g5
 clear g5 hb3
 refine stp (r_assign_int rfl ?_)
 refine WL_nil ?_
 refine W_seq (W_region rfl ?_)
 refine stp (r_loadAll rfl hc4 (by rfl) ?_)
 refine stp (r_gives (v := .int .i64 (wordsM sz : Int)) rfl (mwords_calls _ (R.grow G) hr) ?_)
 intro w7 g8
 replace hc4 := g8.heap hc4
 replace G := G.tr g8
 clear g8
 refine stp (r_gives (v := .int .i64 (((wordsM sz : Int) + 7) / 8)) rfl (ceil_calls _ _ (by omega) (by omega)) ?_)
 intro w9 g10
 replace hc4 := g10.heap hc4
 replace G := G.tr g10
 clear g10
 refine stp (r_assign_int rfl ?_)
 refine WL_nil ?_
 refine W_ret ?_
 refine ret1 (res_tmp (v := .int .i64 (((wordsM sz : Int) + 7) / 8)) rfl) ⟨?_, G⟩
 congr 1 <;> (unfold chunksM; omega)

set_option maxRecDepth 100000 in
theorem msize_calls (w : World) {ses sum : Int} {ad : Option Addr} {c : Nat} {sz : List Int} (R : RowAt w 1 ad sz.length (sz.map (.int .i64))) (hr : ∀ x ∈ sz, inR .i64 x) {i : Int} (gi : inR .i64 i) : Gives Try.prog 39 #[.agg #[.int .u64 ses, .slice ad sz.length c, .int .u32 sum], .int .i64 i] w (.int .i64 (sizeM sz i)) := by
 have hle := wordsM_le sz
 have hch : chunksM sz = (wordsM sz + 7) / 8 := rfl
 have G := Grow.rfl' w
 refine gives_of Try.func39 Try.ntmps39 Try.results39 rfl rfl ?_
 refine W_seq (W_region rfl ?_)
 refine WL_some (og rfl ?_)
 (first | refine r_box_agg rfl ?_ | refine r_box_int rfl ?_ | refine r_box_slice rfl ?_ | refine r_box rfl rfl ?_)
 intro b1 w2 hb3 hc4 g5
 have hge6 := Nat.le_trans G.size hb3
 replace G := G.tr g5
 clear g5 hb3
 refine stp (r_assign_int rfl ?_)
 refine WL_nil ?_
 refine W_seq ?_
 refine W_seq (W_region rfl ?_)
 refine stp (r_move_int rfl ?_)
 refine stp (r_lss rfl rfl ?_)
 refine stp (r_move_bool rfl ?_)
 refine WL_some (og_if (s := .bool (decide (i < 0))) (b := false) (v := .int .i64 i) rfl (wgb_f _) (fun hc7 => ?_) ?_)
 ·
  have hc7_ := hc7
  try simp only [sb] at hc7_
  refine r_move_int rfl ?_
  exact ⟨rfl, rfl⟩
 refine WL_some (og_if (s := .bool (decide (i < 0))) (b := false) (v := .agg #[.int .u64 ses, .slice ad sz.length c, .int .u32 sum]) rfl (wgb_f _) (fun hc8 => ?_) ?_)
 ·
  have hc8_ := hc8
  try simp only [sb] at hc8_
  refine r_loadAll rfl hc4 (by rfl) ?_
  exact ⟨rfl, rfl⟩
 refine WL_some (og_ifg (s := .bool (decide (i < 0))) (b := false) (v := .int .i64 (chunksM sz : Int)) rfl (wgb_f _) (fun hc9 => ?_) ?_)
 ·
  have hc9_ := hc9
  try simp only [sb] at hc9_
  exact r_givesA (l := ([.agg #[.int .u64 ses, .slice ad sz.length c, .int .u32 sum]] : List Value)) rfl (by show ([gv (!(decide (i < 0))) (.agg #[.int .u64 ses, .slice ad sz.length c, .int .u32 sum])] : List Value) = _; rw [gvt hc9]) (mchunks_calls _ (R.grow G) hr) (fun w2_ g2_ => ⟨rfl, g2_⟩)
 intro w10 g11
 replace hc4 := g11.heap hc4
 replace G := G.tr g11
 clear g11
 refine WL_some (og_if (s := .bool (decide (i < 0))) (b := false) (v := .bool (decide (i ≥ (chunksM sz : Int)))) rfl (wgb_f _) (fun hc12 => ?_) ?_)
 ·
  have hc12_ := hc12
  try simp only [sb] at hc12_
  refine r_geq (gvt hc12) (gvt hc12) ?_
  exact ⟨rfl, rfl⟩
 refine stp (r_or2 rfl rfl rfl ?_)
 refine WL_nil ?_
 refine W_cond2 (b := ((decide (i < 0)) || (decide (i ≥ (chunksM sz : Int))))) rfl (fun h1 => ?_) (fun h1 => ?_)
 ·-- true
  simp only [sb] at h1
  refine W_seq (W_region rfl ?_)
  refine stp (r_assign_int rfl ?_)
  refine WL_nil ?_
  refine W_ret ?_
  refine ret1 (res_tmp (v := .int .i64 0) rfl) ⟨?_, G⟩
  unfold sizeM; rw [if_pos (by omega)]
 ·-- false
  simp only [sb] at h1
  refine W_skip ?_
  refine W_seq (W_region rfl ?_)
  refine stp (r_loadAll rfl hc4 (by rfl) ?_)
  refine stp (r_gives (v := .int .i64 (wordsM sz : Int)) rfl (mwords_calls _ (R.grow G) hr) ?_)
  intro w13 g14
  replace hc4 := g14.heap hc4
  replace G := G.tr g14
  clear g14
  refine stp (r_mul rfl rfl ?_ ?_); constructor <;> omega
  refine stp (r_move_int rfl ?_)
  refine stp (r_mul rfl rfl ?_ ?_); constructor <;> omega
  refine stp (r_sub rfl rfl ?_ ?_); constructor <;> omega
  refine stp (r_min rfl rfl rfl ?_)
  refine stp (r_assign_int rfl ?_)
  refine WL_nil ?_
  refine W_ret ?_
  refine ret1 (res_tmp (v := .int .i64 (if (((wordsM sz : Int) * 8) - (i * 64)) < 64 then (((wordsM sz : Int) * 8) - (i * 64)) else 64)) rfl) ⟨?_, G⟩
  rw [show sizeM sz i = min 64 (8 * (wordsM sz : Int) - 64 * i) from if_neg (by omega)]; congr 1; split <;> omega

set_option maxRecDepth 100000 in
theorem rmright_calls (w : World) {ses sum : Int} {ad : Option Addr} {c : Nat} {sz : List Int} (R : RowAt w 1 ad sz.length (sz.map (.int .i64))) (hr : ∀ x ∈ sz, inR .i64 x) : Gives Try.prog 62 #[.agg #[.int .u64 ses, .slice ad sz.length c, .int .u32 sum]] w (.bool (fitsL sz)) := by
 have G := Grow.rfl' w
 refine gives_of Try.func62 Try.ntmps62 Try.results62 rfl rfl ?_
 refine W_seq (W_region rfl ?_)
 refine WL_some (og rfl ?_)
 (first | refine r_box_agg rfl ?_ | refine r_box_int rfl ?_ | refine r_box_slice rfl ?_ | refine r_box rfl rfl ?_)
 intro b1 w2 hb3 hc4 g5
 have hge6 := Nat.le_trans G.size hb3
 replace G := G.tr g5
 clear g5 hb3
 refine stp (r_assign (v := .bool false) rfl ?_)
 refine WL_nil ?_
 refine W_seq (W_region rfl ?_)
 refine stp (r_fieldAddr rfl ?_)
 refine stp (r_load (v := .slice ad sz.length c) rfl hc4 rfl ?_)
 refine stp (r_gives (v := .bool (fitsL sz)) rfl (rfitsL_calls _ (R.grow G) hr) ?_)
 intro w7 g8
 replace hc4 := g8.heap hc4
 replace G := G.tr g8
 clear g8
 refine stp (r_assign_bool rfl ?_)
 refine WL_nil ?_
 refine W_ret ?_
 refine ret1 (res_tmp (v := .bool (fitsL sz)) rfl) ⟨?_, G⟩
 rfl

set_option maxRecDepth 100000 in
theorem rmwords_calls (w : World) {ses sum : Int} {ad : Option Addr} {c : Nat} {sz : List Int} (R : RowAt w 1 ad sz.length (sz.map (.int .i64))) (hr : ∀ x ∈ sz, inR .i64 x) : Gives Try.prog 37 #[.agg #[.int .u64 ses, .slice ad sz.length c, .int .u32 sum]] w (.int .i64 (wordsM sz : Int)) := by
 have lR := R.lim
 have G := Grow.rfl' w
 refine gives_of Try.func37 Try.ntmps37 Try.results37 rfl rfl ?_
 refine W_seq (W_region rfl ?_)
 refine WL_some (og rfl ?_)
 (first | refine r_box_agg rfl ?_ | refine r_box_int rfl ?_ | refine r_box_slice rfl ?_ | refine r_box rfl rfl ?_)
 intro b1 w2 hb3 hc4 g5
 have hge6 := Nat.le_trans G.size hb3
 replace G := G.tr g5
 clear g5 hb3
 refine stp (r_assign_int rfl ?_)
 refine WL_nil ?_
 refine W_seq ?_
 refine W_seq (W_region rfl ?_)
 refine stp (r_loadAll rfl hc4 (by rfl) ?_)
 refine stp (r_gives (v := .bool (fitsL sz)) rfl (rmright_calls _ (R.grow G) hr) ?_)
 intro w7 g8
 replace hc4 := g8.heap hc4
 replace G := G.tr g8
 clear g8
 refine stp (r_not rfl ?_)
 refine WL_nil ?_
 refine W_cond2 (b := (!(fitsL sz))) rfl (fun h1 => ?_) (fun h1 => ?_)
 ·-- true
  simp only [sb] at h1
  refine W_seq (W_region rfl ?_)
  refine stp (r_assign_int rfl ?_)
  refine WL_nil ?_
  refine W_ret ?_
  have h9 : wordsM sz = 0 := by unfold wordsM; rw [if_neg (by simpa using h1)]
  refine ret1 (res_tmp (v := .int .i64 0) rfl) ⟨?_, G⟩
  rw [h9]; rfl
 ·-- false
  simp only [sb] at h1
  have hf : fitsL sz = true := by simpa using h1
  obtain ⟨f1, f2, f3, f4, f5⟩ := fitsL_of hf
  have hsz := fitsL_size hf
  refine W_skip ?_
  refine W_seq (W_region rfl ?_)
  refine stp (r_assign_int rfl ?_)
  refine WL_nil ?_
  refine W_seq ?_
  refine W_seq (W_region rfl ?_)
  refine stp (r_assign_int rfl ?_)
  refine WL_nil ?_
  refine W_block ?_
  refine W_loop (fun m_ e_ w_ => ∃ (k : Nat), m_ = sz.length - k ∧ Fr [(1, .pointer (some ⟨b1, 0, none⟩)), (2, .int .i64 0), (3, .int .i64 (sumL (sz.take k))), (4, .int .i64 (k : Int))] e_ ∧ (k ≤ sz.length) ∧ (w_.heap[b1]? = some (.cells #[.int .u64 ses, .slice ad sz.length c, .int .u32 sum] 46 (0, 0))) ∧ Grow w w_) _ ⟨0, rfl, fr_of ⟨rfl, rfl, rfl, rfl, trivial⟩, by omega, hc4, G⟩ ?_
  clear hc4
  clear G
  rintro m_ e_ w9 ⟨k, rfl, ⟨e10, rfl⟩, hk, hc4, G⟩
  have hkz := hsz k
  have htk := sumL_take_le f4 k
  refine W_seq ?_
  refine W_seq (W_region rfl ?_)
  refine stp (r_move_int rfl ?_)
  refine stp (r_fieldAddr rfl ?_)
  refine stp (r_load (v := .slice ad sz.length c) rfl hc4 rfl ?_)
  refine stp (r_len rfl rfl rfl ?_)
  refine stp (r_lss rfl rfl ?_)
  refine WL_nil ?_
  refine W_cond2 (b := (decide ((k : Int) < (sz.length : Int)))) rfl (fun hlt => ?_) (fun hlt => ?_)
  ·-- true
   replace hlt := of_decide_eq_true hlt
   have hi : k < sz.length := by omega
   have ht := sumL_take hi
   refine W_skip ?_
   refine W_seq ?_
   refine W_block ?_
   refine W_region rfl ?_
   refine stp (r_move_int rfl ?_)
   refine stp (r_fieldAddr rfl ?_)
   refine stp (r_load (v := .slice ad sz.length c) rfl hc4 rfl ?_)
   refine stp (r_move_int rfl ?_)
   refine stp (r_indexN (R.grow G) rfl rfl ?_ ?_); omega
   refine stp (r_loadR (v := .int .i64 (sz.getD k 0)) (m := 0) (R.grow G) rfl (map_get1 0 (by omega)) ?_)
   refine stp (r_add rfl rfl ?_ ?_); constructor <;> omega
   refine stp (r_assign_int rfl ?_)
   refine WL_nil ?_
   refine W_region rfl ?_
   refine stp (r_move_int rfl ?_)
   refine stp (r_add rfl rfl ?_ ?_); constructor <;> omega
   refine stp (r_assign_int rfl ?_)
   refine WL_nil ?_
   refine ⟨_, ?_, k + 1, rfl, fr_of ⟨rfl, rfl, congrArg (Value.int .i64) (by omega), congrArg (Value.int .i64) (by omega), trivial⟩, by omega, hc4, G⟩
   omega
  ·-- false
   replace hlt := of_decide_eq_false hlt
   have hk2 : k = sz.length := by omega
   refine W_exit ?_
   refine W_seq (W_region rfl ?_)
   refine stp (r_move_int rfl ?_)
   refine stp (r_assign_int rfl ?_)
   refine WL_nil ?_
   refine W_ret ?_
   refine ret1 (res_tmp (v := .int .i64 (sumL (sz.take k))) rfl) ⟨?_, G⟩
   rw [(wordsM_fit hf).1, hk2, List.take_length]

set_option maxRecDepth 100000 in
theorem rmchunks_calls (w : World) {ses sum : Int} {ad : Option Addr} {c : Nat} {sz : List Int} (R : RowAt w 1 ad sz.length (sz.map (.int .i64))) (hr : ∀ x ∈ sz, inR .i64 x) : Gives Try.prog 16 #[.agg #[.int .u64 ses, .slice ad sz.length c, .int .u32 sum]] w (.int .i64 (chunksM sz : Int)) := by
 have hle := wordsM_le sz
 have G := Grow.rfl' w
 refine gives_of Try.func16 Try.ntmps16 Try.results16 rfl rfl ?_
 refine W_seq (W_region rfl ?_)
 refine WL_some (og rfl ?_)
 (first | refine r_box_agg rfl ?_ | refine r_box_int rfl ?_ | refine r_box_slice rfl ?_ | refine r_box rfl rfl ?_)
 intro b1 w2 hb3 hc4 g5
 have hge6 := Nat.le_trans G.size hb3
 replace G := G.tr g5
 clear g5 hb3
 refine stp (r_assign_int rfl ?_)
 refine WL_nil ?_
 refine W_seq (W_region rfl ?_)
 refine stp (r_loadAll rfl hc4 (by rfl) ?_)
 refine stp (r_gives (v := .int .i64 (wordsM sz : Int)) rfl (rmwords_calls _ (R.grow G) hr) ?_)
 intro w7 g8
 replace hc4 := g8.heap hc4
 replace G := G.tr g8
 clear g8
 refine stp (r_add rfl rfl ?_ ?_); constructor <;> omega
 refine stp (r_quo rfl rfl ?_ ?_ ?_ ?_); omega; omega; (constructor <;> omega)
 refine stp (r_assign_int rfl ?_)
 refine WL_nil ?_
 refine W_ret ?_
 refine ret1 (res_tmp (v := .int .i64 (((wordsM sz : Int) + 7) / 8)) rfl) ⟨?_, G⟩
 congr 1 <;> (unfold chunksM; omega)

set_option maxRecDepth 100000 in
theorem bitget_calls (w : World) {ad : Option Addr} {c : Nat} {xs : List Int} (R : RowAt w 1 ad xs.length (xs.map (.int .u8))) (hx : isB xs) {i : Nat} (hi : i ≤ 1000000000) : Gives Try.prog 40 #[.slice ad xs.length c, .int .i64 (i : Int)] w (.bool (bitQ xs i)) := by
 have lR := R.lim
 have hxi := hx.at_ (i / 8)
 have hp : (0 : Int) < 2 ^ (i % 8) := Int.pow_pos (by decide)
 have hsh0 := Int.ediv_nonneg hxi.1 (Int.le_of_lt hp)
 have hsh1 := Int.le_trans (Int.ediv_le_self (2 ^ (i % 8)) hxi.1) hxi.2
 have G := Grow.rfl' w
 refine gives_of Try.func40 Try.ntmps40 Try.results40 rfl rfl ?_
 refine W_seq (W_region rfl ?_)
 refine stp (r_assign (v := .bool false) rfl ?_)
 refine WL_nil ?_
 refine W_seq (W_region rfl ?_)
 refine stp (r_move_int rfl ?_)
 refine stp (r_geq rfl rfl ?_)
 refine stp (r_move_bool rfl ?_)
 refine WL_some (og_if (s := .bool (decide ((i : Int) ≥ 0))) (b := true) (v := .int .i64 (i : Int)) rfl (wgb_t _) (fun hc1 => ?_) ?_)
 ·
  have hc1_ := of_decide_eq_true hc1
  refine r_move_int rfl ?_
  exact ⟨rfl, rfl⟩
 refine WL_some (og_if (s := .bool (decide ((i : Int) ≥ 0))) (b := true) (v := .int .i64 ((i / 8 : Nat) : Int)) rfl (wgb_t _) (fun hc2 => ?_) ?_)
 ·
  have hc2_ := of_decide_eq_true hc2
  refine r_quo (gvt hc2) rfl ?_ ?_ ?_ ?_; omega; omega; (constructor <;> omega)
  rw [show (i : Int) / 8 = ((i / 8 : Nat) : Int) from by omega]
  exact ⟨rfl, rfl⟩
 refine WL_some (og_if (s := .bool (decide ((i : Int) ≥ 0))) (b := true) (v := .slice ad xs.length c) rfl (wgb_t _) (fun hc3 => ?_) ?_)
 ·
  have hc3_ := of_decide_eq_true hc3
  refine r_move_slice rfl ?_
  exact ⟨rfl, rfl⟩
 refine WL_some (og_if (s := .bool (decide ((i : Int) ≥ 0))) (b := true) (v := .int .i64 (xs.length : Int)) rfl (wgb_t _) (fun hc4 => ?_) ?_)
 ·
  have hc4_ := of_decide_eq_true hc4
  refine r_len rfl rfl (gvt hc4) ?_
  exact ⟨rfl, rfl⟩
 refine WL_some (og_if (s := .bool (decide ((i : Int) ≥ 0))) (b := true) (v := .bool (decide (((i / 8 : Nat) : Int) < (xs.length : Int)))) rfl (wgb_t _) (fun hc5 => ?_) ?_)
 ·
  have hc5_ := of_decide_eq_true hc5
  refine r_lss (gvt hc5) (gvt hc5) ?_
  exact ⟨rfl, rfl⟩
 refine stp (r_and2 rfl rfl rfl ?_)
 refine stp (r_move_bool rfl ?_)
 refine WL_some (og_if (s := .bool ((decide ((i : Int) ≥ 0)) && (decide (((i / 8 : Nat) : Int) < (xs.length : Int))))) (b := true) (v := .slice ad xs.length c) rfl (wgb_t _) (fun hc6 => ?_) ?_)
 ·
  obtain ⟨hc6a, hc6b⟩ := and_t hc6
  have hc6a_ := of_decide_eq_true hc6a
  have hc6b_ := of_decide_eq_true hc6b
  refine r_move_slice rfl ?_
  exact ⟨rfl, rfl⟩
 refine WL_some (og_if (s := .bool ((decide ((i : Int) ≥ 0)) && (decide (((i / 8 : Nat) : Int) < (xs.length : Int))))) (b := true) (v := .int .i64 (i : Int)) rfl (wgb_t _) (fun hc7 => ?_) ?_)
 ·
  obtain ⟨hc7a, hc7b⟩ := and_t hc7
  have hc7a_ := of_decide_eq_true hc7a
  have hc7b_ := of_decide_eq_true hc7b
  refine r_move_int rfl ?_
  exact ⟨rfl, rfl⟩
 refine WL_some (og_if (s := .bool ((decide ((i : Int) ≥ 0)) && (decide (((i / 8 : Nat) : Int) < (xs.length : Int))))) (b := true) (v := .int .i64 ((i / 8 : Nat) : Int)) rfl (wgb_t _) (fun hc8 => ?_) ?_)
 ·
  obtain ⟨hc8a, hc8b⟩ := and_t hc8
  have hc8a_ := of_decide_eq_true hc8a
  have hc8b_ := of_decide_eq_true hc8b
  refine r_quo (gvt hc8) rfl ?_ ?_ ?_ ?_; omega; omega; (constructor <;> omega)
  rw [show (i : Int) / 8 = ((i / 8 : Nat) : Int) from by omega]
  exact ⟨rfl, rfl⟩
 refine WL_some (og_if (s := .bool ((decide ((i : Int) ≥ 0)) && (decide (((i / 8 : Nat) : Int) < (xs.length : Int))))) (b := true) (v := .pointer (some (eadr ad ((i / 8) * 1)))) rfl (wgb_t _) (fun hc9 => ?_) ?_)
 ·
  obtain ⟨hc9a, hc9b⟩ := and_t hc9
  have hc9a_ := of_decide_eq_true hc9a
  have hc9b_ := of_decide_eq_true hc9b
  refine r_indexN (R.grow G) (gvt hc9) (gvt hc9) ?_ ?_; omega
  exact ⟨rfl, rfl⟩
 refine WL_some (og_if (s := .bool ((decide ((i : Int) ≥ 0)) && (decide (((i / 8 : Nat) : Int) < (xs.length : Int))))) (b := true) (v := .int .u8 (xs.getD (i / 8) 0)) rfl (wgb_t _) (fun hc10 => ?_) ?_)
 ·
  obtain ⟨hc10a, hc10b⟩ := and_t hc10
  have hc10a_ := of_decide_eq_true hc10a
  have hc10b_ := of_decide_eq_true hc10b
  refine r_loadR (v := .int .u8 (xs.getD (i / 8) 0)) (m := 0) (R.grow G) (gvt hc10) (map_get1 0 (by omega)) ?_
  exact ⟨rfl, rfl⟩
 refine WL_some (og_if (s := .bool ((decide ((i : Int) ≥ 0)) && (decide (((i / 8 : Nat) : Int) < (xs.length : Int))))) (b := true) (v := .int .i64 (i : Int)) rfl (wgb_t _) (fun hc11 => ?_) ?_)
 ·
  obtain ⟨hc11a, hc11b⟩ := and_t hc11
  have hc11a_ := of_decide_eq_true hc11a
  have hc11b_ := of_decide_eq_true hc11b
  refine r_move_int rfl ?_
  exact ⟨rfl, rfl⟩
 refine WL_some (og_if (s := .bool ((decide ((i : Int) ≥ 0)) && (decide (((i / 8 : Nat) : Int) < (xs.length : Int))))) (b := true) (v := .int .i64 ((i % 8 : Nat) : Int)) rfl (wgb_t _) (fun hc12 => ?_) ?_)
 ·
  obtain ⟨hc12a, hc12b⟩ := and_t hc12
  have hc12a_ := of_decide_eq_true hc12a
  have hc12b_ := of_decide_eq_true hc12b
  refine r_rem (gvt hc12) rfl ?_ ?_ ?_; omega; omega
  rw [show (i : Int) % 8 = ((i % 8 : Nat) : Int) from by omega]
  exact ⟨rfl, rfl⟩
 refine WL_some (og_if (s := .bool ((decide ((i : Int) ≥ 0)) && (decide (((i / 8 : Nat) : Int) < (xs.length : Int))))) (b := true) (v := .int .u8 (xs.getD (i / 8) 0 / 2 ^ (i % 8))) rfl (wgb_t _) (fun hc13 => ?_) ?_)
 ·
  obtain ⟨hc13a, hc13b⟩ := and_t hc13
  have hc13a_ := of_decide_eq_true hc13a
  have hc13b_ := of_decide_eq_true hc13b
  refine r_shr (gvt hc13) (gvt hc13) ?_ ?_; omega
  rw [show min ((i % 8 : Nat) : Int).toNat (IntKind.bits .u8) = i % 8 from by simp only [IntKind.bits]; omega]
  exact ⟨rfl, rfl⟩
 refine WL_some (og_if (s := .bool ((decide ((i : Int) ≥ 0)) && (decide (((i / 8 : Nat) : Int) < (xs.length : Int))))) (b := true) (v := .int .u8 ((xs.getD (i / 8) 0 / 2 ^ (i % 8)) % 2)) rfl (wgb_t _) (fun hc14 => ?_) ?_)
 ·
  obtain ⟨hc14a, hc14b⟩ := and_t hc14
  have hc14a_ := of_decide_eq_true hc14a
  have hc14b_ := of_decide_eq_true hc14b
  refine r_and (gvt hc14) rfl ?_
  rw [and_oneB hsh0 hsh1]
  exact ⟨rfl, rfl⟩
 refine WL_some (og_if (s := .bool ((decide ((i : Int) ≥ 0)) && (decide (((i / 8 : Nat) : Int) < (xs.length : Int))))) (b := true) (v := .bool (decide (((xs.getD (i / 8) 0 / 2 ^ (i % 8)) % 2) = 1))) rfl (wgb_t _) (fun hc15 => ?_) ?_)
 ·
  obtain ⟨hc15a, hc15b⟩ := and_t hc15
  have hc15a_ := of_decide_eq_true hc15a
  have hc15b_ := of_decide_eq_true hc15b
  refine r_eql (gvt hc15) rfl ?_
  exact ⟨rfl, rfl⟩
 refine stp (r_and2 rfl rfl rfl ?_)
 refine stp (r_assign_bool rfl ?_)
 refine WL_nil ?_
 refine W_ret ?_
 refine ret1 (res_tmp (v := .bool (((decide ((i : Int) ≥ 0)) && (decide (((i / 8 : Nat) : Int) < (xs.length : Int)))) && (decide (((xs.getD (i / 8) 0 / 2 ^ (i % 8)) % 2) = 1)))) rfl) ⟨?_, G⟩
 rw [decide_eq_true (show (i : Int) ≥ 0 by omega), Bool.true_and]; by_cases h_ : i / 8 < xs.length; (rw [decide_eq_true (show ((i / 8 : Nat) : Int) < (xs.length : Int) by omega), Bool.true_and]; rfl); (rw [decide_eq_false (show ¬ ((i / 8 : Nat) : Int) < (xs.length : Int) by omega), bitQ_far (by omega)]; rfl)

set_option maxRecDepth 100000 in
theorem crcS_calls (w : World) {n : Int} (h0 : 0 ≤ n) (h1 : n ≤ 4294967295) : Gives Try.prog 84 #[.int .u32 n] w (.int .u32 (crcS n)) := by
 have G := Grow.rfl' w
 refine gives_of Try.func84 Try.ntmps84 Try.results84 rfl rfl ?_
 refine W_seq (W_region rfl ?_)
 refine stp (r_assign_int rfl ?_)
 refine WL_nil ?_
 refine W_seq ?_
 refine W_seq (W_region rfl ?_)
 refine stp (r_move_int rfl ?_)
 refine stp (r_rem rfl rfl ?_ ?_ ?_); omega; omega
 refine stp (r_eql rfl rfl ?_)
 refine WL_nil ?_
 refine W_cond2 (b := (decide ((n % 2) = 1))) rfl (fun h2 => ?_) (fun h2 => ?_)
 ·-- true
  replace h2 := of_decide_eq_true h2
  refine W_seq (W_region rfl ?_)
  refine stp (r_move_int rfl ?_)
  refine stp (r_quo rfl rfl ?_ ?_ ?_ ?_); omega; omega; (constructor <;> omega)
  refine stp (r_xor rfl rfl ?_)
  refine stp (r_assign_int rfl ?_)
  refine WL_nil ?_
  refine W_ret ?_
  refine ret1 (res_tmp (v := .int .u32 (bitop .xor .u32 (n / 2) 2197175160)) rfl) ⟨?_, G⟩
  unfold crcS; rw [if_pos h2]
 ·-- false
  replace h2 := of_decide_eq_false h2
  refine W_skip ?_
  refine W_seq (W_region rfl ?_)
  refine stp (r_move_int rfl ?_)
  refine stp (r_quo rfl rfl ?_ ?_ ?_ ?_); omega; omega; (constructor <;> omega)
  refine stp (r_assign_int rfl ?_)
  refine WL_nil ?_
  refine W_ret ?_
  refine ret1 (res_tmp (v := .int .u32 (n / 2)) rfl) ⟨?_, G⟩
  unfold crcS; rw [if_neg h2]

set_option maxRecDepth 100000 in
theorem crcM_calls (w : World) {ad : Option Addr} {c : Nat} {xs : List Int} (R : RowAt w 1 ad xs.length (xs.map (.int .u8))) (hx : isB xs) {n : Int} (h0 : 0 ≤ n) (h1 : n ≤ 4294967295) : Gives Try.prog 61 #[.int .u32 n, .slice ad xs.length c] w (.int .u32 (bitop .xor .u32 (crcB (bitop .xor .u32 n 4294967295) xs xs.length) 4294967295)) := by
 have lR := R.lim
 obtain ⟨m, hm⟩ : ∃ m, m = bitop .xor .u32 n 4294967295 := ⟨_, rfl⟩
 have hmr := bitop_u32 .xor n 4294967295
 rw [← hm] at hmr
 have G := Grow.rfl' w
 refine gives_of Try.func61 Try.ntmps61 Try.results61 rfl rfl ?_
 refine W_seq (W_region rfl ?_)
 refine stp (r_assign_int rfl ?_)
 refine WL_nil ?_
 refine W_seq (W_region rfl ?_)
 refine stp (r_move_int rfl ?_)
 refine WL_some (og rfl ?_)
 refine r_xor rfl rfl ?_
 rw [← hm]
 refine stp (r_assign_int rfl ?_)
 refine WL_nil ?_
 refine W_seq ?_
 refine W_seq (W_region rfl ?_)
 refine stp (r_assign_int rfl ?_)
 refine WL_nil ?_
 refine W_block ?_
 refine W_loop (fun m_ e_ w_ => ∃ (k : Nat), m_ = xs.length - k ∧ Fr [(1, .slice ad xs.length c), (4, .int .u32 0), (0, .int .u32 (crcB m xs k)), (5, .int .i64 (k : Int))] e_ ∧ (k ≤ xs.length) ∧ Grow w w_) _ ⟨0, rfl, fr_of ⟨rfl, rfl, rfl, rfl, trivial⟩, by omega, G⟩ ?_
 clear G
 rintro m_ e_ w1 ⟨k, rfl, ⟨e2, rfl⟩, hk, G⟩
 have hxk := hx.at_ k
 have hbr := crcB_rng hmr.1 hmr.2 xs k
 refine W_seq ?_
 refine W_seq (W_region rfl ?_)
 refine stp (r_move_int rfl ?_)
 refine stp (r_move_slice rfl ?_)
 refine stp (r_len rfl rfl rfl ?_)
 refine stp (r_lss rfl rfl ?_)
 refine WL_nil ?_
 refine W_cond2 (b := (decide ((k : Int) < (xs.length : Int)))) rfl (fun hlt => ?_) (fun hlt => ?_)
 ·-- true
  replace hlt := of_decide_eq_true hlt
  refine W_skip ?_
  refine W_seq ?_
  refine W_block ?_
  refine W_seq (W_region rfl ?_)
  refine stp (r_move_int rfl ?_)
  refine stp (r_move_slice rfl ?_)
  refine stp (r_move_int rfl ?_)
  refine stp (r_indexN (R.grow G) rfl rfl ?_ ?_); omega
  refine stp (r_loadR (v := .int .u8 (xs.getD k 0)) (m := 0) (R.grow G) rfl (map_get1 0 (by omega)) ?_)
  refine stp (r_conv rfl ?_ ?_); constructor <;> omega
  refine stp (r_xor rfl rfl ?_)
  refine stp (r_assign_int rfl ?_)
  refine WL_nil ?_
  refine W_seq (W_region rfl ?_)
  refine stp (r_assign_int rfl ?_)
  refine WL_nil ?_
  refine W_block ?_
  refine W_loop (fun m_ e_ w_ => ∃ (q : Nat), m_ = 8 - q ∧ Fr [(1, .slice ad xs.length c), (4, .int .u32 0), (5, .int .i64 (k : Int)), (6, .int .i64 (q : Int)), (0, .int .u32 (crcN (bitop .xor .u32 (crcB m xs k) (xs.getD k 0)) q))] e_ ∧ (q ≤ 8) ∧ Grow w w_) _ ⟨0, rfl, fr_of ⟨rfl, rfl, rfl, rfl, rfl, trivial⟩, by omega, G⟩ ?_
  clear G
  rintro m_ e_ w3 ⟨q, rfl, ⟨e4, rfl⟩, hq, G⟩
  have hqr := crcN_rng (bitop_u32 .xor (crcB m xs k) (xs.getD k 0)).1 (bitop_u32 .xor (crcB m xs k) (xs.getD k 0)).2 q
  refine W_seq ?_
  refine W_seq (W_region rfl ?_)
  refine stp (r_move_int rfl ?_)
  refine stp (r_lss rfl rfl ?_)
  refine WL_nil ?_
  refine W_cond2 (b := (decide ((q : Int) < 8))) rfl (fun hlq => ?_) (fun hlq => ?_)
  ·-- true
   replace hlq := of_decide_eq_true hlq
   refine W_skip ?_
   refine W_seq ?_
   refine W_block ?_
   refine W_region rfl ?_
   refine stp (r_move_int rfl ?_)
   refine stp (r_gives (v := .int .u32 (crcS (crcN (bitop .xor .u32 (crcB m xs k) (xs.getD k 0)) q))) rfl (crcS_calls _ hqr.1 hqr.2) ?_)
   intro w5 g6
   replace G := G.tr g6
   clear g6
   refine stp (r_assign_int rfl ?_)
   refine WL_nil ?_
   refine W_region rfl ?_
   refine stp (r_move_int rfl ?_)
   refine stp (r_add rfl rfl ?_ ?_); constructor <;> omega
   refine stp (r_assign_int rfl ?_)
   refine WL_nil ?_
   refine ⟨_, ?_, q + 1, rfl, fr_of ⟨rfl, rfl, rfl, congrArg (Value.int .i64) (by omega), rfl, trivial⟩, by omega, G⟩
   omega
  ·-- false
   replace hlq := of_decide_eq_false hlq
   have hq9 : q = 8 := by omega
   subst hq9
   refine W_exit ?_
   refine W_region rfl ?_
   refine stp (r_move_int rfl ?_)
   refine stp (r_add rfl rfl ?_ ?_); constructor <;> omega
   refine stp (r_assign_int rfl ?_)
   refine WL_nil ?_
   refine ⟨_, ?_, k + 1, rfl, fr_of ⟨rfl, rfl, rfl, congrArg (Value.int .i64) (by omega), trivial⟩, by omega, G⟩
   omega
 ·-- false
  replace hlt := of_decide_eq_false hlt
  have hk2 : k = xs.length := by omega
  refine W_exit ?_
  refine W_seq (W_region rfl ?_)
  refine stp (r_move_int rfl ?_)
  refine stp (r_xor rfl rfl ?_)
  refine stp (r_assign_int rfl ?_)
  refine WL_nil ?_
  refine W_ret ?_
  refine ret1 (res_tmp (v := .int .u32 (bitop .xor .u32 (crcB m xs k) 4294967295)) rfl) ⟨?_, G⟩
  rw [hk2]

set_option maxRecDepth 100000 in
theorem crcP_calls (w : World) {ad : Option Addr} {c : Nat} {xs : List Int} (R : RowAt w 1 ad xs.length (xs.map (.int .u8))) (hx : isB xs) : Gives Try.prog 36 #[.slice ad xs.length c] w (.int .u32 (crcP xs)) := by
 have G := Grow.rfl' w
 refine gives_of Try.func36 Try.ntmps36 Try.results36 rfl rfl ?_
 refine W_seq (W_region rfl ?_)
 refine stp (r_assign_int rfl ?_)
 refine WL_nil ?_
 refine W_seq (W_region rfl ?_)
 refine stp (r_move_slice rfl ?_)
 refine stp (r_gives (v := .int .u32 (bitop .xor .u32 (crcB (bitop .xor .u32 0 4294967295) xs xs.length) 4294967295)) rfl (crcM_calls _ (R.grow G) hx (n := 0) (by decide) (by decide)) ?_)
 intro w1 g2
 replace G := G.tr g2
 clear g2
 refine stp (r_assign_int rfl ?_)
 refine WL_nil ?_
 refine W_ret ?_
 refine ret1 (res_tmp (v := .int .u32 (bitop .xor .u32 (crcB (bitop .xor .u32 0 4294967295) xs xs.length) 4294967295)) rfl) ⟨?_, G⟩
 rfl

def popTab : ByteArray := ⟨((List.append (List.append [0, 1, 1, 2, 1, 2, 2, 3, 1, 2, 2, 3, 2, 3, 3, 4, 1, 2, 2, 3, 2, 3, 3, 4, 2, 3, 3, 4, 3, 4, 4, 5, 1, 2, 2, 3, 2, 3, 3, 4, 2, 3, 3, 4, 3, 4, 4, 5, 2, 3, 3, 4, 3, 4, 4, 5, 3, 4, 4, 5, 4, 5, 5, 6] [1, 2, 2, 3, 2, 3, 3, 4, 2, 3, 3, 4, 3, 4, 4, 5, 2, 3, 3, 4, 3, 4, 4, 5, 3, 4, 4, 5, 4, 5, 5, 6, 2, 3, 3, 4, 3, 4, 4, 5, 3, 4, 4, 5, 4, 5, 5, 6, 3, 4, 4, 5, 4, 5, 5, 6, 4, 5, 5, 6, 5, 6, 6, 7]) (List.append [1, 2, 2, 3, 2, 3, 3, 4, 2, 3, 3, 4, 3, 4, 4, 5, 2, 3, 3, 4, 3, 4, 4, 5, 3, 4, 4, 5, 4, 5, 5, 6, 2, 3, 3, 4, 3, 4, 4, 5, 3, 4, 4, 5, 4, 5, 5, 6, 3, 4, 4, 5, 4, 5, 5, 6, 4, 5, 5, 6, 5, 6, 6, 7] [2, 3, 3, 4, 3, 4, 4, 5, 3, 4, 4, 5, 4, 5, 5, 6, 3, 4, 4, 5, 4, 5, 5, 6, 4, 5, 5, 6, 5, 6, 6, 7, 3, 4, 4, 5, 4, 5, 5, 6, 4, 5, 5, 6, 5, 6, 6, 7, 4, 5, 5, 6, 5, 6, 6, 7, 5, 6, 6, 7, 6, 7, 7, 8])) : List UInt8).toArray⟩
theorem pop_all : (List.range 256).all (fun n => decide (((popTab.data.getD n 0).toNat : Int) = popQ n)) = true := by kernel_rfl
theorem pop_size : popTab.size = 256 := by kernel_rfl
theorem pop_tab {x : Int} (h0 : 0 ≤ x) (h1 : x ≤ 255) (hlt : x.toNat < popTab.size) : (((popTab[x.toNat]'hlt).toNat : Nat) : Int) = popQ x := by
  have h := List.all_eq_true.1 pop_all x.toNat (List.mem_range.2 (by omega))
  have h2 := of_decide_eq_true h
  rw [Int.toNat_of_nonneg h0] at h2
  rw [← h2]
  have hs : x.toNat < popTab.data.size := hlt
  have e : popTab[x.toNat]'hlt = popTab.data[x.toNat]'hs := rfl
  rw [e, Array.getD_eq_getD_getElem?, Array.getElem?_eq_getElem hs]
  rfl

set_option maxRecDepth 100000 in
theorem ones_calls (w : World) {x : Int} (h0 : 0 ≤ x) (h1 : x ≤ 255) : Gives Try.prog 66 #[.int .u8 x] w (.int .i64 (popQ x)) := by
 have G := Grow.rfl' w
 refine gives_of Try.func66 Try.ntmps66 Try.results66 rfl rfl ?_
 have hpr := popQ_rng x
 refine W_seq (W_region rfl ?_)
 refine stp (r_assign_int rfl ?_)
 refine WL_nil ?_
 refine W_seq (W_region rfl ?_)
 refine stp (r_move_int rfl ?_)
 refine stp (r_indexS (s := popTab) rfl rfl h0 (by rw [pop_size]; omega) ?_)
 intro hlt_
 rw [pop_tab h0 h1 hlt_]
 refine stp (r_conv rfl ?_ ?_); constructor <;> omega
 refine stp (r_assign_int rfl ?_)
 refine WL_nil ?_
 refine W_ret ?_
 refine ret1 (res_tmp (v := .int .i64 (popQ x)) rfl) ⟨?_, G⟩
 rfl

set_option maxRecDepth 100000 in
theorem bcount_calls (w : World) {ad : Option Addr} {c : Nat} {xs : List Int} (R : RowAt w 1 ad xs.length (xs.map (.int .u8))) (hx : isB xs) (hl : xs.length ≤ 100000) : Gives Try.prog 44 #[.slice ad xs.length c] w (.int .i64 (cntQ xs (8 * xs.length) : Int)) := by
 have lR := R.lim
 have G := Grow.rfl' w
 refine gives_of Try.func44 Try.ntmps44 Try.results44 rfl rfl ?_
 refine W_seq (W_region rfl ?_)
 refine stp (r_assign_int rfl ?_)
 refine WL_nil ?_
 refine W_seq (W_region rfl ?_)
 refine stp (r_assign_int rfl ?_)
 refine WL_nil ?_
 refine W_seq ?_
 refine W_seq (W_region rfl ?_)
 refine stp (r_move_slice rfl ?_)
 refine stp (r_len rfl rfl rfl ?_)
 refine stp (r_move_int rfl ?_)
 refine WL_nil ?_
 refine W_block ?_
 refine W_loop (fun m_ e_ w_ => ∃ (k : Nat), m_ = xs.length - k ∧ Fr [(2, .int .i64 0), (6, .slice ad xs.length c), (7, .int .i64 (xs.length : Int)), (3, .int .i64 (cntQ xs (8 * k) : Int)), (8, .int .i64 (k : Int))] e_ ∧ (k ≤ xs.length) ∧ Grow w w_) _ ⟨0, rfl, fr_of ⟨rfl, rfl, rfl, rfl, rfl, trivial⟩, by omega, G⟩ ?_
 clear G
 rintro m_ e_ w1 ⟨k, rfl, ⟨e2, rfl⟩, hk, G⟩
 have hxk := hx.at_ k
 have hcl := cntQ_le xs (8 * k)
 have hpr := popQ_rng (xs.getD k 0)
 refine W_seq (W_region rfl ?_)
 refine stp (r_lss rfl rfl ?_)
 refine WL_nil ?_
 refine W_seq ?_
 refine W_cond2 (b := (decide ((k : Int) < (xs.length : Int)))) rfl (fun hlt => ?_) (fun hlt => ?_)
 ·-- true
  replace hlt := of_decide_eq_true hlt
  have hpc := popQ_cnt xs k
  refine W_skip ?_
  refine W_seq ?_
  refine W_block ?_
  refine W_seq (W_region rfl ?_)
  refine stp (r_indexN (R.grow G) rfl rfl ?_ ?_); omega
  refine stp (r_loadR (v := .int .u8 (xs.getD k 0)) (m := 0) (R.grow G) rfl (map_get1 0 (by omega)) ?_)
  refine stp (r_assign_int rfl ?_)
  refine WL_nil ?_
  refine W_region rfl ?_
  refine stp (r_move_int rfl ?_)
  refine stp (r_move_int rfl ?_)
  refine stp (r_gives (v := .int .i64 (popQ (xs.getD k 0))) rfl (ones_calls _ hxk.1 hxk.2) ?_)
  intro w3 g4
  replace G := G.tr g4
  clear g4
  refine stp (r_add rfl rfl ?_ ?_); constructor <;> omega
  refine stp (r_assign_int rfl ?_)
  refine WL_nil ?_
  refine W_region rfl ?_
  refine stp (r_add rfl rfl ?_ ?_); constructor <;> omega
  refine stp (r_move_int rfl ?_)
  refine WL_nil ?_
  refine ⟨_, ?_, k + 1, rfl, fr_of ⟨rfl, rfl, rfl, congrArg (Value.int .i64) (by omega), congrArg (Value.int .i64) (by omega), trivial⟩, by omega, G⟩
  omega
 ·-- false
  replace hlt := of_decide_eq_false hlt
  have hk2 : k = xs.length := by omega
  refine W_exit ?_
  refine W_seq (W_region rfl ?_)
  refine stp (r_move_int rfl ?_)
  refine stp (r_assign_int rfl ?_)
  refine WL_nil ?_
  refine W_ret ?_
  refine ret1 (res_tmp (v := .int .i64 (cntQ xs (8 * k) : Int)) rfl) ⟨?_, G⟩
  rw [hk2]
end Go.Proofs.Ytifhcfhdajkhlaa.K

namespace Go.Proofs.Ytifhcfhdajkhlaa.K
open Go Go.RowKit

/-! ### what choices make may be -/
theorem rights_iff {left : Nat} : ∀ {ks : List Nd}, Nd.rights ks left = true ↔ ∀ t ∈ ks, t.right left = true
  | [] => by simp [Nd.rights]
  | t :: ts => by simp only [Nd.rights, Bool.and_eq_true, rights_iff (ks := ts), List.mem_cons, forall_eq_or_imp]
theorem right_nil (l : Nat) : Nd.nil.right l = true := by simp [Nd.nil, Nd.right, Nd.own, Nd.rights]
theorem treesP_all {f : List Int → Nd × List Int} {Q : List Int → Prop} {R : Nd → Prop} (hf : ∀ c, Q c → Q (f c).2 ∧ R (f c).1) : ∀ (n : Nat) (c : List Int), Q c → ∀ t ∈ (treesP f n c).1, R t
  | 0, c, h => by simp [treesP]
  | n + 1, c, h => by
    have h2 := treesP_mem (f := f) (Q := Q) (fun c hc => (hf c hc).1) n c h
    intro t ht
    simp only [treesP, List.mem_append, List.mem_singleton] at ht
    rcases ht with ht | rfl
    · exact treesP_all hf n c h t ht
    · exact (hf _ h2).2
def isU8 (c : List Int) : Prop := ∀ x ∈ c, inR .u8 x
theorem treeP_right : ∀ (d : Nat) (c : List Int) (l : Nat), d ≤ l → isU8 c → (treeP d c).1.right l = true
  | 0, c, l, _, _ => by simp [treeP, right_nil]
  | d + 1, [], l, _, _ => by simp [treeP, right_nil]
  | d + 1, k :: c, l, hl, hc => by
    have hk := hc k (by simp)
    simp only [inR] at hk
    have hcc : isU8 c := fun x hx => hc x (by simp [hx])
    have hr : Nd.rights (treesP (treeP d) (k / 8 % 5).toNat c).1 (l - 1) = true := rights_iff.2 (treesP_all (f := treeP d) (Q := isU8) (R := fun t => t.right (l - 1) = true) (fun c hq => ⟨treeP_rest d c hq, treeP_right d c (l - 1) (by omega) hq⟩) _ c hcc)
    have hn := treesP_count (treeP d) (k / 8 % 5).toNat c
    have hl0 : ¬ l = 0 := by omega
    simp only [treeP]
    split
    · exact right_nil l
    · split
      · simp [Nd.right, Nd.rights, Nd.own, hl0]; omega
      · split
        · simp [Nd.right, Nd.rights, Nd.own, hl0]; omega
        · split
          · simp only [Nd.right, hr, Nd.own, Bool.and_true]
            simp [hl0]; omega
          · simp only [Nd.right, hr, Nd.own, Bool.and_true]
            simp [hl0]; split <;> omega
theorem treeP_needs : ∀ (d : Nat) (c : List Int), isU8 c → (treeP d c).1.needs + 7 * ((treeP d c).2.length : Int) ≤ 7 * c.length
  | 0, c, _ => by simp [treeP, Nd.nil, Nd.needs, Nd.needsL, Nd.need]
  | d + 1, [], _ => by simp [treeP, Nd.nil, Nd.needs, Nd.needsL, Nd.need]
  | d + 1, k :: c, hc => by
    have hk := hc k (by simp)
    simp only [inR] at hk
    have hcc : isU8 c := fun x hx => hc x (by simp [hx])
    have key : ∀ (n : Nat) (c : List Int), isU8 c → Nd.needsL (treesP (treeP d) n c).1 + 7 * ((treesP (treeP d) n c).2.length : Int) ≤ 7 * c.length := by
      intro n
      induction n with
      | zero => intro c _; simp [treesP, Nd.needsL]
      | succ n ih =>
        intro c hq
        have h1 := ih c hq
        have h2 := treeP_needs d (treesP (treeP d) n c).2 (treesP_rest d n c hq)
        simp only [treesP, needsL_append, Nd.needsL]
        omega
    have hs := key (k / 8 % 5).toNat c hcc
    have hn := treesP_count (treeP d) (k / 8 % 5).toNat c
    simp only [treeP]
    split
    · simp [Nd.nil, Nd.needs, Nd.needsL, Nd.need]; omega
    · split
      · simp [Nd.needs, Nd.needsL, Nd.need]; omega
      · split
        · simp [Nd.needs, Nd.needsL, Nd.need]; omega
        · split
          · simp only [Nd.needs, Nd.need, List.length_nil, List.length_cons, hn]; simp only [show ¬ ((2 : Int) = 1) from by decide, if_false, if_true]; omega
          · simp only [Nd.needs, Nd.need, List.length_map, List.length_range, List.length_cons, hn, if_true]; omega
/-! ### in one segment -/
theorem growA1 (s l : List Int) : growA [s] 0 l = [s ++ l] := by simp [growA, growB]
theorem setP1 (s : List Int) (i : Nat) (x : Int) : setP [s] 0 i x = [s.set i x] := by simp [setP]
theorem full1 {size : Int} {s : List Int} (h1 : (s.length : Int) ≤ size) (h2 : s.length ≤ 4096) : fullP size [s] 0 = false := by
  simp [fullP, len2, totalP]; omega
mutual
theorem Nd.lay_one (size : Int) : ∀ (t : Nd) (s : List Int) (i : Nat), t.fine → i < s.length → (s.length : Int) + t.needs ≤ size → (s.length : Int) + t.needs ≤ 4096 →
    ∃ s', t.lay size ⟨[s], false⟩ 0 i = ⟨[s'], false⟩ ∧ (s'.length : Int) = s.length + t.needs
  | .mk k z w b ks, s, i, hR, hi, h1, h2 => by
    obtain ⟨hkd, hlw, hlb, hlk, hnn, hnm, hkn, hb1⟩ := Nd.own_b (Nd.fine_own hR)
    have hnl := Nd.needsL_nn ks
    simp only [Nd.needs] at h1 h2
    simp only [Nd.lay, Bool.false_eq_true, or_false]
    by_cases hk : k = 0
    · have hks : ks = [] := own_kids (Nd.fine_own hR) (by omega)
      subst hks
      rw [if_pos hk]
      exact ⟨s, rfl, by simp [Nd.needs, Nd.need, hk, Nd.needsL]⟩
    · rw [if_neg hk]
      by_cases hn : (Nd.mk k z w b ks).need = 0
      · rw [if_pos hn, setP1]
        have hks : ks = [] := List.eq_nil_of_length_eq_zero (by have := hkn hk; omega)
        subst hks
        exact ⟨_, rfl, by rw [List.length_set]; simp [Nd.needs, hn, Nd.needsL]⟩
      · rw [if_neg hn]
        have hp : placeP size (.mk k z w b ks) ⟨[s], false⟩ 0 i = ⟨⟨[s.set i ((Nd.mk k z w b ks).near ((s.length : Int) - i - 1))], false⟩, 0, s.length⟩ := by
          unfold placeP
          rw [if_pos (by refine ⟨rfl, ?_⟩; show ((s.length : Nat) : Int) + _ ≤ _; omega)]
          show (⟨⟨setP [s] 0 i _, false⟩, 0, _⟩ : Plc) = _
          rw [setP1]
          rfl
        have hco : ((Nd.mk k z w b ks).content.length : Int) = (Nd.mk k z w b ks).need := Nd.content_length _ (by simp only [Nd.kind]; omega) (by simpa only [Nd.kind, Nd.bytes] using hb1)
        rw [hp]
        have hm : moreP size ⟨[s.set i ((Nd.mk k z w b ks).near ((s.length : Int) - i - 1))], false⟩ 0 (Nd.mk k z w b ks).content = ⟨[s.set i ((Nd.mk k z w b ks).near ((s.length : Int) - i - 1)) ++ (Nd.mk k z w b ks).content], false⟩ := by
          simp only [moreP, growA1, Bool.false_or]
          rw [full1 (by rw [List.length_append, List.length_set]; omega) (by rw [List.length_append, List.length_set]; omega)]
        simp only [hm]
        obtain ⟨s', h3, h4⟩ := Nd.lays_one size ks (s.set i ((Nd.mk k z w b ks).near ((s.length : Int) - i - 1)) ++ (Nd.mk k z w b ks).content) (s.length + ((Nd.mk k z w b ks).need.toNat - ks.length)) (fun j hj => Nd.fine_kid hR hj)
          (by rw [List.length_append, List.length_set]; have := hkn hk; omega) (by rw [List.length_append, List.length_set]; omega) (by rw [List.length_append, List.length_set]; omega)
        refine ⟨s', h3, ?_⟩
        rw [h4, List.length_append, List.length_set]
        simp only [Nd.needs]
        omega
theorem Nd.lays_one (size : Int) : ∀ (ts : List Nd) (s : List Int) (i : Nat), (∀ (j : Nat) (h : j < ts.length), ts[j].fine) → i + ts.length ≤ s.length → (s.length : Int) + Nd.needsL ts ≤ size → (s.length : Int) + Nd.needsL ts ≤ 4096 →
    ∃ s', Nd.lays size ts ⟨[s], false⟩ 0 i = ⟨[s'], false⟩ ∧ (s'.length : Int) = s.length + Nd.needsL ts
  | [], s, i, _, _, _, _ => ⟨s, rfl, by simp [Nd.needsL]⟩
  | t :: ts, s, i, hR, hi, h1, h2 => by
    have ha := Nd.needs_nn t
    have hb := Nd.needsL_nn ts
    simp only [Nd.needsL, List.length_cons] at h1 h2 hi
    obtain ⟨s1, h3, h4⟩ := Nd.lay_one size t s i (hR 0 (by simp)) (by omega) (by omega) (by omega)
    obtain ⟨s2, h5, h6⟩ := Nd.lays_one size ts s1 (i + 1) (fun j hj => by have := hR (j + 1) (by simpa using hj); simpa using this) (by omega) (by omega) (by omega)
    refine ⟨s2, by simp only [Nd.lays, h3, h5], ?_⟩
    simp only [Nd.needsL]
    omega
end
theorem Nd.build_one {t : Nd} {size : Int} (hR : t.right 32 = true) (h1 : 1 + t.needs ≤ size) (h2 : size ≤ 4096) : ∃ s, t.build size = ([s], 0) ∧ (s.length : Int) = 1 + t.needs := by
  have hn := Nd.needs_nn t
  obtain ⟨s, h3, h4⟩ := Nd.lay_one size t [0] 0 ⟨32, hR⟩ (by simp) (by simpa using h1) (by simp; omega)
  refine ⟨s, ?_, by simpa using h4⟩
  unfold Nd.build
  rw [if_neg (by rw [hR]; simp; omega), h3, if_neg (by simp)]
theorem Nd.build_fit {t : Nd} {size : Int} (h : (t.build size).2 = 0) : Fit size (t.build size).1 := by
  unfold Nd.build at h ⊢
  split
  · rename_i hc; rw [if_pos hc] at h; simp at h
  · rename_i hc
    rw [if_neg hc] at h
    split
    · rename_i hf; rw [if_pos hf] at h; simp at h
    · rename_i hf
      have hf : (t.lay size ⟨[[0]], false⟩ 0 0).full = false := by simpa using hf
      exact (t.lay_ok size ⟨[[0]], false⟩ 0 0 (by simp)).fit (Fit.init (by omega)) hf
/-! ### one in the other -/
/-! ### things without words -/
theorem getD_u8 {ys : List Int} (h : isU8 ys) (i : Nat) : 0 ≤ ys.getD i 0 ∧ ys.getD i 0 ≤ 255 := by
  rcases Nat.lt_or_ge i ys.length with h1 | h1
  · have := h _ (List.getElem_mem h1)
    rw [getD_at h1]
    simpa [inR] using this
  · rw [List.getD_eq_getElem?_getD, List.getElem?_eq_none h1]; simp
end Go.Proofs.Ytifhcfhdajkhlaa.K

namespace Go.Proofs.Ytifhcfhdajkhlaa.K
open Go Go.RowKit
theorem rowat_nil (w : World) (sz : Nat) : RowAt w sz none 0 [] := ⟨by simp, by omega, fun h => by omega⟩
/-! ### noughts -/
theorem arena_one {w : World} {b : Nat} {u : Value} {q : List Int} {T : TypeId} {fr : Nat × Nat} (hb : w.heap[b]? = some (.cells #[u] T fr)) (hu : Row w 1 u q.length (wordsV q)) : ArenaR w (.slice (some ⟨b, 0, none⟩) 1 1) [q] := by
  refine ⟨[u], Row.of_block (n := 1) hb rfl rfl (by decide), fun i s hi => ?_⟩
  cases i with
  | zero => simp only [List.getElem?_cons_zero, Option.some.injEq] at hi; subst hi; exact ⟨u, rfl, hu⟩
  | succ i => simp at hi
end Go.Proofs.Ytifhcfhdajkhlaa.K

namespace Go.Proofs.Ytifhcfhdajkhlaa.K
open Go Go.RowKit
/-! ### decoding -/
def byt1 (x : Int) (i : Nat) : Int := x / 2 ^ (8 * i) % 256
def byt8 (x : Int) : List Int := (List.range 8).map (byt1 x)
theorem byt8_len (x : Int) : (byt8 x).length = 8 := by simp [byt8]
theorem flat8_len (l : List Int) : (l.flatMap byt8).length = 8 * l.length := by
  induction l with
  | nil => rfl
  | cons x l ih => rw [List.flatMap_cons, List.length_append, ih, byt8_len, List.length_cons]; omega
theorem byt1_range (x : Int) (i : Nat) : 0 ≤ byt1 x i ∧ byt1 x i ≤ 255 := by unfold byt1; omega
end Go.Proofs.Ytifhcfhdajkhlaa.K

namespace Go.Proofs.Ytifhcfhdajkhlaa.K
open Go Go.RowKit
def kidA (o : Ob) : Int := if o.size = 6 then o.at_ else o.at_ + o.data
/-! ### memory -/
theorem Kp.upd_new {F : List Nat} {w w1 w2 : World} {b : Nat} (K : Kp F w w1) (u : Upd b w1 w2) (hb : w.heap.size ≤ b) : Kp F w w2 := K.trans (Kp.of_upd u (List.mem_singleton.2 rfl)) fun x hx => by simp only [List.mem_singleton] at hx; subst hx; exact .inr hb
theorem own_len {w : World} {base n m c sz : Nat} {T : TypeId} {ad : Option Addr} {xs : List Value} (h : w.ownsRow base T sz (.slice ad n c) m xs) : n = m := by
  rcases h.2 with ⟨hv, hm⟩ | ⟨q, cap, cur, hv, _⟩
  · simp only [Value.slice.injEq] at hv
    omega
  · simp only [Value.slice.injEq] at hv
    omega
/-! ### any arena -/
def sizesP (A : List (List Int)) : List Int := A.map fun s => (s.length : Int)
theorem sizesP_len (A : List (List Int)) : (sizesP A).length = A.length := by simp [sizesP]
theorem sizesP_at (A : List (List Int)) (i : Nat) : (sizesP A).getD i 0 = (len2 A i : Int) := by
  by_cases hi : i < A.length
  · rw [getD_at (by rw [sizesP_len]; exact hi)]
    simp only [sizesP, List.getElem_map, len2]
    rw [getD_at hi]
  · rw [len2_none (by omega), List.getD_eq_getElem?_getD, List.getElem?_eq_none (by rw [sizesP_len]; omega)]
    rfl
theorem sizesP_take {A : List (List Int)} {k : Nat} (h : k < A.length) : sizesP (A.take (k + 1)) = sizesP (A.take k) ++ [(len2 A k : Int)] := by
  simp only [sizesP, len2]
  rw [List.take_add_one, List.getElem?_eq_getElem h, List.map_append, getD_at h]
  rfl
/-- That arena.Right says so. -/
def rightB (A : List (List Int)) : Bool := decide (1 ≤ A.length ∧ A.length ≤ 16 ∧ 1 ≤ len2 A 0 ∧ totalP A ≤ 4096)
end Go.Proofs.Ytifhcfhdajkhlaa.K

namespace Go.Proofs.Ytifhcfhdajkhlaa.K
open Go Go.RowKit
theorem shr_range (x : Int) (q : Nat) (h0 : 0 ≤ x) (h1 : x ≤ 18446744073709551615) : 0 ≤ x / 2 ^ (8 * q) ∧ x / 2 ^ (8 * q) ≤ 18446744073709551615 := by
  have hp : (0 : Int) < 2 ^ (8 * q) := Int.pow_pos (by decide)
  refine ⟨Int.ediv_nonneg h0 (Int.le_of_lt hp), ?_⟩
  exact Int.le_trans (Int.ediv_le_self _ h0) h1
theorem shr_step (x : Int) (q : Nat) : x / 2 ^ (8 * q) / 256 = x / 2 ^ (8 * (q + 1)) := by
  rw [Int.ediv_ediv_of_nonneg (Int.le_of_lt (Int.pow_pos (by decide))), show 8 * (q + 1) = 8 * q + 8 from by omega, Int.pow_add]
  rfl
end Go.Proofs.Ytifhcfhdajkhlaa.K

namespace Go.Proofs.Ytifhcfhdajkhlaa.K
open Go Go.RowKit
def bytesA (A : List (List Int)) : List Int := A.flatMap fun s => s.flatMap byt8
theorem bytesA_len : ∀ (A : List (List Int)), ((bytesA A).length : Int) = 8 * totalP A
  | [] => rfl
  | s :: A => by
    have ih := bytesA_len A
    simp only [bytesA, List.flatMap_cons, List.length_append, flat8_len, totalP] at ih ⊢
    omega
theorem bytesA_take {A : List (List Int)} {i : Nat} (h : i < A.length) : bytesA (A.take (i + 1)) = bytesA (A.take i) ++ (A.getD i []).flatMap byt8 := by
  unfold bytesA
  rw [List.take_succ_eq_append_getElem h, List.flatMap_append, getD_at h]
  simp
theorem flat8_take {s : List Int} {k : Nat} (h : k < s.length) : (s.take (k + 1)).flatMap byt8 = (s.take k).flatMap byt8 ++ byt8 (s.getD k 0) := by
  rw [List.take_succ_eq_append_getElem h, List.flatMap_append, getD_at h]
  simp
theorem totalP_small {A : List (List Int)} (hn : A.length ≤ 1000) (hl : ∀ i, len2 A i ≤ 100000) (k : Nat) : totalP (A.take k) ≤ 100000000 := by
  have h1 : ∀ k, k ≤ A.length → totalP (A.take k) ≤ 100000 * k := fun k => by
    induction k with
    | zero => intro _; simp [totalP]
    | succ k ih => intro hk; have := ih (by omega); have := totalP_take (A := A) (k := k) (by omega); have := hl k; rw [len2, getD_at (show k < A.length by omega)] at this; omega
  by_cases hk : k ≤ A.length
  · have := h1 k hk; omega
  · rw [List.take_of_length_le (by omega)]; have := h1 A.length (Nat.le_refl _); rw [List.take_length] at this; omega
theorem getD2_u64 {A : List (List Int)} (hx : ∀ q ∈ A, ∀ x ∈ q, inR .u64 x) (i : Nat) {k : Nat} (hk : k < (A.getD i []).length) : 0 ≤ (A.getD i []).getD k 0 ∧ (A.getD i []).getD k 0 ≤ 18446744073709551615 := by
  have hi : i < A.length := by
    rcases Nat.lt_or_ge i A.length with h | h
    · exact h
    · rw [List.getD_eq_getElem?_getD, List.getElem?_eq_none h] at hk; simp at hk
  exact hx (A.getD i []) (by rw [getD_at hi]; exact List.getElem_mem hi) _ (getD_mem hk)
theorem bytesA_isB (A : List (List Int)) : isB (bytesA A) := by
  intro x hx
  obtain ⟨s, -, hx⟩ := List.mem_flatMap.1 hx
  obtain ⟨y, -, hx⟩ := List.mem_flatMap.1 hx
  obtain ⟨i, -, rfl⟩ := List.mem_map.1 hx
  exact byt1_range y i
theorem sizesP_rng {A : List (List Int)} (h : ∀ i, i < A.length → len2 A i ≤ 140737488355328) : ∀ x ∈ sizesP A, inR .i64 x := by
  intro x hx
  obtain ⟨s, hs, rfl⟩ := List.mem_map.1 hx
  obtain ⟨i, hi, rfl⟩ := List.getElem_of_mem hs
  have := h i hi
  rw [len2, getD_at hi] at this
  simp only [inR]; omega
theorem sumL_sizes : ∀ (A : List (List Int)), sumL (sizesP A) = totalP A
  | [] => rfl
  | s :: A => by
    have ih := sumL_sizes A
    simp only [sizesP, List.map_cons, sumL, totalP] at ih ⊢
    omega
theorem fits_right (A : List (List Int)) : fitsL (sizesP A) = rightB A := by
  unfold fitsL rightB
  refine decide_eq_decide.2 ?_
  rw [sizesP_len, sizesP_at, sumL_sizes]
  constructor
  · rintro ⟨a, b, c, -, e⟩; exact ⟨a, b, by omega, e⟩
  · rintro ⟨a, b, c, e⟩
    exact ⟨a, b, by omega, fun x hx => by obtain ⟨s, _, rfl⟩ := List.mem_map.1 hx; omega, e⟩
/-- The sum of a manifest. -/
def sumA (ses : Int) (A : List (List Int)) : Int := crcP ((((List.range 8).map (byt1 ses)) ++ (sizesP A).flatMap fun n => ((List.range 2).map (byt1 n))) ++ bytesA A)
theorem pre_len (ses : Int) (sz : List Int) (i : Nat) : (((List.range 8).map (byt1 ses)) ++ (sz.take i).flatMap fun n => ((List.range 2).map (byt1 n))).length ≤ 8 + 2 * sz.length := by
  have h : ∀ l : List Int, (l.flatMap fun n => ((List.range 2).map (byt1 n))).length = 2 * l.length := fun l => by
    induction l with
    | nil => rfl
    | cons x l ih => rw [List.flatMap_cons, List.length_append, ih]; simp; omega
  rw [List.length_append, h, List.length_take]
  simp
  omega
theorem pre_step {ses : Int} {sz : List Int} {i : Nat} (h : i < sz.length) : ((List.range 8).map (byt1 ses)) ++ (sz.take (i + 1)).flatMap (fun n => ((List.range 2).map (byt1 n))) = (((List.range 8).map (byt1 ses)) ++ (sz.take i).flatMap fun n => ((List.range 2).map (byt1 n))) ++ ((List.range 2).map (byt1 (sz.getD i 0))) := by
  rw [List.take_succ_eq_append_getElem h, List.flatMap_append, getD_at h]
  simp
theorem byts_isB (x : Int) (k : Nat) : isB ((List.range k).map (byt1 x)) := fun y hy => by
  obtain ⟨i, _, rfl⟩ := List.mem_map.1 hy
  exact byt1_range x i
theorem sumA_isB (ses : Int) (A : List (List Int)) : isB ((((List.range 8).map (byt1 ses)) ++ (sizesP A).flatMap fun n => ((List.range 2).map (byt1 n))) ++ bytesA A) := by
  intro x hx
  rcases List.mem_append.1 hx with hx | hx
  · rcases List.mem_append.1 hx with hx | hx
    · exact byts_isB ses 8 x hx
    · obtain ⟨n, _, hx⟩ := List.mem_flatMap.1 hx
      exact byts_isB n 2 x hx
  · exact bytesA_isB A x hx
/-- A chunk of an arena. -/
def chunkA (A : List (List Int)) (i : Nat) : List Int := ((bytesA A).drop (64 * i)).take 64
theorem chunkA_len (A : List (List Int)) (i : Nat) : (chunkA A i).length = min 64 ((bytesA A).length - 64 * i) := by unfold chunkA; rw [List.length_take, List.length_drop]
theorem chunkA_eq (A : List (List Int)) (i : Nat) : ((bytesA A).drop (64 * i)).take (chunkA A i).length = chunkA A i := by
  rw [chunkA_len]
  unfold chunkA
  rw [List.take_eq_take_iff, List.length_drop]
  omega
theorem chunkA_isB (A : List (List Int)) (i : Nat) : isB (chunkA A i) := fun x hx => bytesA_isB A x (List.mem_of_mem_drop (List.mem_of_mem_take hx))
end Go.Proofs.Ytifhcfhdajkhlaa.K

namespace Go.Proofs.Ytifhcfhdajkhlaa.K
open Go Go.RowKit Go.Proofs
attribute [local irreducible] Run1 OpG WL W AO Gives
set_option maxRecDepth 100000 in
theorem backward_calls (w : World) {ad : Option Addr} {n c : Nat} : Calls Try.prog 65 #[.slice ad n c] w (Ret fun v w' => ∃ bx, v = .func (.func 85) #[] #[.pointer (some ⟨bx, 0, none⟩)] ∧ w.heap.size ≤ bx ∧ w'.heap[bx]? = some (.cells #[.slice ad n c] 22 (0, 0)) ∧ Grow w w') := by
 have G := Grow.rfl' w
 refine calls_ret Try.func65 Try.ntmps65 Try.results65 rfl rfl ?_
 refine W_seq (W_region rfl ?_)
 refine WL_some (og rfl ?_)
 (first | refine r_box_agg rfl ?_ | refine r_box_int rfl ?_ | refine r_box_slice rfl ?_ | refine r_box rfl rfl ?_)
 intro b1 w2 hb3 hc4 g5
 have hge6 := Nat.le_trans G.size hb3
 replace G := G.tr g5
 clear g5 hb3
 refine WL_some (og rfl ?_)
 (first | refine r_assign_iface rfl ?_ | refine r_assign_nili rfl ?_ | refine r_assign_ptr rfl ?_ | refine r_assign_int rfl ?_ | refine r_assign_slice rfl ?_ | refine r_assign_func rfl ?_ | refine r_assign rfl ?_)
 refine WL_nil ?_
 refine W_seq (W_region rfl ?_)
 refine stp (r_makeFunc (vs := []) (us := [.pointer (some ⟨b1, 0, none⟩)]) rfl rfl ?_)
 refine WL_some (og rfl ?_)
 (first | refine r_assign_func rfl ?_ | refine r_assign rfl ?_)
 refine WL_nil ?_
 refine W_ret ?_
 exact ret1 (res_tmp rfl) ⟨_, rfl, hge6, hc4, G⟩

set_option maxRecDepth 100000 in
theorem back1_calls (w : World) {bx l n c : Nat} {ad : Option Addr} {T : TypeId} {xs : List Int} (hn : n = xs.length) (I : Nat → World → Prop) (hI : ∀ i w', I i w' → w'.heap[bx]? = some (.cells #[.slice ad n c] T (0, 0)) ∧ RowAt w' 1 ad n (xs.map (.int .u8))) (hy : ∀ i w' (hi : i < n), I i w' → Yields Try.prog l #[.int .i64 ((n : Int) - 1 - i), .int .u8 (xs[n - 1 - i]'(by omega))] w' (fun v w'' => v = .bool true ∧ I (i + 1) w'')) (h0 : I 0 w) : Calls Try.prog 85 #[.func (.yield l) #[] #[], .pointer (some ⟨bx, 0, none⟩)] w (Ret fun v w' => I n w') := by
 obtain ⟨hbx, R⟩ := hI 0 w h0
 have ln := R.lim
 refine calls_ret Try.func85 Try.ntmps85 Try.results85 rfl rfl ?_
 refine W_seq (W_region rfl ?_)
 refine stp (r_load rfl (by assumption) (by rfl) ?_)
 refine stp (r_len rfl rfl rfl ?_)
 refine WL_some (og rfl ?_)
 (first | (refine r_sub rfl rfl ?_ ?_; (constructor <;> omega)) | refine r_subw rfl rfl ?_)
 refine WL_some (og rfl ?_)
 (first | refine r_assign_int rfl ?_ | refine r_assign rfl ?_)
 refine WL_nil ?_
 refine W_block ?_
 clear R hbx
 refine W_loop (fun m_ e_ w_ => ∃ (k : Nat), m_ = n - k ∧ Fr [(0, .func (.yield l) #[] #[]), (1, .pointer (some ⟨bx, 0, none⟩)), (3, .int .i64 ((n : Int) - 1 - k))] e_ ∧ (k ≤ n) ∧ (I k w_)) _ ⟨0, rfl, fr_of ⟨rfl, rfl, congrArg (Value.int .i64) (by omega), trivial⟩, by omega, h0⟩ ?_
 rintro m_ e_ w1 ⟨k, rfl, ⟨e2, rfl⟩, hk2, HI⟩
 obtain ⟨hbx, R⟩ := hI k _ HI
 refine W_seq ?_
 refine W_seq (W_region rfl ?_)
 refine WL_some (og rfl ?_)
 (first | refine r_move_int rfl ?_ | refine r_move rfl ?_)
 refine WL_some (og rfl ?_)
 (first | (refine r_geq_t rfl rfl ?_ ?_; (first | assumption | omega)) | (refine r_geq_f rfl rfl ?_ ?_; (first | assumption | omega)) | refine r_geq rfl rfl ?_)
 refine WL_nil ?_
 refine W_cond2 rfl (fun hge => ?_) (fun hge => ?_)
 ·-- true
  first | (replace hge := of_decide_eq_true hge) | (replace hge := of_decide_eq_false hge) | skip
  have hk3 : k < n := by omega
  obtain ⟨b_, o_, cs_, T_, fr_, rfl, hb_, hx_⟩ := R.at_ (by omega)
  refine W_skip ?_
  refine W_seq ?_
  refine W_block ?_
  refine W_seq (W_region rfl ?_)
  refine WL_some (og rfl ?_)
  (first | refine r_move_func rfl ?_ | refine r_move rfl ?_)
  refine WL_some (og rfl ?_)
  (first | refine r_move_int rfl ?_ | refine r_move rfl ?_)
  refine stp (r_load rfl (by assumption) (by rfl) ?_)
  refine WL_some (og rfl ?_)
  (first | refine r_move_int rfl ?_ | refine r_move rfl ?_)
  refine WL_some (og rfl ?_)
  (refine r_indexAddr rfl rfl ?_ ?_ ?_; omega; omega)
  refine stp (r_load (v := .int .u8 (xs[n - 1 - k]'(by omega))) rfl hb_ (by rw [show o_ + (((n : Int) - 1 - k).toNat) * 1 = o_ + (n - 1 - k) from by omega]; exact row_cell hx_ (by rw [List.getElem?_map, List.getElem?_eq_getElem (by omega)]; rfl)) ?_)
  refine stp (r_yield rfl (Yields.mono ?_ (hy k _ hk3 HI)))
  rintro v_ w2_ ⟨rfl, HI2⟩
  refine WL_some (og rfl ?_)
  (first | (refine r_not_t rfl ?_ ?_; (first | rfl | assumption)) | (refine r_not_f rfl ?_ ?_; (first | rfl | assumption)) | refine r_not rfl ?_)
  refine WL_nil ?_
  refine W_false rfl ?_
  refine W_skip ?_
  refine W_region rfl ?_
  refine WL_some (og rfl ?_)
  (first | refine r_move_int rfl ?_ | refine r_move rfl ?_)
  refine WL_some (og rfl ?_)
  (first | (refine r_sub rfl rfl ?_ ?_; (constructor <;> omega)) | refine r_subw rfl rfl ?_)
  refine WL_some (og rfl ?_)
  (first | refine r_assign_int rfl ?_ | refine r_assign rfl ?_)
  refine WL_nil ?_
  refine ⟨_, ?_, k + 1, rfl, fr_of ⟨rfl, rfl, congrArg (Value.int .i64) (by omega), trivial⟩, by omega, HI2⟩
  omega
 ·-- false
  first | (replace hge := of_decide_eq_true hge) | (replace hge := of_decide_eq_false hge) | skip
  have hk3 : k = n := by omega
  subst hk3
  refine W_exit ?_
  exact ret0n HI

set_option maxRecDepth 100000 in
theorem get8_calls (w : World) {ad : Option Addr} {n c : Nat} {xs : List Int} (hn : n = xs.length) (hc : n ≤ c) (R : RowAt w 1 ad n (xs.map (.int .u8))) (hx : ∀ x ∈ xs, inR .u8 x) : Gives Try.prog 42 #[.slice ad n c] w (.int .u64 (getP (xs.take 8))) := by
 have ln := R.lim
 have G := Grow.rfl' w
 refine gives_of Try.func42 Try.ntmps42 Try.results42 rfl rfl ?_
 refine W_seq (W_region rfl ?_)
 refine WL_some (og rfl ?_)
 (first | refine r_assign_int rfl ?_ | refine r_assign rfl ?_)
 refine WL_nil ?_
 refine W_seq (W_region rfl ?_)
 refine stp (r_alloc ?_)
 intro b1 w2 hb3 hc4 g5
 refine stn (r_store1 (v := .int _ _) rfl rfl (by rfl) hc4 (by rfl) (by rfl) ?_)
 intro w6 hc7 u8
 have g9 := g5.upd u8 hb3
 have hge10 := Nat.le_trans G.size hb3
 replace G := G.tr g9
 clear u8 g5 hb3 hc4
 refine WL_nil ?_
 refine W_seq ?_
 refine W_seq (W_region rfl ?_)
 refine WL_some (og rfl ?_)
 (first | refine r_move_slice rfl ?_ | refine r_move rfl ?_)
 refine WL_some (og rfl ?_)
 (first | refine r_move_slice rfl ?_ | refine r_move rfl ?_)
 refine stp (r_len rfl rfl rfl ?_)
 refine WL_some (og rfl ?_)
 refine r_min rfl rfl rfl ?_
 rw [show (if (8 : Int) < (n : Int) then (8 : Int) else (n : Int)) = ((min n 8 : Nat) : Int) from by split <;> omega]
 refine WL_some (og rfl ?_)
 refine r_sliceH rfl rfl (by omega) (by omega) ?_
 rw [Int.toNat_natCast]
 have R8 : RowAt w 1 (if c = 0 then ad else ad.map (·.add (0 * 1))) (min n 8) ((xs.take 8).map (Value.int .u8)) := by
  have h := R.sliceH (m := min n 8) hc (by omega) (by omega)
  rwa [Nat.mul_one (min n 8), ← List.map_take, take_min8 hn] at h
 generalize (if c = 0 then ad else ad.map (·.add (0 * 1))) = ad8 at R8 ⊢
 have hm8 : min n 8 = (xs.take 8).length := by rw [List.length_take]; omega
 have hx8 : ∀ x ∈ xs.take 8, inR .u8 x := fun x h => hx x (List.mem_of_mem_take h)
 have hl8 : (xs.take 8).length ≤ 8 := by rw [List.length_take]; omega
 generalize xs.take 8 = ys at R8 hm8 hx8 hl8 ⊢
 generalize min n 8 = m at R8 hm8 ⊢
 refine WL_some (og rfl ?_)
 refine r_call rfl (backward_calls _) ?_
 rintro v_ w5_ ⟨bx, rfl, hbxge, hbx, g5_⟩
 have hq3 := Nat.lt_of_lt_of_le (lt_of_heap hc7) hbxge
 replace hc7 := g5_.heap hc7
 replace G := G.tr g5_
 refine WL_nil ?_
 refine W_block ?_
 refine W_rangeC rfl rfl ?_
 intro rc hst hpd hps has hbd hsz hge l w6 hl hlp hmk g6 hw6
 have hb3l := lt_of_heap hc7
 have hbxl := lt_of_heap hbx
 replace hc7 := g6.heap hc7
 replace hbx := g6.heap hbx
 have hGs := G.size
 have hb3g := hge10
 replace G := G.tr g6
 generalize hmm : w5_.heap.size = mk at *
 refine Calls.mono (back1_calls w6 hm8 (fun k W => W.heap[b1]? = some (.cells #[.int .u64 (getP (ys.drop (m - k)))] 33 (0, 0)) ∧ W.heap[bx]? = some (.cells #[.slice ad8 m c] 22 (0, 0)) ∧ W.heap[l]? = some (.loop rc) ∧ W.heap[mk]? = some (.deferred (some [])) ∧ Grow w W) (fun i w' h => ⟨h.2.1, R8.grow h.2.2.2.2⟩) ?_ ⟨by rw [Nat.sub_zero, hm8, List.drop_length]; exact hc7, hbx, hlp, hmk, G⟩) ?_
 ·rintro i w7 hi ⟨h1, h2, h4, h5, G7⟩
  refine yields_of_W (ps := [12, 13]) (vs := [_, _]) (n := 20) h4 hps rfl hsz (by rfl) hge ?_
  rw [has, hbd]
  refine W_region rfl ?_
  refine WL_some (og rfl ?_)
  (first | refine r_assign_int rfl ?_ | refine r_assign rfl ?_)
  refine WL_nil ?_
  refine ⟨rc, h4, hst, ?_⟩
  have u1 := upd_put (o' := .loop { rc with state := .busy }) h4
  have h4b := put_same (o' := .loop { rc with state := .busy }) h4
  have g1 := u1.heap h1 (by omega)
  have g2 := u1.heap h2 (by omega)
  have g5 := u1.heap h5 (by omega)
  have G8 := G7.upd u1 (by omega)
  generalize w7.putObj l (.loop { rc with state := .busy }) = w8 at *
  clear u1 h1 h2 h5
  have hyr := getP_range (ys.drop (m - i)) (fun x hx_ => hx8 x (List.mem_of_mem_drop hx_))
  have hpow := pow_le8 (show (ys.drop (m - i)).length ≤ 7 from by rw [List.length_drop]; omega)
  have hxi := hx8 (ys[m - 1 - i]'(by omega)) (List.getElem_mem _)
  simp only [inR] at hxi
  refine W_block ?_
  refine W_region rfl ?_
  refine stp (r_load rfl g1 (by rfl) ?_)
  refine WL_some (og rfl ?_)
  (first | (refine r_shlc (m := 256) rfl rfl (by decide) (by decide) ?_ ?_; (constructor <;> omega)) | refine r_shlcw (m := 256) rfl rfl (by decide) (by decide) ?_)
  refine WL_some (og rfl ?_)
  (first | refine r_move_int rfl ?_ | refine r_move rfl ?_)
  refine WL_some (og rfl ?_)
  (first | (refine r_conv rfl ?_ ?_; (constructor <;> omega)) | refine r_convw rfl ?_)
  refine WL_some (og rfl ?_)
  refine r_or rfl rfl ?_
  rw [shl_or _ _ hyr.1 (by omega) hxi.1 hxi.2]
  refine stn (r_store1 (v := .int _ _) rfl rfl (by rfl) g1 (by rfl) (by rfl) ?_)
  intro w9 h1' u9
  refine WL_nil ?_
  have h4c := u9.heap h4b (by omega)
  have u2 := upd_put (o' := .loop rc) h4c
  refine ⟨_, h4c, ?_⟩
  rw [loop_again hst hpd]
  refine ⟨rfl, ?_, u2.heap (u9.heap g2 (by omega)) (by omega), put_same h4c, u2.heap (u9.heap g5 (by omega)) (by omega), (G8.upd u9 (by omega)).upd u2 (by omega)⟩
  rw [getP_drop hm8 hi]
  exact u2.heap h1' (by omega)
 ·rintro r_ w7 ⟨v_, rfl, h1, h2, h4, h5, G7⟩
  refine ⟨_, rc, rfl, h4, by rw [hst]; simp, ?_⟩
  simp only [hpd]
  have u1 := upd_put (o' := .loop { rc with state := .exhausted, pending := none }) h4
  have g1 := u1.heap h1 (by omega)
  have g5 := u1.heap h5 (by omega)
  clear G
  have G := G7.upd u1 (by omega)
  generalize w7.putObj l _ = w8 at *
  clear u1 h1 h2 h5
  refine W_seq (W_region rfl ?_)
  refine stp (r_load rfl (by assumption) (by rfl) ?_)
  refine WL_some (og rfl ?_)
  (first | refine r_assign_int rfl ?_ | refine r_assign rfl ?_)
  refine WL_nil ?_
  refine W_ret ?_
  refine retM (vs := [_]) ⟨mk, _, rfl, run_takeDeferred g5, rfl⟩ ⟨rfl, trivial⟩ ⟨?_, G.upd (upd_put g5) (by omega)⟩
  rw [Nat.sub_self]; rfl

set_option maxRecDepth 100000 in
theorem chunk_calls (w : World) {ad : Option Addr} {n c : Nat} : Calls Try.prog 41 #[.slice ad n c, .int .i64 8] w (Ret fun v w' => ∃ b1 b2, v = .func (.func 64) #[] #[.pointer (some ⟨b1, 0, none⟩), .pointer (some ⟨b2, 0, none⟩)] ∧ w.heap.size ≤ b1 ∧ w.heap.size ≤ b2 ∧ w'.heap[b1]? = some (.cells #[.slice ad n c] 22 (0, 0)) ∧ w'.heap[b2]? = some (.cells #[.int .i64 8] 3 (0, 0)) ∧ Grow w w') := by
 have G := Grow.rfl' w
 refine calls_ret Try.func41 Try.ntmps41 Try.results41 rfl rfl ?_
 refine W_seq (W_region rfl ?_)
 refine WL_some (og rfl ?_)
 (first | refine r_box_agg rfl ?_ | refine r_box_int rfl ?_ | refine r_box_slice rfl ?_ | refine r_box rfl rfl ?_)
 intro b1 w2 hb3 hc4 g5
 have hge6 := Nat.le_trans G.size hb3
 replace G := G.tr g5
 clear g5 hb3
 refine WL_some (og rfl ?_)
 (first | refine r_box_agg rfl ?_ | refine r_box_int rfl ?_ | refine r_box_slice rfl ?_ | refine r_box rfl rfl ?_)
 intro b7 w8 hb9 hc10 g11
 have hge12 := Nat.le_trans G.size hb9
 replace hc4 := g11.heap hc4
 replace G := G.tr g11
 clear g11 hb9
 refine WL_some (og rfl ?_)
 (first | refine r_assign_iface rfl ?_ | refine r_assign_nili rfl ?_ | refine r_assign_ptr rfl ?_ | refine r_assign_int rfl ?_ | refine r_assign_slice rfl ?_ | refine r_assign_func rfl ?_ | refine r_assign rfl ?_)
 refine WL_nil ?_
 refine W_seq ?_
 refine W_seq (W_region rfl ?_)
 refine stp (r_load rfl (by assumption) (by rfl) ?_)
 refine WL_some (og rfl ?_)
 (first | (refine r_lss_t rfl rfl ?_ ?_; (first | assumption | omega)) | (refine r_lss_f rfl rfl ?_ ?_; (first | assumption | omega)) | refine r_lss rfl rfl ?_)
 refine WL_nil ?_
 refine W_false rfl ?_
 refine W_skip ?_
 refine W_seq (W_region rfl ?_)
 refine stp (r_makeFunc (vs := []) (us := [.pointer (some ⟨b1, 0, none⟩), .pointer (some ⟨b7, 0, none⟩)]) rfl rfl ?_)
 refine WL_some (og rfl ?_)
 (first | refine r_assign_func rfl ?_ | refine r_assign rfl ?_)
 refine WL_nil ?_
 refine W_ret ?_
 exact ret1 (res_tmp rfl) ⟨_, _, rfl, hge6, hge12, hc4, hc10, G⟩

set_option maxRecDepth 100000 in
theorem chunk1_calls (w : World) {b1 b2 l n c : Nat} {ad : Option Addr} {T T2 : TypeId} (hnc : n ≤ c) (hn : n ≤ 140737488355328) (I : Nat → World → Prop) (hI : ∀ i w', I i w' → w'.heap[b1]? = some (.cells #[.slice ad n c] T (0, 0)) ∧ w'.heap[b2]? = some (.cells #[.int .i64 8] T2 (0, 0))) (hgr : ∀ i w' w'', Grow w' w'' → I i w' → I i w'') (hy : ∀ j w', 8 * j < n → I j w' → Yields Try.prog l #[.slice (if 8 * j + chunkN n j = 8 * j then ad else ad.map (·.add (8 * j * 1))) (chunkN n j) (chunkN n j)] w' (fun v w'' => v = .bool true ∧ I (j + 1) w'')) (h0 : I 0 w) : Calls Try.prog 64 #[.func (.yield l) #[] #[], .pointer (some ⟨b1, 0, none⟩), .pointer (some ⟨b2, 0, none⟩)] w (Ret fun v w' => I ((n + 7) / 8) w') := by
 refine calls_ret Try.func64 Try.ntmps64 Try.results64 rfl rfl ?_
 refine W_seq (W_region rfl ?_)
 refine WL_some (og rfl ?_)
 (first | refine r_assign_int rfl ?_ | refine r_assign rfl ?_)
 refine WL_nil ?_
 refine W_block ?_
 refine W_loop (fun m_ e_ w_ => ∃ (k : Nat), m_ = n + 8 - 8 * k ∧ Fr [(0, .func (.yield l) #[] #[]), (1, .pointer (some ⟨b1, 0, none⟩)), (2, .pointer (some ⟨b2, 0, none⟩)), (4, .int .i64 ((8 * k : Nat) : Int))] e_ ∧ (8 * k < n + 8) ∧ (I k w_)) _ ⟨0, rfl, fr_of ⟨rfl, rfl, rfl, rfl, trivial⟩, by omega, h0⟩ ?_
 rintro m_ e_ w1 ⟨k, rfl, ⟨e2, rfl⟩, hk2, HI⟩
 obtain ⟨hb1, hb2⟩ := hI k _ HI
 refine W_seq ?_
 refine W_seq (W_region rfl ?_)
 refine WL_some (og rfl ?_)
 (first | refine r_move_int rfl ?_ | refine r_move rfl ?_)
 refine stp (r_load rfl (by assumption) (by rfl) ?_)
 refine stp (r_len rfl rfl rfl ?_)
 refine WL_some (og rfl ?_)
 (first | (refine r_lss_t rfl rfl ?_ ?_; (first | assumption | omega)) | (refine r_lss_f rfl rfl ?_ ?_; (first | assumption | omega)) | refine r_lss rfl rfl ?_)
 refine WL_nil ?_
 refine W_cond2 rfl (fun hlt => ?_) (fun hlt => ?_)
 ·-- true
  first | (replace hlt := of_decide_eq_true hlt) | (replace hlt := of_decide_eq_false hlt) | skip
  have hk3 : 8 * k < n := by omega
  have hmin : (if (n : Int) - (8 * k : Nat) < 8 then (n : Int) - (8 * k : Nat) else 8) = (chunkN n k : Nat) := by unfold chunkN; split <;> omega
  have hck : chunkN n k ≤ n - 8 * k := by unfold chunkN; omega
  refine W_skip ?_
  refine W_seq ?_
  refine W_block ?_
  refine W_seq ?_
  refine W_any 7 [[], [], [], [1, 0], [2, 1, 0], [4, 3, 2, 1, 0], [5, 4, 3, 2, 1, 0]] mixed (by kernel_rfl) (by kernel_rfl) (by kernel_rfl) ?_
  intro w3 g4
  replace HI := hgr _ _ _ g4 HI
  replace HI := HI
  replace hb1 := g4.heap hb1
  replace hb2 := g4.heap hb2
  clear g4
  apply AO_ex
  ·intro w_ g_; refine og rfl ?_; refine r_load rfl (by exact Grow.heap g_ (by assumption)) (by rfl) ?_; exact ⟨Grow.rfl' _, rfl⟩
  apply AO_ex
  ·intro w_ g_; refine og rfl ?_; refine r_load rfl (by exact Grow.heap g_ (by assumption)) (by rfl) ?_; exact ⟨Grow.rfl' _, rfl⟩
  apply AO_ex
  ·intro w_ g_; refine og rfl ?_; (first | refine r_move_int rfl ?_ | refine r_move rfl ?_); exact ⟨Grow.rfl' _, rfl⟩
  apply AO_ex
  ·intro w_ g_
   refine og rfl ?_
   refine r_sliceL rfl rfl (by omega) (by omega) ?_
   exact ⟨Grow.rfl' _, rfl⟩
  apply AO_ex
  ·intro w_ g_
   refine og rfl ?_
   refine r_len rfl rfl rfl ?_
   exact ⟨Grow.rfl' _, rfl⟩
  apply AO_ex
  ·intro w_ g_
   refine og rfl ?_
   refine r_min rfl rfl rfl ?_
   rw [show (if ((n - ((8 * k : Nat) : Int).toNat : Nat) : Int) < 8 then ((n - ((8 * k : Nat) : Int).toNat : Nat) : Int) else 8) = (chunkN n k : Nat) from by unfold chunkN; split <;> omega]
   exact ⟨Grow.rfl' _, rfl⟩
  apply AO_ex
  ·intro w_ g_; refine og rfl ?_; (first | refine r_assign_int rfl ?_ | refine r_assign rfl ?_); exact ⟨Grow.rfl' _, rfl⟩
  refine AO_nil ?_
  intro w5 g6
  replace HI := hgr _ _ _ g6 HI
  replace HI := HI
  replace hb1 := g6.heap hb1
  replace hb2 := g6.heap hb2
  clear g6
  refine WL_nil ?_
  refine W_seq (W_region rfl ?_)
  refine WL_some (og rfl ?_)
  (first | refine r_move_func rfl ?_ | refine r_move rfl ?_)
  refine stp (r_load rfl (by assumption) (by rfl) ?_)
  refine WL_some (og rfl ?_)
  (first | refine r_move_int rfl ?_ | refine r_move rfl ?_)
  refine WL_some (og rfl ?_)
  (first | refine r_move_int rfl ?_ | refine r_move rfl ?_)
  refine WL_some (og rfl ?_)
  (first | refine r_move_int rfl ?_ | refine r_move rfl ?_)
  refine WL_some (og rfl ?_)
  (first | (refine r_add rfl rfl ?_ ?_; (constructor <;> omega)) | refine r_addw rfl rfl ?_)
  refine WL_some (og rfl ?_)
  (first | refine r_move_int rfl ?_ | refine r_move rfl ?_)
  refine WL_some (og rfl ?_)
  (first | refine r_move_int rfl ?_ | refine r_move rfl ?_)
  refine WL_some (og rfl ?_)
  (first | (refine r_add rfl rfl ?_ ?_; (constructor <;> omega)) | refine r_addw rfl rfl ?_)
  refine WL_some (og rfl ?_)
  refine r_slice3 rfl rfl rfl rfl (by omega) (by omega) (by omega) (by omega) ?_
  rw [show ((((8 * k : Nat) : Int) + (chunkN n k : Nat)).toNat) = 8 * k + chunkN n k from by omega, Int.toNat_natCast, show 8 * k + chunkN n k - 8 * k = chunkN n k from by omega]
  refine stp (r_yield rfl (Yields.mono ?_ (hy k _ hk3 HI)))
  rintro v_ w2_ ⟨rfl, HI2⟩
  refine WL_some (og rfl ?_)
  (first | (refine r_not_t rfl ?_ ?_; (first | rfl | assumption)) | (refine r_not_f rfl ?_ ?_; (first | rfl | assumption)) | refine r_not rfl ?_)
  refine WL_nil ?_
  refine W_false rfl ?_
  obtain ⟨hb1b, hb2b⟩ := hI (k + 1) _ HI2
  refine W_skip ?_
  refine W_region rfl ?_
  refine WL_some (og rfl ?_)
  (first | refine r_move_int rfl ?_ | refine r_move rfl ?_)
  refine stp (r_load rfl (by assumption) (by rfl) ?_)
  refine WL_some (og rfl ?_)
  (first | (refine r_add rfl rfl ?_ ?_; (constructor <;> omega)) | refine r_addw rfl rfl ?_)
  refine WL_some (og rfl ?_)
  (first | refine r_assign_int rfl ?_ | refine r_assign rfl ?_)
  refine WL_nil ?_
  refine ⟨_, ?_, k + 1, rfl, fr_of ⟨rfl, rfl, rfl, congrArg (Value.int .i64) (by omega), trivial⟩, by omega, HI2⟩
  omega
 ·-- false
  first | (replace hlt := of_decide_eq_true hlt) | (replace hlt := of_decide_eq_false hlt) | skip
  have hk3 : (n + 7) / 8 = k := by omega
  rw [hk3]
  refine W_exit ?_
  exact ret0n HI
end Go.Proofs.Ytifhcfhdajkhlaa.K

namespace Go.Proofs.Ytifhcfhdajkhlaa.K
open Go Go.RowKit Go.Proofs
attribute [local irreducible] Run1 OpG WL W AO Gives
set_option maxRecDepth 100000 in
theorem rnear_calls (w : World) {c : List Value} {t : Nd} (T : NodeR w c t) (off : Int) (hk12 : t.kind = 1 ∨ t.kind = 2) : Gives Try.prog 72 #[.agg c.toArray, .int .i64 off] w (.int .u64 (t.near off)) := by
 obtain @⟨kind, size, words, bytes, kids, ws, bs, ks, kc, hk, hs, hW, hwr, hB, hbr, hK, hKs⟩ := T
 obtain ⟨aw, cw, rfl, hcw, hcw2, RW⟩ := hW
 obtain ⟨ab, cb, rfl, hcb, hcb2, RB⟩ := hB
 obtain ⟨ak, ck, rfl, hck, hck2, RK⟩ := hK
 have lw := RW.lim
 have lb := RB.lim
 have lk := RK.lim
 simp only [inR] at hk hs
 simp only [Nd.kind] at hk12
 have G := Grow.rfl' w
 refine gives_of Try.func72 Try.ntmps72 Try.results72 rfl rfl ?_
 refine W_seq (W_region rfl ?_)
 refine WL_some (og rfl ?_)
 (first | refine r_box_agg rfl ?_ | refine r_box_int rfl ?_ | refine r_box_slice rfl ?_ | refine r_box rfl rfl ?_)
 intro b1 w2 hb3 hc4 g5
 have hge6 := Nat.le_trans G.size hb3
 replace G := G.tr g5
 clear g5 hb3
 refine WL_some (og rfl ?_)
 (first | refine r_assign_int rfl ?_ | refine r_assign rfl ?_)
 refine WL_nil ?_
 refine W_seq (W_region rfl ?_)
 refine stp (r_fieldAddr rfl ?_)
 refine stp (r_load rfl (by assumption) (by rfl) ?_)
 refine WL_some (og rfl ?_)
 (first | refine r_move_int rfl ?_ | refine r_move rfl ?_)
 refine stp (r_fieldAddr rfl ?_)
 refine stp (r_load rfl (by assumption) (by rfl) ?_)
 refine stp (r_len rfl rfl rfl ?_)
 refine stp (r_fieldAddr rfl ?_)
 refine stp (r_load rfl (by assumption) (by rfl) ?_)
 refine stp (r_len rfl rfl rfl ?_)
 refine stp (r_build (v := .agg #[.int .i64 (kind), .int .i64 (off), .int .i64 ((words.length : Int)), .int .i64 ((kids.length : Int)), .int .i64 (0), .int .i64 (0), .int .i64 (0), .bool false]) (fun w => by kernel_rfl) ?_)
 refine stp (r_alloc ?_)
 intro b7 w8 hb9 hc10 g11
 refine stn (r_storeAll rfl rfl hc10 (by rfl) (by rfl) (by rfl) ?_)
 intro w12 hc13 u14
 have g15 := g11.upd u14 hb9
 have hge16 := Nat.le_trans G.size hb9
 have ne17 := Nat.ne_of_lt (Nat.lt_of_lt_of_le (lt_of_heap hc4) hb9)
 replace hc4 := g15.heap hc4
 replace G := G.tr g15
 clear u14 g11 hb9 hc10
 refine WL_nil ?_
 refine W_seq ?_
 refine W_seq (W_region rfl ?_)
 refine stp (r_fieldAddr rfl ?_)
 refine stp (r_load rfl (by assumption) (by rfl) ?_)
 refine WL_some (og rfl ?_)
 (first | (refine r_eql_t rfl rfl ?_ ?_; (first | assumption | omega)) | (refine r_eql_f rfl rfl ?_ ?_; (first | assumption | omega)) | refine r_eql rfl rfl ?_)
 refine WL_nil ?_
 refine W_cond2 rfl (fun k2 => ?_) (fun k2 => ?_)
 ·-- true
  first | (replace k2 := of_decide_eq_true k2) | (replace k2 := of_decide_eq_false k2) | skip
  refine W_region rfl ?_
  refine WL_some (og rfl ?_)
  (first | refine r_move_int rfl ?_ | refine r_move rfl ?_)
  refine stp (r_fieldAddr rfl ?_)
  refine stp (r_load rfl (by assumption) (by rfl) ?_)
  refine stp (r_fieldAddr rfl ?_)
  refine stp (r_load rfl (by assumption) (by rfl) ?_)
  refine stp (r_len rfl rfl rfl ?_)
  refine stp (r_fieldAddr rfl ?_)
  refine stp (r_load rfl (by assumption) (by rfl) ?_)
  refine stp (r_len rfl rfl rfl ?_)
  refine WL_some (og rfl ?_)
  (first | (refine r_add rfl rfl ?_ ?_; (constructor <;> omega)) | refine r_addw rfl rfl ?_)
  refine stp (r_fieldAddr rfl ?_)
  refine stp (r_load rfl (by assumption) (by rfl) ?_)
  refine stp (r_len rfl rfl rfl ?_)
  refine WL_some (og rfl ?_)
  (first | (refine r_add rfl rfl ?_ ?_; (constructor <;> omega)) | refine r_addw rfl rfl ?_)
  refine stp (r_build (v := .agg #[.int .i64 (2), .int .i64 (off), .int .i64 (0), .int .i64 (0), .int .i64 (size), .int .i64 (((words.length : Int) + kids.length + bytes.length)), .int .i64 (0), .bool false]) (fun w => by kernel_rfl) ?_)
  refine stn (r_storeAll rfl rfl hc13 (by rfl) (by rfl) (by rfl) ?_)
  intro w21 hc22 u23
  replace hc4 := u23.heap hc4 ne17
  replace G := G.upd u23 hge16
  clear u23 hc13
  refine WL_nil ?_
  refine W_seq (W_region rfl ?_)
  refine WL_some (og rfl ?_)
  (first | refine r_loadAll rfl (by assumption) (by rfl) ?_ | refine r_loadN rfl (by assumption) (by rfl) (by rfl) ?_)
  refine stp (r_gives rfl (rencode_calls _ ⟨2, off, 0, 0, size, ((words.length : Int) + kids.length + bytes.length), 0, false⟩) ?_)
  intro w24 g25
  replace hc4 := g25.heap hc4
  replace hc22 := g25.heap hc22
  replace G := G.tr g25
  clear g25
  refine WL_some (og rfl ?_)
  (first | refine r_move_tuple rfl ?_ | refine r_move rfl ?_)
  refine stp (r_extract rfl rfl ?_)
  refine stp (r_extract rfl rfl ?_)
  refine WL_some (og rfl ?_)
  (first | refine r_assign_int rfl ?_ | refine r_assign rfl ?_)
  refine WL_some (og rfl ?_)
  (first | refine r_assign_int rfl ?_ | refine r_assign rfl ?_)
  refine WL_nil ?_
  refine W_seq (W_region rfl ?_)
  refine WL_some (og rfl ?_)
  (first | refine r_move_int rfl ?_ | refine r_move rfl ?_)
  refine WL_some (og rfl ?_)
  (first | refine r_assign_int rfl ?_ | refine r_assign rfl ?_)
  refine WL_nil ?_
  refine W_ret ?_
  refine ret1 (res_int rfl) ⟨?_, G⟩
  subst k2
  simp [Nd.near, Nd.ptr]
 ·-- false
  first | (replace k2 := of_decide_eq_true k2) | (replace k2 := of_decide_eq_false k2) | skip
  have k1 : kind = 1 := by omega
  refine W_skip ?_
  refine W_seq (W_region rfl ?_)
  refine WL_some (og rfl ?_)
  (first | refine r_loadAll rfl (by assumption) (by rfl) ?_ | refine r_loadN rfl (by assumption) (by rfl) (by rfl) ?_)
  refine stp (r_gives rfl (rencode_calls _ ⟨kind, off, (words.length : Int), (kids.length : Int), 0, 0, 0, false⟩) ?_)
  intro w26 g27
  replace hc4 := g27.heap hc4
  replace hc13 := g27.heap hc13
  replace G := G.tr g27
  clear g27
  refine WL_some (og rfl ?_)
  (first | refine r_move_tuple rfl ?_ | refine r_move rfl ?_)
  refine stp (r_extract rfl rfl ?_)
  refine stp (r_extract rfl rfl ?_)
  refine WL_some (og rfl ?_)
  (first | refine r_assign_int rfl ?_ | refine r_assign rfl ?_)
  refine WL_some (og rfl ?_)
  (first | refine r_assign_int rfl ?_ | refine r_assign rfl ?_)
  refine WL_nil ?_
  refine W_seq (W_region rfl ?_)
  refine WL_some (og rfl ?_)
  (first | refine r_move_int rfl ?_ | refine r_move rfl ?_)
  refine WL_some (og rfl ?_)
  (first | refine r_assign_int rfl ?_ | refine r_assign rfl ?_)
  refine WL_nil ?_
  refine W_ret ?_
  refine ret1 (res_int rfl) ⟨?_, G⟩
  simp [Nd.near, Nd.ptr, k1]

set_option maxRecDepth 100000 in
theorem rfar_calls (w : World) (seg at_ : Int) : Gives Try.prog 74 #[.int .i64 seg, .int .i64 at_] w (.int .u64 (farP seg at_)) := by
 have G := Grow.rfl' w
 refine gives_of Try.func74 Try.ntmps74 Try.results74 rfl rfl ?_
 refine W_seq (W_region rfl ?_)
 refine WL_some (og rfl ?_)
 (first | refine r_assign_int rfl ?_ | refine r_assign rfl ?_)
 refine WL_nil ?_
 refine W_seq (W_region rfl ?_)
 refine WL_some (og rfl ?_)
 (first | refine r_move_int rfl ?_ | refine r_move rfl ?_)
 refine WL_some (og rfl ?_)
 (first | refine r_move_int rfl ?_ | refine r_move rfl ?_)
 refine stp (r_build (v := .agg #[.int .i64 (3), .int .i64 (at_), .int .i64 (0), .int .i64 (0), .int .i64 (0), .int .i64 (0), .int .i64 (seg), .bool false]) (fun w => by kernel_rfl) ?_)
 refine stp (r_gives rfl (rencode_calls _ ⟨3, at_, 0, 0, 0, 0, seg, false⟩) ?_)
 intro w1 g2
 replace G := G.tr g2
 clear g2
 refine WL_some (og rfl ?_)
 (first | refine r_move_tuple rfl ?_ | refine r_move rfl ?_)
 refine stp (r_extract rfl rfl ?_)
 refine stp (r_extract rfl rfl ?_)
 refine WL_some (og rfl ?_)
 (first | refine r_assign_int rfl ?_ | refine r_assign rfl ?_)
 refine WL_some (og rfl ?_)
 (first | refine r_assign_int rfl ?_ | refine r_assign rfl ?_)
 refine WL_nil ?_
 refine W_seq (W_region rfl ?_)
 refine WL_some (og rfl ?_)
 (first | refine r_move_int rfl ?_ | refine r_move rfl ?_)
 refine WL_some (og rfl ?_)
 (first | refine r_assign_int rfl ?_ | refine r_assign rfl ?_)
 refine WL_nil ?_
 refine W_ret ?_
 exact ret1 (res_int rfl) ⟨rfl, G⟩
end Go.Proofs.Ytifhcfhdajkhlaa.K

