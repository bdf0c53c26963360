/- Laid together: BR, JQ, J17, P08, U09, T10, T11, K09. Each part is plain law, a rule, or a walk of the functions that its names tell. -/
import Derived.Test.YtifhcfhdajkhlaaGreatX2
set_option linter.unusedVariables false
set_option linter.unusedSimpArgs false
namespace Go.Proofs.YtifhcfhdajkhlaaGreat.K
open Go Go.RowKit Go.Proofs
attribute [local irreducible] Run1 OpG WL W AO Gives
instance : IfcI Tryz.prog 131 := ⟨⟨_, Tryz.underlying131⟩⟩
set_option maxRecDepth 100000 in
theorem qF5 (w : World) {a b m : Int} (ha : inR .i64 a) (hb : inR .i64 b) (hm : inR .i64 m) : Gives Tryz.prog 111 #[.int .i64 a, .int .i64 b, .int .i64 m] w (.tuple #[.int .i64 (if addOk a b m then a + b else 0), .bool (addOk a b m)]) := by
 simp only [inR] at ha hb hm
 have G := Grow.rfl' w
 refine zC7 Tryz.func111 Tryz.ntmps111 Tryz.results111 rfl rfl ?_
 refine zA6 (zA1 rfl ?_)
 refine stp (zA0 rfl ?_)
 refine stp (zA8 (v := .bool false) rfl ?_)
 refine zA4 ?_
 refine zA6 ?_
 refine zA6 (zA1 rfl ?_)
 refine stp (zA2 rfl ?_)
 refine stp (zA2 rfl ?_)
 refine stp (zT7 rfl rfl rfl ?_)
 refine stp (zF9 rfl rfl ?_)
 refine stp (zB9 rfl ?_)
 refine zA3 (zC2 (s := .bool (decide ((if b < a then b else a) < 0))) (b := false) (v := .int .i64 a) rfl (zD1 _) (fun hc1 => ?_) ?_)
 ·
  have hc1_ := hc1
  try simp only [sb] at hc1_
  refine zA2 rfl ?_
  exact ⟨rfl, rfl⟩
 refine zA3 (zC2 (s := .bool (decide ((if b < a then b else a) < 0))) (b := false) (v := .int .i64 m) rfl (zD1 _) (fun hc2 => ?_) ?_)
 ·
  have hc2_ := hc2
  try simp only [sb] at hc2_
  refine zA2 rfl ?_
  exact ⟨rfl, rfl⟩
 refine zA3 (zC2 (s := .bool (decide ((if b < a then b else a) < 0))) (b := false) (v := .bool (decide (a > m))) rfl (zD1 _) (fun hc3 => ?_) ?_)
 ·
  have hc3_ := hc3
  try simp only [sb] at hc3_
  refine zM7 (gvt hc3) (gvt hc3) ?_
  exact ⟨rfl, rfl⟩
 refine stp (zI6 rfl rfl rfl ?_)
 refine stp (zB9 rfl ?_)
 refine zA3 (zC2 (s := .bool ((decide ((if b < a then b else a) < 0)) || (decide (a > m)))) (b := false) (v := .int .i64 b) rfl (zD1 _) (fun hc4 => ?_) ?_)
 ·
  have hc4_ := hc4
  try simp only [sb] at hc4_
  refine zA2 rfl ?_
  exact ⟨rfl, rfl⟩
 refine zA3 (zC2 (s := .bool ((decide ((if b < a then b else a) < 0)) || (decide (a > m)))) (b := false) (v := .int .i64 m) rfl (zD1 _) (fun hc5 => ?_) ?_)
 ·
  have hc5_ := hc5
  try simp only [sb] at hc5_
  refine zA2 rfl ?_
  exact ⟨rfl, rfl⟩
 refine zA3 (zC2 (s := .bool ((decide ((if b < a then b else a) < 0)) || (decide (a > m)))) (b := false) (v := .int .i64 a) rfl (zD1 _) (fun hc6 => ?_) ?_)
 ·
  have hc6_ := hc6
  try simp only [sb] at hc6_
  refine zA2 rfl ?_
  exact ⟨rfl, rfl⟩
 refine zA3 (zC2 (s := .bool ((decide ((if b < a then b else a) < 0)) || (decide (a > m)))) (b := false) (v := .int .i64 (m - a)) rfl (zD1 _) (fun hc7 => ?_) ?_)
 ·
  have hc7_ := hc7
  try simp only [sb] at hc7_
  refine zM0 (gvt hc7) (gvt hc7) ?_ ?_; constructor <;> omega
  exact ⟨rfl, rfl⟩
 refine zA3 (zC2 (s := .bool ((decide ((if b < a then b else a) < 0)) || (decide (a > m)))) (b := false) (v := .bool (decide (b > (m - a)))) rfl (zD1 _) (fun hc8 => ?_) ?_)
 ·
  have hc8_ := hc8
  try simp only [sb] at hc8_
  refine zM7 (gvt hc8) (gvt hc8) ?_
  exact ⟨rfl, rfl⟩
 refine stp (zI6 rfl rfl rfl ?_)
 refine zA4 ?_
 refine zB8 (b := (((decide ((if b < a then b else a) < 0)) || (decide (a > m))) || (decide (b > (m - a))))) rfl (fun h1 => ?_) (fun h1 => ?_)
 ·-- true
  simp only [sb] at h1
  refine zA6 (zA1 rfl ?_)
  refine stp (zA0 rfl ?_)
  refine stp (zA8 (v := .bool false) rfl ?_)
  refine zA4 ?_
  refine zC4 ?_
  refine ret2 (zB3 (v := .int .i64 0) rfl) (zB3 (v := .bool false) rfl) ⟨?_, G⟩
  have h9 : addOk a b m = false := by simp only [addOk]; exact decide_eq_false (by omega)
  rw [h9]; rfl
 ·-- false
  simp only [sb] at h1
  have h9 : addOk a b m = true := by simp only [addOk]; exact decide_eq_true (by omega)
  refine zC3 ?_
  refine zA6 (zA1 rfl ?_)
  refine stp (zA2 rfl ?_)
  refine stp (zA2 rfl ?_)
  refine stp (zD8 rfl rfl ?_ ?_); constructor <;> omega
  refine stp (zA0 rfl ?_)
  refine stp (zA8 (v := .bool true) rfl ?_)
  refine zA4 ?_
  refine zC4 ?_
  refine ret2 (zB3 (v := .int .i64 (a + b)) rfl) (zB3 (v := .bool true) rfl) ⟨?_, G⟩
  rw [h9]; rfl

set_option maxRecDepth 100000 in
theorem qL5 (w : World) {ad : Option Addr} {c : Nat} {sz : List Int} {seg a n : Int} (R : RowAt w 1 ad sz.length (sz.map (.int .i64))) (hs : ∀ i, i < sz.length → 0 ≤ sz.getD i 0 ∧ sz.getD i 0 ≤ 140737488355328) (ha : inR .i64 a) (hn : inR .i64 n) : Gives Tryz.prog 122 #[.slice ad sz.length c, .int .i64 seg, .int .i64 a, .int .i64 n] w (.bool (withinP sz seg a n)) := by
 have ll := R.lim
 have G := Grow.rfl' w
 refine zC7 Tryz.func122 Tryz.ntmps122 Tryz.results122 rfl rfl ?_
 refine zA6 (zA1 rfl ?_)
 refine stp (zA8 (v := .bool false) rfl ?_)
 refine zA4 ?_
 refine zA6 ?_
 refine zA6 (zA1 rfl ?_)
 refine stp (zA2 rfl ?_)
 refine stp (zF9 rfl rfl ?_)
 refine stp (zB9 rfl ?_)
 refine zA3 (zC2 (s := .bool (decide (seg < 0))) (b := false) (v := .int .i64 seg) rfl (zD1 _) (fun hc1 => ?_) ?_)
 ·
  have hc1_ := hc1
  try simp only [sb] at hc1_
  refine zA2 rfl ?_
  exact ⟨rfl, rfl⟩
 refine zA3 (zC2 (s := .bool (decide (seg < 0))) (b := false) (v := .slice ad sz.length c) rfl (zD1 _) (fun hc2 => ?_) ?_)
 ·
  have hc2_ := hc2
  try simp only [sb] at hc2_
  refine zA7 rfl ?_
  exact ⟨rfl, rfl⟩
 refine zA3 (zC2 (s := .bool (decide (seg < 0))) (b := false) (v := .int .i64 (sz.length : Int)) rfl (zD1 _) (fun hc3 => ?_) ?_)
 ·
  have hc3_ := hc3
  try simp only [sb] at hc3_
  refine zE8 rfl rfl (gvt hc3) ?_
  exact ⟨rfl, rfl⟩
 refine zA3 (zC2 (s := .bool (decide (seg < 0))) (b := false) (v := .bool (decide (seg ≥ (sz.length : Int)))) rfl (zD1 _) (fun hc4 => ?_) ?_)
 ·
  have hc4_ := hc4
  try simp only [sb] at hc4_
  refine zL7 (gvt hc4) (gvt hc4) ?_
  exact ⟨rfl, rfl⟩
 refine stp (zI6 rfl rfl rfl ?_)
 refine zA4 ?_
 refine zB8 (b := ((decide (seg < 0)) || (decide (seg ≥ (sz.length : Int))))) rfl (fun h1 => ?_) (fun h1 => ?_)
 ·-- true
  simp only [sb] at h1
  refine zA6 (zA1 rfl ?_)
  refine stp (zA8 (v := .bool false) rfl ?_)
  refine zA4 ?_
  refine zC4 ?_
  refine ret1 (zB3 (v := .bool false) rfl) ⟨?_, G⟩
  have h9 : withinP sz seg a n = false := by unfold withinP; rw [decide_eq_false (by omega), Bool.false_and]
  rw [h9]
 ·-- false
  simp only [sb] at h1
  have h9 := hs seg.toNat (by omega)
  refine zC3 ?_
  refine zA6 (zA1 rfl ?_)
  refine stp (zA2 rfl ?_)
  refine stp (zA2 rfl ?_)
  refine stp (zA7 rfl ?_)
  refine stp (zA2 rfl ?_)
  refine stp (zI4 (R.grow G) rfl rfl ?_ ?_ ?_); omega; omega
  refine stp (zD7 (v := .int .i64 (sz.getD seg.toNat 0)) (m := 0) (R.grow G) rfl (by rw [Nat.mul_one]; exact zX6 0 (by omega)) ?_)
  refine stp (zC0 (v := .tuple #[.int .i64 (if addOk a n (sz.getD seg.toNat 0) then a + n else 0), .bool (addOk a n (sz.getD seg.toNat 0))]) rfl (qF5 _ ha hn (m := sz.getD seg.toNat 0) (by simp only [inR]; omega)) ?_)
  intro w5 g6
  replace G := G.tr g6
  clear g6
  refine stp (zB6 (v := .tuple #[.int .i64 (if addOk a n (sz.getD seg.toNat 0) then a + n else 0), .bool (addOk a n (sz.getD seg.toNat 0))]) rfl ?_)
  refine stp (zB2 (v := .int .i64 (if addOk a n (sz.getD seg.toNat 0) then a + n else 0)) rfl rfl ?_)
  refine stp (zB2 (v := .bool (addOk a n (sz.getD seg.toNat 0))) rfl rfl ?_)
  refine stp (zA0 rfl ?_)
  refine stp (zC1 rfl ?_)
  refine zA4 ?_
  refine zA6 (zA1 rfl ?_)
  refine stp (zB9 rfl ?_)
  refine stp (zC1 rfl ?_)
  refine zA4 ?_
  refine zC4 ?_
  refine ret1 (zB3 (v := .bool (addOk a n (sz.getD seg.toNat 0))) rfl) ⟨?_, G⟩
  unfold withinP; rw [decide_eq_true (by omega), Bool.true_and]

set_option maxRecDepth 100000 in
theorem zS5 (w : World) (p : Pt) : Gives Tryz.prog 101 #[.agg #[.int .i64 p.kind, .int .i64 p.off, .int .i64 p.data, .int .i64 p.ptrs, .int .i64 p.size, .int .i64 p.count, .int .i64 p.seg, .bool p.dbl]] w (.bool (nearP p)) := by
 have G := Grow.rfl' w
 refine zC7 Tryz.func101 Tryz.ntmps101 Tryz.results101 rfl rfl ?_
 refine zA6 (zA1 rfl ?_)
 refine zA3 (og rfl ?_)
 (first | refine zD0 rfl ?_ | refine zD2 rfl ?_ | refine zC5 rfl ?_ | refine zH0 rfl rfl ?_)
 intro b1 w2 hb3 hc4 g5
 have hge6 := Nat.le_trans G.size hb3
 replace G := G.tr g5
 clear g5 hb3
 refine stp (zA8 (v := .bool false) rfl ?_)
 refine zA4 ?_
 refine zA6 (zA1 rfl ?_)
 refine stp (zA5 rfl ?_)
 refine stp (zB5 (v := .int .i64 p.kind) rfl hc4 rfl ?_)
 refine stp (zE9 rfl rfl ?_)
 refine stp (zB9 rfl ?_)
 refine zA3 (zC2 (s := .bool (decide (p.kind = 1))) (b := false) (v := .pointer (some ⟨b1, 0, none⟩)) rfl (zD1 _) (fun hc7 => ?_) ?_)
 ·
  have hc7_ := hc7
  try simp only [sb] at hc7_
  refine zA5 rfl ?_
  exact ⟨rfl, rfl⟩
 refine zA3 (zC2 (s := .bool (decide (p.kind = 1))) (b := false) (v := .int .i64 p.kind) rfl (zD1 _) (fun hc8 => ?_) ?_)
 ·
  have hc8_ := hc8
  try simp only [sb] at hc8_
  refine zB5 (v := .int .i64 p.kind) (gvt hc8) hc4 rfl ?_
  exact ⟨rfl, rfl⟩
 refine zA3 (zC2 (s := .bool (decide (p.kind = 1))) (b := false) (v := .bool (decide (p.kind = 2))) rfl (zD1 _) (fun hc9 => ?_) ?_)
 ·
  have hc9_ := hc9
  try simp only [sb] at hc9_
  refine zE9 (gvt hc9) rfl ?_
  exact ⟨rfl, rfl⟩
 refine stp (zI6 rfl rfl rfl ?_)
 refine stp (zC1 rfl ?_)
 refine zA4 ?_
 refine zC4 ?_
 refine ret1 (zB3 (v := .bool ((decide (p.kind = 1)) || (decide (p.kind = 2)))) rfl) ⟨?_, G⟩
 rfl

set_option maxRecDepth 100000 in
theorem qV0 (w : World) (o : Ob) : Gives Tryz.prog 121 #[.agg #[.int .i64 o.kind, .int .i64 o.seg, .int .i64 o.at_, .int .i64 o.data, .int .i64 o.ptrs, .int .i64 o.size, .int .i64 o.count]] w (.agg #[.int .i64 o.kind, .int .i64 0, .int .i64 o.data, .int .i64 o.ptrs, .int .i64 o.size, .int .i64 o.count, .int .i64 0, .bool false]) := by
 have G := Grow.rfl' w
 refine zC7 Tryz.func121 Tryz.ntmps121 Tryz.results121 rfl rfl ?_
 refine zA6 (zA1 rfl ?_)
 refine zA3 (og rfl ?_)
 (first | refine zD0 rfl ?_ | refine zD2 rfl ?_ | refine zC5 rfl ?_ | refine zH0 rfl rfl ?_)
 intro b1 w2 hb3 hc4 g5
 have hge6 := Nat.le_trans G.size hb3
 replace G := G.tr g5
 clear g5 hb3
 refine stp (zD3 ?_)
 intro b7 w8 hb9 hc10 g11
 refine zA4 ?_
 refine zA6 (zA1 rfl ?_)
 refine stp (zA5 rfl ?_)
 have hge12 := Nat.le_trans G.size hb9
 have ne13 := Nat.ne_of_lt (Nat.lt_of_lt_of_le (zA9 hc4) hb9)
 replace hc4 := g11.heap hc4
 replace G := G.tr g11
 clear g11 hb9
 refine stp (zB5 (v := .int .i64 o.kind) rfl hc4 rfl ?_)
 refine stp (zA5 rfl ?_)
 refine stp (zB5 (v := .int .i64 o.data) rfl hc4 rfl ?_)
 refine stp (zA5 rfl ?_)
 refine stp (zB5 (v := .int .i64 o.ptrs) rfl hc4 rfl ?_)
 refine stp (zA5 rfl ?_)
 refine stp (zB5 (v := .int .i64 o.size) rfl hc4 rfl ?_)
 refine stp (zA5 rfl ?_)
 refine stp (zB5 (v := .int .i64 o.count) rfl hc4 rfl ?_)
 refine stp (zD4 (v := .agg #[.int .i64 o.kind, .int .i64 0, .int .i64 o.data, .int .i64 o.ptrs, .int .i64 o.size, .int .i64 o.count, .int .i64 0, .bool false]) (fun w => by kernel_rfl) ?_)
 refine stn (zB1 rfl rfl hc10 (by rfl) (by rfl) (by rfl) ?_)
 intro w14 hc15 u16
 replace hc4 := u16.heap hc4 ne13
 replace G := G.upd u16 hge12
 clear u16 hc10
 refine zA4 ?_
 refine zC4 ?_
 refine ret1 (zC9 rfl hc15 (by rfl)) ⟨?_, G⟩
 rfl

set_option maxRecDepth 100000 in
theorem qL6 (w : World) (o : Ob) : Gives Tryz.prog 105 #[.agg #[.int .i64 o.kind, .int .i64 o.seg, .int .i64 o.at_, .int .i64 o.data, .int .i64 o.ptrs, .int .i64 o.size, .int .i64 o.count]] w (.int .i64 (wordsO o)) := by
 have G := Grow.rfl' w
 refine zC7 Tryz.func105 Tryz.ntmps105 Tryz.results105 rfl rfl ?_
 refine zA6 (zA1 rfl ?_)
 refine zA3 (og rfl ?_)
 (first | refine zD0 rfl ?_ | refine zD2 rfl ?_ | refine zC5 rfl ?_ | refine zH0 rfl rfl ?_)
 intro b1 w2 hb3 hc4 g5
 have hge6 := Nat.le_trans G.size hb3
 replace G := G.tr g5
 clear g5 hb3
 refine stp (zA0 rfl ?_)
 refine zA4 ?_
 refine zA6 ?_
 refine zA6 (zA1 rfl ?_)
 refine stp (zA5 rfl ?_)
 refine stp (zB5 (v := .int .i64 o.kind) rfl hc4 rfl ?_)
 refine stp (zE9 rfl rfl ?_)
 refine zA4 ?_
 refine zB8 (b := (decide (o.kind = 3))) rfl (fun h1 => ?_) (fun h1 => ?_)
 ·-- true
  replace h1 := of_decide_eq_true h1
  refine zA6 (zA1 rfl ?_)
  refine stp (zA0 rfl ?_)
  refine zA4 ?_
  refine zC4 ?_
  refine ret1 (zB3 (v := .int .i64 0) rfl) ⟨?_, G⟩
  simp [wordsO, Ob.pt, *]
 ·-- false
  replace h1 := of_decide_eq_false h1
  refine zC3 ?_
  refine zA6 (zA1 rfl ?_)
  refine stp (zB4 rfl hc4 (by rfl) ?_)
  refine stp (zC0 (v := .agg #[.int .i64 o.kind, .int .i64 0, .int .i64 o.data, .int .i64 o.ptrs, .int .i64 o.size, .int .i64 o.count, .int .i64 0, .bool false]) rfl (qV0 _ ⟨o.kind, o.seg, o.at_, o.data, o.ptrs, o.size, o.count⟩) ?_)
  intro w7 g8
  replace hc4 := g8.heap hc4
  replace G := G.tr g8
  clear g8
  refine stp (zC0 (v := .tuple #[.int .i64 (wordsN ⟨o.kind, 0, o.data, o.ptrs, o.size, o.count, 0, false⟩), .int .u16 (wordsE ⟨o.kind, 0, o.data, o.ptrs, o.size, o.count, 0, false⟩)]) rfl (qC4 _ ⟨o.kind, 0, o.data, o.ptrs, o.size, o.count, 0, false⟩) ?_)
  intro w9 g10
  replace hc4 := g10.heap hc4
  replace G := G.tr g10
  clear g10
  refine stp (zB6 (v := .tuple #[.int .i64 (wordsN ⟨o.kind, 0, o.data, o.ptrs, o.size, o.count, 0, false⟩), .int .u16 (wordsE ⟨o.kind, 0, o.data, o.ptrs, o.size, o.count, 0, false⟩)]) rfl ?_)
  refine stp (zB2 (v := .int .i64 (wordsN ⟨o.kind, 0, o.data, o.ptrs, o.size, o.count, 0, false⟩)) rfl rfl ?_)
  refine stp (zB2 (v := .int .u16 (wordsE ⟨o.kind, 0, o.data, o.ptrs, o.size, o.count, 0, false⟩)) rfl rfl ?_)
  refine stp (zA0 rfl ?_)
  refine stp (zA0 rfl ?_)
  refine zA4 ?_
  refine zA6 (zA1 rfl ?_)
  refine stp (zA2 rfl ?_)
  refine stp (zA0 rfl ?_)
  refine zA4 ?_
  refine zC4 ?_
  refine ret1 (zB3 (v := .int .i64 (wordsN ⟨o.kind, 0, o.data, o.ptrs, o.size, o.count, 0, false⟩)) rfl) ⟨?_, G⟩
  simp [wordsO, Ob.pt, *]

set_option maxRecDepth 100000 in
theorem zW7 (w : World) {src : Value} {s : Src} (H : SrcOk Tryz.prog w src s) (seg a : Int) : Gives Tryz.prog 100 #[src, .int .i64 seg, .int .i64 a] w (.tuple #[.agg #[.int .i64 ((ptrS s seg a).1.kind), .int .i64 ((ptrS s seg a).1.off), .int .i64 ((ptrS s seg a).1.data), .int .i64 ((ptrS s seg a).1.ptrs), .int .i64 ((ptrS s seg a).1.size), .int .i64 ((ptrS s seg a).1.count), .int .i64 ((ptrS s seg a).1.seg), .bool ((ptrS s seg a).1.dbl)], .int .u16 ((ptrS s seg a).2)]) := by
 have G := Grow.rfl' w
 refine zC7 Tryz.func100 Tryz.ntmps100 Tryz.results100 rfl rfl ?_
 refine zA6 (zA1 rfl ?_)
 refine stp (zD3 ?_)
 intro b1 w2 hb3 hc4 g5
 refine stp (zA0 rfl ?_)
 refine zA4 ?_
 refine zA6 (zA1 rfl ?_)
 refine stp (zB6 (v := src) rfl ?_)
 refine stp (zA2 rfl ?_)
 refine stp (zA2 rfl ?_)
 have hge6 := Nat.le_trans G.size hb3
 replace G := G.tr g5
 clear g5 hb3
 refine stp (zQ1 H G rfl rfl rfl ?_)
 intro w7 g8
 replace hc4 := g8.heap hc4
 replace G := G.tr g8
 clear g8
 refine stp (zB6 (v := .tuple #[.int .u64 ((s.word seg a).1), .int .u16 ((s.word seg a).2)]) rfl ?_)
 refine stp (zB2 (v := .int .u64 ((s.word seg a).1)) rfl rfl ?_)
 refine stp (zB2 (v := .int .u16 ((s.word seg a).2)) rfl rfl ?_)
 refine stp (zA0 rfl ?_)
 refine stp (zA0 rfl ?_)
 refine zA4 ?_
 refine zA6 ?_
 refine zA6 (zA1 rfl ?_)
 refine stp (zA2 rfl ?_)
 refine stp (zI9 rfl rfl ?_)
 refine zA4 ?_
 refine zB8 (b := (decide (((s.word seg a).2) ≠ 0))) rfl (fun h1 => ?_) (fun h1 => ?_)
 ·-- true
  replace h1 := of_decide_eq_true h1
  refine zA6 (zA1 rfl ?_)
  refine stp (zD4 (v := .agg #[.int .i64 0, .int .i64 0, .int .i64 0, .int .i64 0, .int .i64 0, .int .i64 0, .int .i64 0, .bool false]) (fun w => by kernel_rfl) ?_)
  refine stp (zA2 rfl ?_)
  refine stn (zB1 rfl rfl hc4 (by rfl) (by rfl) (by rfl) ?_)
  intro w9 hc10 u11
  replace G := G.upd u11 hge6
  clear u11 hc4
  refine stp (zA0 rfl ?_)
  refine zA4 ?_
  refine zC4 ?_
  refine ret2 (zC9 rfl hc10 (by rfl)) (zB3 (v := .int .u16 ((s.word seg a).2)) rfl) ⟨?_, G⟩
  have h9 : ptrS s seg a = (Pt0, (s.word seg a).2) := by unfold ptrS; rw [if_pos h1]
  rw [h9]; rfl
 ·-- false
  replace h1 := of_decide_eq_false h1
  refine zC3 ?_
  refine zA6 (zA1 rfl ?_)
  refine stp (zA2 rfl ?_)
  refine stp (zC0 (v := .tuple #[.agg #[.int .i64 ((decP (s.word seg a).1).kind), .int .i64 ((decP (s.word seg a).1).off), .int .i64 ((decP (s.word seg a).1).data), .int .i64 ((decP (s.word seg a).1).ptrs), .int .i64 ((decP (s.word seg a).1).size), .int .i64 ((decP (s.word seg a).1).count), .int .i64 ((decP (s.word seg a).1).seg), .bool ((decP (s.word seg a).1).dbl)], .int .u16 (decE (s.word seg a).1)]) rfl (zS3 _ _ (H.num seg a).1 (H.num seg a).2.1) ?_)
  intro w12 g13
  replace hc4 := g13.heap hc4
  replace G := G.tr g13
  clear g13
  refine stp (zB2 (v := .agg #[.int .i64 ((decP (s.word seg a).1).kind), .int .i64 ((decP (s.word seg a).1).off), .int .i64 ((decP (s.word seg a).1).data), .int .i64 ((decP (s.word seg a).1).ptrs), .int .i64 ((decP (s.word seg a).1).size), .int .i64 ((decP (s.word seg a).1).count), .int .i64 ((decP (s.word seg a).1).seg), .bool ((decP (s.word seg a).1).dbl)]) rfl rfl ?_)
  refine stp (zB2 (v := .int .u16 (decE (s.word seg a).1)) rfl rfl ?_)
  refine stn (zB1 rfl rfl hc4 (by rfl) (by rfl) (by rfl) ?_)
  intro w14 hc15 u16
  replace G := G.upd u16 hge6
  clear u16 hc4
  refine stp (zA0 rfl ?_)
  refine zA4 ?_
  refine zC4 ?_
  refine ret2 (zC9 rfl hc15 (by rfl)) (zB3 (v := .int .u16 (decE (s.word seg a).1)) rfl) ⟨?_, G⟩
  have h9 : ptrS s seg a = (decP (s.word seg a).1, decE (s.word seg a).1) := by unfold ptrS; rw [if_neg h1]
  rw [h9]

set_option maxRecDepth 100000 in
theorem zU7 (w : World) {src : Value} {s : Src} (H : SrcOk Tryz.prog w src s) (p : Pt) (seg a : Int) (hp : PtR p) (ha : inR .i64 a) : Gives Tryz.prog 102 #[src, .agg #[.int .i64 p.kind, .int .i64 p.off, .int .i64 p.data, .int .i64 p.ptrs, .int .i64 p.size, .int .i64 p.count, .int .i64 p.seg, .bool p.dbl], .int .i64 seg, .int .i64 a] w (.tuple #[.agg #[.int .i64 ((foundS s p seg a).1.kind), .int .i64 ((foundS s p seg a).1.seg), .int .i64 ((foundS s p seg a).1.at_), .int .i64 ((foundS s p seg a).1.data), .int .i64 ((foundS s p seg a).1.ptrs), .int .i64 ((foundS s p seg a).1.size), .int .i64 ((foundS s p seg a).1.count)], .int .u16 ((foundS s p seg a).2)]) := by
 have hw9 := zS1 hp.of
 have G := Grow.rfl' w
 refine zC7 Tryz.func102 Tryz.ntmps102 Tryz.results102 rfl rfl ?_
 refine zA6 (zA1 rfl ?_)
 refine zA3 (og rfl ?_)
 (first | refine zD0 rfl ?_ | refine zD2 rfl ?_ | refine zC5 rfl ?_ | refine zH0 rfl rfl ?_)
 intro b1 w2 hb3 hc4 g5
 have hge6 := Nat.le_trans G.size hb3
 replace G := G.tr g5
 clear g5 hb3
 refine stp (zD3 ?_)
 intro b7 w8 hb9 hc10 g11
 refine stp (zA0 rfl ?_)
 refine zA4 ?_
 refine zA6 (zA1 rfl ?_)
 refine stp (zA5 rfl ?_)
 have hge12 := Nat.le_trans G.size hb9
 have ne13 := Nat.ne_of_lt (Nat.lt_of_lt_of_le (zA9 hc4) hb9)
 replace hc4 := g11.heap hc4
 replace G := G.tr g11
 clear g11 hb9
 refine stp (zB5 (v := .int .i64 p.kind) rfl hc4 rfl ?_)
 refine stp (zA2 rfl ?_)
 refine stp (zA2 rfl ?_)
 refine stp (zA5 rfl ?_)
 refine stp (zB5 (v := .int .i64 p.data) rfl hc4 rfl ?_)
 refine stp (zA5 rfl ?_)
 refine stp (zB5 (v := .int .i64 p.ptrs) rfl hc4 rfl ?_)
 refine stp (zA5 rfl ?_)
 refine stp (zB5 (v := .int .i64 p.size) rfl hc4 rfl ?_)
 refine stp (zA5 rfl ?_)
 refine stp (zB5 (v := .int .i64 p.count) rfl hc4 rfl ?_)
 refine stp (zD4 (v := .agg #[.int .i64 p.kind, .int .i64 seg, .int .i64 a, .int .i64 p.data, .int .i64 p.ptrs, .int .i64 p.size, .int .i64 p.count]) (fun w => by kernel_rfl) ?_)
 refine stp (zD3 ?_)
 intro b14 w15 hb16 hc17 g18
 refine stn (zB1 rfl rfl hc17 (by rfl) (by rfl) (by rfl) ?_)
 intro w19 hc20 u21
 have g22 := g18.upd u21 hb16
 have hge23 := Nat.le_trans G.size hb16
 have ne24 := Nat.ne_of_lt (Nat.lt_of_lt_of_le (zA9 hc4) hb16)
 have ne25 := Nat.ne_of_lt (Nat.lt_of_lt_of_le (zA9 hc10) hb16)
 replace hc4 := g22.heap hc4
 replace hc10 := g22.heap hc10
 replace G := G.tr g22
 clear u21 g18 hb16 hc17
 refine zA4 ?_
 refine zA6 (zA1 rfl ?_)
 refine stp (zB4 rfl hc20 (by rfl) ?_)
 refine stp (zC0 (v := .agg #[.int .i64 p.kind, .int .i64 0, .int .i64 p.data, .int .i64 p.ptrs, .int .i64 p.size, .int .i64 p.count, .int .i64 0, .bool false]) rfl (qV0 _ ⟨p.kind, seg, a, p.data, p.ptrs, p.size, p.count⟩) ?_)
 intro w26 g27
 replace hc4 := g27.heap hc4
 replace hc10 := g27.heap hc10
 replace hc20 := g27.heap hc20
 replace G := G.tr g27
 clear g27
 refine stp (zC0 (v := .tuple #[.int .i64 (wordsN ⟨p.kind, 0, p.data, p.ptrs, p.size, p.count, 0, false⟩), .int .u16 (wordsE ⟨p.kind, 0, p.data, p.ptrs, p.size, p.count, 0, false⟩)]) rfl (qC4 _ ⟨p.kind, 0, p.data, p.ptrs, p.size, p.count, 0, false⟩) ?_)
 intro w28 g29
 replace hc4 := g29.heap hc4
 replace hc10 := g29.heap hc10
 replace hc20 := g29.heap hc20
 replace G := G.tr g29
 clear g29
 refine stp (zB6 (v := .tuple #[.int .i64 (wordsN ⟨p.kind, 0, p.data, p.ptrs, p.size, p.count, 0, false⟩), .int .u16 (wordsE ⟨p.kind, 0, p.data, p.ptrs, p.size, p.count, 0, false⟩)]) rfl ?_)
 refine stp (zB2 (v := .int .i64 (wordsN ⟨p.kind, 0, p.data, p.ptrs, p.size, p.count, 0, false⟩)) rfl rfl ?_)
 refine stp (zB2 (v := .int .u16 (wordsE ⟨p.kind, 0, p.data, p.ptrs, p.size, p.count, 0, false⟩)) rfl rfl ?_)
 refine stp (zA0 rfl ?_)
 refine stp (zA0 rfl ?_)
 refine zA4 ?_
 refine zA6 ?_
 refine zC6 ?_
 refine zA6 (zA1 rfl ?_)
 refine stp (zA2 rfl ?_)
 refine stp (zI9 rfl rfl ?_)
 refine stp (zC1 rfl ?_)
 refine zA4 ?_
 refine zB8 (b := (decide ((wordsE ⟨p.kind, 0, p.data, p.ptrs, p.size, p.count, 0, false⟩) ≠ 0))) rfl (fun h1 => ?_) (fun h1 => ?_)
 ·-- true
  replace h1 := of_decide_eq_true h1
  refine zA6 (zA1 rfl ?_)
  refine stp (zD4 (v := .agg #[.int .i64 0, .int .i64 0, .int .i64 0, .int .i64 0, .int .i64 0, .int .i64 0, .int .i64 0]) (fun w => by kernel_rfl) ?_)
  refine stp (zA2 rfl ?_)
  refine stn (zB1 rfl rfl hc10 (by rfl) (by rfl) (by rfl) ?_)
  intro w30 hc31 u32
  replace hc4 := u32.heap hc4 ne13
  replace hc20 := u32.heap hc20 ne25.symm
  replace G := G.upd u32 hge12
  clear u32 hc10
  refine stp (zA0 rfl ?_)
  refine zA4 ?_
  refine zC4 ?_
  refine ret2 (zC9 rfl hc31 (by rfl)) (zB3 (v := .int .u16 (wordsE ⟨p.kind, 0, p.data, p.ptrs, p.size, p.count, 0, false⟩)) rfl) ⟨?_, G⟩
  have h9 : foundS s p seg a = (Ob0, wordsE ⟨p.kind, 0, p.data, p.ptrs, p.size, p.count, 0, false⟩) := by unfold foundS; exact if_pos h1
  rw [h9]; rfl
 ·-- false
  replace h1 := of_decide_eq_false h1
  refine zA6 (zA1 rfl ?_)
  refine stp (zB6 (v := src) rfl ?_)
  refine stp (qW6 H G rfl ?_)
  intro adz cz w33 g34 Rz
  replace hc4 := g34.heap hc4
  replace hc10 := g34.heap hc10
  replace hc20 := g34.heap hc20
  replace G := G.tr g34
  clear g34
  refine stp (zA2 rfl ?_)
  refine stp (zA2 rfl ?_)
  refine stp (zA2 rfl ?_)
  refine stp (zC0 (v := .bool (withinP s.sizes seg a (wordsN ⟨p.kind, 0, p.data, p.ptrs, p.size, p.count, 0, false⟩))) rfl (qL5 _ Rz H.each ha (by simp only [inR]; omega)) ?_)
  intro w35 g36
  replace hc4 := g36.heap hc4
  replace hc10 := g36.heap hc10
  replace hc20 := g36.heap hc20
  replace Rz := Rz.grow g36
  replace G := G.tr g36
  clear g36
  refine stp (zN6 rfl ?_)
  refine stp (zC1 rfl ?_)
  refine zA4 ?_
  refine zB8 (b := (!(withinP s.sizes seg a (wordsN ⟨p.kind, 0, p.data, p.ptrs, p.size, p.count, 0, false⟩)))) rfl (fun h2 => ?_) (fun h2 => ?_)
  ·-- true
   simp only [sb] at h2
   refine zA6 (zA1 rfl ?_)
   refine stp (zD4 (v := .agg #[.int .i64 0, .int .i64 0, .int .i64 0, .int .i64 0, .int .i64 0, .int .i64 0, .int .i64 0]) (fun w => by kernel_rfl) ?_)
   refine stn (zB1 rfl rfl hc10 (by rfl) (by rfl) (by rfl) ?_)
   intro w37 hc38 u39
   replace hc4 := u39.heap hc4 ne13
   replace hc20 := u39.heap hc20 ne25.symm
   replace G := G.upd u39 hge12
   clear u39 hc10
   refine stp (zA0 rfl ?_)
   refine zA4 ?_
   refine zC4 ?_
   refine ret2 (zC9 rfl hc38 (by rfl)) (zB3 (v := .int .u16 20) rfl) ⟨?_, G⟩
   have h9 : foundS s p seg a = (Ob0, 20) := by unfold foundS; exact (if_neg h1).trans (if_pos (show withinP s.sizes seg a (wordsN ⟨p.kind, 0, p.data, p.ptrs, p.size, p.count, 0, false⟩) = false from by simpa using h2))
   rw [h9]; rfl
  ·-- false
   simp only [sb] at h2
   refine zC3 ?_
   refine zA6 (zA1 rfl ?_)
   refine stp (zB4 rfl hc20 (by rfl) ?_)
   refine stn (zB1 rfl rfl hc10 (by rfl) (by rfl) (by rfl) ?_)
   intro w40 hc41 u42
   replace hc4 := u42.heap hc4 ne13
   replace hc20 := u42.heap hc20 ne25.symm
   replace G := G.upd u42 hge12
   clear u42 hc10
   refine stp (zA0 rfl ?_)
   refine zA4 ?_
   refine zC4 ?_
   refine ret2 (zC9 rfl hc41 (by rfl)) (zB3 (v := .int .u16 0) rfl) ⟨?_, G⟩
   have h9 : foundS s p seg a = (objP p seg a, 0) := by unfold foundS; exact (if_neg h1).trans (if_neg (show ¬ withinP s.sizes seg a (wordsN ⟨p.kind, 0, p.data, p.ptrs, p.size, p.count, 0, false⟩) = false from by simpa using h2))
   rw [h9]; rfl

set_option maxRecDepth 100000 in
theorem qL7 (w : World) {src : Value} {s : Src} (H : SrcOk Tryz.prog w src s) (p : Pt) (hp : PtR p) : Gives Tryz.prog 104 #[src, .agg #[.int .i64 p.kind, .int .i64 p.off, .int .i64 p.data, .int .i64 p.ptrs, .int .i64 p.size, .int .i64 p.count, .int .i64 p.seg, .bool p.dbl]] w (.tuple #[.agg #[.int .i64 ((landedS s p).1.kind), .int .i64 ((landedS s p).1.seg), .int .i64 ((landedS s p).1.at_), .int .i64 ((landedS s p).1.data), .int .i64 ((landedS s p).1.ptrs), .int .i64 ((landedS s p).1.size), .int .i64 ((landedS s p).1.count)], .int .u16 ((landedS s p).2)]) := by
 have hq := zT3 H p.seg p.off
 have hqo := hq.off
 have hpo := hp.off
 have G := Grow.rfl' w
 refine zC7 Tryz.func104 Tryz.ntmps104 Tryz.results104 rfl rfl ?_
 refine zA6 (zA1 rfl ?_)
 refine zA3 (og rfl ?_)
 (first | refine zD0 rfl ?_ | refine zD2 rfl ?_ | refine zC5 rfl ?_ | refine zH0 rfl rfl ?_)
 intro b1 w2 hb3 hc4 g5
 have hge6 := Nat.le_trans G.size hb3
 replace G := G.tr g5
 clear g5 hb3
 refine stp (zD3 ?_)
 intro b7 w8 hb9 hc10 g11
 refine stp (zA0 rfl ?_)
 refine zA4 ?_
 refine zA6 (zA1 rfl ?_)
 refine stp (zB6 (v := src) rfl ?_)
 refine stp (zA5 rfl ?_)
 have hge12 := Nat.le_trans G.size hb9
 have ne13 := Nat.ne_of_lt (Nat.lt_of_lt_of_le (zA9 hc4) hb9)
 replace hc4 := g11.heap hc4
 replace G := G.tr g11
 clear g11 hb9
 refine stp (zB5 (v := .int .i64 p.seg) rfl hc4 rfl ?_)
 refine stp (zA5 rfl ?_)
 refine stp (zB5 (v := .int .i64 p.off) rfl hc4 rfl ?_)
 refine stp (zC0 (v := .tuple #[.agg #[.int .i64 ((ptrS s p.seg p.off).1.kind), .int .i64 ((ptrS s p.seg p.off).1.off), .int .i64 ((ptrS s p.seg p.off).1.data), .int .i64 ((ptrS s p.seg p.off).1.ptrs), .int .i64 ((ptrS s p.seg p.off).1.size), .int .i64 ((ptrS s p.seg p.off).1.count), .int .i64 ((ptrS s p.seg p.off).1.seg), .bool ((ptrS s p.seg p.off).1.dbl)], .int .u16 ((ptrS s p.seg p.off).2)]) rfl (zW7 _ (H.grow G) p.seg p.off) ?_)
 intro w14 g15
 replace hc4 := g15.heap hc4
 replace hc10 := g15.heap hc10
 replace G := G.tr g15
 clear g15
 refine stp (zB6 (v := .tuple #[.agg #[.int .i64 ((ptrS s p.seg p.off).1.kind), .int .i64 ((ptrS s p.seg p.off).1.off), .int .i64 ((ptrS s p.seg p.off).1.data), .int .i64 ((ptrS s p.seg p.off).1.ptrs), .int .i64 ((ptrS s p.seg p.off).1.size), .int .i64 ((ptrS s p.seg p.off).1.count), .int .i64 ((ptrS s p.seg p.off).1.seg), .bool ((ptrS s p.seg p.off).1.dbl)], .int .u16 ((ptrS s p.seg p.off).2)]) rfl ?_)
 refine stp (zB2 (v := .agg #[.int .i64 ((ptrS s p.seg p.off).1.kind), .int .i64 ((ptrS s p.seg p.off).1.off), .int .i64 ((ptrS s p.seg p.off).1.data), .int .i64 ((ptrS s p.seg p.off).1.ptrs), .int .i64 ((ptrS s p.seg p.off).1.size), .int .i64 ((ptrS s p.seg p.off).1.count), .int .i64 ((ptrS s p.seg p.off).1.seg), .bool ((ptrS s p.seg p.off).1.dbl)]) rfl rfl ?_)
 refine stp (zB2 (v := .int .u16 ((ptrS s p.seg p.off).2)) rfl rfl ?_)
 refine stp (zD3 ?_)
 intro b16 w17 hb18 hc19 g20
 refine stn (zB1 rfl rfl hc19 (by rfl) (by rfl) (by rfl) ?_)
 intro w21 hc22 u23
 have g24 := g20.upd u23 hb18
 have hge25 := Nat.le_trans G.size hb18
 have ne26 := Nat.ne_of_lt (Nat.lt_of_lt_of_le (zA9 hc4) hb18)
 have ne27 := Nat.ne_of_lt (Nat.lt_of_lt_of_le (zA9 hc10) hb18)
 replace hc4 := g24.heap hc4
 replace hc10 := g24.heap hc10
 replace G := G.tr g24
 clear u23 g20 hb18 hc19
 refine stp (zA0 rfl ?_)
 refine zA4 ?_
 refine zA6 ?_
 refine zC6 ?_
 refine zA6 (zA1 rfl ?_)
 refine stp (zA2 rfl ?_)
 refine stp (zI9 rfl rfl ?_)
 refine stp (zC1 rfl ?_)
 refine zA4 ?_
 refine zB8 (b := (decide (((ptrS s p.seg p.off).2) ≠ 0))) rfl (fun h1 => ?_) (fun h1 => ?_)
 ·-- true
  replace h1 := of_decide_eq_true h1
  refine zA6 (zA1 rfl ?_)
  refine stp (zD4 (v := .agg #[.int .i64 0, .int .i64 0, .int .i64 0, .int .i64 0, .int .i64 0, .int .i64 0, .int .i64 0]) (fun w => by kernel_rfl) ?_)
  refine stp (zA2 rfl ?_)
  refine stn (zB1 rfl rfl hc10 (by rfl) (by rfl) (by rfl) ?_)
  intro w28 hc29 u30
  replace hc4 := u30.heap hc4 ne13
  replace hc22 := u30.heap hc22 ne27.symm
  replace G := G.upd u30 hge12
  clear u30 hc10
  refine stp (zA0 rfl ?_)
  refine zA4 ?_
  refine zC4 ?_
  refine ret2 (zC9 rfl hc29 (by rfl)) (zB3 (v := .int .u16 ((ptrS s p.seg p.off).2)) rfl) ⟨?_, G⟩
  have h9 : landedS s p = (Ob0, (ptrS s p.seg p.off).2) := by unfold landedS; rw [if_pos h1]
  rw [h9]; rfl
 ·-- false
  replace h1 := of_decide_eq_false h1
  refine zA6 (zA1 rfl ?_)
  refine stp (zB4 rfl hc22 (by rfl) ?_)
  refine stp (zC0 (v := .bool (nearP ((ptrS s p.seg p.off).1))) rfl (zS5 _ ((ptrS s p.seg p.off).1)) ?_)
  intro w31 g32
  replace hc4 := g32.heap hc4
  replace hc10 := g32.heap hc10
  replace hc22 := g32.heap hc22
  replace G := G.tr g32
  clear g32
  refine stp (zN6 rfl ?_)
  refine stp (zC1 rfl ?_)
  refine zA4 ?_
  refine zB8 (b := (!(nearP ((ptrS s p.seg p.off).1)))) rfl (fun h2 => ?_) (fun h2 => ?_)
  ·-- true
   simp only [sb] at h2
   refine zA6 (zA1 rfl ?_)
   refine stp (zD4 (v := .agg #[.int .i64 0, .int .i64 0, .int .i64 0, .int .i64 0, .int .i64 0, .int .i64 0, .int .i64 0]) (fun w => by kernel_rfl) ?_)
   refine stn (zB1 rfl rfl hc10 (by rfl) (by rfl) (by rfl) ?_)
   intro w33 hc34 u35
   replace hc4 := u35.heap hc4 ne13
   replace hc22 := u35.heap hc22 ne27.symm
   replace G := G.upd u35 hge12
   clear u35 hc10
   refine stp (zA0 rfl ?_)
   refine zA4 ?_
   refine zC4 ?_
   refine ret2 (zC9 rfl hc34 (by rfl)) (zB3 (v := .int .u16 23) rfl) ⟨?_, G⟩
   have h9 : landedS s p = (Ob0, 23) := by unfold landedS; rw [if_neg h1, if_pos (by simpa using h2)]
   rw [h9]; rfl
  ·-- false
   simp only [sb] at h2
   refine zC3 ?_
   refine zA6 (zA1 rfl ?_)
   refine stp (zB6 (v := src) rfl ?_)
   refine stp (zB4 rfl hc22 (by rfl) ?_)
   refine stp (zA5 rfl ?_)
   refine stp (zB5 (v := .int .i64 p.seg) rfl hc4 rfl ?_)
   refine stp (zA5 rfl ?_)
   refine stp (zB5 (v := .int .i64 p.off) rfl hc4 rfl ?_)
   refine stp (zD8 rfl rfl ?_ ?_); constructor <;> omega
   refine stp (zA5 rfl ?_)
   refine stp (zB5 (v := .int .i64 ((ptrS s p.seg p.off).1.off)) rfl hc22 rfl ?_)
   refine stp (zD8 rfl rfl ?_ ?_); constructor <;> omega
   refine stp (zC0 (v := .tuple #[.agg #[.int .i64 ((foundS s ((ptrS s p.seg p.off).1) p.seg ((p.off + 1) + ((ptrS s p.seg p.off).1.off))).1.kind), .int .i64 ((foundS s ((ptrS s p.seg p.off).1) p.seg ((p.off + 1) + ((ptrS s p.seg p.off).1.off))).1.seg), .int .i64 ((foundS s ((ptrS s p.seg p.off).1) p.seg ((p.off + 1) + ((ptrS s p.seg p.off).1.off))).1.at_), .int .i64 ((foundS s ((ptrS s p.seg p.off).1) p.seg ((p.off + 1) + ((ptrS s p.seg p.off).1.off))).1.data), .int .i64 ((foundS s ((ptrS s p.seg p.off).1) p.seg ((p.off + 1) + ((ptrS s p.seg p.off).1.off))).1.ptrs), .int .i64 ((foundS s ((ptrS s p.seg p.off).1) p.seg ((p.off + 1) + ((ptrS s p.seg p.off).1.off))).1.size), .int .i64 ((foundS s ((ptrS s p.seg p.off).1) p.seg ((p.off + 1) + ((ptrS s p.seg p.off).1.off))).1.count)], .int .u16 ((foundS s ((ptrS s p.seg p.off).1) p.seg ((p.off + 1) + ((ptrS s p.seg p.off).1.off))).2)]) rfl (zU7 _ (H.grow G) ((ptrS s p.seg p.off).1) p.seg ((p.off + 1) + ((ptrS s p.seg p.off).1.off)) hq (by simp only [inR]; omega)) ?_)
   intro w36 g37
   replace hc4 := g37.heap hc4
   replace hc10 := g37.heap hc10
   replace hc22 := g37.heap hc22
   replace G := G.tr g37
   clear g37
   refine stp (zB2 (v := .agg #[.int .i64 ((foundS s ((ptrS s p.seg p.off).1) p.seg ((p.off + 1) + ((ptrS s p.seg p.off).1.off))).1.kind), .int .i64 ((foundS s ((ptrS s p.seg p.off).1) p.seg ((p.off + 1) + ((ptrS s p.seg p.off).1.off))).1.seg), .int .i64 ((foundS s ((ptrS s p.seg p.off).1) p.seg ((p.off + 1) + ((ptrS s p.seg p.off).1.off))).1.at_), .int .i64 ((foundS s ((ptrS s p.seg p.off).1) p.seg ((p.off + 1) + ((ptrS s p.seg p.off).1.off))).1.data), .int .i64 ((foundS s ((ptrS s p.seg p.off).1) p.seg ((p.off + 1) + ((ptrS s p.seg p.off).1.off))).1.ptrs), .int .i64 ((foundS s ((ptrS s p.seg p.off).1) p.seg ((p.off + 1) + ((ptrS s p.seg p.off).1.off))).1.size), .int .i64 ((foundS s ((ptrS s p.seg p.off).1) p.seg ((p.off + 1) + ((ptrS s p.seg p.off).1.off))).1.count)]) rfl rfl ?_)
   refine stp (zB2 (v := .int .u16 ((foundS s ((ptrS s p.seg p.off).1) p.seg ((p.off + 1) + ((ptrS s p.seg p.off).1.off))).2)) rfl rfl ?_)
   refine stn (zB1 rfl rfl hc10 (by rfl) (by rfl) (by rfl) ?_)
   intro w38 hc39 u40
   replace hc4 := u40.heap hc4 ne13
   replace hc22 := u40.heap hc22 ne27.symm
   replace G := G.upd u40 hge12
   clear u40 hc10
   refine stp (zA0 rfl ?_)
   refine zA4 ?_
   refine zC4 ?_
   refine ret2 (zC9 rfl hc39 (by rfl)) (zB3 (v := .int .u16 ((foundS s ((ptrS s p.seg p.off).1) p.seg ((p.off + 1) + ((ptrS s p.seg p.off).1.off))).2)) rfl) ⟨?_, G⟩
   have h9 : landedS s p = foundS s (ptrS s p.seg p.off).1 p.seg (p.off + 1 + (ptrS s p.seg p.off).1.off) := by unfold landedS; rw [if_neg h1, if_neg (by simpa using h2)]
   rw [h9]

set_option maxRecDepth 100000 in
theorem qR1 (w : World) {src : Value} {s : Src} (H : SrcOk Tryz.prog w src s) (p : Pt) (hp : PtR p) : Gives Tryz.prog 103 #[src, .agg #[.int .i64 p.kind, .int .i64 p.off, .int .i64 p.data, .int .i64 p.ptrs, .int .i64 p.size, .int .i64 p.count, .int .i64 p.seg, .bool p.dbl]] w (.tuple #[.agg #[.int .i64 ((twiceS s p).1.kind), .int .i64 ((twiceS s p).1.seg), .int .i64 ((twiceS s p).1.at_), .int .i64 ((twiceS s p).1.data), .int .i64 ((twiceS s p).1.ptrs), .int .i64 ((twiceS s p).1.size), .int .i64 ((twiceS s p).1.count)], .int .u16 ((twiceS s p).2)]) := by
 have hpo := hp.off
 obtain ⟨n1, n2, -, -⟩ := H.num p.seg p.off
 obtain ⟨n3, n4, -, -⟩ := H.num p.seg (p.off + 1)
 have hq := zK6 _ n1 n2
 have hr := zK6 _ n3 n4
 have hqo := hq.off
 have G := Grow.rfl' w
 refine zC7 Tryz.func103 Tryz.ntmps103 Tryz.results103 rfl rfl ?_
 refine zA6 (zA1 rfl ?_)
 refine zA3 (og rfl ?_)
 (first | refine zD0 rfl ?_ | refine zD2 rfl ?_ | refine zC5 rfl ?_ | refine zH0 rfl rfl ?_)
 intro b1 w2 hb3 hc4 g5
 have hge6 := Nat.le_trans G.size hb3
 replace G := G.tr g5
 clear g5 hb3
 refine stp (zD3 ?_)
 intro b7 w8 hb9 hc10 g11
 refine stp (zA0 rfl ?_)
 refine zA4 ?_
 refine zA6 (zA1 rfl ?_)
 refine stp (zB6 (v := src) rfl ?_)
 refine stp (zA5 rfl ?_)
 have hge12 := Nat.le_trans G.size hb9
 have ne13 := Nat.ne_of_lt (Nat.lt_of_lt_of_le (zA9 hc4) hb9)
 replace hc4 := g11.heap hc4
 replace G := G.tr g11
 clear g11 hb9
 refine stp (zB5 (v := .int .i64 p.seg) rfl hc4 rfl ?_)
 refine stp (zA5 rfl ?_)
 refine stp (zB5 (v := .int .i64 p.off) rfl hc4 rfl ?_)
 refine stp (zQ1 H G rfl rfl rfl ?_)
 intro w14 g15
 replace hc4 := g15.heap hc4
 replace hc10 := g15.heap hc10
 replace G := G.tr g15
 clear g15
 refine stp (zB6 (v := .tuple #[.int .u64 ((s.word p.seg p.off).1), .int .u16 ((s.word p.seg p.off).2)]) rfl ?_)
 refine stp (zB2 (v := .int .u64 ((s.word p.seg p.off).1)) rfl rfl ?_)
 refine stp (zB2 (v := .int .u16 ((s.word p.seg p.off).2)) rfl rfl ?_)
 refine stp (zA0 rfl ?_)
 refine stp (zA0 rfl ?_)
 refine zA4 ?_
 refine zA6 ?_
 refine zA6 (zA1 rfl ?_)
 refine stp (zA2 rfl ?_)
 refine stp (zI9 rfl rfl ?_)
 refine zA4 ?_
 refine zB8 (b := (decide (((s.word p.seg p.off).2) ≠ 0))) rfl (fun h1 => ?_) (fun h1 => ?_)
 ·-- true
  replace h1 := of_decide_eq_true h1
  refine zA6 (zA1 rfl ?_)
  refine stp (zD4 (v := .agg #[.int .i64 0, .int .i64 0, .int .i64 0, .int .i64 0, .int .i64 0, .int .i64 0, .int .i64 0]) (fun w => by kernel_rfl) ?_)
  refine stp (zA2 rfl ?_)
  refine stn (zB1 rfl rfl hc10 (by rfl) (by rfl) (by rfl) ?_)
  intro w16 hc17 u18
  replace hc4 := u18.heap hc4 ne13
  replace G := G.upd u18 hge12
  clear u18 hc10
  refine stp (zA0 rfl ?_)
  refine zA4 ?_
  refine zC4 ?_
  refine ret2 (zC9 rfl hc17 (by rfl)) (zB3 (v := .int .u16 ((s.word p.seg p.off).2)) rfl) ⟨?_, G⟩
  have h9 : twiceS s p = (Ob0, (s.word p.seg p.off).2) := by unfold twiceS; rw [if_pos h1]
  rw [h9]; rfl
 ·-- false
  replace h1 := of_decide_eq_false h1
  refine zC3 ?_
  refine zA6 (zA1 rfl ?_)
  refine stp (zB6 (v := src) rfl ?_)
  refine stp (zA5 rfl ?_)
  refine stp (zB5 (v := .int .i64 p.seg) rfl hc4 rfl ?_)
  refine stp (zA5 rfl ?_)
  refine stp (zB5 (v := .int .i64 p.off) rfl hc4 rfl ?_)
  refine stp (zD8 rfl rfl ?_ ?_); constructor <;> omega
  refine stp (zQ1 H G rfl rfl rfl ?_)
  intro w19 g20
  replace hc4 := g20.heap hc4
  replace hc10 := g20.heap hc10
  replace G := G.tr g20
  clear g20
  refine stp (zB6 (v := .tuple #[.int .u64 ((s.word p.seg (p.off + 1)).1), .int .u16 ((s.word p.seg (p.off + 1)).2)]) rfl ?_)
  refine stp (zB2 (v := .int .u64 ((s.word p.seg (p.off + 1)).1)) rfl rfl ?_)
  refine stp (zB2 (v := .int .u16 ((s.word p.seg (p.off + 1)).2)) rfl rfl ?_)
  refine stp (zA0 rfl ?_)
  refine stp (zA0 rfl ?_)
  refine zA4 ?_
  refine zA6 ?_
  refine zA6 (zA1 rfl ?_)
  refine stp (zA2 rfl ?_)
  refine stp (zI9 rfl rfl ?_)
  refine zA4 ?_
  refine zB8 (b := (decide (((s.word p.seg (p.off + 1)).2) ≠ 0))) rfl (fun h2 => ?_) (fun h2 => ?_)
  ·-- true
   replace h2 := of_decide_eq_true h2
   refine zA6 (zA1 rfl ?_)
   refine stp (zD4 (v := .agg #[.int .i64 0, .int .i64 0, .int .i64 0, .int .i64 0, .int .i64 0, .int .i64 0, .int .i64 0]) (fun w => by kernel_rfl) ?_)
   refine stp (zA2 rfl ?_)
   refine stn (zB1 rfl rfl hc10 (by rfl) (by rfl) (by rfl) ?_)
   intro w21 hc22 u23
   replace hc4 := u23.heap hc4 ne13
   replace G := G.upd u23 hge12
   clear u23 hc10
   refine stp (zA0 rfl ?_)
   refine zA4 ?_
   refine zC4 ?_
   refine ret2 (zC9 rfl hc22 (by rfl)) (zB3 (v := .int .u16 ((s.word p.seg (p.off + 1)).2)) rfl) ⟨?_, G⟩
   have h9 : twiceS s p = (Ob0, (s.word p.seg (p.off + 1)).2) := by unfold twiceS; rw [if_neg h1, if_pos h2]
   rw [h9]; rfl
  ·-- false
   replace h2 := of_decide_eq_false h2
   refine zC3 ?_
   refine zA6 (zA1 rfl ?_)
   refine stp (zA2 rfl ?_)
   refine stp (zC0 (v := .tuple #[.agg #[.int .i64 ((decP (s.word p.seg p.off).1).kind), .int .i64 ((decP (s.word p.seg p.off).1).off), .int .i64 ((decP (s.word p.seg p.off).1).data), .int .i64 ((decP (s.word p.seg p.off).1).ptrs), .int .i64 ((decP (s.word p.seg p.off).1).size), .int .i64 ((decP (s.word p.seg p.off).1).count), .int .i64 ((decP (s.word p.seg p.off).1).seg), .bool ((decP (s.word p.seg p.off).1).dbl)], .int .u16 (decE (s.word p.seg p.off).1)]) rfl (zS3 _ _ (H.num p.seg p.off).1 (H.num p.seg p.off).2.1) ?_)
   intro w24 g25
   replace hc4 := g25.heap hc4
   replace hc10 := g25.heap hc10
   replace G := G.tr g25
   clear g25
   refine stp (zB6 (v := .tuple #[.agg #[.int .i64 ((decP (s.word p.seg p.off).1).kind), .int .i64 ((decP (s.word p.seg p.off).1).off), .int .i64 ((decP (s.word p.seg p.off).1).data), .int .i64 ((decP (s.word p.seg p.off).1).ptrs), .int .i64 ((decP (s.word p.seg p.off).1).size), .int .i64 ((decP (s.word p.seg p.off).1).count), .int .i64 ((decP (s.word p.seg p.off).1).seg), .bool ((decP (s.word p.seg p.off).1).dbl)], .int .u16 (decE (s.word p.seg p.off).1)]) rfl ?_)
   refine stp (zB2 (v := .agg #[.int .i64 ((decP (s.word p.seg p.off).1).kind), .int .i64 ((decP (s.word p.seg p.off).1).off), .int .i64 ((decP (s.word p.seg p.off).1).data), .int .i64 ((decP (s.word p.seg p.off).1).ptrs), .int .i64 ((decP (s.word p.seg p.off).1).size), .int .i64 ((decP (s.word p.seg p.off).1).count), .int .i64 ((decP (s.word p.seg p.off).1).seg), .bool ((decP (s.word p.seg p.off).1).dbl)]) rfl rfl ?_)
   refine stp (zB2 (v := .int .u16 (decE (s.word p.seg p.off).1)) rfl rfl ?_)
   refine stp (zD3 ?_)
   intro b26 w27 hb28 hc29 g30
   refine stn (zB1 rfl rfl hc29 (by rfl) (by rfl) (by rfl) ?_)
   intro w31 hc32 u33
   have g34 := g30.upd u33 hb28
   have hge35 := Nat.le_trans G.size hb28
   have ne36 := Nat.ne_of_lt (Nat.lt_of_lt_of_le (zA9 hc4) hb28)
   have ne37 := Nat.ne_of_lt (Nat.lt_of_lt_of_le (zA9 hc10) hb28)
   replace hc4 := g34.heap hc4
   replace hc10 := g34.heap hc10
   replace G := G.tr g34
   clear u33 g30 hb28 hc29
   refine stp (zA0 rfl ?_)
   refine zA4 ?_
   refine zA6 ?_
   refine zA6 (zA1 rfl ?_)
   refine stp (zA2 rfl ?_)
   refine stp (zI9 rfl rfl ?_)
   refine zA4 ?_
   refine zB8 (b := (decide ((decE (s.word p.seg p.off).1) ≠ 0))) rfl (fun h3 => ?_) (fun h3 => ?_)
   ·-- true
    replace h3 := of_decide_eq_true h3
    refine zA6 (zA1 rfl ?_)
    refine stp (zD4 (v := .agg #[.int .i64 0, .int .i64 0, .int .i64 0, .int .i64 0, .int .i64 0, .int .i64 0, .int .i64 0]) (fun w => by kernel_rfl) ?_)
    refine stp (zA2 rfl ?_)
    refine stn (zB1 rfl rfl hc10 (by rfl) (by rfl) (by rfl) ?_)
    intro w38 hc39 u40
    replace hc4 := u40.heap hc4 ne13
    replace hc32 := u40.heap hc32 ne37.symm
    replace G := G.upd u40 hge12
    clear u40 hc10
    refine stp (zA0 rfl ?_)
    refine zA4 ?_
    refine zC4 ?_
    refine ret2 (zC9 rfl hc39 (by rfl)) (zB3 (v := .int .u16 (decE (s.word p.seg p.off).1)) rfl) ⟨?_, G⟩
    have h9 : twiceS s p = (Ob0, decE (s.word p.seg p.off).1) := by unfold twiceS; rw [if_neg h1, if_neg h2, if_pos h3]
    rw [h9]; rfl
   ·-- false
    replace h3 := of_decide_eq_false h3
    refine zC3 ?_
    refine zA6 (zA1 rfl ?_)
    refine stp (zA2 rfl ?_)
    refine stp (zC0 (v := .tuple #[.agg #[.int .i64 ((decP (s.word p.seg (p.off + 1)).1).kind), .int .i64 ((decP (s.word p.seg (p.off + 1)).1).off), .int .i64 ((decP (s.word p.seg (p.off + 1)).1).data), .int .i64 ((decP (s.word p.seg (p.off + 1)).1).ptrs), .int .i64 ((decP (s.word p.seg (p.off + 1)).1).size), .int .i64 ((decP (s.word p.seg (p.off + 1)).1).count), .int .i64 ((decP (s.word p.seg (p.off + 1)).1).seg), .bool ((decP (s.word p.seg (p.off + 1)).1).dbl)], .int .u16 (decE (s.word p.seg (p.off + 1)).1)]) rfl (zS3 _ _ (H.num p.seg (p.off + 1)).1 (H.num p.seg (p.off + 1)).2.1) ?_)
    intro w41 g42
    replace hc4 := g42.heap hc4
    replace hc10 := g42.heap hc10
    replace hc32 := g42.heap hc32
    replace G := G.tr g42
    clear g42
    refine stp (zB6 (v := .tuple #[.agg #[.int .i64 ((decP (s.word p.seg (p.off + 1)).1).kind), .int .i64 ((decP (s.word p.seg (p.off + 1)).1).off), .int .i64 ((decP (s.word p.seg (p.off + 1)).1).data), .int .i64 ((decP (s.word p.seg (p.off + 1)).1).ptrs), .int .i64 ((decP (s.word p.seg (p.off + 1)).1).size), .int .i64 ((decP (s.word p.seg (p.off + 1)).1).count), .int .i64 ((decP (s.word p.seg (p.off + 1)).1).seg), .bool ((decP (s.word p.seg (p.off + 1)).1).dbl)], .int .u16 (decE (s.word p.seg (p.off + 1)).1)]) rfl ?_)
    refine stp (zB2 (v := .agg #[.int .i64 ((decP (s.word p.seg (p.off + 1)).1).kind), .int .i64 ((decP (s.word p.seg (p.off + 1)).1).off), .int .i64 ((decP (s.word p.seg (p.off + 1)).1).data), .int .i64 ((decP (s.word p.seg (p.off + 1)).1).ptrs), .int .i64 ((decP (s.word p.seg (p.off + 1)).1).size), .int .i64 ((decP (s.word p.seg (p.off + 1)).1).count), .int .i64 ((decP (s.word p.seg (p.off + 1)).1).seg), .bool ((decP (s.word p.seg (p.off + 1)).1).dbl)]) rfl rfl ?_)
    refine stp (zB2 (v := .int .u16 (decE (s.word p.seg (p.off + 1)).1)) rfl rfl ?_)
    refine stp (zD3 ?_)
    intro b43 w44 hb45 hc46 g47
    refine stn (zB1 rfl rfl hc46 (by rfl) (by rfl) (by rfl) ?_)
    intro w48 hc49 u50
    have g51 := g47.upd u50 hb45
    have hge52 := Nat.le_trans G.size hb45
    have ne53 := Nat.ne_of_lt (Nat.lt_of_lt_of_le (zA9 hc4) hb45)
    have ne54 := Nat.ne_of_lt (Nat.lt_of_lt_of_le (zA9 hc10) hb45)
    have ne55 := Nat.ne_of_lt (Nat.lt_of_lt_of_le (zA9 hc32) hb45)
    replace hc4 := g51.heap hc4
    replace hc10 := g51.heap hc10
    replace hc32 := g51.heap hc32
    replace G := G.tr g51
    clear u50 g47 hb45 hc46
    refine stp (zA0 rfl ?_)
    refine zA4 ?_
    refine zA6 ?_
    refine zC6 ?_
    refine zA6 (zA1 rfl ?_)
    refine stp (zA2 rfl ?_)
    refine stp (zI9 rfl rfl ?_)
    refine stp (zC1 rfl ?_)
    refine zA4 ?_
    refine zB8 (b := (decide ((decE (s.word p.seg (p.off + 1)).1) ≠ 0))) rfl (fun h4 => ?_) (fun h4 => ?_)
    ·-- true
     replace h4 := of_decide_eq_true h4
     refine zA6 (zA1 rfl ?_)
     refine stp (zD4 (v := .agg #[.int .i64 0, .int .i64 0, .int .i64 0, .int .i64 0, .int .i64 0, .int .i64 0, .int .i64 0]) (fun w => by kernel_rfl) ?_)
     refine stp (zA2 rfl ?_)
     refine stn (zB1 rfl rfl hc10 (by rfl) (by rfl) (by rfl) ?_)
     intro w56 hc57 u58
     replace hc4 := u58.heap hc4 ne13
     replace hc32 := u58.heap hc32 ne37.symm
     replace hc49 := u58.heap hc49 ne54.symm
     replace G := G.upd u58 hge12
     clear u58 hc10
     refine stp (zA0 rfl ?_)
     refine zA4 ?_
     refine zC4 ?_
     refine ret2 (zC9 rfl hc57 (by rfl)) (zB3 (v := .int .u16 (decE (s.word p.seg (p.off + 1)).1)) rfl) ⟨?_, G⟩
     have h9 : twiceS s p = (Ob0, decE (s.word p.seg (p.off + 1)).1) := by unfold twiceS; rw [if_neg h1, if_neg h2, if_neg h3, if_pos h4]
     rw [h9]; rfl
    ·-- false
     replace h4 := of_decide_eq_false h4
     refine zA6 (zA1 rfl ?_)
     refine stp (zA5 rfl ?_)
     refine stp (zB5 (v := .int .i64 ((decP (s.word p.seg p.off).1).kind)) rfl hc32 rfl ?_)
     refine stp (zI9 rfl rfl ?_)
     refine stp (zB9 rfl ?_)
     refine zA3 (zC2 (s := .bool (decide (((decP (s.word p.seg p.off).1).kind) ≠ 3))) (b := false) (v := .pointer (some ⟨b26, 7, none⟩)) rfl (zD1 _) (fun hc59 => ?_) ?_)
     ·
      have hc59_ := hc59
      try simp only [sb] at hc59_
      refine zA5 rfl ?_
      exact ⟨rfl, rfl⟩
     refine zA3 (zC2 (s := .bool (decide (((decP (s.word p.seg p.off).1).kind) ≠ 3))) (b := false) (v := .bool ((decP (s.word p.seg p.off).1).dbl)) rfl (zD1 _) (fun hc60 => ?_) ?_)
     ·
      have hc60_ := hc60
      try simp only [sb] at hc60_
      refine zB5 (v := .bool ((decP (s.word p.seg p.off).1).dbl)) (gvt hc60) hc32 rfl ?_
      exact ⟨rfl, rfl⟩
     refine stp (zI6 rfl rfl rfl ?_)
     refine stp (zB9 rfl ?_)
     refine zA3 (zC2 (s := .bool ((decide (((decP (s.word p.seg p.off).1).kind) ≠ 3)) || ((decP (s.word p.seg p.off).1).dbl))) (b := false) (v := .agg #[.int .i64 ((decP (s.word p.seg (p.off + 1)).1).kind), .int .i64 ((decP (s.word p.seg (p.off + 1)).1).off), .int .i64 ((decP (s.word p.seg (p.off + 1)).1).data), .int .i64 ((decP (s.word p.seg (p.off + 1)).1).ptrs), .int .i64 ((decP (s.word p.seg (p.off + 1)).1).size), .int .i64 ((decP (s.word p.seg (p.off + 1)).1).count), .int .i64 ((decP (s.word p.seg (p.off + 1)).1).seg), .bool ((decP (s.word p.seg (p.off + 1)).1).dbl)]) rfl (zD1 _) (fun hc61 => ?_) ?_)
     ·
      have hc61_ := hc61
      try simp only [sb] at hc61_
      refine zB4 rfl hc49 (by rfl) ?_
      exact ⟨rfl, rfl⟩
     refine zA3 (zR6 (s := .bool ((decide (((decP (s.word p.seg p.off).1).kind) ≠ 3)) || ((decP (s.word p.seg p.off).1).dbl))) (b := false) (v := .bool (nearP (decP (s.word p.seg (p.off + 1)).1))) rfl (zD1 _) (fun hc62 => ?_) ?_)
     ·
      have hc62_ := hc62
      try simp only [sb] at hc62_
      exact zL0 (l := ([.agg #[.int .i64 ((decP (s.word p.seg (p.off + 1)).1).kind), .int .i64 ((decP (s.word p.seg (p.off + 1)).1).off), .int .i64 ((decP (s.word p.seg (p.off + 1)).1).data), .int .i64 ((decP (s.word p.seg (p.off + 1)).1).ptrs), .int .i64 ((decP (s.word p.seg (p.off + 1)).1).size), .int .i64 ((decP (s.word p.seg (p.off + 1)).1).count), .int .i64 ((decP (s.word p.seg (p.off + 1)).1).seg), .bool ((decP (s.word p.seg (p.off + 1)).1).dbl)]] : List Value)) rfl (by show ([gv (!((decide (((decP (s.word p.seg p.off).1).kind) ≠ 3)) || ((decP (s.word p.seg p.off).1).dbl))) (.agg #[.int .i64 ((decP (s.word p.seg (p.off + 1)).1).kind), .int .i64 ((decP (s.word p.seg (p.off + 1)).1).off), .int .i64 ((decP (s.word p.seg (p.off + 1)).1).data), .int .i64 ((decP (s.word p.seg (p.off + 1)).1).ptrs), .int .i64 ((decP (s.word p.seg (p.off + 1)).1).size), .int .i64 ((decP (s.word p.seg (p.off + 1)).1).count), .int .i64 ((decP (s.word p.seg (p.off + 1)).1).seg), .bool ((decP (s.word p.seg (p.off + 1)).1).dbl)])] : List Value) = _; rw [gvt hc62]) (zS5 _ (decP (s.word p.seg (p.off + 1)).1)) (fun w2_ g2_ => ⟨rfl, g2_⟩)
     intro w63 g64
     replace hc4 := g64.heap hc4
     replace hc10 := g64.heap hc10
     replace hc32 := g64.heap hc32
     replace hc49 := g64.heap hc49
     replace G := G.tr g64
     clear g64
     refine zA3 (zC2 (s := .bool ((decide (((decP (s.word p.seg p.off).1).kind) ≠ 3)) || ((decP (s.word p.seg p.off).1).dbl))) (b := false) (v := .bool (!(nearP (decP (s.word p.seg (p.off + 1)).1)))) rfl (zD1 _) (fun hc65 => ?_) ?_)
     ·
      have hc65_ := hc65
      try simp only [sb] at hc65_
      refine zN6 (gvt hc65) ?_
      exact ⟨rfl, rfl⟩
     refine stp (zI6 rfl rfl rfl ?_)
     refine stp (zB9 rfl ?_)
     refine zA3 (zC2 (s := .bool (((decide (((decP (s.word p.seg p.off).1).kind) ≠ 3)) || ((decP (s.word p.seg p.off).1).dbl)) || (!(nearP (decP (s.word p.seg (p.off + 1)).1))))) (b := false) (v := .pointer (some ⟨b43, 1, none⟩)) rfl (zD1 _) (fun hc66 => ?_) ?_)
     ·
      have hc66_ := hc66
      try simp only [sb] at hc66_
      refine zA5 rfl ?_
      exact ⟨rfl, rfl⟩
     refine zA3 (zC2 (s := .bool (((decide (((decP (s.word p.seg p.off).1).kind) ≠ 3)) || ((decP (s.word p.seg p.off).1).dbl)) || (!(nearP (decP (s.word p.seg (p.off + 1)).1))))) (b := false) (v := .int .i64 ((decP (s.word p.seg (p.off + 1)).1).off)) rfl (zD1 _) (fun hc67 => ?_) ?_)
     ·
      have hc67_ := hc67
      try simp only [sb] at hc67_
      refine zB5 (v := .int .i64 ((decP (s.word p.seg (p.off + 1)).1).off)) (gvt hc67) hc49 rfl ?_
      exact ⟨rfl, rfl⟩
     refine zA3 (zC2 (s := .bool (((decide (((decP (s.word p.seg p.off).1).kind) ≠ 3)) || ((decP (s.word p.seg p.off).1).dbl)) || (!(nearP (decP (s.word p.seg (p.off + 1)).1))))) (b := false) (v := .bool (decide (((decP (s.word p.seg (p.off + 1)).1).off) ≠ 0))) rfl (zD1 _) (fun hc68 => ?_) ?_)
     ·
      have hc68_ := hc68
      try simp only [sb] at hc68_
      refine zI9 (gvt hc68) rfl ?_
      exact ⟨rfl, rfl⟩
     refine stp (zI6 rfl rfl rfl ?_)
     refine stp (zC1 rfl ?_)
     refine zA4 ?_
     refine zB8 (b := ((((decide (((decP (s.word p.seg p.off).1).kind) ≠ 3)) || ((decP (s.word p.seg p.off).1).dbl)) || (!(nearP (decP (s.word p.seg (p.off + 1)).1)))) || (decide (((decP (s.word p.seg (p.off + 1)).1).off) ≠ 0)))) rfl (fun h5 => ?_) (fun h5 => ?_)
     ·-- true
      simp only [sb] at h5
      have h8 : (decP (s.word p.seg p.off).1).kind ≠ 3 ∨ (decP (s.word p.seg p.off).1).dbl = true ∨ nearP (decP (s.word p.seg (p.off + 1)).1) = false ∨ (decP (s.word p.seg (p.off + 1)).1).off ≠ 0 := by simpa [or_assoc] using h5
      refine zA6 (zA1 rfl ?_)
      refine stp (zD4 (v := .agg #[.int .i64 0, .int .i64 0, .int .i64 0, .int .i64 0, .int .i64 0, .int .i64 0, .int .i64 0]) (fun w => by kernel_rfl) ?_)
      refine stn (zB1 rfl rfl hc10 (by rfl) (by rfl) (by rfl) ?_)
      intro w69 hc70 u71
      replace hc4 := u71.heap hc4 ne13
      replace hc32 := u71.heap hc32 ne37.symm
      replace hc49 := u71.heap hc49 ne54.symm
      replace G := G.upd u71 hge12
      clear u71 hc10
      refine stp (zA0 rfl ?_)
      refine zA4 ?_
      refine zC4 ?_
      refine ret2 (zC9 rfl hc70 (by rfl)) (zB3 (v := .int .u16 23) rfl) ⟨?_, G⟩
      have h9 : twiceS s p = (Ob0, 23) := by unfold twiceS; rw [if_neg h1, if_neg h2, if_neg h3, if_neg h4, if_pos h8]
      rw [h9]; rfl
     ·-- false
      simp only [sb] at h5
      have h8 : ¬ ((decP (s.word p.seg p.off).1).kind ≠ 3 ∨ (decP (s.word p.seg p.off).1).dbl = true ∨ nearP (decP (s.word p.seg (p.off + 1)).1) = false ∨ (decP (s.word p.seg (p.off + 1)).1).off ≠ 0) := by simpa [and_assoc] using h5
      refine zC3 ?_
      refine zA6 (zA1 rfl ?_)
      refine stp (zB6 (v := src) rfl ?_)
      refine stp (zB4 rfl hc49 (by rfl) ?_)
      refine stp (zA5 rfl ?_)
      refine stp (zB5 (v := .int .i64 ((decP (s.word p.seg p.off).1).seg)) rfl hc32 rfl ?_)
      refine stp (zA5 rfl ?_)
      refine stp (zB5 (v := .int .i64 ((decP (s.word p.seg p.off).1).off)) rfl hc32 rfl ?_)
      refine stp (zC0 (v := .tuple #[.agg #[.int .i64 ((foundS s (decP (s.word p.seg (p.off + 1)).1) ((decP (s.word p.seg p.off).1).seg) ((decP (s.word p.seg p.off).1).off)).1.kind), .int .i64 ((foundS s (decP (s.word p.seg (p.off + 1)).1) ((decP (s.word p.seg p.off).1).seg) ((decP (s.word p.seg p.off).1).off)).1.seg), .int .i64 ((foundS s (decP (s.word p.seg (p.off + 1)).1) ((decP (s.word p.seg p.off).1).seg) ((decP (s.word p.seg p.off).1).off)).1.at_), .int .i64 ((foundS s (decP (s.word p.seg (p.off + 1)).1) ((decP (s.word p.seg p.off).1).seg) ((decP (s.word p.seg p.off).1).off)).1.data), .int .i64 ((foundS s (decP (s.word p.seg (p.off + 1)).1) ((decP (s.word p.seg p.off).1).seg) ((decP (s.word p.seg p.off).1).off)).1.ptrs), .int .i64 ((foundS s (decP (s.word p.seg (p.off + 1)).1) ((decP (s.word p.seg p.off).1).seg) ((decP (s.word p.seg p.off).1).off)).1.size), .int .i64 ((foundS s (decP (s.word p.seg (p.off + 1)).1) ((decP (s.word p.seg p.off).1).seg) ((decP (s.word p.seg p.off).1).off)).1.count)], .int .u16 ((foundS s (decP (s.word p.seg (p.off + 1)).1) ((decP (s.word p.seg p.off).1).seg) ((decP (s.word p.seg p.off).1).off)).2)]) rfl (zU7 _ (H.grow G) (decP (s.word p.seg (p.off + 1)).1) ((decP (s.word p.seg p.off).1).seg) ((decP (s.word p.seg p.off).1).off) hr (by simp only [inR]; omega)) ?_)
      intro w72 g73
      replace hc4 := g73.heap hc4
      replace hc10 := g73.heap hc10
      replace hc32 := g73.heap hc32
      replace hc49 := g73.heap hc49
      replace G := G.tr g73
      clear g73
      refine stp (zB2 (v := .agg #[.int .i64 ((foundS s (decP (s.word p.seg (p.off + 1)).1) ((decP (s.word p.seg p.off).1).seg) ((decP (s.word p.seg p.off).1).off)).1.kind), .int .i64 ((foundS s (decP (s.word p.seg (p.off + 1)).1) ((decP (s.word p.seg p.off).1).seg) ((decP (s.word p.seg p.off).1).off)).1.seg), .int .i64 ((foundS s (decP (s.word p.seg (p.off + 1)).1) ((decP (s.word p.seg p.off).1).seg) ((decP (s.word p.seg p.off).1).off)).1.at_), .int .i64 ((foundS s (decP (s.word p.seg (p.off + 1)).1) ((decP (s.word p.seg p.off).1).seg) ((decP (s.word p.seg p.off).1).off)).1.data), .int .i64 ((foundS s (decP (s.word p.seg (p.off + 1)).1) ((decP (s.word p.seg p.off).1).seg) ((decP (s.word p.seg p.off).1).off)).1.ptrs), .int .i64 ((foundS s (decP (s.word p.seg (p.off + 1)).1) ((decP (s.word p.seg p.off).1).seg) ((decP (s.word p.seg p.off).1).off)).1.size), .int .i64 ((foundS s (decP (s.word p.seg (p.off + 1)).1) ((decP (s.word p.seg p.off).1).seg) ((decP (s.word p.seg p.off).1).off)).1.count)]) rfl rfl ?_)
      refine stp (zB2 (v := .int .u16 ((foundS s (decP (s.word p.seg (p.off + 1)).1) ((decP (s.word p.seg p.off).1).seg) ((decP (s.word p.seg p.off).1).off)).2)) rfl rfl ?_)
      refine stn (zB1 rfl rfl hc10 (by rfl) (by rfl) (by rfl) ?_)
      intro w74 hc75 u76
      replace hc4 := u76.heap hc4 ne13
      replace hc32 := u76.heap hc32 ne37.symm
      replace hc49 := u76.heap hc49 ne54.symm
      replace G := G.upd u76 hge12
      clear u76 hc10
      refine stp (zA0 rfl ?_)
      refine zA4 ?_
      refine zC4 ?_
      refine ret2 (zC9 rfl hc75 (by rfl)) (zB3 (v := .int .u16 ((foundS s (decP (s.word p.seg (p.off + 1)).1) ((decP (s.word p.seg p.off).1).seg) ((decP (s.word p.seg p.off).1).off)).2)) rfl) ⟨?_, G⟩
      have h9 : twiceS s p = foundS s (decP (s.word p.seg (p.off + 1)).1) (decP (s.word p.seg p.off).1).seg (decP (s.word p.seg p.off).1).off := by unfold twiceS; rw [if_neg h1, if_neg h2, if_neg h3, if_neg h4, if_neg h8]
      rw [h9]

set_option maxRecDepth 100000 in
theorem zS6 (w : World) {src : Value} {s : Src} (H : SrcOk Tryz.prog w src s) (seg a : Int) : Gives Tryz.prog 61 #[src, .int .i64 seg, .int .i64 a] w (.tuple #[.agg #[.int .i64 ((followS s seg a).1.kind), .int .i64 ((followS s seg a).1.seg), .int .i64 ((followS s seg a).1.at_), .int .i64 ((followS s seg a).1.data), .int .i64 ((followS s seg a).1.ptrs), .int .i64 ((followS s seg a).1.size), .int .i64 ((followS s seg a).1.count)], .int .u16 ((followS s seg a).2)]) := by
 obtain ⟨t_, u_, f_, hsrc, -, -⟩ := H.word
 have hq := zT3 H seg a
 have hqo := hq.off
 have G := Grow.rfl' w
 refine zC7 Tryz.func61 Tryz.ntmps61 Tryz.results61 rfl rfl ?_
 refine zA6 (zA1 rfl ?_)
 refine stp (zD3 ?_)
 intro b1 w2 hb3 hc4 g5
 refine stp (zA0 rfl ?_)
 refine zA4 ?_
 refine zA6 ?_
 refine zA6 (zA1 rfl ?_)
 refine stp (zB6 (v := src) rfl ?_)
 refine stp (yH4 (T := t_) (v := u_) hsrc rfl ?_)
 refine zA4 ?_
 have hge6 := Nat.le_trans G.size hb3
 replace G := G.tr g5
 clear g5 hb3
 refine zI8 rfl ?_
 refine zC3 ?_
 refine zA6 (zA1 rfl ?_)
 refine stp (zB6 (v := src) rfl ?_)
 refine stp (zA2 rfl ?_)
 refine stp (zA2 rfl ?_)
 refine stp (zC0 (v := .tuple #[.agg #[.int .i64 ((ptrS s seg a).1.kind), .int .i64 ((ptrS s seg a).1.off), .int .i64 ((ptrS s seg a).1.data), .int .i64 ((ptrS s seg a).1.ptrs), .int .i64 ((ptrS s seg a).1.size), .int .i64 ((ptrS s seg a).1.count), .int .i64 ((ptrS s seg a).1.seg), .bool ((ptrS s seg a).1.dbl)], .int .u16 ((ptrS s seg a).2)]) rfl (zW7 _ (H.grow G) seg a) ?_)
 intro w7 g8
 replace hc4 := g8.heap hc4
 replace G := G.tr g8
 clear g8
 refine stp (zB6 (v := .tuple #[.agg #[.int .i64 ((ptrS s seg a).1.kind), .int .i64 ((ptrS s seg a).1.off), .int .i64 ((ptrS s seg a).1.data), .int .i64 ((ptrS s seg a).1.ptrs), .int .i64 ((ptrS s seg a).1.size), .int .i64 ((ptrS s seg a).1.count), .int .i64 ((ptrS s seg a).1.seg), .bool ((ptrS s seg a).1.dbl)], .int .u16 ((ptrS s seg a).2)]) rfl ?_)
 refine stp (zB2 (v := .agg #[.int .i64 ((ptrS s seg a).1.kind), .int .i64 ((ptrS s seg a).1.off), .int .i64 ((ptrS s seg a).1.data), .int .i64 ((ptrS s seg a).1.ptrs), .int .i64 ((ptrS s seg a).1.size), .int .i64 ((ptrS s seg a).1.count), .int .i64 ((ptrS s seg a).1.seg), .bool ((ptrS s seg a).1.dbl)]) rfl rfl ?_)
 refine stp (zB2 (v := .int .u16 ((ptrS s seg a).2)) rfl rfl ?_)
 refine stp (zD3 ?_)
 intro b9 w10 hb11 hc12 g13
 refine stn (zB1 rfl rfl hc12 (by rfl) (by rfl) (by rfl) ?_)
 intro w14 hc15 u16
 have g17 := g13.upd u16 hb11
 have hge18 := Nat.le_trans G.size hb11
 have ne19 := Nat.ne_of_lt (Nat.lt_of_lt_of_le (zA9 hc4) hb11)
 replace hc4 := g17.heap hc4
 replace G := G.tr g17
 clear u16 g13 hb11 hc12
 refine stp (zA0 rfl ?_)
 refine zA4 ?_
 refine zA6 ?_
 refine zC6 ?_
 refine zA6 (zA1 rfl ?_)
 refine stp (zA2 rfl ?_)
 refine stp (zI9 rfl rfl ?_)
 refine stp (zB9 rfl ?_)
 refine zA3 (zC2 (s := .bool (decide (((ptrS s seg a).2) ≠ 0))) (b := false) (v := .pointer (some ⟨b9, 0, none⟩)) rfl (zD1 _) (fun hc20 => ?_) ?_)
 ·
  have hc20_ := hc20
  try simp only [sb] at hc20_
  refine zA5 rfl ?_
  exact ⟨rfl, rfl⟩
 refine zA3 (zC2 (s := .bool (decide (((ptrS s seg a).2) ≠ 0))) (b := false) (v := .int .i64 ((ptrS s seg a).1.kind)) rfl (zD1 _) (fun hc21 => ?_) ?_)
 ·
  have hc21_ := hc21
  try simp only [sb] at hc21_
  refine zB5 (v := .int .i64 ((ptrS s seg a).1.kind)) (gvt hc21) hc15 rfl ?_
  exact ⟨rfl, rfl⟩
 refine zA3 (zC2 (s := .bool (decide (((ptrS s seg a).2) ≠ 0))) (b := false) (v := .bool (decide (((ptrS s seg a).1.kind) = 0))) rfl (zD1 _) (fun hc22 => ?_) ?_)
 ·
  have hc22_ := hc22
  try simp only [sb] at hc22_
  refine zE9 (gvt hc22) rfl ?_
  exact ⟨rfl, rfl⟩
 refine stp (zI6 rfl rfl rfl ?_)
 refine stp (zC1 rfl ?_)
 refine zA4 ?_
 refine zB8 (b := ((decide (((ptrS s seg a).2) ≠ 0)) || (decide (((ptrS s seg a).1.kind) = 0)))) rfl (fun h1 => ?_) (fun h1 => ?_)
 ·-- true
  simp only [sb] at h1
  refine zA6 (zA1 rfl ?_)
  refine stp (zD4 (v := .agg #[.int .i64 0, .int .i64 0, .int .i64 0, .int .i64 0, .int .i64 0, .int .i64 0, .int .i64 0]) (fun w => by kernel_rfl) ?_)
  refine stp (zA2 rfl ?_)
  refine stn (zB1 rfl rfl hc4 (by rfl) (by rfl) (by rfl) ?_)
  intro w23 hc24 u25
  replace hc15 := u25.heap hc15 ne19.symm
  replace G := G.upd u25 hge6
  clear u25 hc4
  refine stp (zA0 rfl ?_)
  refine zA4 ?_
  refine zC4 ?_
  refine ret2 (zC9 rfl hc24 (by rfl)) (zB3 (v := .int .u16 ((ptrS s seg a).2)) rfl) ⟨?_, G⟩
  have h9 : followS s seg a = (Ob0, (ptrS s seg a).2) := by unfold followS; rw [if_pos h1]
  rw [h9]; rfl
 ·-- false
  simp only [sb] at h1
  have hz : (ptrS s seg a).2 = 0 := by omega
  have hb := yM3 H hz
  have h1n : ¬ ((ptrS s seg a).2 ≠ 0 ∨ (ptrS s seg a).1.kind = 0) := by omega
  refine zA6 (zA1 rfl ?_)
  refine stp (zB4 rfl hc15 (by rfl) ?_)
  refine stp (zC0 (v := .bool (nearP ((ptrS s seg a).1))) rfl (zS5 _ ((ptrS s seg a).1)) ?_)
  intro w26 g27
  replace hc4 := g27.heap hc4
  replace hc15 := g27.heap hc15
  replace G := G.tr g27
  clear g27
  refine stp (zC1 rfl ?_)
  refine zA4 ?_
  refine zB8 (b := (nearP ((ptrS s seg a).1))) rfl (fun h2 => ?_) (fun h2 => ?_)
  ·-- true
   refine zA6 (zA1 rfl ?_)
   refine stp (zB6 (v := src) rfl ?_)
   refine stp (zB4 rfl hc15 (by rfl) ?_)
   refine stp (zA2 rfl ?_)
   refine stp (zA2 rfl ?_)
   refine stp (zD8 rfl rfl ?_ ?_); constructor <;> omega
   refine stp (zA5 rfl ?_)
   refine stp (zB5 (v := .int .i64 ((ptrS s seg a).1.off)) rfl hc15 rfl ?_)
   refine stp (zD8 rfl rfl ?_ ?_); constructor <;> omega
   refine stp (zC0 (v := .tuple #[.agg #[.int .i64 ((foundS s ((ptrS s seg a).1) seg ((a + 1) + ((ptrS s seg a).1.off))).1.kind), .int .i64 ((foundS s ((ptrS s seg a).1) seg ((a + 1) + ((ptrS s seg a).1.off))).1.seg), .int .i64 ((foundS s ((ptrS s seg a).1) seg ((a + 1) + ((ptrS s seg a).1.off))).1.at_), .int .i64 ((foundS s ((ptrS s seg a).1) seg ((a + 1) + ((ptrS s seg a).1.off))).1.data), .int .i64 ((foundS s ((ptrS s seg a).1) seg ((a + 1) + ((ptrS s seg a).1.off))).1.ptrs), .int .i64 ((foundS s ((ptrS s seg a).1) seg ((a + 1) + ((ptrS s seg a).1.off))).1.size), .int .i64 ((foundS s ((ptrS s seg a).1) seg ((a + 1) + ((ptrS s seg a).1.off))).1.count)], .int .u16 ((foundS s ((ptrS s seg a).1) seg ((a + 1) + ((ptrS s seg a).1.off))).2)]) rfl (zU7 _ (H.grow G) ((ptrS s seg a).1) seg ((a + 1) + ((ptrS s seg a).1.off)) hq (by simp only [inR]; omega)) ?_)
   intro w28 g29
   replace hc4 := g29.heap hc4
   replace hc15 := g29.heap hc15
   replace G := G.tr g29
   clear g29
   refine stp (zB2 (v := .agg #[.int .i64 ((foundS s ((ptrS s seg a).1) seg ((a + 1) + ((ptrS s seg a).1.off))).1.kind), .int .i64 ((foundS s ((ptrS s seg a).1) seg ((a + 1) + ((ptrS s seg a).1.off))).1.seg), .int .i64 ((foundS s ((ptrS s seg a).1) seg ((a + 1) + ((ptrS s seg a).1.off))).1.at_), .int .i64 ((foundS s ((ptrS s seg a).1) seg ((a + 1) + ((ptrS s seg a).1.off))).1.data), .int .i64 ((foundS s ((ptrS s seg a).1) seg ((a + 1) + ((ptrS s seg a).1.off))).1.ptrs), .int .i64 ((foundS s ((ptrS s seg a).1) seg ((a + 1) + ((ptrS s seg a).1.off))).1.size), .int .i64 ((foundS s ((ptrS s seg a).1) seg ((a + 1) + ((ptrS s seg a).1.off))).1.count)]) rfl rfl ?_)
   refine stp (zB2 (v := .int .u16 ((foundS s ((ptrS s seg a).1) seg ((a + 1) + ((ptrS s seg a).1.off))).2)) rfl rfl ?_)
   refine stn (zB1 rfl rfl hc4 (by rfl) (by rfl) (by rfl) ?_)
   intro w30 hc31 u32
   replace hc15 := u32.heap hc15 ne19.symm
   replace G := G.upd u32 hge6
   clear u32 hc4
   refine stp (zA0 rfl ?_)
   refine zA4 ?_
   refine zC4 ?_
   refine ret2 (zC9 rfl hc31 (by rfl)) (zB3 (v := .int .u16 ((foundS s ((ptrS s seg a).1) seg ((a + 1) + ((ptrS s seg a).1.off))).2)) rfl) ⟨?_, G⟩
   have h9 : followS s seg a = foundS s (ptrS s seg a).1 seg (a + 1 + (ptrS s seg a).1.off) := by unfold followS; rw [if_neg h1n, if_pos h2]
   rw [h9]
  ·-- false
   refine zA6 (zA1 rfl ?_)
   refine stp (zA5 rfl ?_)
   refine stp (zB5 (v := .bool ((ptrS s seg a).1.dbl)) rfl hc15 rfl ?_)
   refine stp (zC1 rfl ?_)
   refine zA4 ?_
   refine zB8 (b := ((ptrS s seg a).1.dbl)) rfl (fun h3 => ?_) (fun h3 => ?_)
   ·-- true
    refine zA6 (zA1 rfl ?_)
    refine stp (zB6 (v := src) rfl ?_)
    refine stp (zB4 rfl hc15 (by rfl) ?_)
    refine stp (zC0 (v := .tuple #[.agg #[.int .i64 ((twiceS s (ptrS s seg a).1).1.kind), .int .i64 ((twiceS s (ptrS s seg a).1).1.seg), .int .i64 ((twiceS s (ptrS s seg a).1).1.at_), .int .i64 ((twiceS s (ptrS s seg a).1).1.data), .int .i64 ((twiceS s (ptrS s seg a).1).1.ptrs), .int .i64 ((twiceS s (ptrS s seg a).1).1.size), .int .i64 ((twiceS s (ptrS s seg a).1).1.count)], .int .u16 ((twiceS s (ptrS s seg a).1).2)]) rfl (qR1 _ (H.grow G) (ptrS s seg a).1 hq) ?_)
    intro w33 g34
    replace hc4 := g34.heap hc4
    replace hc15 := g34.heap hc15
    replace G := G.tr g34
    clear g34
    refine stp (zB2 (v := .agg #[.int .i64 ((twiceS s (ptrS s seg a).1).1.kind), .int .i64 ((twiceS s (ptrS s seg a).1).1.seg), .int .i64 ((twiceS s (ptrS s seg a).1).1.at_), .int .i64 ((twiceS s (ptrS s seg a).1).1.data), .int .i64 ((twiceS s (ptrS s seg a).1).1.ptrs), .int .i64 ((twiceS s (ptrS s seg a).1).1.size), .int .i64 ((twiceS s (ptrS s seg a).1).1.count)]) rfl rfl ?_)
    refine stp (zB2 (v := .int .u16 ((twiceS s (ptrS s seg a).1).2)) rfl rfl ?_)
    refine stn (zB1 rfl rfl hc4 (by rfl) (by rfl) (by rfl) ?_)
    intro w35 hc36 u37
    replace hc15 := u37.heap hc15 ne19.symm
    replace G := G.upd u37 hge6
    clear u37 hc4
    refine stp (zA0 rfl ?_)
    refine zA4 ?_
    refine zC4 ?_
    refine ret2 (zC9 rfl hc36 (by rfl)) (zB3 (v := .int .u16 ((twiceS s (ptrS s seg a).1).2)) rfl) ⟨?_, G⟩
    have h9 : followS s seg a = twiceS s (ptrS s seg a).1 := by unfold followS; rw [if_neg h1n, if_neg (by simp [h2]), if_pos h3]
    rw [h9]
   ·-- false
    refine zC3 ?_
    refine zA6 (zA1 rfl ?_)
    refine stp (zB6 (v := src) rfl ?_)
    refine stp (zB4 rfl hc15 (by rfl) ?_)
    refine stp (zC0 (v := .tuple #[.agg #[.int .i64 ((landedS s (ptrS s seg a).1).1.kind), .int .i64 ((landedS s (ptrS s seg a).1).1.seg), .int .i64 ((landedS s (ptrS s seg a).1).1.at_), .int .i64 ((landedS s (ptrS s seg a).1).1.data), .int .i64 ((landedS s (ptrS s seg a).1).1.ptrs), .int .i64 ((landedS s (ptrS s seg a).1).1.size), .int .i64 ((landedS s (ptrS s seg a).1).1.count)], .int .u16 ((landedS s (ptrS s seg a).1).2)]) rfl (qL7 _ (H.grow G) (ptrS s seg a).1 hq) ?_)
    intro w38 g39
    replace hc4 := g39.heap hc4
    replace hc15 := g39.heap hc15
    replace G := G.tr g39
    clear g39
    refine stp (zB2 (v := .agg #[.int .i64 ((landedS s (ptrS s seg a).1).1.kind), .int .i64 ((landedS s (ptrS s seg a).1).1.seg), .int .i64 ((landedS s (ptrS s seg a).1).1.at_), .int .i64 ((landedS s (ptrS s seg a).1).1.data), .int .i64 ((landedS s (ptrS s seg a).1).1.ptrs), .int .i64 ((landedS s (ptrS s seg a).1).1.size), .int .i64 ((landedS s (ptrS s seg a).1).1.count)]) rfl rfl ?_)
    refine stp (zB2 (v := .int .u16 ((landedS s (ptrS s seg a).1).2)) rfl rfl ?_)
    refine stn (zB1 rfl rfl hc4 (by rfl) (by rfl) (by rfl) ?_)
    intro w40 hc41 u42
    replace hc15 := u42.heap hc15 ne19.symm
    replace G := G.upd u42 hge6
    clear u42 hc4
    refine stp (zA0 rfl ?_)
    refine zA4 ?_
    refine zC4 ?_
    refine ret2 (zC9 rfl hc41 (by rfl)) (zB3 (v := .int .u16 ((landedS s (ptrS s seg a).1).2)) rfl) ⟨?_, G⟩
    have h9 : followS s seg a = landedS s (ptrS s seg a).1 := by unfold followS; rw [if_neg h1n, if_neg (by simp [h2]), if_neg (by simp [h3])]
    rw [h9]

set_option maxRecDepth 100000 in
theorem qL8 (w : World) {b : Nat} {o : Ob} {left : Int} {t_ : TypeId} {u_ : Value} (hb : w.heap[b]? = some (.cells #[.iface t_ u_, .int .i64 o.kind, .int .i64 o.seg, .int .i64 o.at_, .int .i64 o.data, .int .i64 o.ptrs, .int .i64 o.size, .int .i64 o.count, .int .i64 left] 136 (0, 0))) (h0 : -1 ≤ left ∧ left ≤ 9223372036854775807) (h1 : 0 ≤ wordsO o ∧ wordsO o ≤ 536870912) : Calls Tryz.prog 62 #[.pointer (some ⟨b, 0, none⟩)] w (Ret fun v w' => v = .int .u16 (if left - (1 + wordsO o) < 0 then 22 else 0) ∧ w'.heap[b]? = some (.cells #[.iface t_ u_, .int .i64 o.kind, .int .i64 o.seg, .int .i64 o.at_, .int .i64 o.data, .int .i64 o.ptrs, .int .i64 o.size, .int .i64 o.count, .int .i64 (left - (1 + wordsO o))] 136 (0, 0)) ∧ Kp [b] w w') := by
 have K := Kp.refl [b] w
 refine zE3 Tryz.func62 Tryz.ntmps62 Tryz.results62 rfl rfl ?_
 refine zA6 (zA1 rfl ?_)
 refine stp (zA0 rfl ?_)
 refine zA4 ?_
 refine zA6 ?_
 refine zJ4 12 [[], [0], [1, 0], [2, 1, 0], [], [0], [1, 0], [2, 1, 0], [3, 2, 1, 0], [4, 3, 2, 1, 0], [9, 8, 7, 6, 5, 4, 3, 2, 1, 0], [10, 9, 8, 7, 6, 5, 4, 3, 2, 1, 0]] mixed (by kernel_rfl) (by kernel_rfl) (by kernel_rfl) ?_
 intro w1 g2
 replace hb := g2.heap hb
 replace K := K.tr g2.kp
 clear g2
 apply zB7
 ·intro w_ g_; refine og rfl ?_; refine zD6 rfl ?_; exact ⟨Grow.rfl' _, rfl⟩
 apply zB7
 ·intro w_ g_; refine og rfl ?_; refine zE1 rfl ?_; exact ⟨Grow.rfl' _, rfl⟩
 apply zB7
 ·intro w_ g_; refine og rfl ?_; refine zA5 rfl ?_; exact ⟨Grow.rfl' _, rfl⟩
 apply zB7
 ·intro w_ g_; refine og rfl ?_; refine zB5 (v := .int .i64 left) rfl (g_.heap hb) rfl ?_; exact ⟨Grow.rfl' _, rfl⟩
 apply zB7
 ·intro w_ g_; refine og rfl ?_; refine zD6 rfl ?_; exact ⟨Grow.rfl' _, rfl⟩
 apply zB7
 ·intro w_ g_; refine og rfl ?_; refine zE1 rfl ?_; exact ⟨Grow.rfl' _, rfl⟩
 apply zB7
 ·intro w_ g_; refine og rfl ?_; refine zA5 rfl ?_; exact ⟨Grow.rfl' _, rfl⟩
 apply zB7
 ·intro w_ g_; refine og rfl ?_; refine zH8 rfl (g_.heap hb) (by rfl) (by rfl) ?_; exact ⟨Grow.rfl' _, rfl⟩
 apply zB7
 ·intro w_ g_; refine og rfl ?_; exact zC0 (v := .int .i64 (wordsO o)) rfl (qL6 _ o) (fun w2_ g2_ => ⟨g2_, rfl⟩)
 apply zB7
 ·intro w_ g_; refine og rfl ?_; refine zD8 rfl rfl ?_ ?_; constructor <;> omega; exact ⟨Grow.rfl' _, rfl⟩
 apply zB7
 ·intro w_ g_; refine og rfl ?_; refine zM0 rfl rfl ?_ ?_; constructor <;> omega; exact ⟨Grow.rfl' _, rfl⟩
 apply zB7
 ·intro w_ g_; refine og rfl ?_; refine zE1 rfl ?_; exact ⟨Grow.rfl' _, rfl⟩
 refine zI5 ?_
 intro w3 g4
 replace hb := g4.heap hb
 replace K := K.tr g4.kp
 clear g4
 refine stp (zA5 rfl ?_)
 refine stn (zE0 (v := .int .i64 (left - (1 + (wordsO o)))) rfl rfl (by rfl) hb (by rfl) (by rfl) ?_)
 intro w5 hc6 u7
 replace K := K.tr (Kp.of_upd u7 (by simp))
 clear u7 hb
 refine zA4 ?_
 refine zA6 ?_
 refine zA6 (zA1 rfl ?_)
 refine stp (zD6 rfl ?_)
 refine stp (zE1 rfl ?_)
 refine stp (zA5 rfl ?_)
 refine stp (zB5 (v := .int .i64 (left - (1 + (wordsO o)))) rfl hc6 rfl ?_)
 refine stp (zF9 rfl rfl ?_)
 refine zA4 ?_
 refine zB8 (b := (decide ((left - (1 + (wordsO o))) < 0))) rfl (fun h2 => ?_) (fun h2 => ?_)
 ·-- true
  replace h2 := of_decide_eq_true h2
  refine zA6 (zA1 rfl ?_)
  refine stp (zA0 rfl ?_)
  refine zA4 ?_
  refine zC4 ?_
  refine ret1 (zB3 (v := .int .u16 22) rfl) ⟨by rw [if_pos h2], hc6, K⟩
 ·-- false
  replace h2 := of_decide_eq_false h2
  refine zC3 ?_
  refine zA6 (zA1 rfl ?_)
  refine stp (zA0 rfl ?_)
  refine zA4 ?_
  refine zC4 ?_
  refine ret1 (zB3 (v := .int .u16 0) rfl) ⟨by rw [if_neg h2], hc6, K⟩

set_option maxRecDepth 100000 in
theorem qX7 (w : World) {w0 : World} {s : Src} {t_ : TypeId} {u_ : Value} (H : SrcOk Tryz.prog w0 (.iface t_ u_) s) (g0 : Grow w0 w) {b : Nat} {o : Ob} {left k : Int} (hb0 : w0.heap.size ≤ b) (hb : w.heap[b]? = some (.cells #[.iface t_ u_, .int .i64 o.kind, .int .i64 o.seg, .int .i64 o.at_, .int .i64 o.data, .int .i64 o.ptrs, .int .i64 o.size, .int .i64 o.count, .int .i64 left] 136 (0, 0))) (ho : ObR o) (hk : 0 ≤ k) : Calls Tryz.prog 63 #[.pointer (some ⟨b, 0, none⟩), .int .i64 k] w (Ret fun v w' => v = .int .u16 (stepS s o k).2 ∧ w'.heap[b]? = some (.cells #[.iface t_ u_, .int .i64 ((stepS s o k).1.kind), .int .i64 ((stepS s o k).1.seg), .int .i64 ((stepS s o k).1.at_), .int .i64 ((stepS s o k).1.data), .int .i64 ((stepS s o k).1.ptrs), .int .i64 ((stepS s o k).1.size), .int .i64 ((stepS s o k).1.count), .int .i64 left] 136 (0, 0)) ∧ Kp [b] w w') := by
 obtain ⟨rk, rs, ra, rd, rp, rz, rc⟩ := ho
 have K := Kp.refl [b] w
 refine zE3 Tryz.func63 Tryz.ntmps63 Tryz.results63 rfl rfl ?_
 have hblt := zA9 hb
 refine zA6 (zA1 rfl ?_)
 refine stp (zA0 rfl ?_)
 refine zA4 ?_
 refine zA6 (zA1 rfl ?_)
 refine stp (zD6 rfl ?_)
 refine stp (zE1 rfl ?_)
 refine stp (zA5 rfl ?_)
 refine stp (zH8 rfl hb (by rfl) (by rfl) ?_)
 refine stp (zD3 ?_)
 intro b1 w2 hb3 hc4 g5
 refine stn (zB1 rfl rfl hc4 (by rfl) (by rfl) (by rfl) ?_)
 intro w6 hc7 u8
 have g9 := g5.upd u8 hb3
 have hge10 := Nat.le_trans K.size hb3
 replace hb := g9.heap hb
 replace K := K.tr g9.kp
 replace g0 := g0.tr g9
 clear u8 g5 hb3 hc4
 refine zA4 ?_
 refine zA6 (zA1 rfl ?_)
 refine stp (zA5 rfl ?_)
 refine stp (zB5 (v := .int .i64 o.at_) rfl hc7 rfl ?_)
 refine stp (zA2 rfl ?_)
 refine stp (zI1 rfl rfl ?_)
 obtain ⟨at9, hat9⟩ : ∃ x, x = IntKind.i64.wrap (o.at_ + k) := ⟨_, rfl⟩
 rw [← hat9]
 refine stp (zA0 rfl ?_)
 refine zA4 ?_
 refine zA6 ?_
 refine zC6 ?_
 refine zA6 (zA1 rfl ?_)
 refine stp (zA5 rfl ?_)
 refine stp (zB5 (v := .int .i64 o.kind) rfl hc7 rfl ?_)
 refine stp (zE9 rfl rfl ?_)
 refine stp (zB9 rfl ?_)
 refine zA3 (zC2 (s := .bool (decide (o.kind = 0))) (b := false) (v := .pointer (some ⟨b1, 0, none⟩)) rfl (zD1 _) (fun hc11 => ?_) ?_)
 ·
  have hc11_ := hc11
  try simp only [sb] at hc11_
  refine zA5 rfl ?_
  exact ⟨rfl, rfl⟩
 refine zA3 (zC2 (s := .bool (decide (o.kind = 0))) (b := false) (v := .int .i64 o.kind) rfl (zD1 _) (fun hc12 => ?_) ?_)
 ·
  have hc12_ := hc12
  try simp only [sb] at hc12_
  refine zB5 (v := .int .i64 o.kind) (gvt hc12) hc7 rfl ?_
  exact ⟨rfl, rfl⟩
 refine zA3 (zC2 (s := .bool (decide (o.kind = 0))) (b := false) (v := .bool (decide (o.kind = 1))) rfl (zD1 _) (fun hc13 => ?_) ?_)
 ·
  have hc13_ := hc13
  try simp only [sb] at hc13_
  refine zE9 (gvt hc13) rfl ?_
  exact ⟨rfl, rfl⟩
 refine zA3 (zC2 (s := .bool (decide (o.kind = 0))) (b := false) (v := .bool (decide (o.kind = 1))) rfl (zD1 _) (fun hc14 => ?_) ?_)
 ·
  have hc14_ := hc14
  try simp only [sb] at hc14_
  refine zB6 (v := .bool (decide (o.kind = 1))) (gvt hc14) ?_
  exact ⟨rfl, rfl⟩
 refine zA3 (zC2 (s := gv (!(decide (o.kind = 0))) (.bool (decide (o.kind = 1)))) (b := true) (v := .int .i64 k) rfl (zK4 _ _) (fun hc15 => ?_) ?_)
 ·
  obtain ⟨hc15a, hc15b⟩ := and_t hc15
  have hc15a_ := hc15a
  try simp only [sb] at hc15a_
  have hc15b_ := of_decide_eq_true hc15b
  refine zA2 rfl ?_
  exact ⟨rfl, rfl⟩
 refine zA3 (zC2 (s := gv (!(decide (o.kind = 0))) (.bool (decide (o.kind = 1)))) (b := true) (v := .pointer (some ⟨b1, 4, none⟩)) rfl (zK4 _ _) (fun hc16 => ?_) ?_)
 ·
  obtain ⟨hc16a, hc16b⟩ := and_t hc16
  have hc16a_ := hc16a
  try simp only [sb] at hc16a_
  have hc16b_ := of_decide_eq_true hc16b
  refine zA5 rfl ?_
  exact ⟨rfl, rfl⟩
 refine zA3 (zC2 (s := gv (!(decide (o.kind = 0))) (.bool (decide (o.kind = 1)))) (b := true) (v := .int .i64 o.ptrs) rfl (zK4 _ _) (fun hc17 => ?_) ?_)
 ·
  obtain ⟨hc17a, hc17b⟩ := and_t hc17
  have hc17a_ := hc17a
  try simp only [sb] at hc17a_
  have hc17b_ := of_decide_eq_true hc17b
  refine zB5 (v := .int .i64 o.ptrs) (gvt hc17) hc7 rfl ?_
  exact ⟨rfl, rfl⟩
 refine zA3 (zC2 (s := gv (!(decide (o.kind = 0))) (.bool (decide (o.kind = 1)))) (b := true) (v := .bool (decide (k ≥ o.ptrs))) rfl (zK4 _ _) (fun hc18 => ?_) ?_)
 ·
  obtain ⟨hc18a, hc18b⟩ := and_t hc18
  have hc18a_ := hc18a
  try simp only [sb] at hc18a_
  have hc18b_ := of_decide_eq_true hc18b
  refine zL7 (gvt hc18) (gvt hc18) ?_
  exact ⟨rfl, rfl⟩
 refine zA3 (zC2 (s := .bool (decide (o.kind = 0))) (b := false) (v := .bool ((decide (o.kind = 1)) && (decide (k ≥ o.ptrs)))) rfl (zD1 _) (fun hc19 => ?_) ?_)
 ·
  have hc19_ := hc19
  try simp only [sb] at hc19_
  refine zZ3 hc19 (gvt hc19) rfl rfl ?_
  exact ⟨rfl, rfl⟩
 refine stp (zI6 rfl rfl rfl ?_)
 refine stp (zC1 rfl ?_)
 refine zA4 ?_
 refine zB8 (b := ((decide (o.kind = 0)) || ((decide (o.kind = 1)) && (decide (k ≥ o.ptrs))))) rfl (fun h1 => ?_) (fun h1 => ?_)
 ·-- true
  simp only [sb] at h1
  refine zA6 (zA1 rfl ?_)
  refine stp (zD6 rfl ?_)
  refine stp (zD4 (v := .agg #[.int .i64 0, .int .i64 0, .int .i64 0, .int .i64 0, .int .i64 0, .int .i64 0, .int .i64 0]) (fun w => by kernel_rfl) ?_)
  refine stp (zE1 rfl ?_)
  refine stp (zA5 rfl ?_)
  refine stn (qB5 (cs' := #[.iface t_ u_, .int .i64 0, .int .i64 0, .int .i64 0, .int .i64 0, .int .i64 0, .int .i64 0, .int .i64 0, .int .i64 left]) rfl rfl (by rfl) hb (by rfl) (by rfl) (by rfl) (by rfl) ?_)
  intro w20 hc21 u22
  replace K := K.tr (Kp.of_upd u22 (by simp))
  replace g0 := g0.kp1 (Kp.of_upd u22 (by simp)) hb0
  clear u22 hb
  refine zA4 ?_
  refine zA6 (zA1 rfl ?_)
  refine stp (zA0 rfl ?_)
  refine zA4 ?_
  refine zC4 ?_
  have h9 : stepS s o k = (Ob0, 0) := by unfold stepS; rw [if_pos h1]
  refine ret1 (zB3 (v := .int .u16 0) rfl) ⟨by rw [h9], by rw [h9]; exact hc21, K⟩
 ·-- false
  simp only [sb] at h1
  have h1n : ¬ (o.kind = 0 ∨ o.kind = 1 ∧ k ≥ o.ptrs) := by omega
  refine zA6 (zA1 rfl ?_)
  refine stp (zA5 rfl ?_)
  refine stp (zB5 (v := .int .i64 o.kind) rfl hc7 rfl ?_)
  refine stp (zE9 rfl rfl ?_)
  refine stp (zC1 rfl ?_)
  refine zA4 ?_
  refine zB8 (b := (decide (o.kind = 1))) rfl (fun h2 => ?_) (fun h2 => ?_)
  ·-- true
   replace h2 := of_decide_eq_true h2
   have hat8 : at9 = o.at_ + k := by rw [hat9]; exact zK9 (by simp only [inR]; omega)
   refine zA1 rfl ?_
   refine stp (zA2 rfl ?_)
   refine stp (zA5 rfl ?_)
   refine stp (zB5 (v := .int .i64 o.data) rfl hc7 rfl ?_)
   refine stp (zD8 rfl rfl ?_ ?_); constructor <;> omega
   refine stp (zA0 rfl ?_)
   refine zA4 ?_
   refine zA6 ?_
   have kb_hc7 : ∀ w_, Kp [b] w6 w_ → w_.heap[b1]? = some (.cells #[.int .i64 o.kind, .int .i64 o.seg, .int .i64 o.at_, .int .i64 o.data, .int .i64 o.ptrs, .int .i64 o.size, .int .i64 o.count] 93 (0, 0)) := fun w_ k_ => k_.heap hc7 (fun hm_ => by simp only [List.mem_singleton] at hm_; have := hge10; omega)
   have kb_g0 : ∀ w_, Kp [b] w6 w_ → Grow w0 w_ := fun w_ k_ => g0.kp1 k_ hb0
   have kb_K : ∀ w_, Kp [b] w6 w_ → Kp [b] w w_ := fun w_ k_ => K.tr k_
   refine yL0 15 [[], [], [0], [1, 0], [2, 1, 0], [], [0], [], [6, 5, 4, 3, 2, 1, 0], [7, 6, 5, 4, 3, 2, 1, 0], [8, 7, 6, 5, 4, 3, 2, 1, 0], [9, 8, 7, 6, 5, 4, 3, 2, 1], [11, 10, 9, 8, 7, 6, 5, 4, 3, 2, 1], [12, 11, 10, 9, 8, 7, 6, 5, 4, 3, 2, 0], [13, 12, 11, 10, 9, 8, 7, 6, 5, 4, 3, 1, 0]] [4, 14] [b] (fun k_ w_ => match k_ with | 0 => w_.heap[b]? = some (.cells #[.iface t_ u_, .int .i64 o.kind, .int .i64 o.seg, .int .i64 o.at_, .int .i64 o.data, .int .i64 o.ptrs, .int .i64 o.size, .int .i64 o.count, .int .i64 left] 136 (0, 0)) | 1 => w_.heap[b]? = some (.cells #[.iface t_ u_, .int .i64 o.kind, .int .i64 o.seg, .int .i64 o.at_, .int .i64 o.data, .int .i64 o.ptrs, .int .i64 o.size, .int .i64 o.count, .int .i64 left] 136 (0, 0)) | _ => w_.heap[b]? = some (.cells #[.iface t_ u_, .int .i64 ((followS s o.seg (at9 + o.data)).1.kind), .int .i64 ((followS s o.seg (at9 + o.data)).1.seg), .int .i64 ((followS s o.seg (at9 + o.data)).1.at_), .int .i64 ((followS s o.seg (at9 + o.data)).1.data), .int .i64 ((followS s o.seg (at9 + o.data)).1.ptrs), .int .i64 ((followS s o.seg (at9 + o.data)).1.size), .int .i64 ((followS s o.seg (at9 + o.data)).1.count), .int .i64 left] 136 (0, 0))) mixed (by kernel_rfl) (by kernel_rfl) (by kernel_rfl) (by kernel_rfl) (fun k_ w_ w2_ g_ h_ => match k_, h_ with | 0, h_ => g_.heap h_ | 1, h_ => g_.heap h_ | n_ + 2, h_ => g_.heap h_) (fun w_ g_ => g_.heap hb) ?_
   intro w23 g24
   replace kb_hc7 : ∀ w_, Kp [b] w23 w_ → w_.heap[b1]? = some (.cells #[.int .i64 o.kind, .int .i64 o.seg, .int .i64 o.at_, .int .i64 o.data, .int .i64 o.ptrs, .int .i64 o.size, .int .i64 o.count] 93 (0, 0)) := fun w_ k_ => kb_hc7 w_ (g24.kp.tr k_)
   replace kb_g0 : ∀ w_, Kp [b] w23 w_ → Grow w0 w_ := fun w_ k_ => kb_g0 w_ (g24.kp.tr k_)
   replace kb_K : ∀ w_, Kp [b] w23 w_ → Kp [b] w w_ := fun w_ k_ => kb_K w_ (g24.kp.tr k_)
   have k0_ : Kp [b] w6 w23 := g24.kp
   apply zJ1 (hm := by rfl)
   ·intro w_ g_; refine og rfl ?_; refine zD6 rfl ?_; exact ⟨Grow.rfl' _, rfl⟩
   apply zJ1 (hm := by rfl)
   ·intro w_ g_; refine og rfl ?_; refine zD6 rfl ?_; exact ⟨Grow.rfl' _, rfl⟩
   apply zJ1 (hm := by rfl)
   ·intro w_ g_; refine og rfl ?_; refine zE1 rfl ?_; exact ⟨Grow.rfl' _, rfl⟩
   apply zJ1 (hm := by rfl)
   ·intro w_ g_; refine og rfl ?_; refine zA5 rfl ?_; exact ⟨Grow.rfl' _, rfl⟩
   apply qH4 0 (hm := by rfl)
   ·intro w_ g_ s_
    refine og rfl ?_
    refine zB5 (v := .iface t_ u_) rfl s_ rfl ?_
    exact ⟨Kp.of_grow (Grow.rfl' _), s_, rfl⟩
   apply zJ1 (hm := by rfl)
   ·intro w_ g_; refine og rfl ?_; refine zA5 rfl ?_; exact ⟨Grow.rfl' _, rfl⟩
   apply zJ1 (hm := by rfl)
   ·intro w_ g_; refine og rfl ?_; refine zB5 (v := .int .i64 o.seg) rfl (kb_hc7 _ g_) rfl ?_; exact ⟨Grow.rfl' _, rfl⟩
   apply zJ1 (hm := by rfl)
   ·intro w_ g_; refine og rfl ?_; refine zA2 rfl ?_; exact ⟨Grow.rfl' _, rfl⟩
   apply zJ1 (hm := by rfl)
   ·intro w_ g_; refine og rfl ?_; exact zC0 (v := .tuple #[.agg #[.int .i64 ((followS s o.seg (at9 + o.data)).1.kind), .int .i64 ((followS s o.seg (at9 + o.data)).1.seg), .int .i64 ((followS s o.seg (at9 + o.data)).1.at_), .int .i64 ((followS s o.seg (at9 + o.data)).1.data), .int .i64 ((followS s o.seg (at9 + o.data)).1.ptrs), .int .i64 ((followS s o.seg (at9 + o.data)).1.size), .int .i64 ((followS s o.seg (at9 + o.data)).1.count)], .int .u16 ((followS s o.seg (at9 + o.data)).2)]) rfl (zS6 _ (H.grow (kb_g0 _ g_)) o.seg (at9 + o.data)) (fun w2_ g2_ => ⟨g2_, rfl⟩)
   apply zJ1 (hm := by rfl)
   ·intro w_ g_; refine og rfl ?_; refine zB6 (v := .tuple #[.agg #[.int .i64 ((followS s o.seg (at9 + o.data)).1.kind), .int .i64 ((followS s o.seg (at9 + o.data)).1.seg), .int .i64 ((followS s o.seg (at9 + o.data)).1.at_), .int .i64 ((followS s o.seg (at9 + o.data)).1.data), .int .i64 ((followS s o.seg (at9 + o.data)).1.ptrs), .int .i64 ((followS s o.seg (at9 + o.data)).1.size), .int .i64 ((followS s o.seg (at9 + o.data)).1.count)], .int .u16 ((followS s o.seg (at9 + o.data)).2)]) rfl ?_; exact ⟨Grow.rfl' _, rfl⟩
   apply zJ1 (hm := by rfl)
   ·intro w_ g_; refine og rfl ?_; refine zB2 (v := .agg #[.int .i64 ((followS s o.seg (at9 + o.data)).1.kind), .int .i64 ((followS s o.seg (at9 + o.data)).1.seg), .int .i64 ((followS s o.seg (at9 + o.data)).1.at_), .int .i64 ((followS s o.seg (at9 + o.data)).1.data), .int .i64 ((followS s o.seg (at9 + o.data)).1.ptrs), .int .i64 ((followS s o.seg (at9 + o.data)).1.size), .int .i64 ((followS s o.seg (at9 + o.data)).1.count)]) rfl rfl ?_; exact ⟨Grow.rfl' _, rfl⟩
   apply zJ1 (hm := by rfl)
   ·intro w_ g_; refine og rfl ?_; refine zB2 (v := .int .u16 ((followS s o.seg (at9 + o.data)).2)) rfl rfl ?_; exact ⟨Grow.rfl' _, rfl⟩
   apply zJ1 (hm := by rfl)
   ·intro w_ g_; refine og rfl ?_; refine zE1 rfl ?_; exact ⟨Grow.rfl' _, rfl⟩
   apply zJ1 (hm := by rfl)
   ·intro w_ g_; refine og rfl ?_; refine zA5 rfl ?_; exact ⟨Grow.rfl' _, rfl⟩
   apply qH4 1 (hm := by rfl)
   ·intro w_ g_ s_
    refine og rfl ?_
    refine qB5 (cs' := #[.iface t_ u_, .int .i64 ((followS s o.seg (at9 + o.data)).1.kind), .int .i64 ((followS s o.seg (at9 + o.data)).1.seg), .int .i64 ((followS s o.seg (at9 + o.data)).1.at_), .int .i64 ((followS s o.seg (at9 + o.data)).1.data), .int .i64 ((followS s o.seg (at9 + o.data)).1.ptrs), .int .i64 ((followS s o.seg (at9 + o.data)).1.size), .int .i64 ((followS s o.seg (at9 + o.data)).1.count), .int .i64 left]) rfl rfl (by rfl) s_ (by rfl) (by rfl) (by rfl) (by rfl) ?_
    intro w2_ s2_ u_
    exact ⟨Kp.of_upd u_ (by simp), s2_, rfl⟩
   refine yB3 ?_
   intro w25 g26 S_
   replace k0_ := (k0_.tr g26)
   have hb9 := S_
   clear S_
   replace hc7 := kb_hc7 _ g26
   clear kb_hc7
   replace g0 := kb_g0 _ g26
   clear kb_g0
   replace K := kb_K _ g26
   clear kb_K
   refine stp (zA0 rfl ?_)
   refine zA4 ?_
   refine zA6 (zA1 rfl ?_)
   refine stp (zA2 rfl ?_)
   refine stp (zA0 rfl ?_)
   refine zA4 ?_
   refine zC4 ?_
   have h9 : stepS s o k = followS s o.seg (at9 + o.data) := by unfold stepS; rw [if_neg h1n, if_pos h2, hat8]
   refine ret1 (zB3 (v := .int .u16 ((followS s o.seg (at9 + o.data)).2)) rfl) ⟨by rw [h9], by rw [h9]; exact hb9, K⟩
  ·-- false
   replace h2 := of_decide_eq_false h2
   refine zA6 (zA1 rfl ?_)
   refine stp (zA5 rfl ?_)
   refine stp (zB5 (v := .int .i64 o.size) rfl hc7 rfl ?_)
   refine stp (zI9 rfl rfl ?_)
   refine stp (zC1 rfl ?_)
   refine zA4 ?_
   refine zB8 (b := (decide (o.size ≠ 6))) rfl (fun h3 => ?_) (fun h3 => ?_)
   ·-- true
    replace h3 := of_decide_eq_true h3
    refine zA6 (zA1 rfl ?_)
    refine stp (zA0 rfl ?_)
    refine zA4 ?_
    refine zC4 ?_
    have h9 : stepS s o k = (o, 23) := by unfold stepS; rw [if_neg h1n, if_neg h2, if_pos h3]
    refine ret1 (zB3 (v := .int .u16 23) rfl) ⟨by rw [h9], by rw [h9]; exact hb, K⟩
   ·-- false
    replace h3 := of_decide_eq_false h3
    refine zA6 (zA1 rfl ?_)
    refine stp (zA2 rfl ?_)
    refine stp (zA5 rfl ?_)
    refine stp (zB5 (v := .int .i64 o.count) rfl hc7 rfl ?_)
    refine stp (zL7 rfl rfl ?_)
    refine stp (zC1 rfl ?_)
    refine zA4 ?_
    refine zB8 (b := (decide (k ≥ o.count))) rfl (fun h4 => ?_) (fun h4 => ?_)
    ·-- true
     replace h4 := of_decide_eq_true h4
     refine zA6 (zA1 rfl ?_)
     refine stp (zA0 rfl ?_)
     refine zA4 ?_
     refine zC4 ?_
     have h9 : stepS s o k = (o, 20) := by unfold stepS; rw [if_neg h1n, if_neg h2, if_neg h3, if_pos h4]
     refine ret1 (zB3 (v := .int .u16 20) rfl) ⟨by rw [h9], by rw [h9]; exact hb, K⟩
    ·-- false
     replace h4 := of_decide_eq_false h4
     have hat8 : at9 = o.at_ + k := by rw [hat9]; exact zK9 (by simp only [inR]; omega)
     refine zC3 ?_
     refine zA6 ?_
     have kb_hc7 : ∀ w_, Kp [b] w6 w_ → w_.heap[b1]? = some (.cells #[.int .i64 o.kind, .int .i64 o.seg, .int .i64 o.at_, .int .i64 o.data, .int .i64 o.ptrs, .int .i64 o.size, .int .i64 o.count] 93 (0, 0)) := fun w_ k_ => k_.heap hc7 (fun hm_ => by simp only [List.mem_singleton] at hm_; have := hge10; omega)
     have kb_g0 : ∀ w_, Kp [b] w6 w_ → Grow w0 w_ := fun w_ k_ => g0.kp1 k_ hb0
     have kb_K : ∀ w_, Kp [b] w6 w_ → Kp [b] w w_ := fun w_ k_ => K.tr k_
     refine yL0 15 [[], [], [0], [1, 0], [2, 1, 0], [], [0], [], [6, 5, 4, 3, 2, 1, 0], [7, 6, 5, 4, 3, 2, 1, 0], [8, 7, 6, 5, 4, 3, 2, 1, 0], [9, 8, 7, 6, 5, 4, 3, 2, 1], [11, 10, 9, 8, 7, 6, 5, 4, 3, 2, 1], [12, 11, 10, 9, 8, 7, 6, 5, 4, 3, 2, 0], [13, 12, 11, 10, 9, 8, 7, 6, 5, 4, 3, 1, 0]] [4, 14] [b] (fun k_ w_ => match k_ with | 0 => w_.heap[b]? = some (.cells #[.iface t_ u_, .int .i64 o.kind, .int .i64 o.seg, .int .i64 o.at_, .int .i64 o.data, .int .i64 o.ptrs, .int .i64 o.size, .int .i64 o.count, .int .i64 left] 136 (0, 0)) | 1 => w_.heap[b]? = some (.cells #[.iface t_ u_, .int .i64 o.kind, .int .i64 o.seg, .int .i64 o.at_, .int .i64 o.data, .int .i64 o.ptrs, .int .i64 o.size, .int .i64 o.count, .int .i64 left] 136 (0, 0)) | _ => w_.heap[b]? = some (.cells #[.iface t_ u_, .int .i64 ((followS s o.seg at9).1.kind), .int .i64 ((followS s o.seg at9).1.seg), .int .i64 ((followS s o.seg at9).1.at_), .int .i64 ((followS s o.seg at9).1.data), .int .i64 ((followS s o.seg at9).1.ptrs), .int .i64 ((followS s o.seg at9).1.size), .int .i64 ((followS s o.seg at9).1.count), .int .i64 left] 136 (0, 0))) mixed (by kernel_rfl) (by kernel_rfl) (by kernel_rfl) (by kernel_rfl) (fun k_ w_ w2_ g_ h_ => match k_, h_ with | 0, h_ => g_.heap h_ | 1, h_ => g_.heap h_ | n_ + 2, h_ => g_.heap h_) (fun w_ g_ => g_.heap hb) ?_
     intro w27 g28
     replace kb_hc7 : ∀ w_, Kp [b] w27 w_ → w_.heap[b1]? = some (.cells #[.int .i64 o.kind, .int .i64 o.seg, .int .i64 o.at_, .int .i64 o.data, .int .i64 o.ptrs, .int .i64 o.size, .int .i64 o.count] 93 (0, 0)) := fun w_ k_ => kb_hc7 w_ (g28.kp.tr k_)
     replace kb_g0 : ∀ w_, Kp [b] w27 w_ → Grow w0 w_ := fun w_ k_ => kb_g0 w_ (g28.kp.tr k_)
     replace kb_K : ∀ w_, Kp [b] w27 w_ → Kp [b] w w_ := fun w_ k_ => kb_K w_ (g28.kp.tr k_)
     have k0_ : Kp [b] w6 w27 := g28.kp
     apply zJ1 (hm := by rfl)
     ·intro w_ g_; refine og rfl ?_; refine zD6 rfl ?_; exact ⟨Grow.rfl' _, rfl⟩
     apply zJ1 (hm := by rfl)
     ·intro w_ g_; refine og rfl ?_; refine zD6 rfl ?_; exact ⟨Grow.rfl' _, rfl⟩
     apply zJ1 (hm := by rfl)
     ·intro w_ g_; refine og rfl ?_; refine zE1 rfl ?_; exact ⟨Grow.rfl' _, rfl⟩
     apply zJ1 (hm := by rfl)
     ·intro w_ g_; refine og rfl ?_; refine zA5 rfl ?_; exact ⟨Grow.rfl' _, rfl⟩
     apply qH4 0 (hm := by rfl)
     ·intro w_ g_ s_
      refine og rfl ?_
      refine zB5 (v := .iface t_ u_) rfl s_ rfl ?_
      exact ⟨Kp.of_grow (Grow.rfl' _), s_, rfl⟩
     apply zJ1 (hm := by rfl)
     ·intro w_ g_; refine og rfl ?_; refine zA5 rfl ?_; exact ⟨Grow.rfl' _, rfl⟩
     apply zJ1 (hm := by rfl)
     ·intro w_ g_; refine og rfl ?_; refine zB5 (v := .int .i64 o.seg) rfl (kb_hc7 _ g_) rfl ?_; exact ⟨Grow.rfl' _, rfl⟩
     apply zJ1 (hm := by rfl)
     ·intro w_ g_; refine og rfl ?_; refine zA2 rfl ?_; exact ⟨Grow.rfl' _, rfl⟩
     apply zJ1 (hm := by rfl)
     ·intro w_ g_; refine og rfl ?_; exact zC0 (v := .tuple #[.agg #[.int .i64 ((followS s o.seg at9).1.kind), .int .i64 ((followS s o.seg at9).1.seg), .int .i64 ((followS s o.seg at9).1.at_), .int .i64 ((followS s o.seg at9).1.data), .int .i64 ((followS s o.seg at9).1.ptrs), .int .i64 ((followS s o.seg at9).1.size), .int .i64 ((followS s o.seg at9).1.count)], .int .u16 ((followS s o.seg at9).2)]) rfl (zS6 _ (H.grow (kb_g0 _ g_)) o.seg at9) (fun w2_ g2_ => ⟨g2_, rfl⟩)
     apply zJ1 (hm := by rfl)
     ·intro w_ g_; refine og rfl ?_; refine zB6 (v := .tuple #[.agg #[.int .i64 ((followS s o.seg at9).1.kind), .int .i64 ((followS s o.seg at9).1.seg), .int .i64 ((followS s o.seg at9).1.at_), .int .i64 ((followS s o.seg at9).1.data), .int .i64 ((followS s o.seg at9).1.ptrs), .int .i64 ((followS s o.seg at9).1.size), .int .i64 ((followS s o.seg at9).1.count)], .int .u16 ((followS s o.seg at9).2)]) rfl ?_; exact ⟨Grow.rfl' _, rfl⟩
     apply zJ1 (hm := by rfl)
     ·intro w_ g_; refine og rfl ?_; refine zB2 (v := .agg #[.int .i64 ((followS s o.seg at9).1.kind), .int .i64 ((followS s o.seg at9).1.seg), .int .i64 ((followS s o.seg at9).1.at_), .int .i64 ((followS s o.seg at9).1.data), .int .i64 ((followS s o.seg at9).1.ptrs), .int .i64 ((followS s o.seg at9).1.size), .int .i64 ((followS s o.seg at9).1.count)]) rfl rfl ?_; exact ⟨Grow.rfl' _, rfl⟩
     apply zJ1 (hm := by rfl)
     ·intro w_ g_; refine og rfl ?_; refine zB2 (v := .int .u16 ((followS s o.seg at9).2)) rfl rfl ?_; exact ⟨Grow.rfl' _, rfl⟩
     apply zJ1 (hm := by rfl)
     ·intro w_ g_; refine og rfl ?_; refine zE1 rfl ?_; exact ⟨Grow.rfl' _, rfl⟩
     apply zJ1 (hm := by rfl)
     ·intro w_ g_; refine og rfl ?_; refine zA5 rfl ?_; exact ⟨Grow.rfl' _, rfl⟩
     apply qH4 1 (hm := by rfl)
     ·intro w_ g_ s_
      refine og rfl ?_
      refine qB5 (cs' := #[.iface t_ u_, .int .i64 ((followS s o.seg at9).1.kind), .int .i64 ((followS s o.seg at9).1.seg), .int .i64 ((followS s o.seg at9).1.at_), .int .i64 ((followS s o.seg at9).1.data), .int .i64 ((followS s o.seg at9).1.ptrs), .int .i64 ((followS s o.seg at9).1.size), .int .i64 ((followS s o.seg at9).1.count), .int .i64 left]) rfl rfl (by rfl) s_ (by rfl) (by rfl) (by rfl) (by rfl) ?_
      intro w2_ s2_ u_
      exact ⟨Kp.of_upd u_ (by simp), s2_, rfl⟩
     refine yB3 ?_
     intro w29 g30 S_
     replace k0_ := (k0_.tr g30)
     have hb9 := S_
     clear S_
     replace hc7 := kb_hc7 _ g30
     clear kb_hc7
     replace g0 := kb_g0 _ g30
     clear kb_g0
     replace K := kb_K _ g30
     clear kb_K
     refine stp (zA0 rfl ?_)
     refine zA4 ?_
     refine zA6 (zA1 rfl ?_)
     refine stp (zA2 rfl ?_)
     refine stp (zA0 rfl ?_)
     refine zA4 ?_
     refine zC4 ?_
     have h9 : stepS s o k = followS s o.seg at9 := by unfold stepS; rw [if_neg h1n, if_neg h2, if_neg h3, if_neg h4, hat8]
     refine ret1 (zB3 (v := .int .u16 ((followS s o.seg at9).2)) rfl) ⟨by rw [h9], by rw [h9]; exact hb9, K⟩

set_option maxRecDepth 100000 in
theorem yI9 (w : World) {b : Nat} {o : Ob} {left : Int} {t_ : TypeId} {u_ : Value} (hb : w.heap[b]? = some (.cells #[.iface t_ u_, .int .i64 o.kind, .int .i64 o.seg, .int .i64 o.at_, .int .i64 o.data, .int .i64 o.ptrs, .int .i64 o.size, .int .i64 o.count, .int .i64 left] 136 (0, 0))) : Gives Tryz.prog 64 #[.pointer (some ⟨b, 0, none⟩)] w (.agg #[.int .i64 ((isS o).kind), .int .i64 ((isS o).size), .int .i64 ((isS o).words), .int .i64 ((isS o).kids), .int .u64 ((isS o).word)]) := by
 have G := Grow.rfl' w
 refine zC7 Tryz.func64 Tryz.ntmps64 Tryz.results64 rfl rfl ?_
 refine zA6 (zA1 rfl ?_)
 refine stp (zD3 ?_)
 intro b1 w2 hb3 hc4 g5
 refine zA4 ?_
 refine zA6 (zA1 rfl ?_)
 refine stp (zD6 rfl ?_)
 refine stp (zE1 rfl ?_)
 refine stp (zA5 rfl ?_)
 have hge6 := Nat.le_trans G.size hb3
 have ne7 := Nat.ne_of_lt (Nat.lt_of_lt_of_le (zA9 hb) hb3)
 replace hb := g5.heap hb
 replace G := G.tr g5
 clear g5 hb3
 refine stp (zH8 rfl hb (by rfl) (by rfl) ?_)
 refine stp (zD3 ?_)
 intro b8 w9 hb10 hc11 g12
 refine stn (zB1 rfl rfl hc11 (by rfl) (by rfl) (by rfl) ?_)
 intro w13 hc14 u15
 have g16 := g12.upd u15 hb10
 have hge17 := Nat.le_trans G.size hb10
 have ne18 := Nat.ne_of_lt (Nat.lt_of_lt_of_le (zA9 hb) hb10)
 have ne19 := Nat.ne_of_lt (Nat.lt_of_lt_of_le (zA9 hc4) hb10)
 replace hb := g16.heap hb
 replace hc4 := g16.heap hc4
 replace G := G.tr g16
 clear u15 g12 hb10 hc11
 refine zA4 ?_
 refine zA6 (zA1 rfl ?_)
 refine stp (zA5 rfl ?_)
 refine stp (zB5 (v := .int .i64 o.kind) rfl hc14 rfl ?_)
 refine stp (zA5 rfl ?_)
 refine stp (zB5 (v := .int .i64 o.size) rfl hc14 rfl ?_)
 refine stp (zA5 rfl ?_)
 refine stp (zB5 (v := .int .i64 o.data) rfl hc14 rfl ?_)
 refine stp (zA5 rfl ?_)
 refine stp (zB5 (v := .int .i64 o.ptrs) rfl hc14 rfl ?_)
 refine stp (zD4 (v := .agg #[.int .i64 o.kind, .int .i64 o.size, .int .i64 o.data, .int .i64 o.ptrs, .int .u64 0]) (fun w => by kernel_rfl) ?_)
 refine stp (zD3 ?_)
 intro b20 w21 hb22 hc23 g24
 refine stn (zB1 rfl rfl hc23 (by rfl) (by rfl) (by rfl) ?_)
 intro w25 hc26 u27
 have g28 := g24.upd u27 hb22
 have hge29 := Nat.le_trans G.size hb22
 have ne30 := Nat.ne_of_lt (Nat.lt_of_lt_of_le (zA9 hb) hb22)
 have ne31 := Nat.ne_of_lt (Nat.lt_of_lt_of_le (zA9 hc4) hb22)
 have ne32 := Nat.ne_of_lt (Nat.lt_of_lt_of_le (zA9 hc14) hb22)
 replace hb := g28.heap hb
 replace hc4 := g28.heap hc4
 replace hc14 := g28.heap hc14
 replace G := G.tr g28
 clear u27 g24 hb22 hc23
 refine zA4 ?_
 refine zA6 ?_
 refine zC6 ?_
 refine zA6 (zA1 rfl ?_)
 refine stp (zA5 rfl ?_)
 refine stp (zB5 (v := .int .i64 o.kind) rfl hc14 rfl ?_)
 refine stp (zI9 rfl rfl ?_)
 refine stp (zC1 rfl ?_)
 refine zA4 ?_
 refine zB8 (b := (decide (o.kind ≠ 2))) rfl (fun h1 => ?_) (fun h1 => ?_)
 ·-- true
  replace h1 := of_decide_eq_true h1
  refine zC3 ?_
  refine zA6 (zA1 rfl ?_)
  refine stp (zB4 rfl hc26 (by rfl) ?_)
  refine stn (zB1 rfl rfl hc4 (by rfl) (by rfl) (by rfl) ?_)
  intro w33 hc34 u35
  replace hb := u35.heap hb ne7
  replace hc14 := u35.heap hc14 ne19.symm
  replace hc26 := u35.heap hc26 ne31.symm
  replace G := G.upd u35 hge6
  clear u35 hc4
  refine zA4 ?_
  refine zC4 ?_
  refine ret1 (zC9 rfl hc34 (by rfl)) ⟨?_, G⟩
  simp [isS, *]
 ·-- false
  replace h1 := of_decide_eq_false h1
  refine zA6 (zA1 rfl ?_)
  refine stp (zA5 rfl ?_)
  refine stp (zB5 (v := .int .i64 o.size) rfl hc14 rfl ?_)
  refine stp (zE9 rfl rfl ?_)
  refine stp (zC1 rfl ?_)
  refine zA4 ?_
  refine zB8 (b := (decide (o.size = 6))) rfl (fun h2 => ?_) (fun h2 => ?_)
  ·-- true
   replace h2 := of_decide_eq_true h2
   refine zA1 rfl ?_
   refine stp (zA5 rfl ?_)
   refine stp (zB5 (v := .int .i64 o.count) rfl hc14 rfl ?_)
   refine stp (zA5 rfl ?_)
   refine stn (zE0 (v := .int .i64 o.count) rfl rfl (by rfl) hc26 (by rfl) (by rfl) ?_)
   intro w36 hc37 u38
   replace hb := u38.heap hb ne30
   replace hc4 := u38.heap hc4 ne31
   replace hc14 := u38.heap hc14 ne32
   replace G := G.upd u38 hge29
   clear u38 hc26
   refine zA4 ?_
   refine zA6 (zA1 rfl ?_)
   refine stp (zB4 rfl hc37 (by rfl) ?_)
   refine stn (zB1 rfl rfl hc4 (by rfl) (by rfl) (by rfl) ?_)
   intro w39 hc40 u41
   replace hb := u41.heap hb ne7
   replace hc14 := u41.heap hc14 ne19.symm
   replace hc37 := u41.heap hc37 ne31.symm
   replace G := G.upd u41 hge6
   clear u41 hc4
   refine zA4 ?_
   refine zC4 ?_
   refine ret1 (zC9 rfl hc40 (by rfl)) ⟨?_, G⟩
   simp [isS, *]
  ·-- false
   replace h2 := of_decide_eq_false h2
   refine zA1 rfl ?_
   refine stp (zA5 rfl ?_)
   refine stp (zB5 (v := .int .i64 o.count) rfl hc14 rfl ?_)
   refine stp (zA5 rfl ?_)
   refine stn (zE0 (v := .int .i64 o.count) rfl rfl (by rfl) hc26 (by rfl) (by rfl) ?_)
   intro w42 hc43 u44
   replace hb := u44.heap hb ne30
   replace hc4 := u44.heap hc4 ne31
   replace hc14 := u44.heap hc14 ne32
   replace G := G.upd u44 hge29
   clear u44 hc26
   refine zA4 ?_
   refine zA6 (zA1 rfl ?_)
   refine stp (zB4 rfl hc43 (by rfl) ?_)
   refine stn (zB1 rfl rfl hc4 (by rfl) (by rfl) (by rfl) ?_)
   intro w45 hc46 u47
   replace hb := u47.heap hb ne7
   replace hc14 := u47.heap hc14 ne19.symm
   replace hc43 := u47.heap hc43 ne31.symm
   replace G := G.upd u47 hge6
   clear u47 hc4
   refine zA4 ?_
   refine zC4 ?_
   refine ret1 (zC9 rfl hc46 (by rfl)) ⟨?_, G⟩
   simp [isS, *]

set_option maxRecDepth 100000 in
theorem qR2 (w : World) {w0 : World} {s : Src} {t_ : TypeId} {u_ : Value} (H : SrcOk Tryz.prog w0 (.iface t_ u_) s) (g0 : Grow w0 w) {b : Nat} {o : Ob} {left k : Int} (hb0 : w0.heap.size ≤ b) (hb : w.heap[b]? = some (.cells #[.iface t_ u_, .int .i64 o.kind, .int .i64 o.seg, .int .i64 o.at_, .int .i64 o.data, .int .i64 o.ptrs, .int .i64 o.size, .int .i64 o.count, .int .i64 left] 136 (0, 0))) (ho : ObR o) (hk : 0 ≤ k) (hk2 : k ≤ 9223372036854775807) : Gives Tryz.prog 65 #[.pointer (some ⟨b, 0, none⟩), .int .i64 k] w (.tuple #[.int .u64 ((atS s o k).1), .int .u16 ((atS s o k).2)]) := by
 obtain ⟨rk, rs, ra, rd, rp, rz, rc⟩ := ho
 obtain ⟨n1, n2, -, -⟩ := H.num o.seg (o.at_ + k / 8)
 have G := Grow.rfl' w
 refine zC7 Tryz.func65 Tryz.ntmps65 Tryz.results65 rfl rfl ?_
 refine zA6 (zA1 rfl ?_)
 refine stp (zA0 rfl ?_)
 refine stp (zA0 rfl ?_)
 refine zA4 ?_
 refine zA6 (zA1 rfl ?_)
 refine stp (zD6 rfl ?_)
 refine stp (zE1 rfl ?_)
 refine stp (zA5 rfl ?_)
 refine stp (zH8 rfl hb (by rfl) (by rfl) ?_)
 refine stp (zD3 ?_)
 intro b1 w2 hb3 hc4 g5
 refine stn (zB1 rfl rfl hc4 (by rfl) (by rfl) (by rfl) ?_)
 intro w6 hc7 u8
 have g9 := g5.upd u8 hb3
 have hge10 := Nat.le_trans G.size hb3
 have ne11 := Nat.ne_of_lt (Nat.lt_of_lt_of_le (zA9 hb) hb3)
 replace hb := g9.heap hb
 replace G := G.tr g9
 clear u8 g5 hb3 hc4
 refine zA4 ?_
 refine zA6 ?_
 refine zC6 ?_
 refine zA6 ?_
 refine zA6 (zA1 rfl ?_)
 refine stp (zA5 rfl ?_)
 refine stp (zB5 (v := .int .i64 o.kind) rfl hc7 rfl ?_)
 refine stp (zE9 rfl rfl ?_)
 refine stp (zC1 rfl ?_)
 refine zA4 ?_
 refine zB8 (b := (decide (o.kind = 0))) rfl (fun h1 => ?_) (fun h1 => ?_)
 ·-- true
  replace h1 := of_decide_eq_true h1
  refine zC3 ?_
  refine zP2 (show _ = Value.bool true from congrArg Value.bool (decide_eq_true h1)) ?_
  refine zA6 (zA1 rfl ?_)
  refine stp (zA0 rfl ?_)
  refine stp (zA0 rfl ?_)
  refine zA4 ?_
  refine zC4 ?_
  refine ret2 (zB3 (v := .int .u64 0) rfl) (zB3 (v := .int .u16 0) rfl) ⟨?_, G⟩
  have h9 : atS s o k = (0, 0) := by unfold atS; rw [if_pos (.inl h1)]
  rw [h9]
 ·-- false
  replace h1 := of_decide_eq_false h1
  refine zA1 rfl ?_
  refine stp (zA5 rfl ?_)
  refine stp (zB5 (v := .int .i64 o.kind) rfl hc7 rfl ?_)
  refine stp (zE9 rfl rfl ?_)
  refine stp (zB9 rfl ?_)
  refine zA3 (zC2 (s := .bool (decide (o.kind = 1))) (b := true) (v := .int .i64 k) rfl (zF2 _) (fun hc12 => ?_) ?_)
  ·
   have hc12_ := of_decide_eq_true hc12
   refine zA2 rfl ?_
   exact ⟨rfl, rfl⟩
  refine zA3 (zC2 (s := .bool (decide (o.kind = 1))) (b := true) (v := .pointer (some ⟨b1, 3, none⟩)) rfl (zF2 _) (fun hc13 => ?_) ?_)
  ·
   have hc13_ := of_decide_eq_true hc13
   refine zA5 rfl ?_
   exact ⟨rfl, rfl⟩
  refine zA3 (zC2 (s := .bool (decide (o.kind = 1))) (b := true) (v := .int .i64 o.data) rfl (zF2 _) (fun hc14 => ?_) ?_)
  ·
   have hc14_ := of_decide_eq_true hc14
   refine zB5 (v := .int .i64 o.data) (gvt hc14) hc7 rfl ?_
   exact ⟨rfl, rfl⟩
  refine zA3 (zC2 (s := .bool (decide (o.kind = 1))) (b := true) (v := .bool (decide (k ≥ o.data))) rfl (zF2 _) (fun hc15 => ?_) ?_)
  ·
   have hc15_ := of_decide_eq_true hc15
   refine zL7 (gvt hc15) (gvt hc15) ?_
   exact ⟨rfl, rfl⟩
  refine stp (zJ2 rfl rfl rfl ?_)
  refine stp (zC1 rfl ?_)
  refine zA4 ?_
  refine zB8 (b := ((decide (o.kind = 1)) && (decide (k ≥ o.data)))) rfl (fun h2 => ?_) (fun h2 => ?_)
  ·-- true
   simp only [sb] at h2
   refine zA6 (zA1 rfl ?_)
   refine stp (zA0 rfl ?_)
   refine stp (zA0 rfl ?_)
   refine zA4 ?_
   refine zC4 ?_
   refine ret2 (zB3 (v := .int .u64 0) rfl) (zB3 (v := .int .u16 0) rfl) ⟨?_, G⟩
   have h9 : atS s o k = (0, 0) := by unfold atS; rw [if_pos (.inr h2)]
   rw [h9]
  ·-- false
   simp only [sb] at h2
   have h1n : ¬ (o.kind = 0 ∨ o.kind = 1 ∧ k ≥ o.data) := by omega
   refine zA6 (zA1 rfl ?_)
   refine stp (zA5 rfl ?_)
   refine stp (zB5 (v := .int .i64 o.kind) rfl hc7 rfl ?_)
   refine stp (zE9 rfl rfl ?_)
   refine stp (zC1 rfl ?_)
   refine zA4 ?_
   refine zB8 (b := (decide (o.kind = 1))) rfl (fun h3 => ?_) (fun h3 => ?_)
   ·-- true
    replace h3 := of_decide_eq_true h3
    refine zA6 ?_
    refine zJ4 15 [[], [0], [1, 0], [2, 1, 0], [], [0], [], [0], [], [2, 1, 0], [9, 8, 7, 6, 5, 4, 3, 2, 1, 0], [10, 9, 8, 7, 6, 5, 4, 3, 2, 1, 0], [11, 10, 9, 8, 7, 6, 5, 4, 3, 2, 1], [12, 11, 10, 9, 8, 7, 6, 5, 4, 3, 2, 1, 0], [13, 12, 11, 10, 9, 8, 7, 6, 5, 4, 3, 2, 1, 0]] mixed (by kernel_rfl) (by kernel_rfl) (by kernel_rfl) ?_
    intro w16 g17
    replace hb := g17.heap hb
    replace hc7 := g17.heap hc7
    replace G := G.tr g17
    clear g17
    apply zB7
    ·intro w_ g_; refine og rfl ?_; refine zD6 rfl ?_; exact ⟨Grow.rfl' _, rfl⟩
    apply zB7
    ·intro w_ g_; refine og rfl ?_; refine zE1 rfl ?_; exact ⟨Grow.rfl' _, rfl⟩
    apply zB7
    ·intro w_ g_; refine og rfl ?_; refine zA5 rfl ?_; exact ⟨Grow.rfl' _, rfl⟩
    apply zB7
    ·intro w_ g_; refine og rfl ?_; refine zB5 (v := .iface t_ u_) rfl (g_.heap hb) rfl ?_; exact ⟨Grow.rfl' _, rfl⟩
    apply zB7
    ·intro w_ g_; refine og rfl ?_; refine zA5 rfl ?_; exact ⟨Grow.rfl' _, rfl⟩
    apply zB7
    ·intro w_ g_; refine og rfl ?_; refine zB5 (v := .int .i64 o.seg) rfl (g_.heap hc7) rfl ?_; exact ⟨Grow.rfl' _, rfl⟩
    apply zB7
    ·intro w_ g_; refine og rfl ?_; refine zA5 rfl ?_; exact ⟨Grow.rfl' _, rfl⟩
    apply zB7
    ·intro w_ g_; refine og rfl ?_; refine zB5 (v := .int .i64 o.at_) rfl (g_.heap hc7) rfl ?_; exact ⟨Grow.rfl' _, rfl⟩
    apply zB7
    ·intro w_ g_; refine og rfl ?_; refine zA2 rfl ?_; exact ⟨Grow.rfl' _, rfl⟩
    apply zB7
    ·intro w_ g_; refine og rfl ?_; refine zD8 rfl rfl ?_ ?_; constructor <;> omega; exact ⟨Grow.rfl' _, rfl⟩
    apply zB7
    ·intro w_ g_; refine og rfl ?_; exact zQ1 H ((g0.tr G).tr g_) rfl rfl rfl (fun w2_ g2_ => ⟨g2_, rfl⟩)
    apply zB7
    ·intro w_ g_; refine og rfl ?_; refine zB2 (v := .int .u64 ((s.word o.seg (o.at_ + k)).1)) rfl rfl ?_; exact ⟨Grow.rfl' _, rfl⟩
    apply zB7
    ·intro w_ g_; refine og rfl ?_; refine zB2 (v := .int .u16 ((s.word o.seg (o.at_ + k)).2)) rfl rfl ?_; exact ⟨Grow.rfl' _, rfl⟩
    apply zB7
    ·intro w_ g_; refine og rfl ?_; refine zA0 rfl ?_; exact ⟨Grow.rfl' _, rfl⟩
    apply zB7
    ·intro w_ g_; refine og rfl ?_; refine zA0 rfl ?_; exact ⟨Grow.rfl' _, rfl⟩
    refine zI5 ?_
    intro w18 g19
    replace hb := g19.heap hb
    replace hc7 := g19.heap hc7
    replace G := G.tr g19
    clear g19
    refine zA4 ?_
    refine zC4 ?_
    refine ret2 (zB3 (v := .int .u64 ((s.word o.seg (o.at_ + k)).1)) rfl) (zB3 (v := .int .u16 ((s.word o.seg (o.at_ + k)).2)) rfl) ⟨?_, G⟩
    have h9 : atS s o k = s.word o.seg (o.at_ + k) := by unfold atS; rw [if_neg h1n, if_pos h3]
    rw [h9]
   ·-- false
    replace h3 := of_decide_eq_false h3
    refine zA6 (zA1 rfl ?_)
    refine stp (zA5 rfl ?_)
    refine stp (zB5 (v := .int .i64 o.size) rfl hc7 rfl ?_)
    refine stp (zE9 rfl rfl ?_)
    refine stp (zC1 rfl ?_)
    refine zA4 ?_
    refine zB8 (b := (decide (o.size = 6))) rfl (fun h4 => ?_) (fun h4 => ?_)
    ·-- true
     replace h4 := of_decide_eq_true h4
     refine zA6 (zA1 rfl ?_)
     refine stp (zA0 rfl ?_)
     refine stp (zA0 rfl ?_)
     refine zA4 ?_
     refine zC4 ?_
     refine ret2 (zB3 (v := .int .u64 0) rfl) (zB3 (v := .int .u16 23) rfl) ⟨?_, G⟩
     have h9 : atS s o k = (0, 23) := by unfold atS; rw [if_neg h1n, if_neg h3, if_pos h4]
     rw [h9]
    ·-- false
     replace h4 := of_decide_eq_false h4
     refine zA6 (zA1 rfl ?_)
     refine stp (zA2 rfl ?_)
     refine stp (zA5 rfl ?_)
     refine stp (zB5 (v := .int .i64 o.count) rfl hc7 rfl ?_)
     refine stp (zL7 rfl rfl ?_)
     refine stp (zC1 rfl ?_)
     refine zA4 ?_
     refine zB8 (b := (decide (k ≥ o.count))) rfl (fun h5 => ?_) (fun h5 => ?_)
     ·-- true
      replace h5 := of_decide_eq_true h5
      refine zA6 (zA1 rfl ?_)
      refine stp (zA0 rfl ?_)
      refine stp (zA0 rfl ?_)
      refine zA4 ?_
      refine zC4 ?_
      refine ret2 (zB3 (v := .int .u64 0) rfl) (zB3 (v := .int .u16 20) rfl) ⟨?_, G⟩
      have h9 : atS s o k = (0, 20) := by unfold atS; rw [if_neg h1n, if_neg h3, if_neg h4, if_pos h5]
      rw [h9]
     ·-- false
      replace h5 := of_decide_eq_false h5
      refine zA6 (zA1 rfl ?_)
      refine stp (zA5 rfl ?_)
      refine stp (zB5 (v := .int .i64 o.size) rfl hc7 rfl ?_)
      refine stp (zE9 rfl rfl ?_)
      refine stp (zC1 rfl ?_)
      refine zA4 ?_
      refine zB8 (b := (decide (o.size = 5))) rfl (fun h6 => ?_) (fun h6 => ?_)
      ·-- true
       replace h6 := of_decide_eq_true h6
       refine zA6 ?_
       refine zJ4 15 [[], [0], [1, 0], [2, 1, 0], [], [0], [], [0], [], [2, 1, 0], [9, 8, 7, 6, 5, 4, 3, 2, 1, 0], [10, 9, 8, 7, 6, 5, 4, 3, 2, 1, 0], [11, 10, 9, 8, 7, 6, 5, 4, 3, 2, 1], [12, 11, 10, 9, 8, 7, 6, 5, 4, 3, 2, 1, 0], [13, 12, 11, 10, 9, 8, 7, 6, 5, 4, 3, 2, 1, 0]] mixed (by kernel_rfl) (by kernel_rfl) (by kernel_rfl) ?_
       intro w20 g21
       replace hb := g21.heap hb
       replace hc7 := g21.heap hc7
       replace G := G.tr g21
       clear g21
       apply zB7
       ·intro w_ g_; refine og rfl ?_; refine zD6 rfl ?_; exact ⟨Grow.rfl' _, rfl⟩
       apply zB7
       ·intro w_ g_; refine og rfl ?_; refine zE1 rfl ?_; exact ⟨Grow.rfl' _, rfl⟩
       apply zB7
       ·intro w_ g_; refine og rfl ?_; refine zA5 rfl ?_; exact ⟨Grow.rfl' _, rfl⟩
       apply zB7
       ·intro w_ g_; refine og rfl ?_; refine zB5 (v := .iface t_ u_) rfl (g_.heap hb) rfl ?_; exact ⟨Grow.rfl' _, rfl⟩
       apply zB7
       ·intro w_ g_; refine og rfl ?_; refine zA5 rfl ?_; exact ⟨Grow.rfl' _, rfl⟩
       apply zB7
       ·intro w_ g_; refine og rfl ?_; refine zB5 (v := .int .i64 o.seg) rfl (g_.heap hc7) rfl ?_; exact ⟨Grow.rfl' _, rfl⟩
       apply zB7
       ·intro w_ g_; refine og rfl ?_; refine zA5 rfl ?_; exact ⟨Grow.rfl' _, rfl⟩
       apply zB7
       ·intro w_ g_; refine og rfl ?_; refine zB5 (v := .int .i64 o.at_) rfl (g_.heap hc7) rfl ?_; exact ⟨Grow.rfl' _, rfl⟩
       apply zB7
       ·intro w_ g_; refine og rfl ?_; refine zA2 rfl ?_; exact ⟨Grow.rfl' _, rfl⟩
       apply zB7
       ·intro w_ g_; refine og rfl ?_; refine zD8 rfl rfl ?_ ?_; constructor <;> omega; exact ⟨Grow.rfl' _, rfl⟩
       apply zB7
       ·intro w_ g_; refine og rfl ?_; exact zQ1 H ((g0.tr G).tr g_) rfl rfl rfl (fun w2_ g2_ => ⟨g2_, rfl⟩)
       apply zB7
       ·intro w_ g_; refine og rfl ?_; refine zB2 (v := .int .u64 ((s.word o.seg (o.at_ + k)).1)) rfl rfl ?_; exact ⟨Grow.rfl' _, rfl⟩
       apply zB7
       ·intro w_ g_; refine og rfl ?_; refine zB2 (v := .int .u16 ((s.word o.seg (o.at_ + k)).2)) rfl rfl ?_; exact ⟨Grow.rfl' _, rfl⟩
       apply zB7
       ·intro w_ g_; refine og rfl ?_; refine zA0 rfl ?_; exact ⟨Grow.rfl' _, rfl⟩
       apply zB7
       ·intro w_ g_; refine og rfl ?_; refine zA0 rfl ?_; exact ⟨Grow.rfl' _, rfl⟩
       refine zI5 ?_
       intro w22 g23
       replace hb := g23.heap hb
       replace hc7 := g23.heap hc7
       replace G := G.tr g23
       clear g23
       refine zA4 ?_
       refine zC4 ?_
       refine ret2 (zB3 (v := .int .u64 ((s.word o.seg (o.at_ + k)).1)) rfl) (zB3 (v := .int .u16 ((s.word o.seg (o.at_ + k)).2)) rfl) ⟨?_, G⟩
       have h9 : atS s o k = s.word o.seg (o.at_ + k) := by unfold atS; rw [if_neg h1n, if_neg h3, if_neg h4, if_neg h5, if_pos h6]
       rw [h9]
      ·-- false
       replace h6 := of_decide_eq_false h6
       refine zC3 ?_
       refine zA6 ?_
       refine zJ4 17 [[], [0], [1, 0], [2, 1, 0], [], [0], [], [0], [], [0], [3, 2, 1, 0], [10, 9, 8, 7, 6, 5, 4, 3, 2, 1, 0], [11, 10, 9, 8, 7, 6, 5, 4, 3, 2, 1, 0], [12, 11, 10, 9, 8, 7, 6, 5, 4, 3, 2, 1, 0], [13, 12, 11, 10, 9, 8, 7, 6, 5, 4, 3, 2, 1], [14, 13, 12, 11, 10, 9, 8, 7, 6, 5, 4, 3, 2, 1], [15, 14, 13, 12, 11, 10, 9, 8, 7, 6, 5, 4, 3, 2, 1, 0]] mixed (by kernel_rfl) (by kernel_rfl) (by kernel_rfl) ?_
       intro w24 g25
       replace hb := g25.heap hb
       replace hc7 := g25.heap hc7
       replace G := G.tr g25
       clear g25
       apply zB7
       ·intro w_ g_; refine og rfl ?_; refine zD6 rfl ?_; exact ⟨Grow.rfl' _, rfl⟩
       apply zB7
       ·intro w_ g_; refine og rfl ?_; refine zE1 rfl ?_; exact ⟨Grow.rfl' _, rfl⟩
       apply zB7
       ·intro w_ g_; refine og rfl ?_; refine zA5 rfl ?_; exact ⟨Grow.rfl' _, rfl⟩
       apply zB7
       ·intro w_ g_; refine og rfl ?_; refine zB5 (v := .iface t_ u_) rfl (g_.heap hb) rfl ?_; exact ⟨Grow.rfl' _, rfl⟩
       apply zB7
       ·intro w_ g_; refine og rfl ?_; refine zA5 rfl ?_; exact ⟨Grow.rfl' _, rfl⟩
       apply zB7
       ·intro w_ g_; refine og rfl ?_; refine zB5 (v := .int .i64 o.seg) rfl (g_.heap hc7) rfl ?_; exact ⟨Grow.rfl' _, rfl⟩
       apply zB7
       ·intro w_ g_; refine og rfl ?_; refine zA5 rfl ?_; exact ⟨Grow.rfl' _, rfl⟩
       apply zB7
       ·intro w_ g_; refine og rfl ?_; refine zB5 (v := .int .i64 o.at_) rfl (g_.heap hc7) rfl ?_; exact ⟨Grow.rfl' _, rfl⟩
       apply zB7
       ·intro w_ g_; refine og rfl ?_; refine zA2 rfl ?_; exact ⟨Grow.rfl' _, rfl⟩
       apply zB7
       ·intro w_ g_; refine og rfl ?_; refine zK3 rfl rfl ?_ ?_ ?_ ?_; omega; omega; (constructor <;> omega); exact ⟨Grow.rfl' _, rfl⟩
       apply zB7
       ·intro w_ g_; refine og rfl ?_; refine zD8 rfl rfl ?_ ?_; constructor <;> omega; exact ⟨Grow.rfl' _, rfl⟩
       apply zB7
       ·intro w_ g_; refine og rfl ?_; exact zQ1 H ((g0.tr G).tr g_) rfl rfl rfl (fun w2_ g2_ => ⟨g2_, rfl⟩)
       apply zB7
       ·intro w_ g_; refine og rfl ?_; refine zB6 (v := .tuple #[.int .u64 ((s.word o.seg (o.at_ + (k / 8))).1), .int .u16 ((s.word o.seg (o.at_ + (k / 8))).2)]) rfl ?_; exact ⟨Grow.rfl' _, rfl⟩
       apply zB7
       ·intro w_ g_; refine og rfl ?_; refine zB2 (v := .int .u64 ((s.word o.seg (o.at_ + (k / 8))).1)) rfl rfl ?_; exact ⟨Grow.rfl' _, rfl⟩
       apply zB7
       ·intro w_ g_; refine og rfl ?_; refine zB2 (v := .int .u16 ((s.word o.seg (o.at_ + (k / 8))).2)) rfl rfl ?_; exact ⟨Grow.rfl' _, rfl⟩
       apply zB7
       ·intro w_ g_; refine og rfl ?_; refine zA0 rfl ?_; exact ⟨Grow.rfl' _, rfl⟩
       apply zB7
       ·intro w_ g_; refine og rfl ?_; refine zA0 rfl ?_; exact ⟨Grow.rfl' _, rfl⟩
       refine zI5 ?_
       intro w26 g27
       replace hb := g27.heap hb
       replace hc7 := g27.heap hc7
       replace G := G.tr g27
       clear g27
       refine zA4 ?_
       refine zA6 (zA1 rfl ?_)
       refine stp (zA2 rfl ?_)
       refine stp (zA2 rfl ?_)
       refine stp (zJ5 rfl rfl ?_ ?_ ?_); omega; omega
       refine stp (zL5 rfl rfl ?_ ?_); constructor <;> omega
       refine stp (yG7 rfl rfl ?_ ?_); omega
       refine zA3 (og rfl ?_)
       refine yL5 rfl rfl ?_
       rw [show (IntKind.bits .u64) = 64 from rfl, yH5 _ (k % 8 * 8) n1 n2 (by omega) (by omega)]
       refine stp (zA2 rfl ?_)
       refine stp (zA0 rfl ?_)
       refine stp (zA0 rfl ?_)
       refine zA4 ?_
       refine zC4 ?_
       refine ret2 (zB3 (v := .int .u64 ((s.word o.seg (o.at_ + k / 8)).1 / 2 ^ (k % 8 * 8).toNat % 256)) rfl) (zB3 (v := .int .u16 ((s.word o.seg (o.at_ + (k / 8))).2)) rfl) ⟨?_, G⟩
       have h9 : atS s o k = ((s.word o.seg (o.at_ + k / 8)).1 / 2 ^ (k % 8 * 8).toNat % 256, (s.word o.seg (o.at_ + k / 8)).2) := by unfold atS; rw [if_neg h1n, if_neg h3, if_neg h4, if_neg h5, if_neg h6]
       rw [h9]

set_option maxRecDepth 100000 in
theorem qX8 (w : World) {src : Value} {s : Src} (H : SrcOk Tryz.prog w src s) {ad : Option Addr} {c : Nat} {steps : List Int} {a cost : Int} (R : RowAt w 1 ad steps.length (steps.map (.int .i64))) (hR : ∀ x ∈ steps, inR .i64 x) (ha : inR .i64 a) (hc : inR .i64 cost) : Gives Tryz.prog 25 #[src, .agg #[.slice ad steps.length c, .int .i64 a], .int .i64 cost] w (.tuple #[.agg #[.int .i64 ((walkS s steps a cost).1.kind), .int .i64 ((walkS s steps a cost).1.size), .int .i64 ((walkS s steps a cost).1.words), .int .i64 ((walkS s steps a cost).1.kids), .int .u64 ((walkS s steps a cost).1.word)], .int .u16 ((walkS s steps a cost).2)]) := by
 obtain ⟨t_, u_, f_, rfl, -, -⟩ := H.word
 have ll := R.lim
 simp only [inR] at ha hc
 have G := Grow.rfl' w
 refine zC7 Tryz.func25 Tryz.ntmps25 Tryz.results25 rfl rfl ?_
 refine zA6 (zA1 rfl ?_)
 refine zA3 (og rfl ?_)
 (first | refine zD0 rfl ?_ | refine zD2 rfl ?_ | refine zC5 rfl ?_ | refine zH0 rfl rfl ?_)
 intro b1 w2 hb3 hc4 g5
 have hge6 := Nat.le_trans G.size hb3
 replace G := G.tr g5
 clear g5 hb3
 refine stp (zD3 ?_)
 intro b7 w8 hb9 hc10 g11
 refine stp (zA0 rfl ?_)
 refine zA4 ?_
 refine yM2 ?_
 refine zA6 ?_
 refine zA6 (zA1 rfl ?_)
 refine stp (zA5 rfl ?_)
 have hge12 := Nat.le_trans G.size hb9
 have ne13 := Nat.ne_of_lt (Nat.lt_of_lt_of_le (zA9 hc4) hb9)
 replace hc4 := g11.heap hc4
 replace G := G.tr g11
 clear g11 hb9
 refine stp (zB5 (v := .slice ad steps.length c) rfl hc4 rfl ?_)
 refine stp (zE8 rfl rfl rfl ?_)
 refine stp (zA2 rfl ?_)
 refine zA4 ?_
 refine zC6 ?_
 refine zG6 (fun m_ e_ w_ => ∃ (k : Nat), m_ = steps.length - k ∧ Fr [(0, .iface t_ u_), (2, .int .i64 cost), (4, .pointer (some ⟨b1, 0, none⟩)), (6, .pointer (some ⟨b7, 0, none⟩)), (20, .slice ad steps.length c), (21, .int .i64 (steps.length : Int)), (22, .int .i64 (k : Int))] e_ ∧ (k ≤ steps.length) ∧ (∀ j, j < k → 0 ≤ steps.getD j 0) ∧ (w_.heap[b1]? = some (.cells #[.slice ad steps.length c, .int .i64 a] 29 (0, 0))) ∧ (w_.heap[b7]? = some (.cells #[.int .i64 0, .int .i64 0, .int .i64 0, .int .i64 0, .int .u64 0] 35 (0, 0))) ∧ Grow w w_) _ ⟨0, rfl, zE6 ⟨rfl, rfl, rfl, rfl, rfl, rfl, rfl, trivial⟩, by omega, fun j hj => by omega, hc4, hc10, G⟩ ?_
 clear hc4 hc10
 clear G
 rintro m_ e_ w14 ⟨k, rfl, ⟨e15, rfl⟩, hk2, hnn, hc4, hc10, G⟩
 refine zA6 (zA1 rfl ?_)
 refine stp (zF9 rfl rfl ?_)
 refine zA4 ?_
 refine zA6 ?_
 refine zB8 (b := (decide ((k : Int) < (steps.length : Int)))) rfl (fun hlt1 => ?_) (fun hlt1 => ?_)
 ·-- true
  replace hlt1 := of_decide_eq_true hlt1
  have hi : k < steps.length := by omega
  refine zC3 ?_
  refine zA6 ?_
  refine zC6 ?_
  refine zA6 (zA1 rfl ?_)
  refine stp (zD9 (R.grow G) rfl rfl ?_ ?_); omega
  refine stp (zD7 (v := .int .i64 (steps.getD k 0)) (m := 0) (R.grow G) rfl (zE4 0 (by omega)) ?_)
  refine stp (zA0 rfl ?_)
  refine zA4 ?_
  refine zA6 (zA1 rfl ?_)
  refine stp (zA2 rfl ?_)
  refine stp (zF9 rfl rfl ?_)
  refine zA4 ?_
  refine zB8 (b := (decide ((steps.getD k 0) < 0))) rfl (fun h2 => ?_) (fun h2 => ?_)
  ·-- true
   replace h2 := of_decide_eq_true h2
   refine zA6 (zA1 rfl ?_)
   refine stp (zD4 (v := .agg #[.int .i64 0, .int .i64 0, .int .i64 0, .int .i64 0, .int .u64 0]) (fun w => by kernel_rfl) ?_)
   refine stn (zB1 rfl rfl hc10 (by rfl) (by rfl) (by rfl) ?_)
   intro w16 hc17 u18
   replace hc4 := u18.heap hc4 ne13
   replace G := G.upd u18 hge12
   clear u18 hc10
   refine stp (zA0 rfl ?_)
   refine zA4 ?_
   refine zC4 ?_
   have h9 : (walkS s steps a cost) = (Vl0, 1) := by unfold walkS; rw [if_pos ⟨_, qI0 hi, h2⟩]
   refine ret2 (zC9 rfl hc17 (by rfl)) (zB3 (v := .int .u16 1) rfl) ⟨?_, G⟩
   rw [h9] <;> rfl
  ·-- false
   replace h2 := of_decide_eq_false h2
   refine zC3 ?_
   refine zA1 rfl ?_
   refine stp (zD8 rfl rfl ?_ ?_); constructor <;> omega
   refine stp (zA2 rfl ?_)
   refine zA4 ?_
   refine ⟨_, ?_, k + 1, rfl, zE6 ⟨rfl, rfl, rfl, rfl, rfl, rfl, rfl, trivial⟩, by omega, fun j hj => by rcases Nat.lt_succ_iff_lt_or_eq.1 hj with h_ | h_; exact hnn j h_; subst h_; omega, hc4, hc10, G⟩
   omega
 ·-- false
  replace hlt1 := of_decide_eq_false hlt1
  replace hnn : ∀ j, j < steps.length → 0 ≤ steps.getD j 0 := fun j hj => hnn j (by omega)
  have hno : ¬ ∃ k ∈ steps, k < 0 := fun ⟨x_, hx_, hlt_⟩ => by obtain ⟨j_, hj_, he_⟩ := List.getElem_of_mem hx_; have := hnn j_ hj_; rw [zG0 hj_] at this; omega
  refine zF6 ?_
  refine zA6 ?_
  refine zA6 (zA1 rfl ?_)
  refine stp (zA5 rfl ?_)
  refine stp (zB5 (v := .slice ad steps.length c) rfl hc4 rfl ?_)
  refine stp (zE8 rfl rfl rfl ?_)
  refine stp (zM7 rfl rfl ?_)
  refine zA4 ?_
  refine zB8 (b := (decide ((steps.length : Int) > 32))) rfl (fun h3 => ?_) (fun h3 => ?_)
  ·-- true
   replace h3 := of_decide_eq_true h3
   refine zA6 (zA1 rfl ?_)
   refine stp (zD4 (v := .agg #[.int .i64 0, .int .i64 0, .int .i64 0, .int .i64 0, .int .u64 0]) (fun w => by kernel_rfl) ?_)
   refine stn (zB1 rfl rfl hc10 (by rfl) (by rfl) (by rfl) ?_)
   intro w19 hc20 u21
   replace hc4 := u21.heap hc4 ne13
   replace G := G.upd u21 hge12
   clear u21 hc10
   refine stp (zA0 rfl ?_)
   refine zA4 ?_
   refine zC4 ?_
   have h9 : (walkS s steps a cost) = (Vl0, 3) := by unfold walkS; rw [if_neg hno, if_pos h3]
   refine ret2 (zC9 rfl hc20 (by rfl)) (zB3 (v := .int .u16 3) rfl) ⟨?_, G⟩
   rw [h9] <;> rfl
  ·-- false
   replace h3 := of_decide_eq_false h3
   refine zC3 ?_
   refine zA6 (zA1 rfl ?_)
   refine stp (zB6 (v := .iface t_ u_) rfl ?_)
   refine stp (zC0 (v := .tuple #[.agg #[.int .i64 ((followS s 0 0).1.kind), .int .i64 ((followS s 0 0).1.seg), .int .i64 ((followS s 0 0).1.at_), .int .i64 ((followS s 0 0).1.data), .int .i64 ((followS s 0 0).1.ptrs), .int .i64 ((followS s 0 0).1.size), .int .i64 ((followS s 0 0).1.count)], .int .u16 ((followS s 0 0).2)]) rfl (zS6 _ (H.grow G) 0 0) ?_)
   intro w22 g23
   replace hc4 := g23.heap hc4
   replace hc10 := g23.heap hc10
   replace G := G.tr g23
   clear g23
   refine stp (zB6 (v := .tuple #[.agg #[.int .i64 ((followS s 0 0).1.kind), .int .i64 ((followS s 0 0).1.seg), .int .i64 ((followS s 0 0).1.at_), .int .i64 ((followS s 0 0).1.data), .int .i64 ((followS s 0 0).1.ptrs), .int .i64 ((followS s 0 0).1.size), .int .i64 ((followS s 0 0).1.count)], .int .u16 ((followS s 0 0).2)]) rfl ?_)
   refine stp (zB2 (v := .agg #[.int .i64 ((followS s 0 0).1.kind), .int .i64 ((followS s 0 0).1.seg), .int .i64 ((followS s 0 0).1.at_), .int .i64 ((followS s 0 0).1.data), .int .i64 ((followS s 0 0).1.ptrs), .int .i64 ((followS s 0 0).1.size), .int .i64 ((followS s 0 0).1.count)]) rfl rfl ?_)
   refine stp (zB2 (v := .int .u16 ((followS s 0 0).2)) rfl rfl ?_)
   refine stp (zD3 ?_)
   intro b24 w25 hb26 hc27 g28
   refine stn (zB1 rfl rfl hc27 (by rfl) (by rfl) (by rfl) ?_)
   intro w29 hc30 u31
   have g32 := g28.upd u31 hb26
   have hge33 := Nat.le_trans G.size hb26
   have ne34 := Nat.ne_of_lt (Nat.lt_of_lt_of_le (zA9 hc4) hb26)
   have ne35 := Nat.ne_of_lt (Nat.lt_of_lt_of_le (zA9 hc10) hb26)
   replace hc4 := g32.heap hc4
   replace hc10 := g32.heap hc10
   replace G := G.tr g32
   clear u31 g28 hb26 hc27
   refine stp (zA0 rfl ?_)
   refine zA4 ?_
   refine zA6 ?_
   refine zA6 (zA1 rfl ?_)
   refine stp (zA2 rfl ?_)
   refine stp (zI9 rfl rfl ?_)
   refine zA4 ?_
   refine zB8 (b := (decide (((followS s 0 0).2) ≠ 0))) rfl (fun h4 => ?_) (fun h4 => ?_)
   ·-- true
    replace h4 := of_decide_eq_true h4
    refine zA6 (zA1 rfl ?_)
    refine stp (zD4 (v := .agg #[.int .i64 0, .int .i64 0, .int .i64 0, .int .i64 0, .int .u64 0]) (fun w => by kernel_rfl) ?_)
    refine stp (zA2 rfl ?_)
    refine stn (zB1 rfl rfl hc10 (by rfl) (by rfl) (by rfl) ?_)
    intro w36 hc37 u38
    replace hc4 := u38.heap hc4 ne13
    replace hc30 := u38.heap hc30 ne35.symm
    replace G := G.upd u38 hge12
    clear u38 hc10
    refine stp (zA0 rfl ?_)
    refine zA4 ?_
    refine zC4 ?_
    have h9 : (walkS s steps a cost) = (Vl0, (followS s 0 0).2) := by unfold walkS; rw [if_neg hno, if_neg h3, if_pos h4]
    refine ret2 (zC9 rfl hc37 (by rfl)) (zB3 (v := .int .u16 ((followS s 0 0).2)) rfl) ⟨?_, G⟩
    rw [h9] <;> rfl
   ·-- false
    replace h4 := of_decide_eq_false h4
    have hr0_ := zQ8 H 0 0
    refine zC3 ?_
    refine zA6 (zA1 rfl ?_)
    refine stp (zB6 (v := .iface t_ u_) rfl ?_)
    refine stp (zB4 rfl hc30 (by rfl) ?_)
    refine stp (zA2 rfl ?_)
    refine zA3 (og rfl ?_)
    refine qP9 rfl rfl rfl ?_
    rw [show (if (-1 : Int) > cost then -1 else cost) = max cost (-1) from by split <;> omega]
    obtain ⟨left0, hl0⟩ : ∃ x, x = max cost (-1) := ⟨_, rfl⟩
    rw [← hl0]
    refine stp (zD4 (v := .agg #[.iface t_ u_, .int .i64 ((followS s 0 0).1.kind), .int .i64 ((followS s 0 0).1.seg), .int .i64 ((followS s 0 0).1.at_), .int .i64 ((followS s 0 0).1.data), .int .i64 ((followS s 0 0).1.ptrs), .int .i64 ((followS s 0 0).1.size), .int .i64 ((followS s 0 0).1.count), .int .i64 left0]) (fun w => by kernel_rfl) ?_)
    refine zA3 (og rfl ?_)
    (first | refine zD0 rfl ?_ | refine zD2 rfl ?_ | refine zC5 rfl ?_ | refine zH0 rfl rfl ?_)
    intro b39 w40 hb41 hc42 g43
    have hge44 := Nat.le_trans G.size hb41
    have ne45 := Nat.ne_of_lt (Nat.lt_of_lt_of_le (zA9 hc10) hb41)
    have ne46 := Nat.ne_of_lt (Nat.lt_of_lt_of_le (zA9 hc30) hb41)
    replace hc4 := g43.heap hc4
    replace hc10 := g43.heap hc10
    replace hc30 := g43.heap hc30
    replace G := G.tr g43
    clear g43 hb41
    refine stp (zO1 rfl ?_)
    refine zA4 ?_
    refine zA6 (zA1 rfl ?_)
    refine stp (zD6 rfl ?_)
    refine stp (zX4 (vs := [.pointer (some ⟨b39, 0, none⟩)]) (us := []) rfl rfl ?_)
    refine stp (zK8 rfl ?_)
    refine zA4 ?_
    refine zA6 ?_
    refine zA6 (zA1 rfl ?_)
    refine stp (zQ5 rfl ?_)
    refine zA3 (og rfl ?_)
    refine zF1 rfl (qL8 _ hc42 (by omega) (zM2 (zQ8 H 0 0))) ?_
    rintro v_ w47 ⟨rfl, hb48, K_⟩
    replace hc4 := K_.heap hc4 (fun hm_ => by simp only [List.mem_singleton] at hm_; rw [hm_, hc42] at hc4; exact absurd hc4 (by simp))
    replace hc10 := K_.heap hc10 (fun hm_ => by simp only [List.mem_singleton] at hm_; first | exact ne45 hm_ | exact ne45 hm_.symm)
    replace hc30 := K_.heap hc30 (fun hm_ => by simp only [List.mem_singleton] at hm_; first | exact ne46 hm_ | exact ne46 hm_.symm)
    replace G := G.trK K_ (fun x_ hx_ => by simp only [List.mem_singleton] at hx_; subst hx_; exact hge44)
    clear K_ hc42
    obtain ⟨e49, he49⟩ : ∃ x, x = (if left0 - (1 + wordsO (followS s 0 0).1) < 0 then (22 : Int) else 0) := ⟨_, rfl⟩
    rw [← he49]
    have hqe49 : (left0 - (1 + wordsO (followS s 0 0).1) < 0 ∧ e49 = 22) ∨ (¬ left0 - (1 + wordsO (followS s 0 0).1) < 0 ∧ e49 = 0) := by rw [he49]; split <;> omega
    refine stp (zA0 rfl ?_)
    refine zA4 ?_
    refine zA6 (zA1 rfl ?_)
    refine stp (zA2 rfl ?_)
    refine stp (zI9 rfl rfl ?_)
    refine zA4 ?_
    refine zB8 (b := (decide (e49 ≠ 0))) rfl (fun h5 => ?_) (fun h5 => ?_)
    ·-- true
     replace h5 := of_decide_eq_true h5
     have he_ : e49 = 22 := by omega
     refine zA6 (zA1 rfl ?_)
     refine stp (zD4 (v := .agg #[.int .i64 0, .int .i64 0, .int .i64 0, .int .i64 0, .int .u64 0]) (fun w => by kernel_rfl) ?_)
     refine stp (zA2 rfl ?_)
     refine stn (zB1 rfl rfl hc10 (by rfl) (by rfl) (by rfl) ?_)
     intro w50 hc51 u52
     replace hc4 := u52.heap hc4 ne13
     replace hc30 := u52.heap hc30 ne35.symm
     replace hb48 := u52.heap hb48 ne45.symm
     replace G := G.upd u52 hge12
     clear u52 hc10
     refine stp (zA0 rfl ?_)
     refine zA4 ?_
     refine zC4 ?_
     have h9 : (walkS s steps a cost) = (Vl0, 22) := by unfold walkS; rw [if_neg hno, if_neg h3, if_neg h4, ← hl0, if_pos (by omega)]
     refine ret2 (zC9 rfl hc51 (by rfl)) (zB3 (v := .int .u16 e49) rfl) ⟨?_, G⟩
     rw [h9, he_] <;> rfl
    ·-- false
     replace h5 := of_decide_eq_false h5
     have hw0 : (walkS s steps a cost) = nextS s a (steps.drop 0) (followS s 0 0).1 (left0 - (1 + wordsO (followS s 0 0).1)) := by unfold walkS; rw [if_neg hno, if_neg h3, if_neg h4, ← hl0, if_neg (by omega)]; rfl
     refine zC3 ?_
     refine zA6 ?_
     refine yL2 ?_
     refine zA6 ?_
     refine zA6 (zA1 rfl ?_)
     refine stp (zA5 rfl ?_)
     refine stp (zB5 (v := .slice ad steps.length c) rfl hc4 rfl ?_)
     refine stp (zE8 rfl rfl rfl ?_)
     refine stp (zA2 rfl ?_)
     refine zA4 ?_
     refine zC6 ?_
     have hlw := zM2 hr0_
     refine zG6 (fun m_ e_ w_ => ∃ (k : Nat) (o : Ob) (left : Int), m_ = steps.length - k ∧ Fr [(4, .pointer (some ⟨b1, 0, none⟩)), (6, .pointer (some ⟨b7, 0, none⟩)), (11, .int .u16 ((followS s 0 0).2)), (12, .pointer (some ⟨b39, 0, none⟩)), (13, .func (.func 62) #[.pointer (some ⟨b39, 0, none⟩)] #[]), (59, .slice ad steps.length c), (60, .int .i64 (steps.length : Int)), (61, .int .i64 (k : Int))] e_ ∧ (k ≤ steps.length) ∧ (ObR o) ∧ (0 ≤ left ∧ left ≤ 9223372036854775807) ∧ ((walkS s steps a cost) = nextS s a (steps.drop k) o left) ∧ (w_.heap[b1]? = some (.cells #[.slice ad steps.length c, .int .i64 a] 29 (0, 0))) ∧ (w_.heap[b7]? = some (.cells #[.int .i64 0, .int .i64 0, .int .i64 0, .int .i64 0, .int .u64 0] 35 (0, 0))) ∧ (w_.heap[b24]? = some (.cells #[.int .i64 ((followS s 0 0).1.kind), .int .i64 ((followS s 0 0).1.seg), .int .i64 ((followS s 0 0).1.at_), .int .i64 ((followS s 0 0).1.data), .int .i64 ((followS s 0 0).1.ptrs), .int .i64 ((followS s 0 0).1.size), .int .i64 ((followS s 0 0).1.count)] 93 (0, 0))) ∧ (w_.heap[b39]? = some (.cells #[.iface t_ u_, .int .i64 o.kind, .int .i64 o.seg, .int .i64 o.at_, .int .i64 o.data, .int .i64 o.ptrs, .int .i64 o.size, .int .i64 o.count, .int .i64 left] 136 (0, 0))) ∧ Grow w w_) _ ⟨0, (followS s 0 0).1, (left0 - (1 + wordsO (followS s 0 0).1)), rfl, zE6 ⟨rfl, rfl, rfl, rfl, rfl, rfl, rfl, rfl, trivial⟩, by omega, hr0_, by omega, hw0, hc4, hc10, hc30, hb48, G⟩ ?_
     clear hc4 hc10 hc30 hb48
     clear G
     rintro m_ e_ w53 ⟨k, o, left, rfl, ⟨e54, rfl⟩, hk2, ho, hlf, hw, hc4, hc10, hc30, hb48, G⟩
     refine zA6 (zA1 rfl ?_)
     refine stp (zF9 rfl rfl ?_)
     refine zA4 ?_
     refine zA6 ?_
     refine zB8 (b := (decide ((k : Int) < (steps.length : Int)))) rfl (fun hlt => ?_) (fun hlt => ?_)
     ·-- true
      replace hlt := of_decide_eq_true hlt
      have hi : k < steps.length := by omega
      have hdr : steps.drop k = (steps.getD k 0) :: steps.drop (k + 1) := by rw [List.drop_eq_getElem_cons hi, zG0 hi]
      have hkk := hnn k hi
      have hso := qQ7 H ho (steps.getD k 0)
      have hsw := zM2 hso
      refine zC3 ?_
      refine zA6 ?_
      refine zC6 ?_
      refine zA6 (zA1 rfl ?_)
      refine stp (zD9 (R.grow G) rfl rfl ?_ ?_); omega
      refine stp (zD7 (v := .int .i64 (steps.getD k 0)) (m := 0) (R.grow G) rfl (zE4 0 (by omega)) ?_)
      refine stp (zA0 rfl ?_)
      refine zA4 ?_
      refine zA6 (zA1 rfl ?_)
      refine stp (zD6 rfl ?_)
      refine stp (zA2 rfl ?_)
      refine zA3 (og rfl ?_)
      refine zF1 rfl (qX7 _ H G hge44 hb48 ho hkk) ?_
      rintro v_ w55 ⟨rfl, hb56, K_⟩
      replace hc4 := K_.heap hc4 (fun hm_ => by simp only [List.mem_singleton] at hm_; rw [hm_, hb48] at hc4; exact absurd hc4 (by simp))
      replace hc10 := K_.heap hc10 (fun hm_ => by simp only [List.mem_singleton] at hm_; first | exact ne45 hm_ | exact ne45 hm_.symm)
      replace hc30 := K_.heap hc30 (fun hm_ => by simp only [List.mem_singleton] at hm_; first | exact ne46 hm_ | exact ne46 hm_.symm)
      replace G := G.trK K_ (fun x_ hx_ => by simp only [List.mem_singleton] at hx_; subst hx_; exact hge44)
      clear K_ hb48
      refine stp (zA0 rfl ?_)
      refine zA4 ?_
      refine zA6 ?_
      refine zA6 (zA1 rfl ?_)
      refine stp (zA2 rfl ?_)
      refine stp (zE9 rfl rfl ?_)
      refine zA4 ?_
      refine zB8 (b := (decide (((stepS s o (steps.getD k 0)).2) = 0))) rfl (fun h7 => ?_) (fun h7 => ?_)
      ·-- true
       replace h7 := of_decide_eq_true h7
       refine zA1 rfl ?_
       refine stp (zQ5 rfl ?_)
       refine zA3 (og rfl ?_)
       refine zF1 rfl (qL8 _ hb56 (by omega) (zM2 hso)) ?_
       rintro v_ w57 ⟨rfl, hb58, K_⟩
       replace hc4 := K_.heap hc4 (fun hm_ => by simp only [List.mem_singleton] at hm_; rw [hm_, hb56] at hc4; exact absurd hc4 (by simp))
       replace hc10 := K_.heap hc10 (fun hm_ => by simp only [List.mem_singleton] at hm_; first | exact ne45 hm_ | exact ne45 hm_.symm)
       replace hc30 := K_.heap hc30 (fun hm_ => by simp only [List.mem_singleton] at hm_; first | exact ne46 hm_ | exact ne46 hm_.symm)
       replace G := G.trK K_ (fun x_ hx_ => by simp only [List.mem_singleton] at hx_; subst hx_; exact hge44)
       clear K_ hb56
       obtain ⟨e59, he59⟩ : ∃ x, x = (if left - (1 + wordsO (stepS s o (steps.getD k 0)).1) < 0 then (22 : Int) else 0) := ⟨_, rfl⟩
       rw [← he59]
       have hqe59 : (left - (1 + wordsO (stepS s o (steps.getD k 0)).1) < 0 ∧ e59 = 22) ∨ (¬ left - (1 + wordsO (stepS s o (steps.getD k 0)).1) < 0 ∧ e59 = 0) := by rw [he59]; split <;> omega
       refine stp (zA0 rfl ?_)
       refine zA4 ?_
       refine zA6 ?_
       refine zA6 (zA1 rfl ?_)
       refine stp (zA2 rfl ?_)
       refine stp (zE9 rfl rfl ?_)
       refine zA4 ?_
       refine zB8 (b := (decide (e59 = 0))) rfl (fun h8 => ?_) (fun h8 => ?_)
       ·-- true
        replace h8 := of_decide_eq_true h8
        refine zF6 ?_
        refine zA1 rfl ?_
        refine stp (zD8 rfl rfl ?_ ?_); constructor <;> omega
        refine stp (zA2 rfl ?_)
        refine zA4 ?_
        refine ⟨_, ?_, k + 1, (stepS s o (steps.getD k 0)).1, left - (1 + wordsO (stepS s o (steps.getD k 0)).1), rfl, zE6 ⟨rfl, rfl, rfl, rfl, rfl, rfl, rfl, rfl, trivial⟩, by omega, hso, by omega, by rw [hw, hdr, nextS, if_neg (by omega), if_neg (by omega)], hc4, hc10, hc30, hb58, G⟩
        omega
       ·-- false
        replace h8 := of_decide_eq_false h8
        have he_ : e59 = 22 := by omega
        refine zC3 ?_
        refine zA6 (zA1 rfl ?_)
        refine stp (zD4 (v := .agg #[.int .i64 0, .int .i64 0, .int .i64 0, .int .i64 0, .int .u64 0]) (fun w => by kernel_rfl) ?_)
        refine stp (zA2 rfl ?_)
        refine stn (zB1 rfl rfl hc10 (by rfl) (by rfl) (by rfl) ?_)
        intro w60 hc61 u62
        replace hc4 := u62.heap hc4 ne13
        replace hc30 := u62.heap hc30 ne35.symm
        replace hb58 := u62.heap hb58 ne45.symm
        replace G := G.upd u62 hge12
        clear u62 hc10
        refine stp (zA0 rfl ?_)
        refine zA4 ?_
        refine zC4 ?_
        have h9 : (walkS s steps a cost) = (Vl0, 22) := by rw [hw, hdr, nextS, if_neg (by omega), if_pos (by omega)]
        refine ret2 (zC9 rfl hc61 (by rfl)) (zB3 (v := .int .u16 e59) rfl) ⟨?_, G⟩
        rw [h9, he_] <;> rfl
      ·-- false
       replace h7 := of_decide_eq_false h7
       refine zC3 ?_
       refine zA6 ?_
       refine zA6 (zA1 rfl ?_)
       refine stp (zA2 rfl ?_)
       refine stp (zH5 rfl rfl (by omega) ?_)
       refine zA4 ?_
       refine zI8 rfl ?_
       refine zC3 ?_
       refine zA6 (zA1 rfl ?_)
       refine stp (zD4 (v := .agg #[.int .i64 0, .int .i64 0, .int .i64 0, .int .i64 0, .int .u64 0]) (fun w => by kernel_rfl) ?_)
       refine stp (zA2 rfl ?_)
       refine stn (zB1 rfl rfl hc10 (by rfl) (by rfl) (by rfl) ?_)
       intro w63 hc64 u65
       replace hc4 := u65.heap hc4 ne13
       replace hc30 := u65.heap hc30 ne35.symm
       replace hb56 := u65.heap hb56 ne45.symm
       replace G := G.upd u65 hge12
       clear u65 hc10
       refine stp (zA0 rfl ?_)
       refine zA4 ?_
       refine zC4 ?_
       have h9 : (walkS s steps a cost) = (Vl0, (stepS s o (steps.getD k 0)).2) := by rw [hw, hdr, nextS, if_pos h7]
       refine ret2 (zC9 rfl hc64 (by rfl)) (zB3 (v := .int .u16 ((stepS s o (steps.getD k 0)).2)) rfl) ⟨?_, G⟩
       rw [h9] <;> rfl
     ·-- false
      replace hlt := of_decide_eq_false hlt
      have hk9 : k = steps.length := by omega
      have hv : (walkS s steps a cost) = valS s o a := by rw [hw, hk9, List.drop_length, nextS]
      refine zF6 ?_
      refine zA6 ?_
      refine zA6 (zA1 rfl ?_)
      refine stp (zA5 rfl ?_)
      refine stp (zB5 (v := .int .i64 a) rfl hc4 rfl ?_)
      refine stp (zF9 rfl rfl ?_)
      refine zA4 ?_
      refine zB8 (b := (decide (a < 0))) rfl (fun h6 => ?_) (fun h6 => ?_)
      ·-- true
       replace h6 := of_decide_eq_true h6
       refine zA6 (zA1 rfl ?_)
       refine stp (zD6 rfl ?_)
       refine stp (zC0 (v := .agg #[.int .i64 ((isS o).kind), .int .i64 ((isS o).size), .int .i64 ((isS o).words), .int .i64 ((isS o).kids), .int .u64 ((isS o).word)]) rfl (yI9 _ hb48) ?_)
       intro w66 g67
       replace hc4 := g67.heap hc4
       replace hc10 := g67.heap hc10
       replace hc30 := g67.heap hc30
       replace hb48 := g67.heap hb48
       replace G := G.tr g67
       clear g67
       refine stn (zB1 rfl rfl hc10 (by rfl) (by rfl) (by rfl) ?_)
       intro w68 hc69 u70
       replace hc4 := u70.heap hc4 ne13
       replace hc30 := u70.heap hc30 ne35.symm
       replace hb48 := u70.heap hb48 ne45.symm
       replace G := G.upd u70 hge12
       clear u70 hc10
       refine stp (zA0 rfl ?_)
       refine zA4 ?_
       refine zC4 ?_
       have h9 : (walkS s steps a cost) = (isS o, 0) := by rw [hv, valS, if_pos h6]
       refine ret2 (zC9 rfl hc69 (by rfl)) (zB3 (v := .int .u16 0) rfl) ⟨?_, G⟩
       rw [h9] <;> rfl
      ·-- false
       replace h6 := of_decide_eq_false h6
       refine zC3 ?_
       refine zA6 (zA1 rfl ?_)
       refine stp (zD6 rfl ?_)
       refine stp (zA5 rfl ?_)
       refine stp (zB5 (v := .int .i64 a) rfl hc4 rfl ?_)
       refine stp (zC0 (v := .tuple #[.int .u64 ((atS s o a).1), .int .u16 ((atS s o a).2)]) rfl (qR2 _ H G hge44 hb48 ho (by omega) (by omega)) ?_)
       intro w71 g72
       replace hc4 := g72.heap hc4
       replace hc10 := g72.heap hc10
       replace hc30 := g72.heap hc30
       replace hb48 := g72.heap hb48
       replace G := G.tr g72
       clear g72
       refine stp (zB6 (v := .tuple #[.int .u64 ((atS s o a).1), .int .u16 ((atS s o a).2)]) rfl ?_)
       refine stp (zB2 (v := .int .u64 ((atS s o a).1)) rfl rfl ?_)
       refine stp (zB2 (v := .int .u16 ((atS s o a).2)) rfl rfl ?_)
       refine stp (zA0 rfl ?_)
       refine stp (zA0 rfl ?_)
       refine zA4 ?_
       refine zA6 ?_
       refine zA6 (zA1 rfl ?_)
       refine stp (zA2 rfl ?_)
       refine stp (zI9 rfl rfl ?_)
       refine zA4 ?_
       refine zB8 (b := (decide (((atS s o a).2) ≠ 0))) rfl (fun h7 => ?_) (fun h7 => ?_)
       ·-- true
        replace h7 := of_decide_eq_true h7
        refine zA6 (zA1 rfl ?_)
        refine stp (zD4 (v := .agg #[.int .i64 0, .int .i64 0, .int .i64 0, .int .i64 0, .int .u64 0]) (fun w => by kernel_rfl) ?_)
        refine stp (zA2 rfl ?_)
        refine stn (zB1 rfl rfl hc10 (by rfl) (by rfl) (by rfl) ?_)
        intro w73 hc74 u75
        replace hc4 := u75.heap hc4 ne13
        replace hc30 := u75.heap hc30 ne35.symm
        replace hb48 := u75.heap hb48 ne45.symm
        replace G := G.upd u75 hge12
        clear u75 hc10
        refine stp (zA0 rfl ?_)
        refine zA4 ?_
        refine zC4 ?_
        have h9 : (walkS s steps a cost) = (Vl0, (atS s o a).2) := by rw [hv, valS, if_neg h6, if_pos h7]
        refine ret2 (zC9 rfl hc74 (by rfl)) (zB3 (v := .int .u16 ((atS s o a).2)) rfl) ⟨?_, G⟩
        rw [h9] <;> rfl
       ·-- false
        replace h7 := of_decide_eq_false h7
        refine zC3 ?_
        refine zA6 (zA1 rfl ?_)
        refine stp (zD6 rfl ?_)
        refine stp (zE1 rfl ?_)
        refine stp (zA5 rfl ?_)
        refine stp (zA5 rfl ?_)
        refine stp (zB5 (v := .int .i64 o.kind) rfl hb48 rfl ?_)
        refine stp (zA2 rfl ?_)
        refine stp (zD4 (v := .agg #[.int .i64 o.kind, .int .i64 0, .int .i64 0, .int .i64 0, .int .u64 ((atS s o a).1)]) (fun w => by kernel_rfl) ?_)
        refine stn (zB1 rfl rfl hc10 (by rfl) (by rfl) (by rfl) ?_)
        intro w76 hc77 u78
        replace hc4 := u78.heap hc4 ne13
        replace hc30 := u78.heap hc30 ne35.symm
        replace hb48 := u78.heap hb48 ne45.symm
        replace G := G.upd u78 hge12
        clear u78 hc10
        refine stp (zA0 rfl ?_)
        refine zA4 ?_
        refine zC4 ?_
        have h9 : (walkS s steps a cost) = (⟨o.kind, 0, 0, 0, (atS s o a).1⟩, 0) := by rw [hv, valS, if_neg h6, if_neg h7]
        refine ret2 (zC9 rfl hc77 (by rfl)) (zB3 (v := .int .u16 0) rfl) ⟨?_, G⟩
        rw [h9] <;> rfl
end Go.Proofs.YtifhcfhdajkhlaaGreat.K

namespace Go.Proofs.YtifhcfhdajkhlaaGreat.K
open Go Go.RowKit
structure KpQ where
  r : World → World → Prop
  g : World → World → Prop
  gdrew : ∀ w : World, g w { w with drawn := w.drawn + 1 }
  refl : ∀ w, r w w
  tr : ∀ {a b c : World}, r a b → r b c → r a c
  grow : ∀ {a b : World}, g a b → r a b
def Sp.StabQ (F : KpQ) : Sp → Prop
  | .ex _ => True
  | .so G => ∀ w w' v, F.r w w' → G w v → G w' v
theorem Sp.keepQ {F : KpQ} {s : Sp} (h : s.StabQ F) {w w' : World} {v : Value} (g : F.r w w') (hv : s.holds w v) : s.holds w' v := by
  cases s with
  | ex x => exact hv
  | so G => exact h w w' v g hv
end Go.Proofs.YtifhcfhdajkhlaaGreat.K

namespace Go.Proofs.YtifhcfhdajkhlaaGreat.K
open Go Go.RowKit
abbrev grQ (R : KpR) : KpQ := ⟨R.r, Grow, Grow.drew', R.refl, R.tr, R.grow⟩
def OblU (P : Program) (ops : Array Oper) (F : KpQ) (S : Nat → Env → World → Prop) (w0 : World) (e : Env) (o : Oper) (s : Sp) (l : List (Option Nat × Sp)) : Option Nat → Prop
  | none => ∀ w, F.r w0 w → OblEnv l e w fun e' => OpG P ops o e' w fun v w' => F.g w w' ∧ s.holds w' v
  | some k => ∀ w, F.r w0 w → OblEnv l e w fun e' => S k e' w → OpG P ops o e' w fun v w' => F.r w w' ∧ S (k + 1) e' w' ∧ s.holds w' v
def AOU (P : Program) (ops : Array Oper) (F : KpQ) (S : Nat → Env → World → Prop) (ms : List Nat) (w0 : World) (e : Env) (K : List Dn → Prop) : List Oper → List (List Nat) → List Dn → Prop
  | [], _, rdone => K rdone.reverse
  | o :: r, an, rdone => ∃ s : Sp, s.StabQ F ∧ OblU P ops F S w0 e o s (selB rdone (an.headD [])) (mutNo ms 0 rdone.length) ∧
      AOU P ops F S ms w0 e K r an.tail (⟨o, s, an.headD []⟩ :: rdone)
section
variable {P : Program} {ops : Array Oper} {F : KpQ} {S : Nat → Env → World → Prop} {ms : List Nat} {w0 : World} {e : Env} {K : List Dn → Prop} {o : Oper} {r : List Oper} {a : List Nat} {an : List (List Nat)} {rdone : List Dn}
theorem zF5 (x : Value) (hm : mutNo ms 0 rdone.length = none) (h : ∀ w, F.r w0 w → OblEnv (selB rdone a) e w fun e' => OpG P ops o e' w fun v w' => F.g w w' ∧ v = x)
    (next : AOU P ops F S ms w0 e K r an (⟨o, .ex x, a⟩ :: rdone)) : AOU P ops F S ms w0 e K (o :: r) (a :: an) rdone := ⟨.ex x, trivial, by rw [hm]; exact h, next⟩
theorem zS7 (G : World → Value → Prop) (hst : ∀ w w' v, F.r w w' → G w v → G w' v) (hm : mutNo ms 0 rdone.length = none) (h : ∀ w, F.r w0 w → OblEnv (selB rdone a) e w fun e' => OpG P ops o e' w fun v w' => F.g w w' ∧ G w' v)
    (next : AOU P ops F S ms w0 e K r an (⟨o, .so G, a⟩ :: rdone)) : AOU P ops F S ms w0 e K (o :: r) (a :: an) rdone := ⟨.so G, hst, by rw [hm]; exact h, next⟩
theorem qC5 (k : Nat) (x : Value) (hm : mutNo ms 0 rdone.length = some k) (h : ∀ w, F.r w0 w → OblEnv (selB rdone a) e w fun e' => S k e' w → OpG P ops o e' w fun v w' => F.r w w' ∧ S (k + 1) e' w' ∧ v = x)
    (next : AOU P ops F S ms w0 e K r an (⟨o, .ex x, a⟩ :: rdone)) : AOU P ops F S ms w0 e K (o :: r) (a :: an) rdone := ⟨.ex x, trivial, by rw [hm]; exact h, next⟩
theorem qC6 {an : List (List Nat)} (h : K rdone.reverse) : AOU P ops F S ms w0 e K [] an rdone := h
end
def GoodU (P : Program) (ops : Array Oper) (F : KpQ) (S : Nat → Env → World → Prop) (ms : List Nat) (w0 : World) (e : Env) (D : List Dn) : Prop :=
  ∀ i d, D[i]? = some d → d.s.StabQ F ∧ OblU P ops F S w0 e d.o d.s (selB (D.take i).reverse d.anc) (mutNo ms 0 i)
theorem yC8 {P : Program} {ops : Array Oper} {F : KpQ} {S : Nat → Env → World → Prop} {ms : List Nat} {w0 : World} {e : Env} {K : List Dn → Prop} : ∀ (r : List Oper) (an : List (List Nat)) (rdone : List Dn), r.length = an.length →
    AOU P ops F S ms w0 e K r an rdone → GoodU P ops F S ms w0 e rdone.reverse → ∃ D, K D ∧ GoodU P ops F S ms w0 e D ∧ D.map Dn.o = rdone.reverse.map Dn.o ++ r ∧ D.map Dn.anc = rdone.reverse.map Dn.anc ++ an
  | [], [], rdone, _, h, hg => ⟨rdone.reverse, h, hg, by simp, by simp⟩
  | [], _ :: _, _, hl, _, _ => by simp at hl
  | _ :: _, [], _, hl, _, _ => by simp at hl
  | o :: r, a :: an, rdone, hl, ⟨s, hs, ho, hn⟩, hg => by
    simp only [List.headD_cons, List.tail_cons] at ho hn
    obtain ⟨D, hK, hG, hD, hA⟩ := yC8 r an (⟨o, s, a⟩ :: rdone) (by simpa using hl) hn (by
      intro i d hd
      simp only [List.reverse_cons] at hd ⊢
      rcases Nat.lt_or_ge i rdone.reverse.length with hi | hi
      · rw [List.getElem?_append_left hi] at hd
        rw [List.take_append_of_le_length (by omega)]
        exact hg i d hd
      · rw [List.getElem?_append_right hi] at hd
        have h0 : i - rdone.reverse.length = 0 := by
          rcases Nat.eq_zero_or_pos (i - rdone.reverse.length) with h | h
          · exact h
          · rw [List.getElem?_eq_none (by simp only [List.length_cons, List.length_nil]; omega)] at hd; cases hd
        rw [h0] at hd
        have hi' : i = rdone.reverse.length := by omega
        subst hi'
        simp only [List.getElem?_cons_zero, Option.some.injEq] at hd
        subst hd
        have ht : (rdone.reverse ++ [(⟨o, s, a⟩ : Dn)]).take rdone.reverse.length = rdone.reverse := by simp
        rw [ht, List.reverse_reverse]
        rw [List.length_reverse]
        exact ⟨hs, ho⟩)
    exact ⟨D, hK, hG, by rw [hD]; simp, by rw [hA]; simp⟩

def usOk (ops : List Oper) (an : List (List Nat)) (U ms : List Nat) : Bool := U.all fun u => ms.all fun m => (an.getD m []).any fun j => match (ops[j]?).bind (·.dst) with | some d => Nat.beq d u | none => false
theorem yC9 {ops : List Oper} {an : List (List Nat)} {U ms : List Nat} (h : usOk ops an U ms = true) {u m : Nat} (hu : u ∈ U) (hm : m ∈ ms) : ∃ j o, j ∈ an.getD m [] ∧ ops[j]? = some o ∧ o.dst = some u := by
  unfold usOk at h
  simp only [List.all_eq_true, List.any_eq_true] at h
  obtain ⟨j, hj, hd⟩ := h u hu m hm
  cases ho : ops[j]? with
  | none => rw [ho] at hd; simp at hd
  | some o =>
    rw [ho] at hd
    cases hdst : o.dst with
    | none => simp [hdst] at hd
    | some d =>
      simp only [Option.bind_some, hdst] at hd
      exact ⟨j, o, hj, ho, by rw [hdst, Nat.eq_of_beq_eq_true hd]⟩
section main
variable {P : Program} {N : Nat} {hd tl : List Oper} {Q : Ex → Env → World → Prop} {F : KpQ} {U : List Nat} {S : Nat → Env → World → Prop} {ms : List Nat}

structure InvU (F : KpQ) (S : Nat → Env → World → Prop) (ms : List Nat) (P : Program) (hd tl : List Oper) (D : List Dn) (w0 : World) (e : Env) (L : Array Bool) (E : Env) (w : World) : Prop where
  msro : E.ms = e.ms ∧ E.ro = e.ro
  down : Down (hd ++ tl) L
  head : ∀ i, Ls L i → i < hd.length
  grow : F.r w0 w
  st : ∃ k, k ≤ ms.length ∧ S k E w ∧ ∀ (j p : Nat), ms[j]? = some p → (Ls L p ↔ j < k)
  got : ∀ (i : Nat) (d : Dn), D[i]? = some d → Ls L i → ∃ v, d.s.holds w v ∧ ∀ t, d.o.dst = some t → E t = v
  off : ∀ u, (∀ (i : Nat) (o : Oper), (hd ++ tl)[i]? = some o → Ls L i → o.dst ≠ some u) → E u = e u

theorem yM5 (sh : Shape hd tl) {D : List Dn} {w0 : World} {e : Env} (hD : D.map Dn.o = hd) (hA : D.map Dn.anc = ancB (hd ++ tl) hd.length) (hg : GoodU P (hd ++ tl).toArray F S ms w0 e D)
    (hS : ∀ k e w w', F.g w w' → S k e w → S k e w') (hSe : ∀ k e e' w, (∀ u ∈ U, e u = e' u) → S k e w → S k e' w) (hS0 : ∀ e e' w, S 0 e w → S 0 e' w) (hUo : usOk (hd ++ tl) (ancL (hd ++ tl) []) U ms = true) (hmo : mutOk (ancL (hd ++ tl) []) [] ms = true) (hml : ∀ (j p : Nat), ms[j]? = some p → p < hd.length)
    (hfin : ∀ w, F.r w0 w → Fin (fun e w => S ms.length e w → WL P (hd ++ tl).toArray Q tl e w) D e w) : ∀ (fuel : Nat) (L : Array Bool) (E : Env) (w : World),
    InvU F S ms P hd tl D w0 e L E w → left L ≤ fuel → AnyE P (hd ++ tl).toArray Q fuel L E w := by
  have hlen : D.length = hd.length := by rw [← hD]; simp
  have hDo : ∀ (i : Nat) (d : Dn), D[i]? = some d → (hd ++ tl)[i]? = some d.o := fun i d h => by
    have hi : i < D.length := (List.getElem?_eq_some_iff.1 h).1
    rw [List.getElem?_append_left (by omega), ← hD]; simp [h]
  have hanc := qP5 sh hlen hA
  -- with all of the head listed, what follows stands
  have fin : ∀ (L : Array Bool) (E : Env) (w : World), InvU F S ms P hd tl D w0 e L E w → (∀ i, i < hd.length → Ls L i) → WL P (hd ++ tl).toArray Q tl E w := by
    intro L E w inv hall
    have hSl : S ms.length E w := by
      obtain ⟨k0, hk0, hSk, hch⟩ := inv.st
      rcases Nat.lt_or_ge k0 ms.length with hlt | hge
      · have hp := List.getElem?_eq_getElem hlt
        have := (hch k0 _ hp).1 (hall _ (hml k0 _ hp))
        omega
      · rw [show ms.length = k0 from by omega]; exact hSk
    obtain ⟨e', hG, hmr, hu⟩ := qA4 E D e (hfin w inv.grow) (fun d hd' => by
      obtain ⟨i, hi, rfl⟩ := List.getElem_of_mem hd'
      exact inv.got i _ (List.getElem?_eq_getElem hi) (hall i (by omega)))
    have : e' = E := by
      refine Env.ext' (fun u => ?_) (by rw [hmr.1, inv.msro.1]) (by rw [hmr.2, inv.msro.2])
      by_cases hin : ∃ d ∈ D, d.o.dst = some u
      · exact (hu u).1 hin
      · rw [(hu u).2 (fun d hd' he => hin ⟨d, hd', he⟩)]
        refine (inv.off u fun i o ho hl hou => hin ?_).symm
        have hi := inv.head i hl
        have hiD : i < D.length := by omega
        have := hDo i _ (List.getElem?_eq_getElem hiD)
        rw [ho] at this
        exact ⟨D[i], List.getElem_mem hiD, by rw [← Option.some.inj this]; exact hou⟩
    subst this; exact hG hSl
  -- and so the rest of the region
  have rest : ∀ (fuel : Nat) (L : Array Bool) (E : Env) (w : World), InvU F S ms P hd tl D w0 e L E w → (∀ i, i < hd.length → Ls L i) → left L ≤ fuel →
      AnyE P (hd ++ tl).toArray Q fuel L E w := by
    intro fuel L E w inv hall hf
    refine yA1 sh fuel hd.length L E w inv.down (fun i => ⟨inv.head i, hall i⟩) (Nat.le_refl _) (by simp) hf ?_
    rw [List.drop_left]
    exact fin L E w inv hall
  intro fuel
  induction fuel with
  | zero =>
    intro L E w inv hf
    refine rest 0 L E w inv (fun i hi => ?_) hf
    by_cases hl : Ls L i
    · exact hl
    · have := zO0 (L := L) (i := i) (by rw [inv.down.size]; simp; omega) hl; omega
  | succ fuel ih =>
    intro L E w inv hf
    by_cases hall : ∀ i, i < hd.length → Ls L i
    · exact rest _ L E w inv hall hf
    refine ⟨fun hr => absurd (fun i hi => zT0 inv.down.size sh.back hr i (by simp; omega)) hall, fun i hi o' ho' => ?_⟩
    obtain ⟨hn, o, ho, hedge⟩ := (zP3 inv.down.size).1 hi
    have hin : i < (hd ++ tl).length := (List.getElem?_eq_some_iff.1 ho).1
    have hal := zJ7 inv.down i o ho hedge
    have hih : i < hd.length := by
      rcases Nat.lt_or_ge i hd.length with h' | h'
      · exact h'
      · exact absurd (fun j hj => hal j (sh.tail i h' hin j (by omega))) hall
    have hi' : i < L.size := by rw [inv.down.size]; exact hin
    have hiD : i < D.length := by omega
    have hd' := List.getElem?_eq_getElem hiD
    generalize hdd : D[i] = d at hd'
    have hod : d.o = o := by have := hDo i d hd'; rw [ho] at this; exact (Option.some.inj this).symm
    obtain ⟨hst, hob⟩ := hg i d hd'
    have ha := hanc i d hd'
    rw [ha] at hob
    have hanI : (ancL (hd ++ tl) []).getD i [] = ancI (hd ++ tl) i := rfl
    have hinst : ∀ p ∈ sel (D.take i) (ancI (hd ++ tl) i), ∃ v, p.2.holds w v ∧ ∀ t, p.1 = some t → E t = v := by
      intro p hp
      unfold sel at hp
      rw [List.mem_filterMap] at hp
      obtain ⟨j, hj, hp⟩ := hp
      rw [List.getElem?_take] at hp
      split at hp
      · cases hdj : D[j]? with
        | none => rw [hdj] at hp; simp at hp
        | some dj =>
          rw [hdj] at hp
          simp only [Option.map_some, Option.some.injEq] at hp
          subst hp
          exact inv.got j dj hdj (hal j hj)
      · simp at hp
    have hmem : ∀ u, (∃ p ∈ sel (D.take i) (ancI (hd ++ tl) i), p.1 = some u) ↔ ∃ j ∈ ancI (hd ++ tl) i, ∃ dj, D[j]? = some dj ∧ dj.o.dst = some u := by
      intro u
      unfold sel
      constructor
      · rintro ⟨p, hp, hpu⟩
        rw [List.mem_filterMap] at hp
        obtain ⟨j, hj, hp⟩ := hp
        rw [List.getElem?_take] at hp
        split at hp
        · cases hdj : D[j]? with
          | none => rw [hdj] at hp; simp at hp
          | some dj =>
            rw [hdj] at hp
            simp only [Option.map_some, Option.some.injEq] at hp
            subst hp
            exact ⟨j, hj, dj, hdj, hpu⟩
        · simp at hp
      · rintro ⟨j, hj, dj, hdj, hdu⟩
        refine ⟨(dj.o.dst, dj.s), ?_, hdu⟩
        rw [List.mem_filterMap]
        refine ⟨j, hj, ?_⟩
        rw [List.getElem?_take, if_pos ((zM6 ho).1 hj).1, hdj]
        rfl
    have agree : ∀ e' : Env, (∀ u, ((∃ p ∈ sel (D.take i) (ancI (hd ++ tl) i), p.1 = some u) → e' u = E u) ∧ ((∀ p ∈ sel (D.take i) (ancI (hd ++ tl) i), p.1 ≠ some u) → e' u = e u)) → ∀ u ∈ slots (hd ++ tl) o, e' u = E u := by
      intro e' hu u hu'
      by_cases hin' : ∃ p ∈ sel (D.take i) (ancI (hd ++ tl) i), p.1 = some u
      · exact (hu u).1 hin'
      · rw [(hu u).2 (fun p hp he => hin' ⟨p, hp, he⟩)]
        refine (inv.off u fun k p hp hl hpu => ?_).symm
        have hki : i ≠ k := fun h => hn (h ▸ hl)
        rcases sh.read i k o p ho hp hki u hpu hu' with h | h
        · refine hin' ((hmem u).2 ⟨k, h, ?_⟩)
          have hk := inv.head k hl
          have hkD : k < D.length := by omega
          have := hDo k _ (List.getElem?_eq_getElem hkD)
          rw [hp] at this
          exact ⟨_, List.getElem?_eq_getElem hkD, by rw [← Option.some.inj this]; exact hpu⟩
        · exact hn (zJ7 inv.down k p hp (inv.down.down k p hp hl) i h)
    have hG2 : OpG P (hd ++ tl).toArray o E w fun v w' => F.r w w' ∧ (∃ k, k ≤ ms.length ∧ S k E w' ∧ ∀ (j p : Nat), ms[j]? = some p → (Ls (L.setIfInBounds i true) p ↔ j < k)) ∧ d.s.holds w' v := by
      obtain ⟨k0, hk0, hSk, hch⟩ := inv.st
      cases hmu : mutNo ms 0 i with
      | none =>
        rw [hmu] at hob
        obtain ⟨e', hG, hu⟩ := zN5 E _ e hinst (hob w inv.grow)
        rw [hod] at hG
        refine OpG.mono ?_ (zV1 (sh.nosel i o ho) (agree e' hu) hG)
        rintro v w' ⟨g, hv⟩
        refine ⟨F.grow g, ⟨k0, hk0, hS _ _ _ _ g hSk, fun j p hj => ?_⟩, hv⟩
        rw [zK7 hi', ← hch j p hj]
        have : p ≠ i := fun h => zX5 hmu j (h ▸ hj)
        simp [this]
      | some k =>
        rw [hmu] at hob
        obtain ⟨_, hms⟩ := zP7 hmu
        rw [Nat.sub_zero] at hms
        have hkl : k < ms.length := (List.getElem?_eq_some_iff.1 hms).1
        have hkk : k0 = k := by
          have h1 : ¬ k < k0 := fun h => hn ((hch k i hms).2 h)
          rcases Nat.lt_or_ge k0 k with hlt | hge
          · have hq := List.getElem?_eq_getElem (show k0 < ms.length by omega)
            have h2 := (zT1 hmo k i hms).2 k0 _ hlt hq
            rw [hanI] at h2
            have := (hch k0 _ hq).1 (hal _ h2)
            omega
          · omega
        subst hkk
        obtain ⟨e', hG, hu⟩ := zN5 E _ e hinst (hob w inv.grow)
        have hUe : ∀ u ∈ U, e' u = E u := fun u hu' => by
          obtain ⟨j, oj, hj, hoj, hdj⟩ := yC9 hUo hu' (List.mem_of_getElem? hms)
          rw [hanI] at hj
          have hji := ((zM6 ho).1 hj).1
          have hjD : j < D.length := by omega
          refine (hu u).1 ((hmem u).2 ⟨j, hj, D[j], List.getElem?_eq_getElem hjD, ?_⟩)
          have := hDo j _ (List.getElem?_eq_getElem hjD)
          rw [hoj] at this
          rw [← Option.some.inj this]; exact hdj
        have hG := hG (hSe _ _ _ _ (fun u hu' => (hUe u hu').symm) hSk)
        rw [hod] at hG
        refine OpG.mono ?_ (zV1 (sh.nosel i o ho) (agree e' hu) hG)
        rintro v w' ⟨g, hs', hv⟩
        refine ⟨g, ⟨k0 + 1, hkl, hSe _ _ _ _ hUe hs', fun j p hj => ?_⟩, hv⟩
        rw [zK7 hi', hch j p hj]
        have anc_lt : ∀ q, q ∈ ancI (hd ++ tl) i → q < i := fun q hq => ((zM6 ho).1 hq).1
        constructor
        · rintro (rfl | h)
          · rcases Nat.lt_trichotomy j k0 with h | h | h
            · omega
            · omega
            · have h2 := (zT1 hmo j p hj).2 k0 p h hms
              exact absurd (anc_lt p h2) (by omega)
          · omega
        · intro h
          rcases Nat.lt_or_ge j k0 with h' | h'
          · exact .inr h'
          · have : j = k0 := by omega
            subst this
            rw [hms] at hj
            exact .inl (Option.some.inj hj).symm
    have hoo : o = o' := by rw [List.getElem?_toArray, ho] at ho'; exact Option.some.inj ho'
    subst hoo
    refine OpG.mono ?_ hG2
    rintro v w' ⟨hgr, hst', hv⟩
    have hst' : ∃ k, k ≤ ms.length ∧ S k (E.put o.dst v) w' ∧ ∀ (j p : Nat), ms[j]? = some p → (Ls (L.setIfInBounds i true) p ↔ j < k) := by
      obtain ⟨k, hk, hSk, hch⟩ := hst'
      refine ⟨k, hk, ?_, hch⟩
      rcases Nat.eq_zero_or_pos k with h0 | h0
      · subst h0; exact hS0 _ _ _ hSk
      · refine hSe _ _ _ _ (fun u hu' => ?_) hSk
        have hq := List.getElem?_eq_getElem (show 0 < ms.length by omega)
        obtain ⟨j, oj, hj, hoj, hdj⟩ := yC9 hUo hu' (List.mem_of_getElem? hq)
        have hl0 := (hch 0 _ hq).2 h0
        have hji : j ≠ i := by
          intro he
          rw [zK7 hi'] at hl0
          rcases hl0 with h' | h'
          · rw [he, h'] at hj
            have := ((zM6 ho).1 hj).1
            omega
          · have hp0 := inv.head _ h'
            have hpl : ms[0] < (hd ++ tl).length := by simp; omega
            have := zJ7 inv.down ms[0] _ (List.getElem?_eq_getElem hpl) (fun k hk => inv.down.down _ _ (List.getElem?_eq_getElem hpl) h' k hk) j hj
            rw [he] at this
            exact hn this
        cases hdst' : o.dst with
        | none => rfl
        | some t' =>
          refine (zR5 _ _ fun htt => ?_).symm
          exact sh.uniq i j o oj ho hoj (Ne.symm hji) t' hdst' (by rw [hdj, htt])
    refine ih _ _ w' ⟨⟨by rw [qT0]; exact inv.msro.1, by rw [qT1]; exact inv.msro.2⟩, inv.down.set ho hedge, fun j hj => ?_, F.tr inv.grow hgr, hst', fun j dj hdj hl => ?_, fun u hu' => ?_⟩ (by have := zO0 hi' hn; omega)
    · rw [zK7 hi'] at hj
      rcases hj with rfl | hj
      · exact hih
      · exact inv.head j hj
    · rw [zK7 hi'] at hl
      by_cases hji : j = i
      · subst hji
        rw [hd'] at hdj
        cases hdj
        refine ⟨v, hv, fun t ht => ?_⟩
        rw [hod] at ht
        rw [ht]; exact zN9 _ _ _
      · have hlj := hl.resolve_left hji
        obtain ⟨vj, hvj, htj⟩ := inv.got j dj hdj hlj
        have hkeep : dj.s.holds w' vj := by
          have hsj := (hg j dj hdj).1
          exact Sp.keepQ hsj hgr hvj
        refine ⟨vj, hkeep, fun t ht => ?_⟩
        rw [← htj t ht]
        cases hdst' : o.dst with
        | none => rfl
        | some t' =>
          refine zR5 _ _ fun htt => ?_
          exact sh.uniq i j o dj.o ho (hDo j dj hdj) (Ne.symm hji) t' hdst' (by rw [ht, htt])
    · have hne : o.dst ≠ some u := hu' i o ho ((zK7 hi').2 (.inl rfl))
      have : E.put o.dst v u = E u := by
        cases hdst' : o.dst with
        | none => rfl
        | some t' => exact zR5 _ _ fun htt => hne (by rw [hdst', htt])
      rw [this]
      exact inv.off u fun k p hp hl => hu' k p hp ((zK7 hi').2 (.inr hl))

theorem qL9 {id : Nat} {e : Env} {w : World} {l : List Oper} (m : Nat) (an : List (List Nat)) (ms U : List Nat) (F : KpQ) (S : Nat → Env → World → Prop) (hm : P.follows .mixedOrders = true) (hsh : shapeOk (l.take m) (l.drop m) = true)
    (han : ancB l (l.take m).length = an) (hdst : dstOk N l = true) (hmo : (mutOk (ancL l []) [] ms && ms.all fun p => Nat.blt p (l.take m).length) = true) (hUo : usOk l (ancL l []) U ms = true) (hS : ∀ k e w w', F.g w w' → S k e w → S k e w') (hSe : ∀ k e e' w, (∀ u ∈ U, e u = e' u) → S k e w → S k e' w) (hS0 : ∀ e e' w, S 0 e w → S 0 e' w) (h0 : ∀ w0, F.g w w0 → S 0 e w0)
    (h : ∀ w0, F.g w w0 → AOU P l.toArray F S ms w0 e (fun D => ∀ w', F.r w0 w' → Fin (fun e w => S ms.length e w → WL P l.toArray Q (l.drop m) e w) D e w') (l.take m) an []) :
    W P N (.region id l.toArray true) Q e w := by
  have hl := List.take_append_drop m l
  generalize hhd : l.take m = hd at *
  generalize htl : l.drop m = tl at *
  subst hl
  have h := h { w with drawn := w.drawn + 1 } (F.gdrew w)
  have h0 := h0 { w with drawn := w.drawn + 1 } (F.gdrew w)
  simp only [Bool.and_eq_true, List.all_eq_true] at hmo
  have hml : ∀ (j p : Nat), ms[j]? = some p → p < hd.length := fun j p hj => by
    have := hmo.2 p (List.mem_of_getElem? hj)
    simpa [Nat.blt_eq] using this
  intro b a k cs hs he
  subst he
  have sh := qG8 hsh
  obtain ⟨D, hK, hG, hDo, hDa⟩ := yC8 _ _ _ (by rw [← han]; simp [ancB, zL6]) h (fun i d hd' => by simp at hd')
  have hDo' : D.map Dn.o = hd := by simpa using hDo
  have hDa' : D.map Dn.anc = ancB (hd ++ tl) hd.length := by rw [hDa, han]; simp
  have hno : ∀ i, ¬ Ls (Array.replicate (hd ++ tl).toArray.size false) i := fun i => by simp [Ls, Array.getD_eq_getD_getElem?, Array.getElem?_replicate]; split <;> simp
  have hany : AnyE P (hd ++ tl).toArray Q (hd ++ tl).toArray.size (Array.replicate (hd ++ tl).toArray.size false) (env b.roundOf a) { w with drawn := w.drawn + 1 } := by
    refine yM5 sh hDo' hDa' hG hS hSe hS0 hUo hmo.1 hml hK _ _ _ _ ⟨⟨rfl, rfl⟩, ⟨by simp, fun i o ho hl => absurd hl (hno i)⟩, fun i hl => absurd hl (hno i), F.refl _, ⟨0, Nat.zero_le _, h0, fun j p hj => ⟨fun hl => absurd hl (hno p), fun h => by omega⟩⟩, fun i d hd' hl => absurd hl (hno i), fun u _ => rfl⟩ ?_
    unfold Go.Proofs.YtifhcfhdajkhlaaGreat.K.left
    have := List.countP_le_length (p := (!·)) (l := (Array.replicate (hd ++ tl).toArray.size false).toList)
    simpa using this
  have hs2 := zX3 _ ((w.tape w.drawn (.order b.fn id))) _ _ _ hany
  obtain ⟨x, a', w', h1, h2, h3⟩ := zP1 hdst (k := k) (cs := cs) _ a _ hs hs2
  refine ⟨x, a', w', h1, h2, .of (.one stepR_region_draw) ?_⟩
  simp only [Region.schedule, hm, Bool.true_or, if_true]
  exact h3

end main
end Go.Proofs.YtifhcfhdajkhlaaGreat.K

namespace Go.Proofs.YtifhcfhdajkhlaaGreat.K
open Go Go.RowKit

/-! ### what choices make may be -/
theorem qF6 {left : Nat} : ∀ {ks : List Nd}, Nd.rights ks left = true ↔ ∀ t ∈ ks, t.right left = true
  | [] => by simp [Nd.rights]
  | t :: ts => by simp only [Nd.rights, Bool.and_eq_true, qF6 (ks := ts), List.mem_cons, forall_eq_or_imp]
theorem qC7 (l : Nat) : Nd.nil.right l = true := by simp [Nd.nil, Nd.right, Nd.own, Nd.rights]
theorem zY0 {f : List Int → Nd × List Int} {Q : List Int → Prop} {R : Nd → Prop} (hf : ∀ c, Q c → Q (f c).2 ∧ R (f c).1) : ∀ (n : Nat) (c : List Int), Q c → ∀ t ∈ (treesP f n c).1, R t
  | 0, c, h => by simp [treesP]
  | n + 1, c, h => by
    have h2 := zT2 (f := f) (Q := Q) (fun c hc => (hf c hc).1) n c h
    intro t ht
    simp only [treesP, List.mem_append, List.mem_singleton] at ht
    rcases ht with ht | rfl
    · exact zY0 hf n c h t ht
    · exact (hf _ h2).2
def isU8 (c : List Int) : Prop := ∀ x ∈ c, inR .u8 x
theorem qC8 : ∀ (d : Nat) (c : List Int) (l : Nat), d ≤ l → isU8 c → (treeP d c).1.right l = true
  | 0, c, l, _, _ => by simp [treeP, qC7]
  | d + 1, [], l, _, _ => by simp [treeP, qC7]
  | d + 1, k :: c, l, hl, hc => by
    have hk := hc k (by simp)
    simp only [inR] at hk
    have hcc : isU8 c := fun x hx => hc x (by simp [hx])
    have hr : Nd.rights (treesP (treeP d) (k / 8 % 5).toNat c).1 (l - 1) = true := qF6.2 (zY0 (f := treeP d) (Q := isU8) (R := fun t => t.right (l - 1) = true) (fun c hq => ⟨zX8 d c hq, qC8 d c (l - 1) (by omega) hq⟩) _ c hcc)
    have hn := zM1 (treeP d) (k / 8 % 5).toNat c
    have hl0 : ¬ l = 0 := by omega
    simp only [treeP]
    split
    · exact qC7 l
    · split
      · simp [Nd.right, Nd.rights, Nd.own, hl0]; omega
      · split
        · simp [Nd.right, Nd.rights, Nd.own, hl0]; omega
        · split
          · simp only [Nd.right, hr, Nd.own, Bool.and_true]
            simp [hl0]; omega
          · simp only [Nd.right, hr, Nd.own, Bool.and_true]
            simp [hl0]; split <;> omega
theorem qC9 : ∀ (d : Nat) (c : List Int), isU8 c → (treeP d c).1.needs + 7 * ((treeP d c).2.length : Int) ≤ 7 * c.length
  | 0, c, _ => by simp [treeP, Nd.nil, Nd.needs, Nd.needsL, Nd.need]
  | d + 1, [], _ => by simp [treeP, Nd.nil, Nd.needs, Nd.needsL, Nd.need]
  | d + 1, k :: c, hc => by
    have hk := hc k (by simp)
    simp only [inR] at hk
    have hcc : isU8 c := fun x hx => hc x (by simp [hx])
    have key : ∀ (n : Nat) (c : List Int), isU8 c → Nd.needsL (treesP (treeP d) n c).1 + 7 * ((treesP (treeP d) n c).2.length : Int) ≤ 7 * c.length := by
      intro n
      induction n with
      | zero => intro c _; simp [treesP, Nd.needsL]
      | succ n ih =>
        intro c hq
        have h1 := ih c hq
        have h2 := qC9 d (treesP (treeP d) n c).2 (zU4 d n c hq)
        simp only [treesP, zV9, Nd.needsL]
        omega
    have hs := key (k / 8 % 5).toNat c hcc
    have hn := zM1 (treeP d) (k / 8 % 5).toNat c
    simp only [treeP]
    split
    · simp [Nd.nil, Nd.needs, Nd.needsL, Nd.need]; omega
    · split
      · simp [Nd.needs, Nd.needsL, Nd.need]; omega
      · split
        · simp [Nd.needs, Nd.needsL, Nd.need]; omega
        · split
          · simp only [Nd.needs, Nd.need, List.length_nil, List.length_cons, hn]; simp only [show ¬ ((2 : Int) = 1) from by decide, if_false, if_true]; omega
          · simp only [Nd.needs, Nd.need, List.length_map, List.length_range, List.length_cons, hn, if_true]; omega
/-! ### in one segment -/
theorem yO5 (s l : List Int) : growA [s] 0 l = [s ++ l] := by simp [growA, growB]
theorem yO6 (s : List Int) (i : Nat) (x : Int) : setP [s] 0 i x = [s.set i x] := by simp [setP]
theorem yP3 {size : Int} {s : List Int} (h1 : (s.length : Int) ≤ size) (h2 : s.length ≤ 4096) : fullP size [s] 0 = false := by
  simp [fullP, len2, totalP]; omega
mutual
theorem Nd.lay_one (size : Int) : ∀ (t : Nd) (s : List Int) (i : Nat), t.fine → i < s.length → (s.length : Int) + t.needs ≤ size → (s.length : Int) + t.needs ≤ 4096 →
    ∃ s', t.lay size ⟨[s], false⟩ 0 i = ⟨[s'], false⟩ ∧ (s'.length : Int) = s.length + t.needs
  | .mk k z w b ks, s, i, hR, hi, h1, h2 => by
    obtain ⟨hkd, hlw, hlb, hlk, hnn, hnm, hkn, hb1⟩ := Nd.own_b (Nd.fine_own hR)
    have hnl := Nd.needsL_nn ks
    simp only [Nd.needs] at h1 h2
    simp only [Nd.lay, Bool.false_eq_true, or_false]
    by_cases hk : k = 0
    · have hks : ks = [] := yH2 (Nd.fine_own hR) (by omega)
      subst hks
      rw [if_pos hk]
      exact ⟨s, rfl, by simp [Nd.needs, Nd.need, hk, Nd.needsL]⟩
    · rw [if_neg hk]
      by_cases hn : (Nd.mk k z w b ks).need = 0
      · rw [if_pos hn, yO6]
        have hks : ks = [] := List.eq_nil_of_length_eq_zero (by have := hkn hk; omega)
        subst hks
        exact ⟨_, rfl, by rw [List.length_set]; simp [Nd.needs, hn, Nd.needsL]⟩
      · rw [if_neg hn]
        have hp : placeP size (.mk k z w b ks) ⟨[s], false⟩ 0 i = ⟨⟨[s.set i ((Nd.mk k z w b ks).near ((s.length : Int) - i - 1))], false⟩, 0, s.length⟩ := by
          unfold placeP
          rw [if_pos (by refine ⟨rfl, ?_⟩; show ((s.length : Nat) : Int) + _ ≤ _; omega)]
          show (⟨⟨setP [s] 0 i _, false⟩, 0, _⟩ : Plc) = _
          rw [yO6]
          rfl
        have hco : ((Nd.mk k z w b ks).content.length : Int) = (Nd.mk k z w b ks).need := Nd.content_length _ (by simp only [Nd.kind]; omega) (by simpa only [Nd.kind, Nd.bytes] using hb1)
        rw [hp]
        have hm : moreP size ⟨[s.set i ((Nd.mk k z w b ks).near ((s.length : Int) - i - 1))], false⟩ 0 (Nd.mk k z w b ks).content = ⟨[s.set i ((Nd.mk k z w b ks).near ((s.length : Int) - i - 1)) ++ (Nd.mk k z w b ks).content], false⟩ := by
          simp only [moreP, yO5, Bool.false_or]
          rw [yP3 (by rw [List.length_append, List.length_set]; omega) (by rw [List.length_append, List.length_set]; omega)]
        simp only [hm]
        obtain ⟨s', h3, h4⟩ := Nd.lays_one size ks (s.set i ((Nd.mk k z w b ks).near ((s.length : Int) - i - 1)) ++ (Nd.mk k z w b ks).content) (s.length + ((Nd.mk k z w b ks).need.toNat - ks.length)) (fun j hj => Nd.fine_kid hR hj)
          (by rw [List.length_append, List.length_set]; have := hkn hk; omega) (by rw [List.length_append, List.length_set]; omega) (by rw [List.length_append, List.length_set]; omega)
        refine ⟨s', h3, ?_⟩
        rw [h4, List.length_append, List.length_set]
        simp only [Nd.needs]
        omega
theorem Nd.lays_one (size : Int) : ∀ (ts : List Nd) (s : List Int) (i : Nat), (∀ (j : Nat) (h : j < ts.length), ts[j].fine) → i + ts.length ≤ s.length → (s.length : Int) + Nd.needsL ts ≤ size → (s.length : Int) + Nd.needsL ts ≤ 4096 →
    ∃ s', Nd.lays size ts ⟨[s], false⟩ 0 i = ⟨[s'], false⟩ ∧ (s'.length : Int) = s.length + Nd.needsL ts
  | [], s, i, _, _, _, _ => ⟨s, rfl, by simp [Nd.needsL]⟩
  | t :: ts, s, i, hR, hi, h1, h2 => by
    have ha := Nd.needs_nn t
    have hb := Nd.needsL_nn ts
    simp only [Nd.needsL, List.length_cons] at h1 h2 hi
    obtain ⟨s1, h3, h4⟩ := Nd.lay_one size t s i (hR 0 (by simp)) (by omega) (by omega) (by omega)
    obtain ⟨s2, h5, h6⟩ := Nd.lays_one size ts s1 (i + 1) (fun j hj => by have := hR (j + 1) (by simpa using hj); simpa using this) (by omega) (by omega) (by omega)
    refine ⟨s2, by simp only [Nd.lays, h3, h5], ?_⟩
    simp only [Nd.needsL]
    omega
end
theorem Nd.build_one {t : Nd} {size : Int} (hR : t.right 32 = true) (h1 : 1 + t.needs ≤ size) (h2 : size ≤ 4096) : ∃ s, t.build size = ([s], 0) ∧ (s.length : Int) = 1 + t.needs := by
  have hn := Nd.needs_nn t
  obtain ⟨s, h3, h4⟩ := Nd.lay_one size t [0] 0 ⟨32, hR⟩ (by simp) (by simpa using h1) (by simp; omega)
  refine ⟨s, ?_, by simpa using h4⟩
  unfold Nd.build
  rw [if_neg (by rw [hR]; simp; omega), h3, if_neg (by simp)]
theorem Nd.build_fit {t : Nd} {size : Int} (h : (t.build size).2 = 0) : Fit size (t.build size).1 := by
  unfold Nd.build at h ⊢
  split
  · rename_i hc; rw [if_pos hc] at h; simp at h
  · rename_i hc
    rw [if_neg hc] at h
    split
    · rename_i hf; rw [if_pos hf] at h; simp at h
    · rename_i hf
      have hf : (t.lay size ⟨[[0]], false⟩ 0 0).full = false := by simpa using hf
      exact (t.lay_ok size ⟨[[0]], false⟩ 0 0 (by simp)).fit (Fit.init (by omega)) hf
/-! ### one in the other -/
/-! ### things without words -/
theorem zY1 {ys : List Int} (h : isU8 ys) (i : Nat) : 0 ≤ ys.getD i 0 ∧ ys.getD i 0 ≤ 255 := by
  rcases Nat.lt_or_ge i ys.length with h1 | h1
  · have := h _ (List.getElem_mem h1)
    rw [zG0 h1]
    simpa [inR] using this
  · rw [List.getD_eq_getElem?_getD, List.getElem?_eq_none h1]; simp
end Go.Proofs.YtifhcfhdajkhlaaGreat.K

namespace Go.Proofs.YtifhcfhdajkhlaaGreat.K
open Go Go.RowKit
theorem qM0 (w : World) (sz : Nat) : RowAt w sz none 0 [] := ⟨by simp, by omega, fun h => by omega⟩
/-! ### noughts -/
def pathP (c : List Int) : List Int := (c.take 6).map (· % 6)
theorem qR3 {c : List Int} : ∀ x ∈ pathP c, 0 ≤ x ∧ x ≤ 5 := by
  intro x hx
  obtain ⟨y, _, rfl⟩ := List.mem_map.1 hx
  omega
theorem yD0 {w : World} {b : Nat} {u : Value} {q : List Int} {T : TypeId} {fr : Nat × Nat} (hb : w.heap[b]? = some (.cells #[u] T fr)) (hu : Row w 1 u q.length (wordsV q)) : ArenaR w (.slice (some ⟨b, 0, none⟩) 1 1) [q] := by
  refine ⟨[u], Row.of_block (n := 1) hb rfl rfl (by decide), fun i s hi => ?_⟩
  cases i with
  | zero => simp only [List.getElem?_cons_zero, Option.some.injEq] at hi; subst hi; exact ⟨u, rfl, hu⟩
  | succ i => simp at hi
end Go.Proofs.YtifhcfhdajkhlaaGreat.K

namespace Go.Proofs.YtifhcfhdajkhlaaGreat.K
open Go Go.RowKit
/-! ### decoding -/
def byt1 (x : Int) (i : Nat) : Int := x / 2 ^ (8 * i) % 256
def byt8 (x : Int) : List Int := (List.range 8).map (byt1 x)
theorem zO4 (x : Int) : (byt8 x).length = 8 := by simp [byt8]
theorem zL3 (l : List Int) : (l.flatMap byt8).length = 8 * l.length := by
  induction l with
  | nil => rfl
  | cons x l ih => rw [List.flatMap_cons, List.length_append, ih, zO4, List.length_cons]; omega
theorem qF7 (x : Int) (i : Nat) : 0 ≤ byt1 x i ∧ byt1 x i ≤ 255 := by unfold byt1; omega
end Go.Proofs.YtifhcfhdajkhlaaGreat.K

namespace Go.Proofs.YtifhcfhdajkhlaaGreat.K
open Go Go.RowKit
def kidA (o : Ob) : Int := if o.size = 6 then o.at_ else o.at_ + o.data
/-! ### memory -/
theorem Kp.upd_new {F : List Nat} {w w1 w2 : World} {b : Nat} (K : Kp F w w1) (u : Upd b w1 w2) (hb : w.heap.size ≤ b) : Kp F w w2 := K.trans (Kp.of_upd u (List.mem_singleton.2 rfl)) fun x hx => by simp only [List.mem_singleton] at hx; subst hx; exact .inr hb
theorem qD0 {w : World} {base n m c sz : Nat} {T : TypeId} {ad : Option Addr} {xs : List Value} (h : w.ownsRow base T sz (.slice ad n c) m xs) : n = m := by
  rcases h.2 with ⟨hv, hm⟩ | ⟨q, cap, cur, hv, _⟩
  · simp only [Value.slice.injEq] at hv
    omega
  · simp only [Value.slice.injEq] at hv
    omega
/-! ### any arena -/
def sizesP (A : List (List Int)) : List Int := A.map fun s => (s.length : Int)
theorem zG5 (A : List (List Int)) : (sizesP A).length = A.length := by simp [sizesP]
theorem zL4 (A : List (List Int)) (i : Nat) : (sizesP A).getD i 0 = (len2 A i : Int) := by
  by_cases hi : i < A.length
  · rw [zG0 (by rw [zG5]; exact hi)]
    simp only [sizesP, List.getElem_map, len2]
    rw [zG0 hi]
  · rw [zW3 (by omega), List.getD_eq_getElem?_getD, List.getElem?_eq_none (by rw [zG5]; omega)]
    rfl
theorem qD1 {A : List (List Int)} {k : Nat} (h : k < A.length) : sizesP (A.take (k + 1)) = sizesP (A.take k) ++ [(len2 A k : Int)] := by
  simp only [sizesP, len2]
  rw [List.take_add_one, List.getElem?_eq_getElem h, List.map_append, zG0 h]
  rfl
def rightB (A : List (List Int)) : Bool := decide (1 ≤ A.length ∧ A.length ≤ 16 ∧ 1 ≤ len2 A 0 ∧ totalP A ≤ 4096)
end Go.Proofs.YtifhcfhdajkhlaaGreat.K

namespace Go.Proofs.YtifhcfhdajkhlaaGreat.K
open Go Go.RowKit
structure SrcR (P : Program) (fw : FuncId) (w : World) (ua : Value) (b : Bool) (uh : Value) (A : List (List Int)) (s : Src) : Prop where
  arena : ArenaR w ua A
  sizes : s.sizes = sizesP A
  word : ∀ w', Grow w w' → ∀ seg at_ : Int, inR .i64 seg → inR .i64 at_ → Gives P fw #[.agg #[ua, .bool b, uh], .int .i64 seg, .int .i64 at_] w' (.tuple #[.int .u64 (s.word seg at_).1, .int .i64 (s.word seg at_).2])
  num : ∀ seg at_ : Int, 0 ≤ (s.word seg at_).1 ∧ (s.word seg at_).1 ≤ 18446744073709551615 ∧ 0 ≤ (s.word seg at_).2 ∧ (s.word seg at_).2 ≤ 65535
  ok : ∀ seg at_ : Int, (s.word seg at_).2 = 0 → 0 ≤ seg ∧ seg < s.sizes.length ∧ 0 ≤ at_ ∧ at_ ≤ 140737488355328
  len : A.length ≤ 1000000
  each : ∀ i, len2 A i ≤ 140737488355328
theorem SrcR.grow {P : Program} {fw : FuncId} {w w' : World} {ua uh : Value} {b : Bool} {A : List (List Int)} {s : Src} (h : SrcR P fw w ua b uh A s) (g : Grow w w') : SrcR P fw w' ua b uh A s :=
  ⟨h.arena.grow g, h.sizes, fun w2 g2 => h.word w2 (g.tr g2), h.num, h.ok, h.len, h.each⟩
theorem qX9 {A : List (List Int)} {seg at_ : Int} : withinP (sizesP A) seg at_ 1 = decide (0 ≤ seg ∧ seg < A.length ∧ 0 ≤ at_ ∧ at_ < len2 A seg.toNat) := by
  unfold withinP addOk
  rw [← Bool.decide_and]
  refine decide_eq_decide.2 ?_
  rw [zG5]
  have h := zL4 A seg.toNat
  constructor
  · rintro ⟨⟨h1, h2⟩, h3, h4, h5, h6⟩; exact ⟨h1, h2, h3, by omega⟩
  · rintro ⟨h1, h2, h3, h4⟩; exact ⟨⟨h1, h2⟩, h3, by omega, by omega, by omega⟩
section
variable {P : Program} {fw : FuncId} {w : World} {ua uh : Value} {b : Bool} {A : List (List Int)} {s : Src}
theorem SrcR.ptr_range (H : SrcR P fw w ua b uh A s) (seg at_ : Int) : PtR (ptrS s seg at_).1 := by
  obtain ⟨h1, h2, -, -⟩ := H.num seg at_
  unfold ptrS
  split
  · exact qC2
  · exact zK6 _ h1 h2
theorem SrcR.ptr_at (H : SrcR P fw w ua b uh A s) {seg at_ : Int} (h : (ptrS s seg at_).2 = 0) : 0 ≤ seg ∧ seg < s.sizes.length ∧ 0 ≤ at_ ∧ at_ ≤ 140737488355328 := by
  refine H.ok seg at_ ?_
  by_cases h0 : (s.word seg at_).2 = 0
  · exact h0
  · unfold ptrS at h; rw [if_pos h0] at h; exact absurd h h0
theorem SrcR.found_range (H : SrcR P fw w ua b uh A s) {p : Pt} (hp : PtR p) (hn : nearP p = true) (seg at_ : Int) : ObR (foundS s p seg at_).1 := by
  unfold foundS
  split
  · exact zH1
  · split
    · exact zH1
    · rename_i h1 h2
      simp only [Bool.not_eq_false] at h2
      unfold withinP addOk at h2
      simp only [Bool.and_eq_true, decide_eq_true_eq] at h2
      obtain ⟨⟨h3, h4⟩, h5, h6, h7, h8⟩ := h2
      have h9 := H.each seg.toNat
      have h10 := H.len
      have h11 : (s.sizes.getD seg.toNat 0) = (len2 A seg.toNat : Int) := by rw [H.sizes]; exact zL4 A seg.toNat
      have h12 : s.sizes.length = A.length := by rw [H.sizes]; exact zG5 A
      have hk : p.kind = 1 ∨ p.kind = 2 := by simpa [nearP] using hn
      exact ⟨by show 0 ≤ p.kind ∧ p.kind ≤ 2; omega, by show 0 ≤ seg ∧ seg ≤ _; omega, by show 0 ≤ at_ ∧ at_ ≤ _; omega, hp.data, hp.ptrs, hp.size, hp.count⟩
theorem SrcR.follow_range (H : SrcR P fw w ua b uh A s) (seg at_ : Int) : ObR (followS s seg at_).1 := by
  unfold followS
  split
  · exact zH1
  · split
    · rename_i h; exact H.found_range (H.ptr_range seg at_) h _ _
    · split
      · unfold twiceS
        split
        · exact zH1
        · split
          · exact zH1
          · split
            · exact zH1
            · split
              · exact zH1
              · split
                · exact zH1
                · rename_i h
                  obtain ⟨n1, n2, -, -⟩ := H.num (ptrS s seg at_).1.seg ((ptrS s seg at_).1.off + 1)
                  refine H.found_range (zK6 _ n1 n2) ?_ _ _
                  cases hq : nearP (decP (s.word (ptrS s seg at_).1.seg ((ptrS s seg at_).1.off + 1)).1) with
                  | true => rfl
                  | false => exact absurd (.inr (.inr (.inl hq))) h
      · unfold landedS
        split
        · exact zH1
        · split
          · exact zH1
          · rename_i h
            exact H.found_range (H.ptr_range _ _) (by simpa using h) _ _
end
theorem qY0 (p : Pt) : 0 ≤ wordsE p ∧ wordsE p ≤ 65535 := by unfold wordsE; (repeat' split) <;> simp
def bndS (s : Src) (o : Ob) : Ob × Int := if wordsE o.pt ≠ 0 then (Ob0, wordsE o.pt) else if withinP s.sizes o.seg o.at_ (wordsN o.pt) = false then (Ob0, 20) else (o, 0)
theorem qM1 (s : Src) (p : Pt) (seg at_ : Int) : foundS s p seg at_ = bndS s (objP p seg at_) := rfl
def dblS (s : Src) (p : Pt) : Ob × Int :=
  if (s.word p.seg p.off).2 ≠ 0 then (Ob0, (s.word p.seg p.off).2)
  else if (s.word p.seg (p.off + 1)).2 ≠ 0 then (Ob0, (s.word p.seg (p.off + 1)).2)
  else if decE (s.word p.seg p.off).1 ≠ 0 then (Ob0, decE (s.word p.seg p.off).1)
  else if decE (s.word p.seg (p.off + 1)).1 ≠ 0 then (Ob0, decE (s.word p.seg (p.off + 1)).1)
  else if (decP (s.word p.seg p.off).1).kind ≠ 3 ∨ (decP (s.word p.seg p.off).1).dbl = true ∨ nearP (decP (s.word p.seg (p.off + 1)).1) = false ∨ (decP (s.word p.seg (p.off + 1)).1).off ≠ 0 then (Ob0, 23)
  else (objP (decP (s.word p.seg (p.off + 1)).1) (decP (s.word p.seg p.off).1).seg (decP (s.word p.seg p.off).1).off, 0)
theorem qM2 (s : Src) (p : Pt) : twiceS s p = if (dblS s p).2 ≠ 0 then (Ob0, (dblS s p).2) else bndS s (dblS s p).1 := by
  unfold twiceS dblS
  split
  · rfl
  · split
    · rfl
    · split
      · rfl
      · split
        · rfl
        · split
          · rfl
          · rfl
structure ObW (o : Ob) : Prop where
  seg : -9223372036854775808 ≤ o.seg ∧ o.seg ≤ 9223372036854775807
  at_ : -9223372036854775808 ≤ o.at_ ∧ o.at_ ≤ 9223372036854775807
  pt : PtR o.pt
theorem yD1 {p : Pt} (h : PtR p) {seg at_ : Int} (h1 : inR .i64 seg) (h2 : inR .i64 at_) : ObW (objP p seg at_) := ⟨h1, h2, h.of⟩
section
variable {P : Program} {fw : FuncId} {w : World} {ua uh : Value} {b : Bool} {A : List (List Int)} {s : Src}
theorem SrcR.dbl_W (H : SrcR P fw w ua b uh A s) (p : Pt) : ObW (dblS s p).1 := by
  have hz : ObW Ob0 := ⟨by simp [Ob0], by simp [Ob0], qC2⟩
  obtain ⟨n1, n2, -, -⟩ := H.num p.seg p.off
  obtain ⟨n3, n4, -, -⟩ := H.num p.seg (p.off + 1)
  have hq := zK6 _ n1 n2
  have hr := zK6 _ n3 n4
  have h1 := hq.seg
  have h2 := hq.off
  unfold dblS
  (repeat' split) <;> first | exact hz | exact yD1 hr (by simp only [inR]; omega) (by simp only [inR]; omega)
end
end Go.Proofs.YtifhcfhdajkhlaaGreat.K

