/- Plain laws, rules and walks of this claim's functions, laid together. -/
import Derived.Test.YtkkbbhpbcfcplaaGreatX2
import Derived.Laws.BytesArg
set_option linter.unusedVariables false
set_option linter.unusedSimpArgs false
set_option maxRecDepth 100000
namespace Go.Proofs.YtkkbbhpbcfcplaaGreat.K
open Go Go.RowKit Go.Proofs
attribute [local irreducible] Run1 OpG WL W AO zB6
instance : IfcI Tryz.prog 76 := ⟨⟨_, Tryz.underlying76⟩⟩
theorem zR3 : MethI Tryz.prog 110 "Word" 183 := ⟨fun v args w => by kernel_rfl⟩
theorem zV9 : MethI Tryz.prog 110 "Sizes" 182 := ⟨fun v args w => by kernel_rfl⟩
theorem qD2 (w : World) {a b m : Int} (ha : inR .i64 a) (hb : inR .i64 b) (hm : inR .i64 m) : zB6 Tryz.prog 87 #[.int .i64 a, .int .i64 b, .int .i64 m] w (.tuple #[.int .i64 (if zJ2 a b m then a + b else 0), .bool (zJ2 a b m)]) := by
 simp only [inR] at ha hb hm
 have G := Grow.rfl' w
 refine zA8 Tryz.func87 Tryz.ntmps87 Tryz.results87 rfl rfl ?_
 refine qZ 10 ?_
 refine stp (qI7 rfl rfl rfl ?_)
 refine stp (zF6 rfl rfl ?_)
 refine qZ 1 ?_
 refine qG 2 ?_
 refine zA3 (zB2 (s := .bool _) (v := .bool (decide (a > m))) rfl (zE3 _) (fun hc3 => ?_) ?_)
 ·
  have hc3_ := hc3
  try simp only [sb] at hc3_
  refine zN7 (gvt hc3) (gvt hc3) ?_
  exact ⟨rfl, rfl⟩
 refine stp (zH6 rfl rfl rfl ?_)
 refine qZ 1 ?_
 refine qG 3 ?_
 refine zA3 (zB2 (s := .bool _) (v := .int .i64 (m - a)) rfl (zE3 _) (fun hc7 => ?_) ?_)
 ·
  have hc7_ := hc7
  try simp only [sb] at hc7_
  refine zM9 (gvt hc7) (gvt hc7) ?_ ?_; constructor <;> omega
  exact ⟨rfl, rfl⟩
 refine zA3 (zB2 (s := .bool _) (v := .bool (decide (b > (m - a)))) rfl (zE3 _) (fun hc8 => ?_) ?_)
 ·
  have hc8_ := hc8
  try simp only [sb] at hc8_
  refine zN7 (gvt hc8) (gvt hc8) ?_
  exact ⟨rfl, rfl⟩
 refine stp (zH6 rfl rfl rfl ?_)
 refine zA6 ?_
 refine zA2 (b := (((decide ((if b < a then b else a) < 0)) || (decide (a > m))) || (decide (b > (m - a))))) rfl (fun h1 => ?_) (fun h1 => ?_)
 ·
  simp only [sb] at h1
  refine qZ 6 ?_
  refine ret2 (zA1 (v := .int .i64 0) rfl) (zA1 (v := .bool false) rfl) ⟨?_, G⟩
  have h9 : zJ2 a b m = false := by simp only [zJ2]; exact decide_eq_false (by omega)
  rw [h9]; rfl
 ·
  simp only [sb] at h1
  have h9 : zJ2 a b m = true := by simp only [zJ2]; exact decide_eq_true (by omega)
  refine qZ 5 ?_
  refine stp (zB5 rfl rfl ?_ ?_); constructor <;> omega
  refine qZ 4 ?_
  refine ret2 (zA1 (v := .int .i64 (a + b)) rfl) (zA1 (v := .bool true) rfl) ⟨?_, G⟩
  rw [h9]; rfl
theorem qE4 (w : World) {ad : Option Addr} {c : Nat} {sz : List Int} {seg a n : Int} (R : RowAt w 1 ad sz.length (sz.map (.int .i64))) (hs : ∀ i, i < sz.length → 0 ≤ sz.getD i 0 ∧ sz.getD i 0 ≤ 140737488355328) (ha : inR .i64 a) (hn : inR .i64 n) : zB6 Tryz.prog 119 #[.slice ad sz.length c, .int .i64 seg, .int .i64 a, .int .i64 n] w (.bool (zF8 sz seg a n)) := by
 have ll := R.lim
 have G := Grow.rfl' w
 refine zA8 Tryz.func119 Tryz.ntmps119 Tryz.results119 rfl rfl ?_
 refine qZ 8 ?_
 refine stp (zF6 rfl rfl ?_)
 refine qZ 1 ?_
 refine qG 3 ?_
 refine zA3 (zB2 (s := .bool _) (v := .bool (decide (seg ≥ (sz.length : Int)))) rfl (zE3 _) (fun hc4 => ?_) ?_)
 ·
  have hc4_ := hc4
  try simp only [sb] at hc4_
  refine zP7 (gvt hc4) (gvt hc4) ?_
  exact ⟨rfl, rfl⟩
 refine stp (zH6 rfl rfl rfl ?_)
 refine zA6 ?_
 refine zA2 (b := ((decide (seg < 0)) || (decide (seg ≥ (sz.length : Int))))) rfl (fun h1 => ?_) (fun h1 => ?_)
 ·
  simp only [sb] at h1
  refine qZ 5 ?_
  refine ret1 (zA1 (v := .bool false) rfl) ⟨?_, G⟩
  have h9 : zF8 sz seg a n = false := by unfold zF8; rw [decide_eq_false (by omega), Bool.false_and]
  rw [h9]
 ·
  simp only [sb] at h1
  have h9 := hs seg.toNat (by omega)
  refine qZ 7 ?_
  refine stp (zE7 (R.grow G) rfl rfl ?_ ?_ ?_); omega; omega
  refine stp (zC5 (v := .int .i64 (sz.getD seg.toNat 0)) (m := 0) (R.grow G) rfl (by rw [Nat.mul_one]; exact zY6 0 (by omega)) ?_)
  refine stp (zA4 (v := .tuple #[.int .i64 (if zJ2 a n (sz.getD seg.toNat 0) then a + n else 0), .bool (zJ2 a n (sz.getD seg.toNat 0))]) rfl (qD2 _ ha hn (m := sz.getD seg.toNat 0) (by simp only [inR]; omega)) ?_)
  intro w5 g6
  replace G := G.tr g6
  clear g6
  refine qZ 12 ?_
  refine ret1 (zA1 (v := .bool (zJ2 a n (sz.getD seg.toNat 0))) rfl) ⟨?_, G⟩
  unfold zF8; rw [decide_eq_true (by omega), Bool.true_and]
theorem qW1 (w : World) {u : Value} {A : List (List Int)} {seg a : Int} (hA : zG2 w u A) : zB6 Tryz.prog 184 #[u, .int .i64 seg, .int .i64 a] w (.tuple #[.int .u64 ((zH1 A seg a).1), .int .u16 ((zH1 A seg a).2)]) := by
 obtain ⟨ada, ca, segsa, sa, sca, rfl, -, -, RA, hsa, hra⟩ := hA.fn
 have la := RA.lim
 have G := Grow.rfl' w
 refine zA8 Tryz.func184 Tryz.ntmps184 Tryz.results184 rfl rfl ?_
 refine qZ 9 ?_
 refine stp (zF6 rfl rfl ?_)
 refine qZ 1 ?_
 refine qG 3 ?_
 refine zA3 (zB2 (s := .bool _) (v := .bool (decide (seg ≥ (A.length : Int)))) rfl (zE3 _) (fun hc4 => ?_) ?_)
 ·
  have hc4_ := hc4
  try simp only [sb] at hc4_
  refine zP7 (gvt hc4) (gvt hc4) ?_
  exact ⟨rfl, rfl⟩
 refine stp (zH6 rfl rfl rfl ?_)
 refine qZ 1 ?_
 refine qG 1 ?_
 refine zA3 (zB2 (s := .bool _) (v := .bool (decide (a < 0))) rfl (zE3 _) (fun hc6 => ?_) ?_)
 ·
  have hc6_ := hc6
  try simp only [sb] at hc6_
  refine zF6 (gvt hc6) rfl ?_
  exact ⟨rfl, rfl⟩
 refine stp (zH6 rfl rfl rfl ?_)
 refine qZ 1 ?_
 refine qG 3 ?_
 refine zA3 (zB2 (s := .bool _) (v := .pointer (some (eadr ada ((seg).toNat * 1)))) rfl (zE3 _) (fun hc10 => ?_) ?_)
 ·
  have hc10_ := hc10
  try simp only [sb] at hc10_
  refine zE7 (RA.grow G) (gvt hc10) (gvt hc10) ?_ ?_ ?_; omega; omega
  exact ⟨rfl, rfl⟩
 refine zA3 (zB2 (s := .bool _) (v := .slice (sa seg.toNat) (len2 A seg.toNat) (sca seg.toNat)) rfl (zE3 _) (fun hc11 => ?_) ?_)
 ·
  have hc11_ := hc11
  try simp only [sb] at hc11_
  refine zC5 (v := .slice (sa seg.toNat) (len2 A seg.toNat) (sca seg.toNat)) (m := 0) (RA.grow G) (gvt hc11) (by rw [Nat.mul_one]; exact hsa _ (by omega)) ?_
  exact ⟨rfl, rfl⟩
 refine qG 1 ?_
 refine zA3 (zB2 (s := .bool _) (v := .bool (decide (a ≥ ((len2 A seg.toNat) : Int)))) rfl (zE3 _) (fun hc13 => ?_) ?_)
 ·
  have hc13_ := hc13
  try simp only [sb] at hc13_
  refine zP7 (gvt hc13) (gvt hc13) ?_
  exact ⟨rfl, rfl⟩
 refine stp (zH6 rfl rfl rfl ?_)
 refine zA6 ?_
 refine zA2 (b := ((((decide (seg < 0)) || (decide (seg ≥ (A.length : Int)))) || (decide (a < 0))) || (decide (a ≥ ((len2 A seg.toNat) : Int))))) rfl (fun h1 => ?_) (fun h1 => ?_)
 ·
  simp only [sb] at h1
  refine qZ 6 ?_
  refine ret2 (zA1 (v := .int .u64 0) rfl) (zA1 (v := .int .u16 20) rfl) ⟨?_, G⟩
  have h9 : zH1 A seg a = (0, 20) := by unfold zH1; rw [if_neg (by omega)]
  rw [h9]
 ·
  simp only [sb] at h1
  obtain ⟨-, -, Rk⟩ := hra seg.toNat (by omega)
  have lk := Rk.lim
  refine qZ 5 ?_
  refine stp (zE7 (RA.grow G) rfl rfl ?_ ?_ ?_); omega; omega
  refine stp (zC5 (v := .slice (sa seg.toNat) (len2 A seg.toNat) (sca seg.toNat)) (m := 0) (RA.grow G) rfl (by rw [Nat.mul_one]; exact hsa _ (by omega)) ?_)
  refine qZ 1 ?_
  refine stp (zE7 (Rk.grow G) rfl rfl ?_ ?_ ?_); omega; omega
  refine stp (zC5 (v := .int .u64 ((A.getD seg.toNat []).getD a.toNat 0)) (m := 0) (Rk.grow G) rfl (by rw [Nat.mul_one]; exact zY6 0 (by simp only [len2] at *; omega)) ?_)
  refine qZ 4 ?_
  refine ret2 (zA1 (v := .int .u64 ((A.getD seg.toNat []).getD a.toNat 0)) rfl) (zA1 (v := .int .u16 0) rfl) ⟨?_, G⟩
  have h9 : zH1 A seg a = ((A.getD seg.toNat []).getD a.toNat 0, 0) := by unfold zH1; rw [if_pos (by omega)]
  rw [h9]
theorem zL0 (w : World) (p : Pt) : zB6 Tryz.prog 89 #[.agg #[.int .i64 p.kind, .int .i64 p.off, .int .i64 p.data, .int .i64 p.ptrs, .int .i64 p.size, .int .i64 p.count, .int .i64 p.seg, .bool p.dbl]] w (.bool (zH4 p)) := by
 have G := Grow.rfl' w
 refine zA8 Tryz.func89 Tryz.ntmps89 Tryz.results89 rfl rfl ?_
 refine qZ 2 ?_
 refine stp ?_
 refine qC ?_
 intro b1 w2 hb3 hc4 g5
 have hge6 := Nat.le_trans G.size hb3
 replace G := G.tr g5
 clear g5 hb3
 refine qZ 6 ?_
 refine stp (zD5 rfl rfl ?_)
 refine qZ 1 ?_
 refine qG 2 ?_
 refine zA3 (zB2 (s := .bool _) (v := .bool (decide (p.kind = 2))) rfl (zE3 _) (fun hc9 => ?_) ?_)
 ·
  have hc9_ := hc9
  try simp only [sb] at hc9_
  refine zD5 (gvt hc9) rfl ?_
  exact ⟨rfl, rfl⟩
 refine stp (zH6 rfl rfl rfl ?_)
 refine qZ 3 ?_
 refine ret1 (zA1 (v := .bool ((decide (p.kind = 1)) || (decide (p.kind = 2)))) rfl) ⟨?_, G⟩
 rfl
theorem qN1 (w : World) (o : Ob) : zB6 Tryz.prog 118 #[.agg #[.int .i64 o.kind, .int .i64 o.seg, .int .i64 o.at_, .int .i64 o.data, .int .i64 o.ptrs, .int .i64 o.size, .int .i64 o.count]] w (.agg #[.int .i64 o.kind, .int .i64 0, .int .i64 o.data, .int .i64 o.ptrs, .int .i64 o.size, .int .i64 o.count, .int .i64 0, .bool false]) := by
 have G := Grow.rfl' w
 refine zA8 Tryz.func118 Tryz.ntmps118 Tryz.results118 rfl rfl ?_
 refine qZ 2 ?_
 refine stp ?_
 refine qC ?_
 intro b1 w2 hb3 hc4 g5
 have hge6 := Nat.le_trans G.size hb3
 replace G := G.tr g5
 clear g5 hb3
 refine stp (zA7 ?_)
 intro b7 w8 hb9 hc10 g11
 refine qZ 4 ?_
 have hge12 := Nat.le_trans G.size hb9
 have ne13 := qN hc4 hb9
 replace hc4 := g11.heap hc4
 replace G := G.tr g11
 clear g11 hb9
 refine qZ 9 ?_
 refine stp (zA9 (v := .agg #[.int .i64 o.kind, .int .i64 0, .int .i64 o.data, .int .i64 o.ptrs, .int .i64 o.size, .int .i64 o.count, .int .i64 0, .bool false]) (fun w => by kernel_rfl) ?_)
 refine stn (qS hc10 ?_)
 intro w14 hc15 u16
 replace hc4 := u16.heap hc4 ne13
 replace G := G.upd u16 hge12
 clear u16 hc10
 refine qZ 2 ?_
 refine ret1 (zA5 rfl hc15 (by rfl)) ⟨?_, G⟩
 rfl
theorem qE5 (w : World) (o : Ob) : zB6 Tryz.prog 93 #[.agg #[.int .i64 o.kind, .int .i64 o.seg, .int .i64 o.at_, .int .i64 o.data, .int .i64 o.ptrs, .int .i64 o.size, .int .i64 o.count]] w (.int .i64 (zB8 o)) := by
 have G := Grow.rfl' w
 refine zA8 Tryz.func93 Tryz.ntmps93 Tryz.results93 rfl rfl ?_
 refine qZ 2 ?_
 refine stp ?_
 refine qC ?_
 intro b1 w2 hb3 hc4 g5
 have hge6 := Nat.le_trans G.size hb3
 replace G := G.tr g5
 clear g5 hb3
 refine qZ 7 ?_
 refine stp (zD5 rfl rfl ?_)
 refine zA6 ?_
 refine zA2 (b := (decide (o.kind = 3))) rfl (fun h1 => ?_) (fun h1 => ?_)
 ·
  replace h1 := qT h1
  refine qZ 5 ?_
  refine ret1 (zA1 (v := .int .i64 0) rfl) ⟨?_, G⟩
  simp [zB8, Ob.pt, *]
 ·
  replace h1 := qF h1
  refine qZ 4 ?_
  refine stp (zA4 (v := .agg #[.int .i64 o.kind, .int .i64 0, .int .i64 o.data, .int .i64 o.ptrs, .int .i64 o.size, .int .i64 o.count, .int .i64 0, .bool false]) rfl (qN1 _ ⟨o.kind, o.seg, o.at_, o.data, o.ptrs, o.size, o.count⟩) ?_)
  intro w7 g8
  replace hc4 := g8.heap hc4
  replace G := G.tr g8
  clear g8
  refine stp (zA4 (v := .tuple #[.int .i64 (zF4 ⟨o.kind, 0, o.data, o.ptrs, o.size, o.count, 0, false⟩), .int .u16 (zF9 ⟨o.kind, 0, o.data, o.ptrs, o.size, o.count, 0, false⟩)]) rfl (zZ0 _ ⟨o.kind, 0, o.data, o.ptrs, o.size, o.count, 0, false⟩) ?_)
  intro w9 g10
  replace hc4 := g10.heap hc4
  replace G := G.tr g10
  clear g10
  refine qZ 12 ?_
  refine ret1 (zA1 (v := .int .i64 (zF4 ⟨o.kind, 0, o.data, o.ptrs, o.size, o.count, 0, false⟩)) rfl) ⟨?_, G⟩
  simp [zB8, Ob.pt, *]
theorem zP4 (w : World) {u : Value} {A : List (List Int)} (hA : zG2 w u A) (seg a : Int) : zB6 Tryz.prog 183 #[.agg #[u], .int .i64 seg, .int .i64 a] w (.tuple #[.int .u64 ((zH1 A seg a).1), .int .u16 ((zH1 A seg a).2)]) := by
 obtain ⟨ada, ca, segsa, sa, sca, rfl, -, -, RA, hsa, hra⟩ := hA.fn
 have G := Grow.rfl' w
 refine zA8 Tryz.func183 Tryz.ntmps183 Tryz.results183 rfl rfl ?_
 refine qZ 2 ?_
 refine stp ?_
 refine qC ?_
 intro b1 w2 hb3 hc4 g5
 have hge6 := Nat.le_trans G.size hb3
 replace G := G.tr g5
 clear g5 hb3
 refine qZ 9 ?_
 refine stp (zA4 (v := .tuple #[.int .u64 ((zH1 A seg a).1), .int .u16 ((zH1 A seg a).2)]) rfl (qW1 _ (hA.grow G)) ?_)
 intro w7 g8
 replace hc4 := g8.heap hc4
 replace G := G.tr g8
 clear g8
 refine qZ 6 ?_
 refine ret2 (zA1 (v := .int .u64 ((zH1 A seg a).1)) rfl) (zA1 (v := .int .u16 ((zH1 A seg a).2)) rfl) ⟨?_, G⟩
 rfl
theorem qF0 (w : World) {u : Value} {A : List (List Int)} (hA : zG2 w u A) (hl : A.length ≤ 1000) : Calls Tryz.prog 182 #[.agg #[u]] w (Ret fun r w2 => ∃ ad c, r = .slice ad A.length c ∧ RowAt w2 1 ad A.length (A.map fun s => .int .i64 (s.length : Int)) ∧ Grow w w2) := by
 obtain ⟨segs_, ⟨ada, ca, rfl, hc1_, hc2_, RA⟩, hrows⟩ := hA
 have G := Grow.rfl' w
 refine zC2 Tryz.func182 Tryz.ntmps182 Tryz.results182 rfl rfl ?_
 refine qZ 2 ?_
 refine stp ?_
 refine qC ?_
 intro b1 w2 hb3 hc4 g5
 have hge6 := Nat.le_trans G.size hb3
 replace G := G.tr g5
 clear g5 hb3
 refine qZ 6 ?_
 refine stp ?_
 refine zD7 rfl (qH4 _ (RA.grow G) rfl (fun i q hq => by obtain ⟨v, h1, h2⟩ := hrows i q hq; exact ⟨v, h1, h2.grow G⟩) (by omega)) ?_
 rintro v_ w7 ⟨own, g_⟩
 replace hc4 := g_.heap hc4
 replace G := G.tr g_
 clear g_
 obtain ⟨ad5, c5, rfl, hc5, hc6, RS⟩ := zI3 own (by omega)
 refine qZ 3 ?_
 refine ret1 (zA1 (v := .slice ad5 A.length c5) rfl) ⟨_, _, rfl, RS, G⟩
theorem qB7 (w : World) {src : Value} {s : Src} (H : SrcOk Tryz.prog w src s) (seg a : Int) : zB6 Tryz.prog 88 #[src, .int .i64 seg, .int .i64 a] w (.tuple #[.agg #[.int .i64 ((ptrS s seg a).1.kind), .int .i64 ((ptrS s seg a).1.off), .int .i64 ((ptrS s seg a).1.data), .int .i64 ((ptrS s seg a).1.ptrs), .int .i64 ((ptrS s seg a).1.size), .int .i64 ((ptrS s seg a).1.count), .int .i64 ((ptrS s seg a).1.seg), .bool ((ptrS s seg a).1.dbl)], .int .u16 ((ptrS s seg a).2)]) := by
 have G := Grow.rfl' w
 refine zA8 Tryz.func88 Tryz.ntmps88 Tryz.results88 rfl rfl ?_
 refine qZ 2 ?_
 refine stp (zA7 ?_)
 intro b1 w2 hb3 hc4 g5
 refine qZ 4 ?_
 refine stp (zH5 (v := src) rfl ?_)
 refine qZ 2 ?_
 have hge6 := Nat.le_trans G.size hb3
 replace G := G.tr g5
 clear g5 hb3
 refine stp (qB5 H G rfl rfl rfl ?_)
 intro w7 g8
 replace hc4 := g8.heap hc4
 replace G := G.tr g8
 clear g8
 refine qZ 10 ?_
 refine stp (zG9 rfl rfl ?_)
 refine zA6 ?_
 refine zA2 (b := (decide (((s.word seg a).2) ≠ 0))) rfl (fun h1 => ?_) (fun h1 => ?_)
 ·
  replace h1 := qT h1
  refine qZ 2 ?_
  refine stp (zA9 (v := .agg #[.int .i64 0, .int .i64 0, .int .i64 0, .int .i64 0, .int .i64 0, .int .i64 0, .int .i64 0, .bool false]) (fun w => by kernel_rfl) ?_)
  refine qZ 1 ?_
  refine stn (qS hc4 ?_)
  intro w9 hc10 u11
  replace G := G.upd u11 hge6
  clear u11 hc4
  refine qZ 3 ?_
  refine ret2 (zA5 rfl hc10 (by rfl)) (zA1 (v := .int .u16 ((s.word seg a).2)) rfl) ⟨?_, G⟩
  have h9 : ptrS s seg a = (Pt0, (s.word seg a).2) := by unfold ptrS; rw [if_pos h1]
  rw [h9]; rfl
 ·
  replace h1 := qF h1
  refine qZ 4 ?_
  refine stp (zA4 (v := .tuple #[.agg #[.int .i64 ((decP (s.word seg a).1).kind), .int .i64 ((decP (s.word seg a).1).off), .int .i64 ((decP (s.word seg a).1).data), .int .i64 ((decP (s.word seg a).1).ptrs), .int .i64 ((decP (s.word seg a).1).size), .int .i64 ((decP (s.word seg a).1).count), .int .i64 ((decP (s.word seg a).1).seg), .bool ((decP (s.word seg a).1).dbl)], .int .u16 (decE (s.word seg a).1)]) rfl (zK9 _ _ (H.num seg a).1 (H.num seg a).2.1) ?_)
  intro w12 g13
  replace hc4 := g13.heap hc4
  replace G := G.tr g13
  clear g13
  refine qZ 2 ?_
  refine stn (qS hc4 ?_)
  intro w14 hc15 u16
  replace G := G.upd u16 hge6
  clear u16 hc4
  refine qZ 3 ?_
  refine ret2 (zA5 rfl hc15 (by rfl)) (zA1 (v := .int .u16 (decE (s.word seg a).1)) rfl) ⟨?_, G⟩
  have h9 : ptrS s seg a = (decP (s.word seg a).1, decE (s.word seg a).1) := by unfold ptrS; rw [if_neg h1]
  rw [h9]
theorem zZ2 (w : World) {src : Value} {s : Src} (H : SrcOk Tryz.prog w src s) (p : Pt) (seg a : Int) (hp : PtR p) (ha : inR .i64 a) : zB6 Tryz.prog 90 #[src, .agg #[.int .i64 p.kind, .int .i64 p.off, .int .i64 p.data, .int .i64 p.ptrs, .int .i64 p.size, .int .i64 p.count, .int .i64 p.seg, .bool p.dbl], .int .i64 seg, .int .i64 a] w (.tuple #[.agg #[.int .i64 ((zB4 s p seg a).1.kind), .int .i64 ((zB4 s p seg a).1.seg), .int .i64 ((zB4 s p seg a).1.at_), .int .i64 ((zB4 s p seg a).1.data), .int .i64 ((zB4 s p seg a).1.ptrs), .int .i64 ((zB4 s p seg a).1.size), .int .i64 ((zB4 s p seg a).1.count)], .int .u16 ((zB4 s p seg a).2)]) := by
 have hw9 := zQ8 hp.of
 have G := Grow.rfl' w
 refine zA8 Tryz.func90 Tryz.ntmps90 Tryz.results90 rfl rfl ?_
 refine qZ 2 ?_
 refine stp ?_
 refine qC ?_
 intro b1 w2 hb3 hc4 g5
 have hge6 := Nat.le_trans G.size hb3
 replace G := G.tr g5
 clear g5 hb3
 refine stp (zA7 ?_)
 intro b7 w8 hb9 hc10 g11
 refine qZ 5 ?_
 have hge12 := Nat.le_trans G.size hb9
 have ne13 := qN hc4 hb9
 replace hc4 := g11.heap hc4
 replace G := G.tr g11
 clear g11 hb9
 refine qZ 11 ?_
 refine stp (zA9 (v := .agg #[.int .i64 p.kind, .int .i64 seg, .int .i64 a, .int .i64 p.data, .int .i64 p.ptrs, .int .i64 p.size, .int .i64 p.count]) (fun w => by kernel_rfl) ?_)
 refine stp (zA7 ?_)
 intro b14 w15 hb16 hc17 g18
 refine stn (qS hc17 ?_)
 intro w19 hc20 u21
 have g22 := g18.upd u21 hb16
 have hge23 := Nat.le_trans G.size hb16
 have ne24 := qN hc4 hb16
 have ne25 := qN hc10 hb16
 replace hc4 := g22.heap hc4
 replace hc10 := g22.heap hc10
 replace G := G.tr g22
 clear u21 g18 hb16 hc17
 refine qZ 4 ?_
 refine stp (zA4 (v := .agg #[.int .i64 p.kind, .int .i64 0, .int .i64 p.data, .int .i64 p.ptrs, .int .i64 p.size, .int .i64 p.count, .int .i64 0, .bool false]) rfl (qN1 _ ⟨p.kind, seg, a, p.data, p.ptrs, p.size, p.count⟩) ?_)
 intro w26 g27
 replace hc4 := g27.heap hc4
 replace hc10 := g27.heap hc10
 replace hc20 := g27.heap hc20
 replace G := G.tr g27
 clear g27
 refine stp (zA4 (v := .tuple #[.int .i64 (zF4 ⟨p.kind, 0, p.data, p.ptrs, p.size, p.count, 0, false⟩), .int .u16 (zF9 ⟨p.kind, 0, p.data, p.ptrs, p.size, p.count, 0, false⟩)]) rfl (zZ0 _ ⟨p.kind, 0, p.data, p.ptrs, p.size, p.count, 0, false⟩) ?_)
 intro w28 g29
 replace hc4 := g29.heap hc4
 replace hc10 := g29.heap hc10
 replace hc20 := g29.heap hc20
 replace G := G.tr g29
 clear g29
 refine qZ 11 ?_
 refine stp (zG9 rfl rfl ?_)
 refine qZ 2 ?_
 refine zA2 (b := (decide ((zF9 ⟨p.kind, 0, p.data, p.ptrs, p.size, p.count, 0, false⟩) ≠ 0))) rfl (fun h1 => ?_) (fun h1 => ?_)
 ·
  replace h1 := qT h1
  refine qZ 2 ?_
  refine stp (zA9 (v := .agg #[.int .i64 0, .int .i64 0, .int .i64 0, .int .i64 0, .int .i64 0, .int .i64 0, .int .i64 0]) (fun w => by kernel_rfl) ?_)
  refine qZ 1 ?_
  refine stn (qS hc10 ?_)
  intro w30 hc31 u32
  replace hc4 := u32.heap hc4 ne13
  replace hc20 := u32.heap hc20 ne25.symm
  replace G := G.upd u32 hge12
  clear u32 hc10
  refine qZ 3 ?_
  refine ret2 (zA5 rfl hc31 (by rfl)) (zA1 (v := .int .u16 (zF9 ⟨p.kind, 0, p.data, p.ptrs, p.size, p.count, 0, false⟩)) rfl) ⟨?_, G⟩
  have h9 : zB4 s p seg a = (Ob0, zF9 ⟨p.kind, 0, p.data, p.ptrs, p.size, p.count, 0, false⟩) := by unfold zB4; exact if_pos h1
  rw [h9]; rfl
 ·
  replace h1 := qF h1
  refine qZ 2 ?_
  refine stp (zH5 (v := src) rfl ?_)
  refine stp (yD0 H G rfl ?_)
  intro adz cz w33 g34 Rz
  replace hc4 := g34.heap hc4
  replace hc10 := g34.heap hc10
  replace hc20 := g34.heap hc20
  replace G := G.tr g34
  clear g34
  refine qZ 3 ?_
  refine stp (zA4 (v := .bool (zF8 s.sizes seg a (zF4 ⟨p.kind, 0, p.data, p.ptrs, p.size, p.count, 0, false⟩))) rfl (qE4 _ Rz H.each ha (by simp only [inR]; omega)) ?_)
  intro w35 g36
  replace hc4 := g36.heap hc4
  replace hc10 := g36.heap hc10
  replace hc20 := g36.heap hc20
  replace Rz := Rz.grow g36
  replace G := G.tr g36
  clear g36
  refine stp (zN8 rfl ?_)
  refine qZ 2 ?_
  refine zA2 (b := (!(zF8 s.sizes seg a (zF4 ⟨p.kind, 0, p.data, p.ptrs, p.size, p.count, 0, false⟩)))) rfl (fun h2 => ?_) (fun h2 => ?_)
  ·
   simp only [sb] at h2
   refine qZ 2 ?_
   refine stp (zA9 (v := .agg #[.int .i64 0, .int .i64 0, .int .i64 0, .int .i64 0, .int .i64 0, .int .i64 0, .int .i64 0]) (fun w => by kernel_rfl) ?_)
   refine stn (qS hc10 ?_)
   intro w37 hc38 u39
   replace hc4 := u39.heap hc4 ne13
   replace hc20 := u39.heap hc20 ne25.symm
   replace G := G.upd u39 hge12
   clear u39 hc10
   refine qZ 3 ?_
   refine ret2 (zA5 rfl hc38 (by rfl)) (zA1 (v := .int .u16 20) rfl) ⟨?_, G⟩
   have h9 : zB4 s p seg a = (Ob0, 20) := by unfold zB4; exact (if_neg h1).trans (if_pos (show zF8 s.sizes seg a (zF4 ⟨p.kind, 0, p.data, p.ptrs, p.size, p.count, 0, false⟩) = false from by simpa using h2))
   rw [h9]; rfl
  ·
   simp only [sb] at h2
   refine qZ 4 ?_
   refine stn (qS hc10 ?_)
   intro w40 hc41 u42
   replace hc4 := u42.heap hc4 ne13
   replace hc20 := u42.heap hc20 ne25.symm
   replace G := G.upd u42 hge12
   clear u42 hc10
   refine qZ 3 ?_
   refine ret2 (zA5 rfl hc41 (by rfl)) (zA1 (v := .int .u16 0) rfl) ⟨?_, G⟩
   have h9 : zB4 s p seg a = (objP p seg a, 0) := by unfold zB4; exact (if_neg h1).trans (if_neg (show ¬ zF8 s.sizes seg a (zF4 ⟨p.kind, 0, p.data, p.ptrs, p.size, p.count, 0, false⟩) = false from by simpa using h2))
   rw [h9]; rfl
theorem qR4 (w : World) {src : Value} {s : Src} (H : SrcOk Tryz.prog w src s) (p : Pt) (hp : PtR p) : zB6 Tryz.prog 92 #[src, .agg #[.int .i64 p.kind, .int .i64 p.off, .int .i64 p.data, .int .i64 p.ptrs, .int .i64 p.size, .int .i64 p.count, .int .i64 p.seg, .bool p.dbl]] w (.tuple #[.agg #[.int .i64 ((zD0 s p).1.kind), .int .i64 ((zD0 s p).1.seg), .int .i64 ((zD0 s p).1.at_), .int .i64 ((zD0 s p).1.data), .int .i64 ((zD0 s p).1.ptrs), .int .i64 ((zD0 s p).1.size), .int .i64 ((zD0 s p).1.count)], .int .u16 ((zD0 s p).2)]) := by
 have hq := zX0 H p.seg p.off
 have hqo := hq.off
 have hpo := hp.off
 have G := Grow.rfl' w
 refine zA8 Tryz.func92 Tryz.ntmps92 Tryz.results92 rfl rfl ?_
 refine qZ 2 ?_
 refine stp ?_
 refine qC ?_
 intro b1 w2 hb3 hc4 g5
 have hge6 := Nat.le_trans G.size hb3
 replace G := G.tr g5
 clear g5 hb3
 refine stp (zA7 ?_)
 intro b7 w8 hb9 hc10 g11
 refine qZ 4 ?_
 refine stp (zH5 (v := src) rfl ?_)
 refine qZ 1 ?_
 have hge12 := Nat.le_trans G.size hb9
 have ne13 := qN hc4 hb9
 replace hc4 := g11.heap hc4
 replace G := G.tr g11
 clear g11 hb9
 refine qZ 3 ?_
 refine stp (zA4 (v := .tuple #[.agg #[.int .i64 ((ptrS s p.seg p.off).1.kind), .int .i64 ((ptrS s p.seg p.off).1.off), .int .i64 ((ptrS s p.seg p.off).1.data), .int .i64 ((ptrS s p.seg p.off).1.ptrs), .int .i64 ((ptrS s p.seg p.off).1.size), .int .i64 ((ptrS s p.seg p.off).1.count), .int .i64 ((ptrS s p.seg p.off).1.seg), .bool ((ptrS s p.seg p.off).1.dbl)], .int .u16 ((ptrS s p.seg p.off).2)]) rfl (qB7 _ (H.grow G) p.seg p.off) ?_)
 intro w14 g15
 replace hc4 := g15.heap hc4
 replace hc10 := g15.heap hc10
 replace G := G.tr g15
 clear g15
 refine qZ 3 ?_
 refine stp (zA7 ?_)
 intro b16 w17 hb18 hc19 g20
 refine stn (qS hc19 ?_)
 intro w21 hc22 u23
 have g24 := g20.upd u23 hb18
 have hge25 := Nat.le_trans G.size hb18
 have ne26 := qN hc4 hb18
 have ne27 := qN hc10 hb18
 replace hc4 := g24.heap hc4
 replace hc10 := g24.heap hc10
 replace G := G.tr g24
 clear u23 g20 hb18 hc19
 refine qZ 7 ?_
 refine stp (zG9 rfl rfl ?_)
 refine qZ 2 ?_
 refine zA2 (b := (decide (((ptrS s p.seg p.off).2) ≠ 0))) rfl (fun h1 => ?_) (fun h1 => ?_)
 ·
  replace h1 := qT h1
  refine qZ 2 ?_
  refine stp (zA9 (v := .agg #[.int .i64 0, .int .i64 0, .int .i64 0, .int .i64 0, .int .i64 0, .int .i64 0, .int .i64 0]) (fun w => by kernel_rfl) ?_)
  refine qZ 1 ?_
  refine stn (qS hc10 ?_)
  intro w28 hc29 u30
  replace hc4 := u30.heap hc4 ne13
  replace hc22 := u30.heap hc22 ne27.symm
  replace G := G.upd u30 hge12
  clear u30 hc10
  refine qZ 3 ?_
  refine ret2 (zA5 rfl hc29 (by rfl)) (zA1 (v := .int .u16 ((ptrS s p.seg p.off).2)) rfl) ⟨?_, G⟩
  have h9 : zD0 s p = (Ob0, (ptrS s p.seg p.off).2) := by unfold zD0; rw [if_pos h1]
  rw [h9]; rfl
 ·
  replace h1 := qF h1
  refine qZ 3 ?_
  refine stp (zA4 (v := .bool (zH4 ((ptrS s p.seg p.off).1))) rfl (zL0 _ ((ptrS s p.seg p.off).1)) ?_)
  intro w31 g32
  replace hc4 := g32.heap hc4
  replace hc10 := g32.heap hc10
  replace hc22 := g32.heap hc22
  replace G := G.tr g32
  clear g32
  refine stp (zN8 rfl ?_)
  refine qZ 2 ?_
  refine zA2 (b := (!(zH4 ((ptrS s p.seg p.off).1)))) rfl (fun h2 => ?_) (fun h2 => ?_)
  ·
   simp only [sb] at h2
   refine qZ 2 ?_
   refine stp (zA9 (v := .agg #[.int .i64 0, .int .i64 0, .int .i64 0, .int .i64 0, .int .i64 0, .int .i64 0, .int .i64 0]) (fun w => by kernel_rfl) ?_)
   refine stn (qS hc10 ?_)
   intro w33 hc34 u35
   replace hc4 := u35.heap hc4 ne13
   replace hc22 := u35.heap hc22 ne27.symm
   replace G := G.upd u35 hge12
   clear u35 hc10
   refine qZ 3 ?_
   refine ret2 (zA5 rfl hc34 (by rfl)) (zA1 (v := .int .u16 23) rfl) ⟨?_, G⟩
   have h9 : zD0 s p = (Ob0, 23) := by unfold zD0; rw [if_neg h1, if_pos (by simpa using h2)]
   rw [h9]; rfl
  ·
   simp only [sb] at h2
   refine qZ 3 ?_
   refine stp (zH5 (v := src) rfl ?_)
   refine qZ 5 ?_
   refine stp (zB5 rfl rfl ?_ ?_); constructor <;> omega
   refine qZ 2 ?_
   refine stp (zB5 rfl rfl ?_ ?_); constructor <;> omega
   refine stp (zA4 (v := .tuple #[.agg #[.int .i64 ((zB4 s ((ptrS s p.seg p.off).1) p.seg ((p.off + 1) + ((ptrS s p.seg p.off).1.off))).1.kind), .int .i64 ((zB4 s ((ptrS s p.seg p.off).1) p.seg ((p.off + 1) + ((ptrS s p.seg p.off).1.off))).1.seg), .int .i64 ((zB4 s ((ptrS s p.seg p.off).1) p.seg ((p.off + 1) + ((ptrS s p.seg p.off).1.off))).1.at_), .int .i64 ((zB4 s ((ptrS s p.seg p.off).1) p.seg ((p.off + 1) + ((ptrS s p.seg p.off).1.off))).1.data), .int .i64 ((zB4 s ((ptrS s p.seg p.off).1) p.seg ((p.off + 1) + ((ptrS s p.seg p.off).1.off))).1.ptrs), .int .i64 ((zB4 s ((ptrS s p.seg p.off).1) p.seg ((p.off + 1) + ((ptrS s p.seg p.off).1.off))).1.size), .int .i64 ((zB4 s ((ptrS s p.seg p.off).1) p.seg ((p.off + 1) + ((ptrS s p.seg p.off).1.off))).1.count)], .int .u16 ((zB4 s ((ptrS s p.seg p.off).1) p.seg ((p.off + 1) + ((ptrS s p.seg p.off).1.off))).2)]) rfl (zZ2 _ (H.grow G) ((ptrS s p.seg p.off).1) p.seg ((p.off + 1) + ((ptrS s p.seg p.off).1.off)) hq (by simp only [inR]; omega)) ?_)
   intro w36 g37
   replace hc4 := g37.heap hc4
   replace hc10 := g37.heap hc10
   replace hc22 := g37.heap hc22
   replace G := G.tr g37
   clear g37
   refine qZ 2 ?_
   refine stn (qS hc10 ?_)
   intro w38 hc39 u40
   replace hc4 := u40.heap hc4 ne13
   replace hc22 := u40.heap hc22 ne27.symm
   replace G := G.upd u40 hge12
   clear u40 hc10
   refine qZ 3 ?_
   refine ret2 (zA5 rfl hc39 (by rfl)) (zA1 (v := .int .u16 ((zB4 s ((ptrS s p.seg p.off).1) p.seg ((p.off + 1) + ((ptrS s p.seg p.off).1.off))).2)) rfl) ⟨?_, G⟩
   have h9 : zD0 s p = zB4 s (ptrS s p.seg p.off).1 p.seg (p.off + 1 + (ptrS s p.seg p.off).1.off) := by unfold zD0; rw [if_neg h1, if_neg (by simpa using h2)]
   rw [h9]
theorem qW2 (w : World) {src : Value} {s : Src} (H : SrcOk Tryz.prog w src s) (p : Pt) (hp : PtR p) : zB6 Tryz.prog 91 #[src, .agg #[.int .i64 p.kind, .int .i64 p.off, .int .i64 p.data, .int .i64 p.ptrs, .int .i64 p.size, .int .i64 p.count, .int .i64 p.seg, .bool p.dbl]] w (.tuple #[.agg #[.int .i64 ((zD6 s p).1.kind), .int .i64 ((zD6 s p).1.seg), .int .i64 ((zD6 s p).1.at_), .int .i64 ((zD6 s p).1.data), .int .i64 ((zD6 s p).1.ptrs), .int .i64 ((zD6 s p).1.size), .int .i64 ((zD6 s p).1.count)], .int .u16 ((zD6 s p).2)]) := by
 have hpo := hp.off
 obtain ⟨n1, n2, -, -⟩ := H.num p.seg p.off
 obtain ⟨n3, n4, -, -⟩ := H.num p.seg (p.off + 1)
 have hq := zH7 _ n1 n2
 have hr := zH7 _ n3 n4
 have hqo := hq.off
 have G := Grow.rfl' w
 refine zA8 Tryz.func91 Tryz.ntmps91 Tryz.results91 rfl rfl ?_
 refine qZ 2 ?_
 refine stp ?_
 refine qC ?_
 intro b1 w2 hb3 hc4 g5
 have hge6 := Nat.le_trans G.size hb3
 replace G := G.tr g5
 clear g5 hb3
 refine stp (zA7 ?_)
 intro b7 w8 hb9 hc10 g11
 refine qZ 4 ?_
 refine stp (zH5 (v := src) rfl ?_)
 refine qZ 1 ?_
 have hge12 := Nat.le_trans G.size hb9
 have ne13 := qN hc4 hb9
 replace hc4 := g11.heap hc4
 replace G := G.tr g11
 clear g11 hb9
 refine qZ 3 ?_
 refine stp (qB5 H G rfl rfl rfl ?_)
 intro w14 g15
 replace hc4 := g15.heap hc4
 replace hc10 := g15.heap hc10
 replace G := G.tr g15
 clear g15
 refine qZ 10 ?_
 refine stp (zG9 rfl rfl ?_)
 refine zA6 ?_
 refine zA2 (b := (decide (((s.word p.seg p.off).2) ≠ 0))) rfl (fun h1 => ?_) (fun h1 => ?_)
 ·
  replace h1 := qT h1
  refine qZ 2 ?_
  refine stp (zA9 (v := .agg #[.int .i64 0, .int .i64 0, .int .i64 0, .int .i64 0, .int .i64 0, .int .i64 0, .int .i64 0]) (fun w => by kernel_rfl) ?_)
  refine qZ 1 ?_
  refine stn (qS hc10 ?_)
  intro w16 hc17 u18
  replace hc4 := u18.heap hc4 ne13
  replace G := G.upd u18 hge12
  clear u18 hc10
  refine qZ 3 ?_
  refine ret2 (zA5 rfl hc17 (by rfl)) (zA1 (v := .int .u16 ((s.word p.seg p.off).2)) rfl) ⟨?_, G⟩
  have h9 : zD6 s p = (Ob0, (s.word p.seg p.off).2) := by unfold zD6; rw [if_pos h1]
  rw [h9]; rfl
 ·
  replace h1 := qF h1
  refine qZ 3 ?_
  refine stp (zH5 (v := src) rfl ?_)
  refine qZ 4 ?_
  refine stp (zB5 rfl rfl ?_ ?_); constructor <;> omega
  refine stp (qB5 H G rfl rfl rfl ?_)
  intro w19 g20
  replace hc4 := g20.heap hc4
  replace hc10 := g20.heap hc10
  replace G := G.tr g20
  clear g20
  refine qZ 10 ?_
  refine stp (zG9 rfl rfl ?_)
  refine zA6 ?_
  refine zA2 (b := (decide (((s.word p.seg (p.off + 1)).2) ≠ 0))) rfl (fun h2 => ?_) (fun h2 => ?_)
  ·
   replace h2 := qT h2
   refine qZ 2 ?_
   refine stp (zA9 (v := .agg #[.int .i64 0, .int .i64 0, .int .i64 0, .int .i64 0, .int .i64 0, .int .i64 0, .int .i64 0]) (fun w => by kernel_rfl) ?_)
   refine qZ 1 ?_
   refine stn (qS hc10 ?_)
   intro w21 hc22 u23
   replace hc4 := u23.heap hc4 ne13
   replace G := G.upd u23 hge12
   clear u23 hc10
   refine qZ 3 ?_
   refine ret2 (zA5 rfl hc22 (by rfl)) (zA1 (v := .int .u16 ((s.word p.seg (p.off + 1)).2)) rfl) ⟨?_, G⟩
   have h9 : zD6 s p = (Ob0, (s.word p.seg (p.off + 1)).2) := by unfold zD6; rw [if_neg h1, if_pos h2]
   rw [h9]; rfl
  ·
   replace h2 := qF h2
   refine qZ 4 ?_
   refine stp (zA4 (v := .tuple #[.agg #[.int .i64 ((decP (s.word p.seg p.off).1).kind), .int .i64 ((decP (s.word p.seg p.off).1).off), .int .i64 ((decP (s.word p.seg p.off).1).data), .int .i64 ((decP (s.word p.seg p.off).1).ptrs), .int .i64 ((decP (s.word p.seg p.off).1).size), .int .i64 ((decP (s.word p.seg p.off).1).count), .int .i64 ((decP (s.word p.seg p.off).1).seg), .bool ((decP (s.word p.seg p.off).1).dbl)], .int .u16 (decE (s.word p.seg p.off).1)]) rfl (zK9 _ _ (H.num p.seg p.off).1 (H.num p.seg p.off).2.1) ?_)
   intro w24 g25
   replace hc4 := g25.heap hc4
   replace hc10 := g25.heap hc10
   replace G := G.tr g25
   clear g25
   refine qZ 3 ?_
   refine stp (zA7 ?_)
   intro b26 w27 hb28 hc29 g30
   refine stn (qS hc29 ?_)
   intro w31 hc32 u33
   have g34 := g30.upd u33 hb28
   have hge35 := Nat.le_trans G.size hb28
   have ne36 := qN hc4 hb28
   have ne37 := qN hc10 hb28
   replace hc4 := g34.heap hc4
   replace hc10 := g34.heap hc10
   replace G := G.tr g34
   clear u33 g30 hb28 hc29
   refine qZ 6 ?_
   refine stp (zG9 rfl rfl ?_)
   refine zA6 ?_
   refine zA2 (b := (decide ((decE (s.word p.seg p.off).1) ≠ 0))) rfl (fun h3 => ?_) (fun h3 => ?_)
   ·
    replace h3 := qT h3
    refine qZ 2 ?_
    refine stp (zA9 (v := .agg #[.int .i64 0, .int .i64 0, .int .i64 0, .int .i64 0, .int .i64 0, .int .i64 0, .int .i64 0]) (fun w => by kernel_rfl) ?_)
    refine qZ 1 ?_
    refine stn (qS hc10 ?_)
    intro w38 hc39 u40
    replace hc4 := u40.heap hc4 ne13
    replace hc32 := u40.heap hc32 ne37.symm
    replace G := G.upd u40 hge12
    clear u40 hc10
    refine qZ 3 ?_
    refine ret2 (zA5 rfl hc39 (by rfl)) (zA1 (v := .int .u16 (decE (s.word p.seg p.off).1)) rfl) ⟨?_, G⟩
    have h9 : zD6 s p = (Ob0, decE (s.word p.seg p.off).1) := by unfold zD6; rw [if_neg h1, if_neg h2, if_pos h3]
    rw [h9]; rfl
   ·
    replace h3 := qF h3
    refine qZ 4 ?_
    refine stp (zA4 (v := .tuple #[.agg #[.int .i64 ((decP (s.word p.seg (p.off + 1)).1).kind), .int .i64 ((decP (s.word p.seg (p.off + 1)).1).off), .int .i64 ((decP (s.word p.seg (p.off + 1)).1).data), .int .i64 ((decP (s.word p.seg (p.off + 1)).1).ptrs), .int .i64 ((decP (s.word p.seg (p.off + 1)).1).size), .int .i64 ((decP (s.word p.seg (p.off + 1)).1).count), .int .i64 ((decP (s.word p.seg (p.off + 1)).1).seg), .bool ((decP (s.word p.seg (p.off + 1)).1).dbl)], .int .u16 (decE (s.word p.seg (p.off + 1)).1)]) rfl (zK9 _ _ (H.num p.seg (p.off + 1)).1 (H.num p.seg (p.off + 1)).2.1) ?_)
    intro w41 g42
    replace hc4 := g42.heap hc4
    replace hc10 := g42.heap hc10
    replace hc32 := g42.heap hc32
    replace G := G.tr g42
    clear g42
    refine qZ 3 ?_
    refine stp (zA7 ?_)
    intro b43 w44 hb45 hc46 g47
    refine stn (qS hc46 ?_)
    intro w48 hc49 u50
    have g51 := g47.upd u50 hb45
    have hge52 := Nat.le_trans G.size hb45
    have ne53 := qN hc4 hb45
    have ne54 := qN hc10 hb45
    have ne55 := qN hc32 hb45
    replace hc4 := g51.heap hc4
    replace hc10 := g51.heap hc10
    replace hc32 := g51.heap hc32
    replace G := G.tr g51
    clear u50 g47 hb45 hc46
    refine qZ 7 ?_
    refine stp (zG9 rfl rfl ?_)
    refine qZ 2 ?_
    refine zA2 (b := (decide ((decE (s.word p.seg (p.off + 1)).1) ≠ 0))) rfl (fun h4 => ?_) (fun h4 => ?_)
    ·
     replace h4 := qT h4
     refine qZ 2 ?_
     refine stp (zA9 (v := .agg #[.int .i64 0, .int .i64 0, .int .i64 0, .int .i64 0, .int .i64 0, .int .i64 0, .int .i64 0]) (fun w => by kernel_rfl) ?_)
     refine qZ 1 ?_
     refine stn (qS hc10 ?_)
     intro w56 hc57 u58
     replace hc4 := u58.heap hc4 ne13
     replace hc32 := u58.heap hc32 ne37.symm
     replace hc49 := u58.heap hc49 ne54.symm
     replace G := G.upd u58 hge12
     clear u58 hc10
     refine qZ 3 ?_
     refine ret2 (zA5 rfl hc57 (by rfl)) (zA1 (v := .int .u16 (decE (s.word p.seg (p.off + 1)).1)) rfl) ⟨?_, G⟩
     have h9 : zD6 s p = (Ob0, decE (s.word p.seg (p.off + 1)).1) := by unfold zD6; rw [if_neg h1, if_neg h2, if_neg h3, if_pos h4]
     rw [h9]; rfl
    ·
     replace h4 := qF h4
     refine qZ 4 ?_
     refine stp (zG9 rfl rfl ?_)
     refine qZ 1 ?_
     refine qG 2 ?_
     refine stp (zH6 rfl rfl rfl ?_)
     refine qZ 1 ?_
     refine zA3 (zB2 (s := .bool _) (v := .agg #[.int .i64 ((decP (s.word p.seg (p.off + 1)).1).kind), .int .i64 ((decP (s.word p.seg (p.off + 1)).1).off), .int .i64 ((decP (s.word p.seg (p.off + 1)).1).data), .int .i64 ((decP (s.word p.seg (p.off + 1)).1).ptrs), .int .i64 ((decP (s.word p.seg (p.off + 1)).1).size), .int .i64 ((decP (s.word p.seg (p.off + 1)).1).count), .int .i64 ((decP (s.word p.seg (p.off + 1)).1).seg), .bool ((decP (s.word p.seg (p.off + 1)).1).dbl)]) rfl (zE3 _) (fun hc61 => ?_) ?_)
     ·
      have hc61_ := hc61
      try simp only [sb] at hc61_
      refine zD8 rfl hc49 (by rfl) ?_
      exact ⟨rfl, rfl⟩
     refine zA3 (zX8 (s := .bool ((decide (((decP (s.word p.seg p.off).1).kind) ≠ 3)) || ((decP (s.word p.seg p.off).1).dbl))) (b := false) (v := .bool (zH4 (decP (s.word p.seg (p.off + 1)).1))) rfl (zE3 _) (fun hc62 => ?_) ?_)
     ·
      have hc62_ := hc62
      try simp only [sb] at hc62_
      exact zM7 (l := ([.agg #[.int .i64 ((decP (s.word p.seg (p.off + 1)).1).kind), .int .i64 ((decP (s.word p.seg (p.off + 1)).1).off), .int .i64 ((decP (s.word p.seg (p.off + 1)).1).data), .int .i64 ((decP (s.word p.seg (p.off + 1)).1).ptrs), .int .i64 ((decP (s.word p.seg (p.off + 1)).1).size), .int .i64 ((decP (s.word p.seg (p.off + 1)).1).count), .int .i64 ((decP (s.word p.seg (p.off + 1)).1).seg), .bool ((decP (s.word p.seg (p.off + 1)).1).dbl)]] : List Value)) rfl (by show ([gv (!((decide (((decP (s.word p.seg p.off).1).kind) ≠ 3)) || ((decP (s.word p.seg p.off).1).dbl))) (.agg #[.int .i64 ((decP (s.word p.seg (p.off + 1)).1).kind), .int .i64 ((decP (s.word p.seg (p.off + 1)).1).off), .int .i64 ((decP (s.word p.seg (p.off + 1)).1).data), .int .i64 ((decP (s.word p.seg (p.off + 1)).1).ptrs), .int .i64 ((decP (s.word p.seg (p.off + 1)).1).size), .int .i64 ((decP (s.word p.seg (p.off + 1)).1).count), .int .i64 ((decP (s.word p.seg (p.off + 1)).1).seg), .bool ((decP (s.word p.seg (p.off + 1)).1).dbl)])] : List Value) = _; rw [gvt hc62]) (zL0 _ (decP (s.word p.seg (p.off + 1)).1)) (fun w2_ g2_ => ⟨rfl, g2_⟩)
     intro w63 g64
     replace hc4 := g64.heap hc4
     replace hc10 := g64.heap hc10
     replace hc32 := g64.heap hc32
     replace hc49 := g64.heap hc49
     replace G := G.tr g64
     clear g64
     refine zA3 (zB2 (s := .bool _) (v := .bool (!(zH4 (decP (s.word p.seg (p.off + 1)).1)))) rfl (zE3 _) (fun hc65 => ?_) ?_)
     ·
      have hc65_ := hc65
      try simp only [sb] at hc65_
      refine zN8 (gvt hc65) ?_
      exact ⟨rfl, rfl⟩
     refine stp (zH6 rfl rfl rfl ?_)
     refine qZ 1 ?_
     refine qG 2 ?_
     refine zA3 (zB2 (s := .bool _) (v := .bool (decide (((decP (s.word p.seg (p.off + 1)).1).off) ≠ 0))) rfl (zE3 _) (fun hc68 => ?_) ?_)
     ·
      have hc68_ := hc68
      try simp only [sb] at hc68_
      refine zG9 (gvt hc68) rfl ?_
      exact ⟨rfl, rfl⟩
     refine stp (zH6 rfl rfl rfl ?_)
     refine qZ 2 ?_
     refine zA2 (b := ((((decide (((decP (s.word p.seg p.off).1).kind) ≠ 3)) || ((decP (s.word p.seg p.off).1).dbl)) || (!(zH4 (decP (s.word p.seg (p.off + 1)).1)))) || (decide (((decP (s.word p.seg (p.off + 1)).1).off) ≠ 0)))) rfl (fun h5 => ?_) (fun h5 => ?_)
     ·
      simp only [sb] at h5
      have h8 : (decP (s.word p.seg p.off).1).kind ≠ 3 ∨ (decP (s.word p.seg p.off).1).dbl = true ∨ zH4 (decP (s.word p.seg (p.off + 1)).1) = false ∨ (decP (s.word p.seg (p.off + 1)).1).off ≠ 0 := by simpa [or_assoc] using h5
      refine qZ 2 ?_
      refine stp (zA9 (v := .agg #[.int .i64 0, .int .i64 0, .int .i64 0, .int .i64 0, .int .i64 0, .int .i64 0, .int .i64 0]) (fun w => by kernel_rfl) ?_)
      refine stn (qS hc10 ?_)
      intro w69 hc70 u71
      replace hc4 := u71.heap hc4 ne13
      replace hc32 := u71.heap hc32 ne37.symm
      replace hc49 := u71.heap hc49 ne54.symm
      replace G := G.upd u71 hge12
      clear u71 hc10
      refine qZ 3 ?_
      refine ret2 (zA5 rfl hc70 (by rfl)) (zA1 (v := .int .u16 23) rfl) ⟨?_, G⟩
      have h9 : zD6 s p = (Ob0, 23) := by unfold zD6; rw [if_neg h1, if_neg h2, if_neg h3, if_neg h4, if_pos h8]
      rw [h9]; rfl
     ·
      simp only [sb] at h5
      have h8 : ¬ ((decP (s.word p.seg p.off).1).kind ≠ 3 ∨ (decP (s.word p.seg p.off).1).dbl = true ∨ zH4 (decP (s.word p.seg (p.off + 1)).1) = false ∨ (decP (s.word p.seg (p.off + 1)).1).off ≠ 0) := by simpa [and_assoc] using h5
      refine qZ 3 ?_
      refine stp (zH5 (v := src) rfl ?_)
      refine qZ 5 ?_
      refine stp (zA4 (v := .tuple #[.agg #[.int .i64 ((zB4 s (decP (s.word p.seg (p.off + 1)).1) ((decP (s.word p.seg p.off).1).seg) ((decP (s.word p.seg p.off).1).off)).1.kind), .int .i64 ((zB4 s (decP (s.word p.seg (p.off + 1)).1) ((decP (s.word p.seg p.off).1).seg) ((decP (s.word p.seg p.off).1).off)).1.seg), .int .i64 ((zB4 s (decP (s.word p.seg (p.off + 1)).1) ((decP (s.word p.seg p.off).1).seg) ((decP (s.word p.seg p.off).1).off)).1.at_), .int .i64 ((zB4 s (decP (s.word p.seg (p.off + 1)).1) ((decP (s.word p.seg p.off).1).seg) ((decP (s.word p.seg p.off).1).off)).1.data), .int .i64 ((zB4 s (decP (s.word p.seg (p.off + 1)).1) ((decP (s.word p.seg p.off).1).seg) ((decP (s.word p.seg p.off).1).off)).1.ptrs), .int .i64 ((zB4 s (decP (s.word p.seg (p.off + 1)).1) ((decP (s.word p.seg p.off).1).seg) ((decP (s.word p.seg p.off).1).off)).1.size), .int .i64 ((zB4 s (decP (s.word p.seg (p.off + 1)).1) ((decP (s.word p.seg p.off).1).seg) ((decP (s.word p.seg p.off).1).off)).1.count)], .int .u16 ((zB4 s (decP (s.word p.seg (p.off + 1)).1) ((decP (s.word p.seg p.off).1).seg) ((decP (s.word p.seg p.off).1).off)).2)]) rfl (zZ2 _ (H.grow G) (decP (s.word p.seg (p.off + 1)).1) ((decP (s.word p.seg p.off).1).seg) ((decP (s.word p.seg p.off).1).off) hr (by simp only [inR]; omega)) ?_)
      intro w72 g73
      replace hc4 := g73.heap hc4
      replace hc10 := g73.heap hc10
      replace hc32 := g73.heap hc32
      replace hc49 := g73.heap hc49
      replace G := G.tr g73
      clear g73
      refine qZ 2 ?_
      refine stn (qS hc10 ?_)
      intro w74 hc75 u76
      replace hc4 := u76.heap hc4 ne13
      replace hc32 := u76.heap hc32 ne37.symm
      replace hc49 := u76.heap hc49 ne54.symm
      replace G := G.upd u76 hge12
      clear u76 hc10
      refine qZ 3 ?_
      refine ret2 (zA5 rfl hc75 (by rfl)) (zA1 (v := .int .u16 ((zB4 s (decP (s.word p.seg (p.off + 1)).1) ((decP (s.word p.seg p.off).1).seg) ((decP (s.word p.seg p.off).1).off)).2)) rfl) ⟨?_, G⟩
      have h9 : zD6 s p = zB4 s (decP (s.word p.seg (p.off + 1)).1) (decP (s.word p.seg p.off).1).seg (decP (s.word p.seg p.off).1).off := by unfold zD6; rw [if_neg h1, if_neg h2, if_neg h3, if_neg h4, if_neg h8]
      rw [h9]
theorem qR5 (w : World) {src : Value} {s : Src} (H : SrcOk Tryz.prog w src s) (seg a : Int) : zB6 Tryz.prog 52 #[src, .int .i64 seg, .int .i64 a] w (.tuple #[.agg #[.int .i64 ((zA0 s seg a).1.kind), .int .i64 ((zA0 s seg a).1.seg), .int .i64 ((zA0 s seg a).1.at_), .int .i64 ((zA0 s seg a).1.data), .int .i64 ((zA0 s seg a).1.ptrs), .int .i64 ((zA0 s seg a).1.size), .int .i64 ((zA0 s seg a).1.count)], .int .u16 ((zA0 s seg a).2)]) := by
 obtain ⟨t_, u_, f_, hsrc, -, -⟩ := H.word
 have hq := zX0 H seg a
 have hqo := hq.off
 have G := Grow.rfl' w
 refine zA8 Tryz.func52 Tryz.ntmps52 Tryz.results52 rfl rfl ?_
 refine qZ 2 ?_
 refine stp (zA7 ?_)
 intro b1 w2 hb3 hc4 g5
 refine qZ 5 ?_
 refine stp (zH5 (v := src) rfl ?_)
 refine stp (yA8 (T := t_) (v := u_) hsrc rfl ?_)
 refine zA6 ?_
 have hge6 := Nat.le_trans G.size hb3
 replace G := G.tr g5
 clear g5 hb3
 refine zN5 rfl ?_
 refine qZ 3 ?_
 refine stp (zH5 (v := src) rfl ?_)
 refine qZ 2 ?_
 refine stp (zA4 (v := .tuple #[.agg #[.int .i64 ((ptrS s seg a).1.kind), .int .i64 ((ptrS s seg a).1.off), .int .i64 ((ptrS s seg a).1.data), .int .i64 ((ptrS s seg a).1.ptrs), .int .i64 ((ptrS s seg a).1.size), .int .i64 ((ptrS s seg a).1.count), .int .i64 ((ptrS s seg a).1.seg), .bool ((ptrS s seg a).1.dbl)], .int .u16 ((ptrS s seg a).2)]) rfl (qB7 _ (H.grow G) seg a) ?_)
 intro w7 g8
 replace hc4 := g8.heap hc4
 replace G := G.tr g8
 clear g8
 refine qZ 3 ?_
 refine stp (zA7 ?_)
 intro b9 w10 hb11 hc12 g13
 refine stn (qS hc12 ?_)
 intro w14 hc15 u16
 have g17 := g13.upd u16 hb11
 have hge18 := Nat.le_trans G.size hb11
 have ne19 := qN hc4 hb11
 replace hc4 := g17.heap hc4
 replace G := G.tr g17
 clear u16 g13 hb11 hc12
 refine qZ 7 ?_
 refine stp (zG9 rfl rfl ?_)
 refine qZ 1 ?_
 refine qG 2 ?_
 refine zA3 (zB2 (s := .bool _) (v := .bool (decide (((ptrS s seg a).1.kind) = 0))) rfl (zE3 _) (fun hc22 => ?_) ?_)
 ·
  have hc22_ := hc22
  try simp only [sb] at hc22_
  refine zD5 (gvt hc22) rfl ?_
  exact ⟨rfl, rfl⟩
 refine stp (zH6 rfl rfl rfl ?_)
 refine qZ 2 ?_
 refine zA2 (b := ((decide (((ptrS s seg a).2) ≠ 0)) || (decide (((ptrS s seg a).1.kind) = 0)))) rfl (fun h1 => ?_) (fun h1 => ?_)
 ·
  simp only [sb] at h1
  refine qZ 2 ?_
  refine stp (zA9 (v := .agg #[.int .i64 0, .int .i64 0, .int .i64 0, .int .i64 0, .int .i64 0, .int .i64 0, .int .i64 0]) (fun w => by kernel_rfl) ?_)
  refine qZ 1 ?_
  refine stn (qS hc4 ?_)
  intro w23 hc24 u25
  replace hc15 := u25.heap hc15 ne19.symm
  replace G := G.upd u25 hge6
  clear u25 hc4
  refine qZ 3 ?_
  refine ret2 (zA5 rfl hc24 (by rfl)) (zA1 (v := .int .u16 ((ptrS s seg a).2)) rfl) ⟨?_, G⟩
  have h9 : zA0 s seg a = (Ob0, (ptrS s seg a).2) := by unfold zA0; rw [if_pos h1]
  rw [h9]; rfl
 ·
  simp only [sb] at h1
  have hz : (ptrS s seg a).2 = 0 := by omega
  have hb := yW4 H hz
  have h1n : ¬ ((ptrS s seg a).2 ≠ 0 ∨ (ptrS s seg a).1.kind = 0) := by omega
  refine qZ 3 ?_
  refine stp (zA4 (v := .bool (zH4 ((ptrS s seg a).1))) rfl (zL0 _ ((ptrS s seg a).1)) ?_)
  intro w26 g27
  replace hc4 := g27.heap hc4
  replace hc15 := g27.heap hc15
  replace G := G.tr g27
  clear g27
  refine qZ 2 ?_
  refine zA2 (b := (zH4 ((ptrS s seg a).1))) rfl (fun h2 => ?_) (fun h2 => ?_)
  ·
   refine qZ 2 ?_
   refine stp (zH5 (v := src) rfl ?_)
   refine qZ 3 ?_
   refine stp (zB5 rfl rfl ?_ ?_); constructor <;> omega
   refine qZ 2 ?_
   refine stp (zB5 rfl rfl ?_ ?_); constructor <;> omega
   refine stp (zA4 (v := .tuple #[.agg #[.int .i64 ((zB4 s ((ptrS s seg a).1) seg ((a + 1) + ((ptrS s seg a).1.off))).1.kind), .int .i64 ((zB4 s ((ptrS s seg a).1) seg ((a + 1) + ((ptrS s seg a).1.off))).1.seg), .int .i64 ((zB4 s ((ptrS s seg a).1) seg ((a + 1) + ((ptrS s seg a).1.off))).1.at_), .int .i64 ((zB4 s ((ptrS s seg a).1) seg ((a + 1) + ((ptrS s seg a).1.off))).1.data), .int .i64 ((zB4 s ((ptrS s seg a).1) seg ((a + 1) + ((ptrS s seg a).1.off))).1.ptrs), .int .i64 ((zB4 s ((ptrS s seg a).1) seg ((a + 1) + ((ptrS s seg a).1.off))).1.size), .int .i64 ((zB4 s ((ptrS s seg a).1) seg ((a + 1) + ((ptrS s seg a).1.off))).1.count)], .int .u16 ((zB4 s ((ptrS s seg a).1) seg ((a + 1) + ((ptrS s seg a).1.off))).2)]) rfl (zZ2 _ (H.grow G) ((ptrS s seg a).1) seg ((a + 1) + ((ptrS s seg a).1.off)) hq (by simp only [inR]; omega)) ?_)
   intro w28 g29
   replace hc4 := g29.heap hc4
   replace hc15 := g29.heap hc15
   replace G := G.tr g29
   clear g29
   refine qZ 2 ?_
   refine stn (qS hc4 ?_)
   intro w30 hc31 u32
   replace hc15 := u32.heap hc15 ne19.symm
   replace G := G.upd u32 hge6
   clear u32 hc4
   refine qZ 3 ?_
   refine ret2 (zA5 rfl hc31 (by rfl)) (zA1 (v := .int .u16 ((zB4 s ((ptrS s seg a).1) seg ((a + 1) + ((ptrS s seg a).1.off))).2)) rfl) ⟨?_, G⟩
   have h9 : zA0 s seg a = zB4 s (ptrS s seg a).1 seg (a + 1 + (ptrS s seg a).1.off) := by unfold zA0; rw [if_neg h1n, if_pos h2]
   rw [h9]
  ·
   refine qZ 6 ?_
   refine zA2 (b := ((ptrS s seg a).1.dbl)) rfl (fun h3 => ?_) (fun h3 => ?_)
   ·
    refine qZ 2 ?_
    refine stp (zH5 (v := src) rfl ?_)
    refine qZ 1 ?_
    refine stp (zA4 (v := .tuple #[.agg #[.int .i64 ((zD6 s (ptrS s seg a).1).1.kind), .int .i64 ((zD6 s (ptrS s seg a).1).1.seg), .int .i64 ((zD6 s (ptrS s seg a).1).1.at_), .int .i64 ((zD6 s (ptrS s seg a).1).1.data), .int .i64 ((zD6 s (ptrS s seg a).1).1.ptrs), .int .i64 ((zD6 s (ptrS s seg a).1).1.size), .int .i64 ((zD6 s (ptrS s seg a).1).1.count)], .int .u16 ((zD6 s (ptrS s seg a).1).2)]) rfl (qW2 _ (H.grow G) (ptrS s seg a).1 hq) ?_)
    intro w33 g34
    replace hc4 := g34.heap hc4
    replace hc15 := g34.heap hc15
    replace G := G.tr g34
    clear g34
    refine qZ 2 ?_
    refine stn (qS hc4 ?_)
    intro w35 hc36 u37
    replace hc15 := u37.heap hc15 ne19.symm
    replace G := G.upd u37 hge6
    clear u37 hc4
    refine qZ 3 ?_
    refine ret2 (zA5 rfl hc36 (by rfl)) (zA1 (v := .int .u16 ((zD6 s (ptrS s seg a).1).2)) rfl) ⟨?_, G⟩
    have h9 : zA0 s seg a = zD6 s (ptrS s seg a).1 := by unfold zA0; rw [if_neg h1n, if_neg (by simp [h2]), if_pos h3]
    rw [h9]
   ·
    refine qZ 3 ?_
    refine stp (zH5 (v := src) rfl ?_)
    refine qZ 1 ?_
    refine stp (zA4 (v := .tuple #[.agg #[.int .i64 ((zD0 s (ptrS s seg a).1).1.kind), .int .i64 ((zD0 s (ptrS s seg a).1).1.seg), .int .i64 ((zD0 s (ptrS s seg a).1).1.at_), .int .i64 ((zD0 s (ptrS s seg a).1).1.data), .int .i64 ((zD0 s (ptrS s seg a).1).1.ptrs), .int .i64 ((zD0 s (ptrS s seg a).1).1.size), .int .i64 ((zD0 s (ptrS s seg a).1).1.count)], .int .u16 ((zD0 s (ptrS s seg a).1).2)]) rfl (qR4 _ (H.grow G) (ptrS s seg a).1 hq) ?_)
    intro w38 g39
    replace hc4 := g39.heap hc4
    replace hc15 := g39.heap hc15
    replace G := G.tr g39
    clear g39
    refine qZ 2 ?_
    refine stn (qS hc4 ?_)
    intro w40 hc41 u42
    replace hc15 := u42.heap hc15 ne19.symm
    replace G := G.upd u42 hge6
    clear u42 hc4
    refine qZ 3 ?_
    refine ret2 (zA5 rfl hc41 (by rfl)) (zA1 (v := .int .u16 ((zD0 s (ptrS s seg a).1).2)) rfl) ⟨?_, G⟩
    have h9 : zA0 s seg a = zD0 s (ptrS s seg a).1 := by unfold zA0; rw [if_neg h1n, if_neg (by simp [h2]), if_neg (by simp [h3])]
    rw [h9]
theorem qR6 (w : World) {b : Nat} {o : Ob} {left : Int} {t_ : TypeId} {u_ : Value} (hb : w.heap[b]? = some (.cells #[.iface t_ u_, .int .i64 o.kind, .int .i64 o.seg, .int .i64 o.at_, .int .i64 o.data, .int .i64 o.ptrs, .int .i64 o.size, .int .i64 o.count, .int .i64 left] 117 (0, 0))) (h0 : -1 ≤ left ∧ left ≤ 9223372036854775807) (h1 : 0 ≤ zB8 o ∧ zB8 o ≤ 536870912) : Calls Tryz.prog 53 #[.pointer (some ⟨b, 0, none⟩)] w (Ret fun v w' => v = .int .u16 (if left - (1 + zB8 o) < 0 then 22 else 0) ∧ w'.heap[b]? = some (.cells #[.iface t_ u_, .int .i64 o.kind, .int .i64 o.seg, .int .i64 o.at_, .int .i64 o.data, .int .i64 o.ptrs, .int .i64 o.size, .int .i64 o.count, .int .i64 (left - (1 + zB8 o))] 117 (0, 0)) ∧ Kp [b] w w') := by
 have K := Kp.refl [b] w
 refine zC2 Tryz.func53 Tryz.ntmps53 Tryz.results53 rfl rfl ?_
 refine qZ 5 ?_
 refine zM8 12 [[], [0], [1, 0], [2, 1, 0], [], [0], [1, 0], [2, 1, 0], [3, 2, 1, 0], [4, 3, 2, 1, 0], [9, 8, 7, 6, 5, 4, 3, 2, 1, 0], [10, 9, 8, 7, 6, 5, 4, 3, 2, 1, 0]] mixed (by kernel_rfl) (by kernel_rfl) (by kernel_rfl) ?_
 intro w1 g2
 replace hb := g2.heap hb
 replace K := K.tr g2.kp
 clear g2
 refine qA 7 ?_
 apply zC0
 ·intro w_ g_; exact og rfl (zI0 rfl (g_.heap hb) (by rfl) (by rfl) qX)
 apply zC0
 ·intro w_ g_; refine og rfl ?_; exact zA4 (v := .int .i64 (zB8 o)) rfl (qE5 _ o) (fun w2_ g2_ => ⟨g2_, rfl⟩)
 apply zC0
 ·intro w_ g_; refine og rfl ?_; refine zB5 rfl rfl ?_ ?_; constructor <;> omega; exact qX
 apply zC0
 ·intro w_ g_; refine og rfl ?_; refine zM9 rfl rfl ?_ ?_; constructor <;> omega; exact qX
 refine qA 1 ?_
 refine zI4 ?_
 intro w3 g4
 replace hb := g4.heap hb
 replace K := K.tr g4.kp
 clear g4
 refine qZ 1 ?_
 refine stn (zB9 (v := .int .i64 (left - (1 + (zB8 o)))) rfl rfl (by rfl) hb (by rfl) (by rfl) ?_)
 intro w5 hc6 u7
 replace K := K.tr (Kp.of_upd u7 (by simp))
 clear u7 hb
 refine qZ 8 ?_
 refine stp (zF6 rfl rfl ?_)
 refine zA6 ?_
 refine zA2 (b := (decide ((left - (1 + (zB8 o))) < 0))) rfl (fun h2 => ?_) (fun h2 => ?_)
 ·
  replace h2 := qT h2
  refine qZ 5 ?_
  refine ret1 (zA1 (v := .int .u16 22) rfl) ⟨by rw [if_pos h2], hc6, K⟩
 ·
  replace h2 := qF h2
  refine qZ 6 ?_
  refine ret1 (zA1 (v := .int .u16 0) rfl) ⟨by rw [if_neg h2], hc6, K⟩
theorem yQ6 (w : World) {b : Nat} {o : Ob} {left : Int} {t_ : TypeId} {u_ : Value} (hb : w.heap[b]? = some (.cells #[.iface t_ u_, .int .i64 o.kind, .int .i64 o.seg, .int .i64 o.at_, .int .i64 o.data, .int .i64 o.ptrs, .int .i64 o.size, .int .i64 o.count, .int .i64 left] 117 (0, 0))) : zB6 Tryz.prog 55 #[.pointer (some ⟨b, 0, none⟩)] w (.agg #[.int .i64 ((isS o).kind), .int .i64 ((isS o).size), .int .i64 ((isS o).words), .int .i64 ((isS o).kids), .int .u64 ((isS o).word)]) := by
 have G := Grow.rfl' w
 refine zA8 Tryz.func55 Tryz.ntmps55 Tryz.results55 rfl rfl ?_
 refine qZ 2 ?_
 refine stp (zA7 ?_)
 intro b1 w2 hb3 hc4 g5
 refine qZ 6 ?_
 have hge6 := Nat.le_trans G.size hb3
 have ne7 := qN hb hb3
 replace hb := g5.heap hb
 replace G := G.tr g5
 clear g5 hb3
 refine stp (zI0 rfl hb (by rfl) (by rfl) ?_)
 refine stp (zA7 ?_)
 intro b8 w9 hb10 hc11 g12
 refine stn (qS hc11 ?_)
 intro w13 hc14 u15
 have g16 := g12.upd u15 hb10
 have hge17 := Nat.le_trans G.size hb10
 have ne18 := qN hb hb10
 have ne19 := qN hc4 hb10
 replace hb := g16.heap hb
 replace hc4 := g16.heap hc4
 replace G := G.tr g16
 clear u15 g12 hb10 hc11
 refine qZ 11 ?_
 refine stp (zA9 (v := .agg #[.int .i64 o.kind, .int .i64 o.size, .int .i64 o.data, .int .i64 o.ptrs, .int .u64 0]) (fun w => by kernel_rfl) ?_)
 refine stp (zA7 ?_)
 intro b20 w21 hb22 hc23 g24
 refine stn (qS hc23 ?_)
 intro w25 hc26 u27
 have g28 := g24.upd u27 hb22
 have hge29 := Nat.le_trans G.size hb22
 have ne30 := qN hb hb22
 have ne31 := qN hc4 hb22
 have ne32 := qN hc14 hb22
 replace hb := g28.heap hb
 replace hc4 := g28.heap hc4
 replace hc14 := g28.heap hc14
 replace G := G.tr g28
 clear u27 g24 hb22 hc23
 refine qZ 7 ?_
 refine stp (zG9 rfl rfl ?_)
 refine qZ 2 ?_
 refine zA2 (b := (decide (o.kind ≠ 2))) rfl (fun h1 => ?_) (fun h1 => ?_)
 ·
  replace h1 := qT h1
  refine qZ 4 ?_
  refine stn (qS hc4 ?_)
  intro w33 hc34 u35
  replace hb := u35.heap hb ne7
  replace hc14 := u35.heap hc14 ne19.symm
  replace hc26 := u35.heap hc26 ne31.symm
  replace G := G.upd u35 hge6
  clear u35 hc4
  refine qZ 2 ?_
  refine ret1 (zA5 rfl hc34 (by rfl)) ⟨?_, G⟩
  simp [isS, *]
 ·
  replace h1 := qF h1
  refine qZ 4 ?_
  refine stp (zD5 rfl rfl ?_)
  refine qZ 2 ?_
  refine zA2 (b := (decide (o.size = 6))) rfl (fun h2 => ?_) (fun h2 => ?_)
  ·
   replace h2 := qT h2
   refine qZ 4 ?_
   refine stn (zB9 (v := .int .i64 o.count) rfl rfl (by rfl) hc26 (by rfl) (by rfl) ?_)
   intro w36 hc37 u38
   replace hb := u38.heap hb ne30
   replace hc4 := u38.heap hc4 ne31
   replace hc14 := u38.heap hc14 ne32
   replace G := G.upd u38 hge29
   clear u38 hc26
   refine qZ 4 ?_
   refine stn (qS hc4 ?_)
   intro w39 hc40 u41
   replace hb := u41.heap hb ne7
   replace hc14 := u41.heap hc14 ne19.symm
   replace hc37 := u41.heap hc37 ne31.symm
   replace G := G.upd u41 hge6
   clear u41 hc4
   refine qZ 2 ?_
   refine ret1 (zA5 rfl hc40 (by rfl)) ⟨?_, G⟩
   simp [isS, *]
  ·
   replace h2 := qF h2
   refine qZ 4 ?_
   refine stn (zB9 (v := .int .i64 o.count) rfl rfl (by rfl) hc26 (by rfl) (by rfl) ?_)
   intro w42 hc43 u44
   replace hb := u44.heap hb ne30
   replace hc4 := u44.heap hc4 ne31
   replace hc14 := u44.heap hc14 ne32
   replace G := G.upd u44 hge29
   clear u44 hc26
   refine qZ 4 ?_
   refine stn (qS hc4 ?_)
   intro w45 hc46 u47
   replace hb := u47.heap hb ne7
   replace hc14 := u47.heap hc14 ne19.symm
   replace hc43 := u47.heap hc43 ne31.symm
   replace G := G.upd u47 hge6
   clear u47 hc4
   refine qZ 2 ?_
   refine ret1 (zA5 rfl hc46 (by rfl)) ⟨?_, G⟩
   simp [isS, *]
theorem qH5 (w : World) {ad : Option Addr} {n c : Nat} : zB6 Tryz.prog 31 #[.slice ad n c] w (.iface 110 (.agg #[.slice ad n c])) := by
 have G := Grow.rfl' w
 refine zA8 Tryz.func31 Tryz.ntmps31 Tryz.results31 rfl rfl ?_
 refine qZ 2 ?_
 refine stp (zJ5 (v := .nilIface) rfl ?_)
 refine qZ 4 ?_
 refine stp (zA9 (v := .agg #[.slice ad n c]) (fun w => by kernel_rfl) ?_)
 refine stp (qG5 (v := .agg #[.slice ad n c]) rfl ?_)
 refine qZ 3 ?_
 refine ret1 (zA1 (v := .iface 110 (.agg #[.slice ad n c])) rfl) ⟨?_, G⟩
 rfl
theorem yQ7 {w : World} {u : Value} {A : List (List Int)} (hA : zG2 w u A) (hr : OkA A) : SrcOk Tryz.prog w (.iface 110 (.agg #[u])) (zB0 A) :=
  yJ6 hr zR3 zV9 (fun w' g seg a => zP4 w' (hA.grow g) seg a) (fun w' g => qF0 w' (hA.grow g) (by have := hr.most; omega))
theorem zW0 (w : World) {t_ : TypeId} {u_ : Value} {s : Src} (H : SrcOk Tryz.prog w (.iface t_ u_) s) {bd : Nat} {paid : Int} (hb : w.heap[bd]? = some (.cells #[.iface t_ u_, .int .i64 paid] 172 (0, 0))) (seg : Int) {a : Int} (a0 : 0 ≤ a) (a1 : a ≤ 140737488355328) {n : Nat} (hn : n ≤ 10000) : Calls Tryz.prog 131 #[.pointer (some ⟨bd, 0, none⟩), .int .i64 seg, .int .i64 a, .int .i64 (n : Int)] w (Ret fun v w' => Row (hide w.heap.size w') 1 v n ((zQ9 s seg a n).map (.int .u64)) ∧ Grow w w') := by
 have G := Grow.rfl' w
 refine zC2 Tryz.func131 Tryz.ntmps131 Tryz.results131 rfl rfl ?_
 refine qZ 15 ?_
 refine zF5 (fun m_ e_ w_ => ∃ (m : Nat) (ad3 : Option Addr) (n3 : Nat) (c3 : Nat), m_ = n - m ∧ Fr [(0, .pointer (some ⟨bd, 0, none⟩)), (1, .int .i64 seg), (2, .int .i64 a), (8, .slice none 0 0), (13, .int .i64 (n : Int)), (9, .slice ad3 n3 c3), (14, .int .i64 (m : Int))] e_ ∧ (m ≤ n) ∧ (w_.heap[bd]? = some (.cells #[.iface t_ u_, .int .i64 paid] 172 (0, 0))) ∧ (w_.ownsRow w.heap.size 23 1 (.slice ad3 n3 c3) m ((zQ9 s seg a m).map (.int .u64))) ∧ Grow w w_) _ ⟨0, none, 0, 0, rfl, zC6 ⟨rfl, rfl, rfl, rfl, rfl, rfl, rfl, trivial⟩, by omega, hb, World.ownsRow_nil _ _ _ _, G⟩ ?_
 clear hb
 clear G
 rintro m_ e_ w1 ⟨m, ad3, n3, c3, rfl, ⟨e2, rfl⟩, hm, hb, own, G⟩
 refine qZ 2 ?_
 refine stp (zF6 rfl rfl ?_)
 refine qZ 2 ?_
 refine zA2 (b := (decide ((m : Int) < (n : Int)))) rfl (fun hlt => ?_) (fun hlt => ?_)
 ·
  replace hlt := qT hlt
  have hnum := H.num seg (a + (m : Int))
  refine qZ 17 ?_
  refine stp (zB5 rfl rfl ?_ ?_); constructor <;> omega
  refine stp (qB5 H G rfl rfl rfl ?_)
  intro w3 g4
  replace hb := g4.heap hb
  replace own := zB7 own g4
  replace G := G.tr g4
  clear g4
  refine qZ 9 ?_
  refine stp (zC3 (cs := #[.int .u64 ((s.word seg (a + (m : Int))).1)]) (el := 23) (fun w => by kernel_rfl) ?_)
  intro bs5 w6 hb7 hc8 g9
  have hge10 := Nat.le_trans G.size hb7
  replace hb := g9.heap hb
  replace own := zB7 own g9
  replace G := G.tr g9
  clear g9
  refine stp (zG1 rfl rfl rfl rfl own (Row.of_block (n := 1) hc8 rfl rfl (by omega)) (fun q_ hq_ => by simp at hq_; subst hq_; rfl) (by simp only [maxLen]; omega) (by omega) G.size ?_)
  intro v11 w12 own6 gr6
  replace G := G.grown gr6 (zH8 own)
  replace hb := zI1 gr6 hb (zF3 own hb (by decide))
  clear own gr6
  obtain ⟨ad4, n4, c4, rfl⟩ := zE0 own6
  refine qZ 3 ?_
  refine stp (zB5 rfl rfl ?_ ?_); constructor <;> omega
  refine qZ 2 ?_
  refine ⟨_, ?_, m + 1, ad4, n4, c4, rfl, zC6 ⟨rfl, rfl, rfl, rfl, rfl, rfl, congrArg (Value.int .i64) (by omega), trivial⟩, by omega, hb, (by rw [qV4, List.map_append]; exact own6), G⟩
  omega
 ·
  replace hlt := qF hlt
  have hm2 : m = n := by omega
  subst hm2
  refine qZ 7 ?_
  refine ret1 (zA1 (v := .slice ad3 n3 c3) rfl) ⟨qI9 own (zJ7 _ _ _ _) (by omega), G⟩
theorem yE9 (w : World) {x : Int} (h0 : 0 ≤ x) (h1 : x ≤ 18446744073709551615) : Calls Tryz.prog 157 #[.int .u64 x, .int .i64 8] w (Ret fun v w' => Row w' 1 v 8 ((byt8 x).map (.int .u8)) ∧ Grow w w') := by
 have G := Grow.rfl' w
 refine zC2 Tryz.func157 Tryz.ntmps157 Tryz.results157 rfl rfl ?_
 refine qZ 7 ?_
 refine stp ?_
 refine qI7 rfl rfl rfl ?_
 rw [show (if (8 : Int) < 8 then 8 else 8) = (8 : Int) from rfl]
 refine stp ?_
 refine qP1 rfl rfl rfl ?_
 rw [show (if (8 : Int) > 0 then 8 else 0) = (8 : Int) from rfl]
 refine stp (jA2 (n := 8) (base := w.heap.size) rfl rfl (by first | omega | (simp only [maxLen]; omega)) (by first | omega | (simp only [maxLen]; omega)) G.size ?_)
 intro bm4 w1 hb2 own5 g3
 rw [show (madeCells (Value.cells (.int .u8 0 : Value)) (8 * 1)).toList = List.replicate 8 (.int .u8 0) from by rw [Nat.mul_one]; exact toList_madeCells_one _ _] at own5
 replace G := G.tr g3
 clear g3
 refine qZ 10 ?_
 obtain ⟨hge_, cur0, hc0_, hsz0, hcur0⟩ := own_made' own5
 clear own5
 refine zF5 (fun m_ e_ w_ => ∃ (k : Nat) (cur : Array Value), m_ = 8 - k ∧ Fr [(0, .int .u64 x), (4, .slice none 0 0), (5, .slice (some ⟨bm4, 0, none⟩) 8 8), (12, .int .i64 8), (13, .int .i64 (k : Int))] e_ ∧ (k ≤ 8) ∧ (cur.toList = putCells x k) ∧ (w_.heap[bm4]? = some (.cells cur 5 (0, 0))) ∧ Grow w w_) _ ⟨0, cur0, rfl, zC6 ⟨rfl, rfl, rfl, rfl, rfl, trivial⟩, by omega, hcur0, hc0_, G⟩ ?_
 clear G
 rintro m_ e_ w6 ⟨k, cur, rfl, ⟨e7, rfl⟩, hk, hcur, hc_, G⟩
 refine qZ 2 ?_
 refine stp (zF6 rfl rfl ?_)
 refine qZ 2 ?_
 refine zA2 (b := (decide ((k : Int) < 8))) rfl (fun hlt => ?_) (fun hlt => ?_)
 ·
  replace hlt := qT hlt
  have hszc : cur.size = 8 := by rw [← Array.length_toList, hcur]; exact qQ7 x k (by omega)
  refine qZ 13 ?_
  refine stp (zZ9 rfl rfl ?_ ?_); constructor <;> omega
  refine stp (yO8 rfl rfl ?_ ?_); omega
  refine stp ?_
  refine zI5 rfl ?_
  rw [yP7 x k h0 h1 (by omega)]
  refine stp ?_
  refine zH2 rfl rfl (by omega) (by omega) ?_
  rw [show 0 + ((k : Int)).toNat * 1 = k from by omega]
  refine stn (zB9 (v := .int .u8 (byt1 x k)) rfl rfl (by rfl) hc_ (Nat.ble_eq_true_of_le (by omega)) (by rfl) ?_)
  intro w8 hc9 u10
  replace G := G.upd u10 hge_
  clear u10 hc_
  refine qZ 2 ?_
  refine stp (zB5 rfl rfl ?_ ?_); constructor <;> omega
  refine qZ 2 ?_
  refine ⟨_, ?_, k + 1, _, rfl, zC6 ⟨rfl, rfl, rfl, rfl, congrArg (Value.int .i64) (by omega), trivial⟩, by omega, (by simp only [hcur]; exact qQ6 x k (by omega)), hc9, G⟩
  omega
 ·
  replace hlt := qF hlt
  have hk8 : k = 8 := by omega
  subst hk8
  refine qZ 7 ?_
  refine ret1 (zA1 (v := .slice (some ⟨bm4, 0, none⟩) 8 8) rfl) ⟨Row.of_block (n := 8) hc_ (by rw [hcur]; exact qQ8 x) (by simp [byt8]) (by omega), G⟩
theorem qR7 (w : World) {t_ : TypeId} {u_ : Value} {s : Src} (H : SrcOk Tryz.prog w (.iface t_ u_) s) {bd : Nat} {paid : Int} (hb : w.heap[bd]? = some (.cells #[.iface t_ u_, .int .i64 paid] 172 (0, 0))) (seg : Int) {a : Int} (a0 : 0 ≤ a) (a1 : a ≤ 140737488355328) {n : Nat} (hn : n ≤ 80000) : Calls Tryz.prog 132 #[.pointer (some ⟨bd, 0, none⟩), .int .i64 seg, .int .i64 a, .int .i64 (n : Int)] w (Ret fun v w' => Row (hide w.heap.size w') 1 v n ((qQ4 s seg a n).map (.int .u8)) ∧ Grow w w') := by
 have G := Grow.rfl' w
 refine zC2 Tryz.func132 Tryz.ntmps132 Tryz.results132 rfl rfl ?_
 refine qZ 15 ?_
 refine stp (zA4 (v := .int .i64 (((n + 7) / 8 : Nat) : Int)) rfl (zJ0 (yE6 _ _ (by omega) (by omega)) (y := .int .i64 (((n + 7) / 8 : Nat) : Int)) (by congr 1 <;> omega)) ?_)
 intro w1 g2
 replace hb := g2.heap hb
 replace G := G.tr g2
 clear g2
 refine stp ?_
 refine zD7 rfl (zW0 _ (H.grow G) hb seg a0 a1 (n := (n + 7) / 8) (by omega)) ?_
 rintro v_ w3 ⟨⟨ad5, c5, rfl, -, -, R5⟩, g_⟩
 have RW := R5.sees (Sees.seen _ _)
 clear R5
 replace hb := g_.heap hb
 replace G := G.tr g_
 clear g_
 have hB5 := G.size
 have G5 := Grow.rfl' w3
 have hB6 : w3.heap.size ≤ w3.heap.size := Nat.le_refl _
 refine qZ 4 ?_
 refine zF5 (fun m_ e_ w_ => ∃ (m : Nat) (ad3 : Option Addr) (n3 : Nat) (c3 : Nat), m_ = (n + 7) / 8 - m ∧ Fr [(3, .int .i64 (n : Int)), (8, .slice none 0 0), (17, .slice ad5 ((n + 7) / 8) c5), (18, .int .i64 (((n + 7) / 8 : Nat) : Int)), (9, .slice ad3 n3 c3), (19, .int .i64 (m : Int))] e_ ∧ (m ≤ (n + 7) / 8) ∧ (w_.heap[bd]? = some (.cells #[.iface t_ u_, .int .i64 paid] 172 (0, 0))) ∧ (Grow w3 w_) ∧ (w_.ownsRow w3.heap.size 5 1 (.slice ad3 n3 c3) (8 * m) ((((zQ9 s seg a ((n + 7) / 8)).take m).flatMap byt8).map (.int .u8))) ∧ Grow w w_) _ ⟨0, none, 0, 0, rfl, zC6 ⟨rfl, rfl, rfl, rfl, rfl, rfl, trivial⟩, by omega, hb, G5, World.ownsRow_nil _ _ _ _, G⟩ ?_
 clear hb G5
 clear G
 rintro m_ e_ w4 ⟨m, ad3, n3, c3, rfl, ⟨e5, rfl⟩, hm, hb, G5, own, G⟩
 refine qZ 2 ?_
 refine stp (zF6 rfl rfl ?_)
 refine qZ 2 ?_
 refine zA2 (b := (decide ((m : Int) < (((n + 7) / 8 : Nat) : Int)))) rfl (fun hlt => ?_) (fun hlt => ?_)
 ·
  replace hlt := qT hlt
  have hm5 : m < (n + 7) / 8 := by omega
  have hml : m < (zQ9 s seg a ((n + 7) / 8)).length := by rw [zJ7]; exact hm5
  have hr := qK6 H seg a ((n + 7) / 8) _ (qF6 hml)
  simp only [inR] at hr
  refine qZ 5 ?_
  refine stp (zC8 (RW.grow G5) rfl rfl ?_ ?_); omega
  refine stp (zC5 (v := .int .u64 ((zQ9 s seg a ((n + 7) / 8)).getD m 0)) (m := 0) (RW.grow G5) rfl (zE6 0 (by omega)) ?_)
  refine qZ 5 ?_
  refine stp ?_
  refine zD7 rfl (yE9 _ hr.1 hr.2) ?_
  rintro v8 w6 ⟨R8, g_⟩
  replace hb := g_.heap hb
  replace G5 := G5.tr g_
  replace own := zB7 own g_
  replace G := G.tr g_
  clear g_
  refine stp (zG1 rfl rfl rfl rfl own R8 (fun q_ hq_ => by obtain ⟨z_, -, rfl⟩ := List.mem_map.1 hq_; rfl) (by simp only [maxLen]; omega) (by omega) G5.size ?_)
  intro v7 w8 own6 gr6
  clear R8
  replace G := G.grown gr6 (fun k_ hk_ => Nat.le_trans hB5 (zH8 own k_ hk_))
  replace G5 := G5.grown gr6 (zH8 own)
  replace hb := zI1 gr6 hb (zF3 own hb (by decide))
  clear own gr6
  obtain ⟨ad4, n4, c4, rfl⟩ := zE0 own6
  refine qZ 3 ?_
  refine stp (zB5 rfl rfl ?_ ?_); constructor <;> omega
  refine qZ 2 ?_
  refine ⟨_, ?_, m + 1, ad4, n4, c4, rfl, zC6 ⟨rfl, rfl, rfl, rfl, rfl, congrArg (Value.int .i64) (by omega), trivial⟩, by omega, hb, G5, (by rw [Nat.mul_succ, List.take_add_one, List.getElem?_eq_getElem hml, Option.toList_some, List.flatMap_append, List.map_append, List.flatMap_singleton]; rw [zE5 hml] at own6; exact own6), G⟩
  omega
 ·
  replace hlt := qF hlt
  have hm2 : m = (n + 7) / 8 := by omega
  rw [hm2, List.take_of_length_le (by rw [zJ7]; exact Nat.le_refl _)] at own
  have hfl := qQ5 (zQ9 s seg a ((n + 7) / 8))
  rw [zJ7] at hfl
  have hR9 := (zX1 own (by omega)).sees (Sees.low hB5 _)
  obtain ⟨ad9, c9, hs9, hc9, hc92, R9⟩ := hR9
  simp only [Value.slice.injEq] at hs9
  obtain ⟨rfl, rfl, rfl⟩ := hs9
  refine qZ 5 ?_
  refine stp (qF3 rfl rfl (by omega) (by omega) ?_)
  refine qZ 3 ?_
  have R10 := R9.sliceH (m := n) hc9 (by omega) (by decide)
  rw [← List.map_take, show n * 1 = n from Nat.mul_one n] at R10
  refine ret1 (zA1 (v := .slice (if c3 = 0 then ad3 else ad3.map (·.add (0 * 1))) (((n : Int)).toNat) c3) rfl) ⟨⟨_, _, rfl, by omega, hc92, R10⟩, G⟩
theorem qW3 : ∀ (n_ : Nat) (w : World) {t_ : TypeId} {u_ : Value} {s : Src} {w0 : World} (H : SrcOk Tryz.prog w0 (.iface t_ u_) s) (g0 : Grow w0 w) {bd : Nat} (hbd : w0.heap.size ≤ bd) {paid : Int} (hb : w.heap[bd]? = some (.cells #[.iface t_ u_, .int .i64 paid] 172 (0, 0))) (hp0 : 0 ≤ paid) (hp1 : paid ≤ 8192) (seg : Int) {a : Int} (a0 : 0 ≤ a) (a1 : a ≤ 140737488455328) {d : Nat} (hd : d ≤ 32), d + 1 ≤ n_ → Calls Tryz.prog 105 #[.pointer (some ⟨bd, 0, none⟩), .int .i64 seg, .int .i64 a, .int .i64 (d : Int)] w (Ret fun v w' => ∃ cells, v = .tuple #[.agg cells.toArray, .int .u16 (zJ8 s d seg a paid).2.2] ∧ NodeR (hide w.heap.size w') cells (zJ8 s d seg a paid).2.1 ∧ w'.heap[bd]? = some (.cells #[.iface t_ u_, .int .i64 ((zJ8 s d seg a paid).1)] 172 (0, 0)) ∧ Kp [bd] w w') := by
 intro n_
 induction n_ with
 | zero => intro w t_ u_ s w0 H g0 bd hbd paid hb hp0 hp1 seg a a0 a1 d hd hm_; exact absurd hm_ (by have := Nat.succ_pos d; omega)
 | succ n_ ih_ =>
 intro w t_ u_ s w0 H g0 bd hbd paid hb hp0 hp1 seg a a0 a1 d hd hm_
 have K := Kp.refl [bd] w
 have g0w := g0.size
 have hblt := zC1 hb
 have hor := zT7 H seg a
 have hok := zN3 s seg a
 obtain ⟨hw0, hw1⟩ := zJ3 hor
 obtain ⟨rk, rs, ra, rd, rp, rz, rc⟩ := hor
 have hor := zT7 H seg a
 have hneq := yA9 s d seg a paid
 refine zC2 Tryz.func105 Tryz.ntmps105 Tryz.results105 rfl rfl ?_
 refine qZ 2 ?_
 refine stp (zA7 ?_)
 intro b1 w2 hb3 hc4 g5
 refine qZ 7 ?_
 have hge6 := Nat.le_trans K.size hb3
 have ne7 := qN hb hb3
 replace hb := g5.heap hb
 replace K := K.tr g5.kp
 replace g0 := g0.tr g5
 clear g5 hb3
 refine qZ 3 ?_
 refine stp (zA4 (v := .tuple #[.agg #[.int .i64 ((zA0 s seg a).1.kind), .int .i64 ((zA0 s seg a).1.seg), .int .i64 ((zA0 s seg a).1.at_), .int .i64 ((zA0 s seg a).1.data), .int .i64 ((zA0 s seg a).1.ptrs), .int .i64 ((zA0 s seg a).1.size), .int .i64 ((zA0 s seg a).1.count)], .int .u16 ((zA0 s seg a).2)]) rfl (qR5 _ (H.grow g0) seg a) ?_)
 intro w8 g9
 replace hb := g9.heap hb
 replace K := K.tr g9.kp
 replace g0 := g0.tr g9
 replace hc4 := g9.heap hc4
 clear g9
 refine qZ 3 ?_
 refine stp (zA7 ?_)
 intro b10 w11 hb12 hc13 g14
 refine stn (qS hc13 ?_)
 intro w15 hc16 u17
 have g18 := g14.upd u17 hb12
 have hge19 := Nat.le_trans K.size hb12
 have ne20 := qN hb hb12
 have ne21 := qN hc4 hb12
 replace hb := g18.heap hb
 replace K := K.tr g18.kp
 replace g0 := g0.tr g18
 replace hc4 := g18.heap hc4
 clear u17 g14 hb12 hc13
 refine qZ 6 ?_
 refine stp (zG9 rfl rfl ?_)
 refine zA6 ?_
 refine zA2 (b := (decide (((zA0 s seg a).2) ≠ 0))) rfl (fun h1 => ?_) (fun h1 => ?_)
 ·
  replace h1 := qT h1
  refine qZ 4 ?_
  refine stn (qS hc4 ?_)
  intro w22 hc23 u24
  replace hb := u24.heap hb ne7
  replace K := (by first | exact K.upd_new u24 (by assumption) | exact K.tr (Kp.of_upd u24 (by simp)))
  replace g0 := (by first | exact Grow.upd g0 u24 (Nat.le_trans g0w (by assumption)) | exact g0.kp1 (Kp.of_upd u24 (by simp)) hbd)
  replace hc16 := u24.heap hc16 ne21.symm
  clear u24 hc4
  refine qZ 3 ?_
  have h9 : (zJ8 s d seg a paid) = (paid, .nil, (zA0 s seg a).2) := by rw [hneq]; unfold qM8; rw [if_pos h1]
  rw [h9]
  refine ret2 (zA5 rfl hc23 (by rfl)) (zA1 (v := .int .u16 ((zA0 s seg a).2)) rfl) ⟨[_, _, _, _, _], rfl, NodeR.zero _, hb, K⟩
 ·
  replace h1 := qF h1
  refine qZ 2 ?_
  refine zM8 8 [[], [0], [1, 0], [2, 1, 0], [], [0], [1, 0], [6, 5, 4, 3, 2, 1, 0]] mixed (by kernel_rfl) (by kernel_rfl) (by kernel_rfl) ?_
  intro w25 g26
  replace hb := g26.heap hb
  replace K := K.tr g26.kp
  replace g0 := g0.tr g26
  replace hc4 := g26.heap hc4
  replace hc16 := g26.heap hc16
  clear g26
  refine qA 5 ?_
  apply zC0
  ·intro w_ g_; refine og rfl ?_; exact zA4 (v := .int .i64 (zB8 (zA0 s seg a).1)) rfl (qE5 _ (zA0 s seg a).1) (fun w2_ g2_ => ⟨g2_, rfl⟩)
  apply zC0
  ·intro w_ g_; refine og rfl ?_; refine zB5 rfl rfl ?_ ?_; constructor <;> omega; exact qX
  apply zC0
  ·intro w_ g_; refine og rfl ?_; refine zB5 rfl rfl ?_ ?_; constructor <;> omega; exact qX
  refine zI4 ?_
  intro w27 g28
  replace hb := g28.heap hb
  replace K := K.tr g28.kp
  replace g0 := g0.tr g28
  replace hc4 := g28.heap hc4
  replace hc16 := g28.heap hc16
  clear g28
  refine qZ 2 ?_
  refine stn (zB9 (v := .int .i64 (paid + (1 + (zB8 (zA0 s seg a).1)))) rfl rfl (by rfl) hb (by rfl) (by rfl) ?_)
  intro w29 hc30 u31
  replace K := (by first | exact K.upd_new u31 (by assumption) | exact K.tr (Kp.of_upd u31 (by simp)))
  replace g0 := (by first | exact Grow.upd g0 u31 (Nat.le_trans g0w (by assumption)) | exact g0.kp1 (Kp.of_upd u31 (by simp)) hbd)
  replace hc4 := u31.heap hc4 ne7.symm
  replace hc16 := u31.heap hc16 ne20.symm
  clear u31 hb
  refine qZ 7 ?_
  refine stp (zG9 rfl rfl ?_)
  refine qZ 1 ?_
  refine qG 1 ?_
  refine zA3 (zB2 (s := .bool _) (v := .bool (decide ((d : Int) = 0))) rfl (zE2 _) (fun hc33 => ?_) ?_)
  ·
   have hc33_ := qT hc33
   refine zD5 (gvt hc33) rfl ?_
   exact ⟨rfl, rfl⟩
  refine stp (zG8 rfl rfl rfl ?_)
  refine qZ 2 ?_
  refine zA2 (b := ((decide (((zA0 s seg a).1.kind) ≠ 0)) && (decide ((d : Int) = 0)))) rfl (fun h2 => ?_) (fun h2 => ?_)
  ·
   simp only [sb] at h2
   obtain ⟨h2a, h2b⟩ := h2
   have hd0 : (d == 0) = true := by rw [show d = 0 from by omega]; rfl
   refine qZ 3 ?_
   refine stn (qS hc4 ?_)
   intro w34 hc35 u36
   replace K := (by first | exact K.upd_new u36 (by assumption) | exact K.tr (Kp.of_upd u36 (by simp)))
   replace g0 := (by first | exact Grow.upd g0 u36 (Nat.le_trans g0w (by assumption)) | exact g0.kp1 (Kp.of_upd u36 (by simp)) hbd)
   replace hc16 := u36.heap hc16 ne21.symm
   replace hc30 := u36.heap hc30 ne7
   clear u36 hc4
   refine qZ 3 ?_
   have h9 : (zJ8 s d seg a paid) = ((paid + (1 + zB8 (zA0 s seg a).1)), .nil, 21) := by rw [hneq]; unfold qM8; rw [if_neg h1, if_pos ⟨h2a, hd0⟩]
   rw [h9]
   refine ret2 (zA5 rfl hc35 (by rfl)) (zA1 (v := .int .u16 21) rfl) ⟨[_, _, _, _, _], rfl, NodeR.zero _, hc30, K⟩
  ·
   simp only [sb] at h2
   have h2n : ¬ ((zA0 s seg a).1.kind ≠ 0 ∧ (d == 0) = true) := fun h_ => absurd (eq_of_beq h_.2) (by omega)
   refine qZ 6 ?_
   refine stp (zN7 rfl rfl ?_)
   refine qZ 2 ?_
   refine zA2 (b := (decide ((paid + (1 + (zB8 (zA0 s seg a).1))) > 8192))) rfl (fun h3 => ?_) (fun h3 => ?_)
   ·
    replace h3 := qT h3
    refine qZ 3 ?_
    refine stn (qS hc4 ?_)
    intro w37 hc38 u39
    replace K := (by first | exact K.upd_new u39 (by assumption) | exact K.tr (Kp.of_upd u39 (by simp)))
    replace g0 := (by first | exact Grow.upd g0 u39 (Nat.le_trans g0w (by assumption)) | exact g0.kp1 (Kp.of_upd u39 (by simp)) hbd)
    replace hc16 := u39.heap hc16 ne21.symm
    replace hc30 := u39.heap hc30 ne7
    clear u39 hc4
    refine qZ 3 ?_
    have h9 : (zJ8 s d seg a paid) = ((paid + (1 + zB8 (zA0 s seg a).1)), .nil, 22) := by rw [hneq]; unfold qM8; rw [if_neg h1, if_neg h2n, if_pos h3]
    rw [h9]
    refine ret2 (zA5 rfl hc38 (by rfl)) (zA1 (v := .int .u16 22) rfl) ⟨[_, _, _, _, _], rfl, NodeR.zero _, hc30, K⟩
   ·
    replace h3 := qF h3
    obtain ⟨s1, s2, s3, s4, s5, s6⟩ := yP8 hor hok (by omega)
    obtain ⟨B, hB⟩ : ∃ B, B = w29.heap.size := ⟨_, rfl⟩
    have hB8 : b1 < B := by rw [hB]; exact zC1 hc4
    have hB10 : b10 < B := by rw [hB]; exact zC1 hc16
    have hBd : bd < B := by rw [hB]; exact zC1 hc30
    have hwB : w.heap.size ≤ B := by rw [hB]; exact K.size
    have hBw : B ≤ w29.heap.size := by rw [hB]; exact Nat.le_refl _
    clear hB
    refine qZ 2 ?_
    have kb_hc16 : ∀ w_, Kp [b1] w29 w_ → w_.heap[b10]? = some (.cells #[.int .i64 ((zA0 s seg a).1.kind), .int .i64 ((zA0 s seg a).1.seg), .int .i64 ((zA0 s seg a).1.at_), .int .i64 ((zA0 s seg a).1.data), .int .i64 ((zA0 s seg a).1.ptrs), .int .i64 ((zA0 s seg a).1.size), .int .i64 ((zA0 s seg a).1.count)] 112 (0, 0)) := fun w_ k_ => k_.heap hc16 (fun hm_ => by simp only [List.mem_singleton] at hm_; first | exact ne21 hm_ | exact ne21 hm_.symm)
    have kb_hc30 : ∀ w_, Kp [b1] w29 w_ → w_.heap[bd]? = some (.cells #[.iface t_ u_, .int .i64 (paid + (1 + (zB8 (zA0 s seg a).1)))] 172 (0, 0)) := fun w_ k_ => k_.heap hc30 (fun hm_ => by simp only [List.mem_singleton] at hm_; omega)
    have kb_K : ∀ w_, Kp [b1] w29 w_ → Kp [bd] w w_ := fun w_ k_ => K.trans k_ (fun x_ hx_ => by simp only [List.mem_singleton] at hx_; subst hx_; exact .inr hge6)
    have kb_g0 : ∀ w_, Kp [b1] w29 w_ → Grow w0 w_ := fun w_ k_ => g0.trK k_ (fun x_ hx_ => by simp only [List.mem_singleton] at hx_; subst hx_; exact Nat.le_trans g0w hge6)
    have kb_hBw : ∀ w_, Kp [b1] w29 w_ → B ≤ w_.heap.size := fun w_ k_ => Nat.le_trans hBw k_.size
    refine jA4 6 [[], [0], [], [0], [3, 2], [4, 3, 0]] [5] [b1] (fun k_ w_ => match k_ with | 0 => w_.heap[b1]? = some (.cells #[.int .i64 0, .int .i64 0, .slice none 0 0, .slice none 0 0, .slice none 0 0] 48 (0, 0)) | _ => w_.heap[b1]? = some (.cells #[.int .i64 ((zA0 s seg a).1.kind), .int .i64 0, .slice none 0 0, .slice none 0 0, .slice none 0 0] 48 (0, 0))) mixed (by kernel_rfl) (by kernel_rfl) (by kernel_rfl) (by kernel_rfl) (fun k_ w_ w2_ g_ h_ => match k_, h_ with | 0, h_ => g_.heap h_ | n_ + 1, h_ => g_.heap h_) (fun w_ g_ => g_.heap hc4) ?_
    intro w40 g41
    replace kb_hc16 : ∀ w_, Kp [b1] w40 w_ → w_.heap[b10]? = some (.cells #[.int .i64 ((zA0 s seg a).1.kind), .int .i64 ((zA0 s seg a).1.seg), .int .i64 ((zA0 s seg a).1.at_), .int .i64 ((zA0 s seg a).1.data), .int .i64 ((zA0 s seg a).1.ptrs), .int .i64 ((zA0 s seg a).1.size), .int .i64 ((zA0 s seg a).1.count)] 112 (0, 0)) := fun w_ k_ => kb_hc16 w_ (g41.kp.tr k_)
    replace kb_hc30 : ∀ w_, Kp [b1] w40 w_ → w_.heap[bd]? = some (.cells #[.iface t_ u_, .int .i64 (paid + (1 + (zB8 (zA0 s seg a).1)))] 172 (0, 0)) := fun w_ k_ => kb_hc30 w_ (g41.kp.tr k_)
    replace kb_K : ∀ w_, Kp [b1] w40 w_ → Kp [bd] w w_ := fun w_ k_ => kb_K w_ (g41.kp.tr k_)
    replace kb_g0 : ∀ w_, Kp [b1] w40 w_ → Grow w0 w_ := fun w_ k_ => kb_g0 w_ (g41.kp.tr k_)
    replace kb_hBw : ∀ w_, Kp [b1] w40 w_ → B ≤ w_.heap.size := fun w_ k_ => kb_hBw w_ (g41.kp.tr k_)
    have k0_ : Kp [b1] w29 w40 := g41.kp
    refine qM 1 ?_
    apply yJ0 (hm := by rfl)
    ·intro w_ g_; exact og rfl (zG7 (v := .int .i64 ((zA0 s seg a).1.kind)) rfl (kb_hc16 _ g_) rfl qX)
    refine qM 1 ?_
    apply yJ0 (hm := by rfl)
    ·intro w_ g_; exact og rfl (zG7 (v := .int .i64 ((zA0 s seg a).1.size)) rfl (kb_hc16 _ g_) rfl qX)
    refine qM 1 ?_
    apply yV8 0 (hm := by rfl)
    ·intro w_ g_ s_
     refine og rfl ?_
     refine zB9 (v := .int .i64 ((zA0 s seg a).1.kind)) rfl rfl (by rfl) s_ (by rfl) (by rfl) ?_
     intro w2_ s2_ u_
     exact ⟨Kp.of_upd u_ (by simp), s2_, rfl⟩
    refine yV9 ?_
    intro w42 g43 S_
    replace k0_ := (k0_.tr g43)
    have hc8x := S_
    clear S_
    replace hc16 := kb_hc16 _ g43
    clear kb_hc16
    replace hc30 := kb_hc30 _ g43
    clear kb_hc30
    replace K := kb_K _ g43
    clear kb_K
    replace g0 := kb_g0 _ g43
    clear kb_g0
    replace hBw := kb_hBw _ g43
    clear kb_hBw
    refine qZ 1 ?_
    refine stn (zB9 (v := .int .i64 ((zA0 s seg a).1.size)) rfl rfl (by rfl) hc8x (by rfl) (by rfl) ?_)
    intro w44 hc45 u46
    replace K := (by first | exact K.upd_new u46 (by assumption) | exact K.tr (Kp.of_upd u46 (by simp)))
    replace g0 := (by first | exact Grow.upd g0 u46 (Nat.le_trans g0w (by assumption)) | exact g0.kp1 (Kp.of_upd u46 (by simp)) hbd)
    replace hc16 := u46.heap hc16 ne21.symm
    replace hc30 := u46.heap hc30 ne7
    replace hBw := Nat.le_trans hBw (Nat.le_of_eq u46.size.symm)
    clear u46 hc8x
    refine qZ 2 ?_
    refine zM8 8 [[], [0], [], [0], [], [0], [3, 2, 1, 0], [6, 5]] mixed (by kernel_rfl) (by kernel_rfl) (by kernel_rfl) ?_
    intro w47 g48
    replace K := K.tr g48.kp
    replace g0 := g0.tr g48
    replace hc16 := g48.heap hc16
    replace hc30 := g48.heap hc30
    replace hBw := Nat.le_trans hBw g48.size
    replace hc45 := g48.heap hc45
    clear g48
    refine qA 6 ?_
    apply zC0
    ·intro w_ g_; refine og rfl ?_; refine zB5 rfl rfl ?_ ?_; constructor <;> omega; exact qX
    refine qA 1 ?_
    refine zI4 ?_
    intro w49 g50
    replace K := K.tr g50.kp
    replace g0 := g0.tr g50
    replace hc16 := g50.heap hc16
    replace hc30 := g50.heap hc30
    replace hBw := Nat.le_trans hBw g50.size
    replace hc45 := g50.heap hc45
    clear g50
    refine qZ 11 ?_
    refine stp ?_
    have hcal := zW0 _ (H.grow g0) hc30 (zA0 s seg a).1.seg ra.1 ra.2 (n := (zA0 s seg a).1.data.toNat) (by omega)
    rw [Int.toNat_of_nonneg (by omega)] at hcal
    refine zD7 rfl hcal ?_
    rintro v_ w51 ⟨R_, g_⟩
    have hRw := R_.sees (Sees.low hBw _)
    clear R_
    replace K := K.tr g_.kp
    replace g0 := g0.tr g_
    replace hc16 := g_.heap hc16
    replace hc30 := g_.heap hc30
    replace hBw := Nat.le_trans hBw g_.size
    replace hc45 := g_.heap hc45
    clear g_
    obtain ⟨adhRw, cphRw, rfl, -⟩ := id hRw
    refine qZ 1 ?_
    refine stn (zB9 (v := .slice adhRw ((zA0 s seg a).1.data.toNat) cphRw) rfl rfl (by rfl) hc45 (by rfl) (by rfl) ?_)
    intro w52 hc53 u54
    replace K := (by first | exact K.upd_new u54 (by assumption) | exact K.tr (Kp.of_upd u54 (by simp)))
    replace g0 := (by first | exact Grow.upd g0 u54 (Nat.le_trans g0w (by assumption)) | exact g0.kp1 (Kp.of_upd u54 (by simp)) hbd)
    replace hc16 := u54.heap hc16 ne21.symm
    replace hc30 := u54.heap hc30 ne7
    replace hBw := Nat.le_trans hBw (Nat.le_of_eq u54.size.symm)
    replace hRw := hRw.sees (Sees.upd u54 (fun h_ => by omega))
    clear u54 hc45
    refine zA6 ?_
    refine qK0 (fun e_ w_ => ∃ (aw : Option Addr) (nw : Nat) (cw : Nat) (ab : Option Addr) (nb : Nat) (cb : Nat), Fr [(0, .pointer (some ⟨bd, 0, none⟩)), (3, .int .i64 (d : Int)), (8, .pointer (some ⟨b1, 0, none⟩)), (9, .int .u16 ((zA0 s seg a).2)), (10, .pointer (some ⟨b10, 0, none⟩)), (11, .int .i64 (kidN (zA0 s seg a).1)), (12, .int .i64 (kidA (zA0 s seg a).1))] e_ ∧ (Kp [bd] w w_) ∧ (Grow w0 w_) ∧ (w_.heap[b10]? = some (.cells #[.int .i64 ((zA0 s seg a).1.kind), .int .i64 ((zA0 s seg a).1.seg), .int .i64 ((zA0 s seg a).1.at_), .int .i64 ((zA0 s seg a).1.data), .int .i64 ((zA0 s seg a).1.ptrs), .int .i64 ((zA0 s seg a).1.size), .int .i64 ((zA0 s seg a).1.count)] 112 (0, 0))) ∧ (w_.heap[bd]? = some (.cells #[.iface t_ u_, .int .i64 (paid + (1 + (zB8 (zA0 s seg a).1)))] 172 (0, 0))) ∧ (B ≤ w_.heap.size) ∧ (w_.heap[b1]? = some (.cells #[.int .i64 ((zA0 s seg a).1.kind), .int .i64 ((zA0 s seg a).1.size), .slice aw nw cw, .slice ab nb cb, .slice none 0 0] 48 (0, 0))) ∧ (Row (hide B w_) 1 (.slice aw nw cw) (nodL s (zA0 s seg a).1).length ((nodL s (zA0 s seg a).1).map (.int .u64))) ∧ (Row (hide B w_) 1 (.slice ab nb cb) (nodB s (zA0 s seg a).1).length ((nodB s (zA0 s seg a).1).map (.int .u8)))) ?_ ?_
    ·-- the parts
     refine qZ 8 ?_
     refine stp (zD5 rfl rfl ?_)
     refine qZ 2 ?_
     refine zA2 (b := (decide (((zA0 s seg a).1.size) = 2))) rfl (fun h4 => ?_) (fun h4 => ?_)
     ·
      replace h4 := qT h4
      refine qZ 8 ?_
      refine stp ?_
      have hcal := qR7 _ (H.grow g0) hc30 (zA0 s seg a).1.seg ra.1 ra.2 (n := (zA0 s seg a).1.count.toNat) (by omega)
      rw [Int.toNat_of_nonneg (by omega)] at hcal
      refine zD7 rfl hcal ?_
      rintro v_ w55 ⟨R_, g_⟩
      have hRb := R_.sees (Sees.low hBw _)
      clear R_
      replace K := K.tr g_.kp
      replace g0 := g0.tr g_
      replace hc16 := g_.heap hc16
      replace hc30 := g_.heap hc30
      replace hBw := Nat.le_trans hBw g_.size
      replace hRw := hRw.sees (Sees.grow g_)
      replace hc53 := g_.heap hc53
      clear g_
      obtain ⟨adhRb, cphRb, rfl, -⟩ := id hRb
      refine qZ 1 ?_
      refine stn (zB9 (v := .slice adhRb ((zA0 s seg a).1.count.toNat) cphRb) rfl rfl (by rfl) hc53 (by rfl) (by rfl) ?_)
      intro w56 hc57 u58
      replace K := (by first | exact K.upd_new u58 (by assumption) | exact K.tr (Kp.of_upd u58 (by simp)))
      replace g0 := (by first | exact Grow.upd g0 u58 (Nat.le_trans g0w (by assumption)) | exact g0.kp1 (Kp.of_upd u58 (by simp)) hbd)
      replace hc16 := u58.heap hc16 ne21.symm
      replace hc30 := u58.heap hc30 ne7
      replace hBw := Nat.le_trans hBw (Nat.le_of_eq u58.size.symm)
      replace hRw := hRw.sees (Sees.upd u58 (fun h_ => by omega))
      replace hRb := hRb.sees (Sees.upd u58 (fun h_ => by omega))
      clear u58 hc53
      refine zA6 ?_
      have hk6 : (zA0 s seg a).1.size = 6 ∨ (zA0 s seg a).1.size ≠ 6 := by omega
      exact ⟨adhRw, ((zA0 s seg a).1.data).toNat, cphRw, adhRb, ((zA0 s seg a).1.count).toNat, cphRb, zC6 ⟨rfl, rfl, rfl, rfl, rfl, congrArg (Value.int .i64) (by unfold kidN; rw [if_neg (by omega)]), congrArg (Value.int .i64) (by unfold kidA; rw [if_neg (by omega)]), trivial⟩, K, g0, hc16, hc30, hBw, hc57, (by unfold nodL; rw [if_neg (by omega), zJ7]; exact hRw), (by unfold nodB; rw [if_pos h4, yD3]; exact hRb)⟩
     ·
      replace h4 := qF h4
      refine qZ 2 ?_
      refine stp (zD5 rfl rfl ?_)
      refine qZ 2 ?_
      refine zA2 (b := (decide (((zA0 s seg a).1.size) = 5))) rfl (fun h5 => ?_) (fun h5 => ?_)
      ·
       replace h5 := qT h5
       refine qZ 8 ?_
       refine stp ?_
       have hcal := zW0 _ (H.grow g0) hc30 (zA0 s seg a).1.seg ra.1 ra.2 (n := (zA0 s seg a).1.count.toNat) (by omega)
       rw [Int.toNat_of_nonneg (by omega)] at hcal
       refine zD7 rfl hcal ?_
       rintro v_ w59 ⟨R_, g_⟩
       have hRv := R_.sees (Sees.low hBw _)
       clear R_
       replace K := K.tr g_.kp
       replace g0 := g0.tr g_
       replace hc16 := g_.heap hc16
       replace hc30 := g_.heap hc30
       replace hBw := Nat.le_trans hBw g_.size
       replace hRw := hRw.sees (Sees.grow g_)
       replace hc53 := g_.heap hc53
       clear g_
       obtain ⟨adhRv, cphRv, rfl, -⟩ := id hRv
       refine qZ 1 ?_
       refine stn (zB9 (v := .slice adhRv ((zA0 s seg a).1.count.toNat) cphRv) rfl rfl (by rfl) hc53 (by rfl) (by rfl) ?_)
       intro w60 hc61 u62
       replace K := (by first | exact K.upd_new u62 (by assumption) | exact K.tr (Kp.of_upd u62 (by simp)))
       replace g0 := (by first | exact Grow.upd g0 u62 (Nat.le_trans g0w (by assumption)) | exact g0.kp1 (Kp.of_upd u62 (by simp)) hbd)
       replace hc16 := u62.heap hc16 ne21.symm
       replace hc30 := u62.heap hc30 ne7
       replace hBw := Nat.le_trans hBw (Nat.le_of_eq u62.size.symm)
       replace hRw := hRw.sees (Sees.upd u62 (fun h_ => by omega))
       replace hRv := hRv.sees (Sees.upd u62 (fun h_ => by omega))
       clear u62 hc53
       refine zA6 ?_
       have hk6 : (zA0 s seg a).1.size = 6 ∨ (zA0 s seg a).1.size ≠ 6 := by omega
       exact ⟨adhRv, ((zA0 s seg a).1.count).toNat, cphRv, none, 0, 0, zC6 ⟨rfl, rfl, rfl, rfl, rfl, congrArg (Value.int .i64) (by unfold kidN; rw [if_neg (by omega)]), congrArg (Value.int .i64) (by unfold kidA; rw [if_neg (by omega)]), trivial⟩, K, g0, hc16, hc30, hBw, hc61, (by unfold nodL; rw [if_pos h5, zJ7]; exact hRv), (by unfold nodB; rw [if_neg (by omega)]; exact Row.nil _ _)⟩
      ·
       replace h5 := qF h5
       refine qZ 2 ?_
       refine stp (zD5 rfl rfl ?_)
       refine qZ 2 ?_
       refine zA2 (b := (decide (((zA0 s seg a).1.size) = 6))) rfl (fun h6 => ?_) (fun h6 => ?_)
       ·
        replace h6 := qT h6
        refine zM8 5 [[], [0], [], [0], [3, 2]] mixed (by kernel_rfl) (by kernel_rfl) (by kernel_rfl) ?_
        intro w63 g64
        replace K := K.tr g64.kp
        replace g0 := g0.tr g64
        replace hc16 := g64.heap hc16
        replace hc30 := g64.heap hc30
        replace hBw := Nat.le_trans hBw g64.size
        replace hRw := hRw.sees (Sees.grow g64)
        replace hc53 := g64.heap hc53
        clear g64
        refine qA 5 ?_
        refine zI4 ?_
        intro w65 g66
        replace K := K.tr g66.kp
        replace g0 := g0.tr g66
        replace hc16 := g66.heap hc16
        replace hc30 := g66.heap hc30
        replace hBw := Nat.le_trans hBw g66.size
        replace hRw := hRw.sees (Sees.grow g66)
        replace hc53 := g66.heap hc53
        clear g66
        refine qZ 2 ?_
        have hk6 : (zA0 s seg a).1.size = 6 ∨ (zA0 s seg a).1.size ≠ 6 := by omega
        exact ⟨adhRw, ((zA0 s seg a).1.data).toNat, cphRw, none, 0, 0, zC6 ⟨rfl, rfl, rfl, rfl, rfl, congrArg (Value.int .i64) (by unfold kidN; rw [if_pos (by omega)]), congrArg (Value.int .i64) (by unfold kidA; rw [if_pos (by omega)]), trivial⟩, K, g0, hc16, hc30, hBw, hc53, (by unfold nodL; rw [if_neg (by omega), zJ7]; exact hRw), (by unfold nodB; rw [if_neg (by omega)]; exact Row.nil _ _)⟩
       ·
        replace h6 := qF h6
        refine zX6 ?_
        have hk6 : (zA0 s seg a).1.size = 6 ∨ (zA0 s seg a).1.size ≠ 6 := by omega
        exact ⟨adhRw, ((zA0 s seg a).1.data).toNat, cphRw, none, 0, 0, zC6 ⟨rfl, rfl, rfl, rfl, rfl, congrArg (Value.int .i64) (by unfold kidN; rw [if_neg (by omega)]), congrArg (Value.int .i64) (by unfold kidA; rw [if_neg (by omega)]), trivial⟩, K, g0, hc16, hc30, hBw, hc53, (by unfold nodL; rw [if_neg (by omega), zJ7]; exact hRw), (by unfold nodB; rw [if_neg (by omega)]; exact Row.nil _ _)⟩
    ·-- behind them
     clear K g0 hc16 hc30 hBw hRw hc53
     rintro e_ w67 ⟨aw, nw, cw, ab, nb, cb, ⟨e68, rfl⟩, K, g0, hc16, hc30, hBw, hc53, hRW, hRB⟩
     refine qZ 7 ?_
     obtain ⟨B2, hB2⟩ : ∃ B, B = w67.heap.size := ⟨_, rfl⟩
     have hBB2 : B ≤ B2 := by rw [hB2]; exact hBw
     have hB2w : B2 ≤ w67.heap.size := by rw [hB2]; exact Nat.le_refl _
     have hSW := hRW.sees (Sees.more (V' := (fun x => B ≤ x ∧ x < B2)) w67 (fun x_ h1_ h2_ => ⟨h2_, by rw [hB2]; exact h1_⟩))
     have hSB := hRB.sees (Sees.more (V' := (fun x => B ≤ x ∧ x < B2)) w67 (fun x_ h1_ h2_ => ⟨h2_, by rw [hB2]; exact h1_⟩))
     clear hRW hRB hB2
     refine zF5 (fun m_ e_ w_ => ∃ (j : Nat) (pd : Int) (ks : List Nd) (ad6 : Option Addr) (n6 : Nat) (c6 : Nat) (kc : List Value) (V : Nat → Prop), m_ = (kidN (zA0 s seg a).1).toNat - j ∧ Fr [(0, .pointer (some ⟨bd, 0, none⟩)), (3, .int .i64 (d : Int)), (8, .pointer (some ⟨b1, 0, none⟩)), (10, .pointer (some ⟨b10, 0, none⟩)), (12, .int .i64 (kidA (zA0 s seg a).1)), (108, .int .i64 (kidN (zA0 s seg a).1)), (109, .int .i64 (j : Int))] e_ ∧ ((j : Int) ≤ kidN (zA0 s seg a).1) ∧ (zK5 (qM9 s d (zA0 s seg a).1.seg) (kidA (zA0 s seg a).1) (paid + (1 + zB8 (zA0 s seg a).1)) j = (pd, ks, 0)) ∧ (0 ≤ pd ∧ pd ≤ 8192) ∧ (∀ x, (Value.slice ad6 n6 c6).ownBlock = some x → ¬ V x) ∧ (Kp [bd] w w_) ∧ (Grow w0 w_) ∧ (w_.heap[b10]? = some (.cells #[.int .i64 ((zA0 s seg a).1.kind), .int .i64 ((zA0 s seg a).1.seg), .int .i64 ((zA0 s seg a).1.at_), .int .i64 ((zA0 s seg a).1.data), .int .i64 ((zA0 s seg a).1.ptrs), .int .i64 ((zA0 s seg a).1.size), .int .i64 ((zA0 s seg a).1.count)] 112 (0, 0))) ∧ (B ≤ w_.heap.size) ∧ (Row (see (fun x => B ≤ x ∧ x < B2) w_) 1 (.slice aw nw cw) (nodL s (zA0 s seg a).1).length ((nodL s (zA0 s seg a).1).map (.int .u64))) ∧ (Row (see (fun x => B ≤ x ∧ x < B2) w_) 1 (.slice ab nb cb) (nodB s (zA0 s seg a).1).length ((nodB s (zA0 s seg a).1).map (.int .u8))) ∧ (B2 ≤ w_.heap.size) ∧ (w_.heap[b1]? = some (.cells #[.int .i64 ((zA0 s seg a).1.kind), .int .i64 ((zA0 s seg a).1.size), .slice aw nw cw, .slice ab nb cb, .slice ad6 n6 c6] 48 (0, 0))) ∧ (w_.heap[bd]? = some (.cells #[.iface t_ u_, .int .i64 pd] 172 (0, 0))) ∧ (w_.ownsRow B2 48 5 (.slice ad6 n6 c6) j kc) ∧ (∀ x, V x → B2 ≤ x ∧ x < w_.heap.size) ∧ (KidsR (see V w_) kc ks)) _ ⟨0, (paid + (1 + zB8 (zA0 s seg a).1)), [], none, 0, 0, [], fun _ => False, rfl, zC6 ⟨rfl, rfl, rfl, rfl, rfl, rfl, rfl, trivial⟩, by omega, rfl, by omega, fun x _ h_ => h_, K, g0, hc16, hBw, hSW, hSB, hB2w, hc53, hc30, World.ownsRow_nil _ _ _ _, fun x h_ => h_.elim, .nil⟩ ?_
     clear K g0 hc16 hc30 hBw hc53 hSW hSB hB2w
     rintro m_ e_ w69 ⟨j, pd, ks, ad6, n6, c6, kc, V, rfl, ⟨e70, rfl⟩, hj, hkd, hpd, hVo, K, g0, hc16, hBw, hSW, hSB, hB2w, hc53, hc30, ownk, hV, hK⟩
     refine qZ 2 ?_
     refine stp (zF6 rfl rfl ?_)
     refine qZ 2 ?_
     refine zA2 (b := (decide ((j : Int) < (kidN (zA0 s seg a).1)))) rfl (fun hlt => ?_) (fun hlt => ?_)
     ·
      replace hlt := qT hlt
      obtain ⟨d1, hd1⟩ := yQ0 hok h2n (j := j) (by omega)
      have hnf : qM9 s d = zJ8 s d1 := by rw [hd1]; rfl
      have hka : 0 ≤ kidA (zA0 s seg a).1 ∧ kidA (zA0 s seg a).1 ≤ 140737488420864 := by unfold kidA; split <;> omega
      have hq := yD5 H d1 (zA0 s seg a).1.seg (kidA (zA0 s seg a).1 + (j : Int)) pd hpd.1 hpd.2
      have hj1 : zK5 (qM9 s d (zA0 s seg a).1.seg) (kidA (zA0 s seg a).1) (paid + (1 + zB8 (zA0 s seg a).1)) (j + 1) = ((zJ8 s d1 (zA0 s seg a).1.seg (kidA (zA0 s seg a).1 + (j : Int)) pd).1, ks ++ [(zJ8 s d1 (zA0 s seg a).1.seg (kidA (zA0 s seg a).1 + (j : Int)) pd).2.1], (zJ8 s d1 (zA0 s seg a).1.seg (kidA (zA0 s seg a).1 + (j : Int)) pd).2.2) := by rw [zK5, hkd, if_neg (by simp), hnf]
      refine qZ 15 ?_
      refine stp (zB5 rfl rfl ?_ ?_); constructor <;> omega
      refine qZ 1 ?_
      refine stp (zM9 rfl rfl ?_ ?_); constructor <;> omega
      refine stp ?_
      have hcal := ih_ _ H g0 hbd hc30 hpd.1 hpd.2 (zA0 s seg a).1.seg (a := kidA (zA0 s seg a).1 + (j : Int)) (by omega) (by omega) (d := d1) (by omega) (by omega)
      rw [show ((d1 : Nat) : Int) = (d : Int) - 1 from by omega] at hcal
      refine zD7 rfl hcal ?_
      rintro v_ w71 ⟨cells, rfl, hT9, hb9, K_⟩
      clear hcal
      have hB2w0 := hB2w
      have hol := fun x hx_ => (ownk.lt x hx_).2
      replace K := K.tr K_
      replace g0 := g0.kp1 K_ hbd
      replace hc16 := K_.heap hc16 (fun hm_ => by simp only [List.mem_singleton] at hm_; first | exact ne20 hm_ | exact ne20 hm_.symm)
      replace hBw := Nat.le_trans hBw K_.size
      replace hSW := hSW.sees (Sees.kp K_ (fun x_ hx_ hv_ => by simp only [List.mem_singleton] at hx_; subst hx_; exact absurd hv_.1 (by omega)))
      replace hSB := hSB.sees (Sees.kp K_ (fun x_ hx_ hv_ => by simp only [List.mem_singleton] at hx_; subst hx_; exact absurd hv_.1 (by omega)))
      replace hB2w := Nat.le_trans hB2w K_.size
      replace hc53 := K_.heap hc53 (fun hm_ => by simp only [List.mem_singleton] at hm_; first | exact ne7 hm_ | exact ne7 hm_.symm)
      replace ownk := jA8 ownk K_ (fun x_ hx_ => by simp only [List.mem_singleton] at hx_; subst hx_; omega)
      replace hV := vlt hV K_.size
      replace hK := hK.sees (Sees.kp K_ (fun x_ hx_ hv_ => by simp only [List.mem_singleton] at hx_; subst hx_; exact absurd (hV _ hv_).1 (by omega)))
      have hszK := K_.size
      clear K_ hc30
      obtain ⟨y0, y1, ya, yn, yc, za, zn, zc, ua, un, uc, rfl⟩ := hT9.cells
      have hT8 := hT9.sees (Sees.more (V' := fun x => V x ∨ (w69.heap.size ≤ x ∧ x < w71.heap.size)) w71 (fun x h1_ h2_ => .inr ⟨h2_, h1_⟩))
      clear hT9
      replace hK := hK.sees (Sees.more (V' := fun x => V x ∨ (w69.heap.size ≤ x ∧ x < w71.heap.size)) w71 (fun x _ h2_ => .inl h2_))
      have hV9 : ∀ x, (V x ∨ (w69.heap.size ≤ x ∧ x < w71.heap.size)) → B2 ≤ x ∧ x < w71.heap.size := fun x hx_ => hx_.elim (fun h_ => hV x h_) (fun h_ => ⟨Nat.le_trans hB2w0 h_.1, h_.2⟩)
      have hVo9 : ∀ x, (Value.slice ad6 n6 c6).ownBlock = some x → ¬ (V x ∨ (w69.heap.size ≤ x ∧ x < w71.heap.size)) := fun x hx_ hv_ => hv_.elim (fun h_ => hVo x hx_ h_) (fun h_ => by have := hol x hx_; omega)
      clear hV hVo
      obtain ⟨V9, hV9e⟩ : ∃ V9 : Nat → Prop, V9 = fun x => V x ∨ (w69.heap.size ≤ x ∧ x < w71.heap.size) := ⟨_, rfl⟩
      rw [← hV9e] at hT8 hK
      have hV : ∀ x, V9 x → B2 ≤ x ∧ x < w71.heap.size := by rw [hV9e]; exact hV9
      have hVo : ∀ x, (Value.slice ad6 n6 c6).ownBlock = some x → ¬ V9 x := by rw [hV9e]; exact hVo9
      clear hV9 hVo9 hV9e hB2w0 hol hszK
      refine qZ 3 ?_
      refine stp (zA7 ?_)
      intro b72 w73 hb74 hc75 g76
      refine stn (qS hc75 ?_)
      intro w77 hc78 u79
      have g80 := g76.upd u79 hb74
      have hge81 := Nat.le_trans K.size hb74
      have ne82 := qN hc16 hb74
      have ne83 := qN hc53 hb74
      have ne84 := qN hb9 hb74
      replace K := K.tr g80.kp
      replace g0 := g0.tr g80
      replace hc16 := g80.heap hc16
      replace hBw := Nat.le_trans hBw g80.size
      replace hSW := hSW.sees (Sees.grow g80)
      replace hSB := hSB.sees (Sees.grow g80)
      replace hB2w := Nat.le_trans hB2w g80.size
      replace hc53 := g80.heap hc53
      replace ownk := zB7 ownk g80
      replace hK := hK.sees (Sees.grow g80)
      replace hb9 := g80.heap hb9
      replace hT8 := hT8.sees (Sees.grow g80)
      replace hV := vlt hV g80.size
      clear u79 g76 hb74 hc75
      refine qZ 6 ?_
      refine stp (zG9 rfl rfl ?_)
      refine zA6 ?_
      refine zA2 (b := (decide (((zJ8 s d1 (zA0 s seg a).1.seg (kidA (zA0 s seg a).1 + (j : Int)) pd).2.2) ≠ 0))) rfl (fun h7 => ?_) (fun h7 => ?_)
      ·
       replace h7 := qT h7
       refine qZ 2 ?_
       refine stp (zA9 (v := .agg #[.int .i64 0, .int .i64 0, .slice none 0 0, .slice none 0 0, .slice none 0 0]) (fun w => by kernel_rfl) ?_)
       refine qZ 1 ?_
       refine stn (qS hc53 ?_)
       intro w85 hc86 u87
       replace K := (by first | exact K.upd_new u87 (by assumption) | exact K.tr (Kp.of_upd u87 (by simp)))
       replace g0 := (by first | exact Grow.upd g0 u87 (Nat.le_trans g0w (by assumption)) | exact g0.kp1 (Kp.of_upd u87 (by simp)) hbd)
       replace hc16 := u87.heap hc16 ne21.symm
       replace hBw := Nat.le_trans hBw (Nat.le_of_eq u87.size.symm)
       replace hSW := hSW.sees (Sees.upd u87 (fun h_ => by have := h_.1; omega))
       replace hSB := hSB.sees (Sees.upd u87 (fun h_ => by have := h_.1; omega))
       replace hB2w := Nat.le_trans hB2w (Nat.le_of_eq u87.size.symm)
       replace ownk := zG5 ownk u87 (fun he_ => by have := zH8 ownk _ he_; omega)
       replace hb9 := u87.heap hb9 ne7
       replace hc78 := u87.heap hc78 ne83.symm
       clear u87 hc53
       refine qZ 3 ?_
       have h9 : (zJ8 s d seg a paid) = ((zJ8 s d1 (zA0 s seg a).1.seg (kidA (zA0 s seg a).1 + (j : Int)) pd).1, .nil, (zJ8 s d1 (zA0 s seg a).1.seg (kidA (zA0 s seg a).1 + (j : Int)) pd).2.2) := by rw [hneq]; unfold qM8; rw [if_neg h1, if_neg h2n, if_neg h3, kidsD_stop' (k := j + 1) (by rw [hj1]; exact h7) (by omega), hj1, if_pos h7]
       rw [h9]
       refine ret2 (zA5 rfl hc86 (by rfl)) (zA1 (v := .int .u16 ((zJ8 s d1 (zA0 s seg a).1.seg (kidA (zA0 s seg a).1 + (j : Int)) pd).2.2)) rfl) ⟨[_, _, _, _, _], rfl, NodeR.zero _, hb9, K⟩
      ·
       replace h7 := qF h7
       have h70 : (zJ8 s d1 (zA0 s seg a).1.seg (kidA (zA0 s seg a).1 + (j : Int)) pd).2.2 = 0 := by omega
       refine qZ 5 ?_
       refine stp (zC3 (cs := #[.int .i64 y0, .int .i64 y1, .slice ya yn yc, .slice za zn zc, .slice ua un uc]) (el := 48) (fun w => by kernel_rfl) ?_)
       intro bs88 w89 hb90 hc91 g92
       have hge93 := Nat.le_trans K.size hb90
       have ne94 := qN hc16 hb90
       have ne95 := qN hc53 hb90
       have ne96 := qN hc78 hb90
       replace K := K.tr g92.kp
       replace g0 := g0.tr g92
       replace hc16 := g92.heap hc16
       replace hBw := Nat.le_trans hBw g92.size
       replace hSW := hSW.sees (Sees.grow g92)
       replace hSB := hSB.sees (Sees.grow g92)
       replace hB2w := Nat.le_trans hB2w g92.size
       replace hc53 := g92.heap hc53
       replace ownk := zB7 ownk g92
       replace hK := hK.sees (Sees.grow g92)
       replace hb9 := g92.heap hb9
       replace hT8 := hT8.sees (Sees.grow g92)
       replace hV := vlt hV g92.size
       replace hc78 := g92.heap hc78
       clear g92
       refine stp (qG6 rfl rfl rfl rfl ownk (Row.of_block (n := 1) hc91 rfl rfl (by omega)) (fun q_ hq_ => by simp at hq_; rcases hq_ with rfl | rfl | rfl | rfl | rfl <;> rfl) (by simp only [maxLen]; omega) (by omega) hB2w ?_)
       intro v97 w98 own6 gr6 hbk6
       have k6_ : Kp (Value.slice ad6 n6 c6).ownBlock.toList w89 w98 := Kp.of_grownBy gr6 (fun k_ hk_ => by rw [Option.mem_toList]; exact hk_)
       have hF6 : ∀ x ∈ (Value.slice ad6 n6 c6).ownBlock.toList, B2 ≤ x := fun x hx_ => zH8 ownk x (Option.mem_toList.1 hx_)
       have hF7 : ∀ x ∈ (Value.slice ad6 n6 c6).ownBlock.toList, ¬ V9 x := fun x hx_ => hVo x (Option.mem_toList.1 hx_)
       have hVo6 : ∀ x, v97.ownBlock = some x → ¬ V9 x := fun x hx_ hv_ => hbk6.elim (fun h_ => hVo x (h_ ▸ hx_) hv_) (fun h_ => by rw [h_] at hx_; simp only [Option.some.injEq] at hx_; have := (hV x hv_).2; omega)
       replace K := K.trans k6_ (fun x_ hx_ => .inr (Nat.le_trans hwB (Nat.le_trans hBB2 (hF6 x_ hx_))))
       replace g0 := g0.trK k6_ (fun x_ hx_ => Nat.le_trans g0w (Nat.le_trans hwB (Nat.le_trans hBB2 (hF6 x_ hx_))))
       replace hc16 := k6_.heap hc16 (fun hm_ => by have h1_ := hF6 _ hm_; omega)
       replace hBw := Nat.le_trans hBw k6_.size
       replace hSW := hSW.sees (Sees.kp k6_ (fun x_ hx_ hv_ => by have := hF6 x_ hx_; have := hv_.2; omega))
       replace hSB := hSB.sees (Sees.kp k6_ (fun x_ hx_ hv_ => by have := hF6 x_ hx_; have := hv_.2; omega))
       replace hB2w := Nat.le_trans hB2w k6_.size
       replace hc53 := k6_.heap hc53 (fun hm_ => by have h1_ := hF6 _ hm_; omega)
       replace hK := hK.sees (Sees.kp k6_ hF7)
       replace hb9 := k6_.heap hb9 (fun hm_ => by have h1_ := hF6 _ hm_; omega)
       replace hT8 := hT8.sees (Sees.kp k6_ hF7)
       replace hV := fun x hx_ => (⟨(hV x hx_).1, Nat.lt_of_lt_of_le (hV x hx_).2 k6_.size⟩ : B2 ≤ x ∧ x < w98.heap.size)
       clear hc78
       clear hc91
       clear ownk gr6 hVo k6_ hF6 hF7 hbk6
       obtain ⟨ad7, n7, c7, rfl⟩ := zE0 own6
       refine qZ 1 ?_
       refine stn (zB9 (v := .slice ad7 n7 c7) rfl rfl (by rfl) hc53 (by rfl) (by rfl) ?_)
       intro w99 hc100 u101
       replace K := (by first | exact K.upd_new u101 (by assumption) | exact K.tr (Kp.of_upd u101 (by simp)))
       replace g0 := (by first | exact Grow.upd g0 u101 (Nat.le_trans g0w (by assumption)) | exact g0.kp1 (Kp.of_upd u101 (by simp)) hbd)
       replace hc16 := u101.heap hc16 (fun hm_ => by first | exact ne21 hm_ | exact ne21 hm_.symm)
       replace hBw := Nat.le_trans hBw (Nat.le_of_eq u101.size.symm)
       replace hSW := hSW.sees (Sees.upd u101 (fun h_ => by have := h_.1; omega))
       replace hSB := hSB.sees (Sees.upd u101 (fun h_ => by have := h_.1; omega))
       replace hB2w := Nat.le_trans hB2w (Nat.le_of_eq u101.size.symm)
       replace hK := hK.sees (Sees.upd u101 (fun h_ => by have := (hV _ h_).1; omega))
       replace hb9 := u101.heap hb9 (fun hm_ => by first | exact ne7 hm_ | exact ne7 hm_.symm)
       replace hT8 := hT8.sees (Sees.upd u101 (fun h_ => by have := (hV _ h_).1; omega))
       replace hV := fun x hx_ => (⟨(hV x hx_).1, Nat.lt_of_lt_of_le (hV x hx_).2 (Nat.le_of_eq u101.size.symm)⟩ : B2 ≤ x ∧ x < w99.heap.size)
       replace own6 := zG5 own6 u101 (fun he_ => by have := zH8 own6 _ he_; omega)
       clear hc53 u101
       refine qZ 2 ?_
       refine stp (zB5 rfl rfl ?_ ?_); constructor <;> omega
       refine qZ 2 ?_
       refine ⟨_, ?_, j + 1, (zJ8 s d1 (zA0 s seg a).1.seg (kidA (zA0 s seg a).1 + (j : Int)) pd).1, ks ++ [(zJ8 s d1 (zA0 s seg a).1.seg (kidA (zA0 s seg a).1 + (j : Int)) pd).2.1], ad7, n7, c7, _, V9, rfl, zC6 ⟨rfl, rfl, rfl, rfl, rfl, rfl, congrArg (Value.int .i64) (by omega), trivial⟩, by omega, (by rw [hj1, h70]), ⟨hq.1, hq.2.2 h70⟩, hVo6, K, g0, hc16, hBw, hSW, hSB, hB2w, hc100, hb9, own6, hV, (KidsR.append hK (by have := KidsR.cons hT8 .nil; simpa using this))⟩
       omega
     ·
      replace hlt := qF hlt
      have hjn : (kidN (zA0 s seg a).1).toNat = j := by omega
      have hlk : ks.length = j := by have := qH2 (f := qM9 s d (zA0 s seg a).1.seg) (a := kidA (zA0 s seg a).1) (p := (paid + (1 + zB8 (zA0 s seg a).1))) j (by rw [hkd]); rw [hkd] at this; exact this
      have hrk : Row (hide B2 w69) 5 (.slice ad6 n6 c6) ks.length kc := by rw [hlk]; exact zX1 ownk (by omega)
      have hK9 := hK.sees (Sees.more (V' := fun x => B2 ≤ x) _ (fun x _ hx_ => (hV x hx_).1))
      clear hK hV ownk
      refine qZ 4 ?_
      refine stn (qS hc53 ?_)
      intro w102 hc103 u104
      replace K := (by first | exact K.upd_new u104 (by assumption) | exact K.tr (Kp.of_upd u104 (by simp)))
      replace g0 := (by first | exact Grow.upd g0 u104 (Nat.le_trans g0w (by assumption)) | exact g0.kp1 (Kp.of_upd u104 (by simp)) hbd)
      replace hc16 := u104.heap hc16 ne21.symm
      replace hBw := Nat.le_trans hBw (Nat.le_of_eq u104.size.symm)
      replace hSW := hSW.sees (Sees.upd u104 (fun h_ => by have := h_.1; omega))
      replace hSB := hSB.sees (Sees.upd u104 (fun h_ => by have := h_.1; omega))
      replace hB2w := Nat.le_trans hB2w (Nat.le_of_eq u104.size.symm)
      replace hc30 := u104.heap hc30 ne7
      replace hrk := hrk.sees (Sees.upd u104 (fun h_ => absurd h_ (by omega)))
      replace hK9 := hK9.sees (Sees.upd u104 (fun h_ => absurd h_ (by omega)))
      clear u104 hc53
      refine qZ 3 ?_
      have h9 : (zJ8 s d seg a paid) = (pd, .mk (zA0 s seg a).1.kind (zA0 s seg a).1.size (nodL s (zA0 s seg a).1) (nodB s (zA0 s seg a).1) ks, 0) := by rw [hneq]; unfold qM8; rw [if_neg h1, if_neg h2n, if_neg h3, hjn, hkd, if_neg (by simp)]
      rw [h9]
      refine ret2 (zA5 rfl hc103 (by rfl)) (zA1 (v := .int .u16 0) rfl) ⟨[_, _, _, _, _], rfl, (.mk (by simp only [inR]; omega) (by simp only [inR]; omega) (hSW.sees (Sees.more _ (fun x _ hx_ => Nat.le_trans hwB hx_.1))) (yP9 H _) (hSB.sees (Sees.more _ (fun x _ hx_ => Nat.le_trans hwB hx_.1))) (yW5 s _) (hrk.sees (Sees.low (Nat.le_trans hwB hBB2) _)) (hK9.sees (Sees.low (Nat.le_trans hwB hBB2) _))), hc30, K⟩
theorem qR8 (w : World) {u : Value} {A : List (List Int)} (hA : zG2 w u A) (hn : A.length ≤ 8796093022208) : Calls Tryz.prog 51 #[u] w (Ret fun v w' => ∃ ad c, v = .slice ad A.length c ∧ RowAt w' 1 ad A.length ((zB3 A).map (.int .i64)) ∧ Grow w w') := by
 obtain ⟨ada, ca, segs, sa, sc, rfl, hca, hca2, RA, hsf, hrf⟩ := hA.fn
 have G := Grow.rfl' w
 refine zC2 Tryz.func51 Tryz.ntmps51 Tryz.results51 rfl rfl ?_
 refine qZ 16 ?_
 refine zF5 (fun m_ e_ w_ => ∃ (k : Nat) (ad3 : Option Addr) (n3 : Nat) (c3 : Nat), m_ = A.length - k ∧ Fr [(2, .slice none 0 0), (6, .slice ada A.length ca), (7, .int .i64 (A.length : Int)), (3, .slice ad3 n3 c3), (8, .int .i64 (k : Int))] e_ ∧ (k ≤ A.length) ∧ (w_.ownsRow w.heap.size 3 1 (.slice ad3 n3 c3) k ((zB3 (A.take k)).map (.int .i64))) ∧ Grow w w_) _ ⟨0, none, 0, 0, rfl, zC6 ⟨rfl, rfl, rfl, rfl, rfl, trivial⟩, by omega, World.ownsRow_nil _ _ _ _, G⟩ ?_
 clear G
 rintro m_ e_ w1 ⟨k, ad3, n3, c3, rfl, ⟨e2, rfl⟩, hk, own, G⟩
 refine qZ 2 ?_
 refine stp (zF6 rfl rfl ?_)
 refine qZ 2 ?_
 refine zA2 (b := (decide ((k : Int) < (A.length : Int)))) rfl (fun hlt => ?_) (fun hlt => ?_)
 ·
  replace hlt := qT hlt
  have hi : k < A.length := by omega
  have hlk := (hrf k hi).2.2.lim
  refine qZ 5 ?_
  refine stp (zC8 (RA.grow G) rfl rfl ?_ ?_); omega
  refine stp (zC5 (v := .slice (sa k) (len2 A k) (sc k)) (m := 0) (RA.grow G) rfl (by rw [Nat.mul_one]; exact hsf _ (by omega)) ?_)
  refine qZ 6 ?_
  refine stp (zC3 (cs := #[.int .i64 ((len2 A k) : Int)]) (el := 3) (fun w => by kernel_rfl) ?_)
  intro bs3 w4 hb5 hc6 g7
  have hge8 := Nat.le_trans G.size hb5
  replace own := zB7 own g7
  replace G := G.tr g7
  clear g7
  refine stp (zG1 rfl rfl rfl rfl own (Row.of_block (n := 1) hc6 rfl rfl (by omega)) (fun q_ hq_ => by simp at hq_; subst hq_; rfl) (by simp only [maxLen]; omega) (by omega) G.size ?_)
  intro v9 w10 own6 gr6
  replace G := G.grown gr6 (zH8 own)
  clear own gr6
  obtain ⟨ad4, n4, c4, rfl⟩ := zE0 own6
  refine qZ 3 ?_
  refine stp (zB5 rfl rfl ?_ ?_); constructor <;> omega
  refine qZ 2 ?_
  refine ⟨_, ?_, k + 1, ad4, n4, c4, rfl, zC6 ⟨rfl, rfl, rfl, rfl, congrArg (Value.int .i64) (by omega), trivial⟩, by omega, (by rw [qH3 hi, List.map_append]; exact own6), G⟩
  omega
 ·
  replace hlt := qF hlt
  have hk2 : k = A.length := by omega
  subst hk2
  rw [List.take_length] at own
  obtain ⟨ad9, c9, hs9, -, -, R9⟩ := zI3 own (by omega)
  simp only [Value.slice.injEq] at hs9
  obtain ⟨rfl, rfl, rfl⟩ := hs9
  refine qZ 7 ?_
  refine ret1 (zA1 (v := .slice ad3 A.length c3) rfl) ⟨_, _, rfl, R9, G⟩
theorem qW4 (w : World) {ad : Option Addr} {c : Nat} {A : List (List Int)} (R : RowAt w 1 ad A.length ((zB3 A).map (.int .i64))) (hs : ∀ i, len2 A i ≤ 140737488355328) : zB6 Tryz.prog 50 #[.slice ad A.length c] w (.bool (zC7 A)) := by
 have hl := zF0 A
 have G := Grow.rfl' w
 refine zA8 Tryz.func50 Tryz.ntmps50 Tryz.results50 rfl rfl ?_
 refine qZ 9 ?_
 refine stp (zF6 rfl rfl ?_)
 refine qZ 1 ?_
 refine qG 2 ?_
 refine zA3 (zB2 (s := .bool _) (v := .bool (decide ((A.length : Int) > 16))) rfl (zE3 _) (fun hc3 => ?_) ?_)
 ·
  have hc3_ := hc3
  try simp only [sb] at hc3_
  refine zN7 (gvt hc3) rfl ?_
  exact ⟨rfl, rfl⟩
 refine stp (zH6 rfl rfl rfl ?_)
 refine qZ 1 ?_
 refine qG 1 ?_
 refine zA3 (zB2 (s := .bool _) (v := .pointer (some (eadr ad ((0 : Int).toNat * 1)))) rfl (zE3 _) (fun hc5 => ?_) ?_)
 ·
  have hc5_ := hc5
  try simp only [sb] at hc5_
  refine zE7 (R.grow G) (gvt hc5) rfl ?_ ?_ ?_; omega; omega
  exact ⟨rfl, rfl⟩
 refine zA3 (zB2 (s := .bool _) (v := .int .i64 ((zB3 A).getD 0 0)) rfl (zE3 _) (fun hc6 => ?_) ?_)
 ·
  have hc6_ := hc6
  try simp only [sb] at hc6_
  refine zC5 (v := .int .i64 ((zB3 A).getD 0 0)) (m := 0) (R.grow G) (gvt hc6) (show _ from zE6 (j := 0) 0 (by omega)) ?_
  exact ⟨rfl, rfl⟩
 refine zA3 (zB2 (s := .bool _) (v := .bool (decide (((zB3 A).getD 0 0) < 1))) rfl (zE3 _) (fun hc7 => ?_) ?_)
 ·
  have hc7_ := hc7
  try simp only [sb] at hc7_
  refine zF6 (gvt hc7) rfl ?_
  exact ⟨rfl, rfl⟩
 refine stp (zH6 rfl rfl rfl ?_)
 refine zA6 ?_
 refine zA2 (b := (((decide ((A.length : Int) < 1)) || (decide ((A.length : Int) > 16))) || (decide (((zB3 A).getD 0 0) < 1)))) rfl (fun h1 => ?_) (fun h1 => ?_)
 ·
  simp only [sb] at h1
  have hg0 := zH3 A 0
  refine qZ 5 ?_
  have h9 : zC7 A = false := by unfold zC7; exact decide_eq_false (by omega)
  refine ret1 (zA1 (v := .bool false) rfl) ⟨?_, G⟩
  rw [h9]
 ·
  simp only [sb] at h1
  have hg0 := zH3 A 0
  have h1' : 1 ≤ A.length ∧ A.length ≤ 16 ∧ 1 ≤ len2 A 0 := by omega
  clear h1
  refine qZ 13 ?_
  refine zF5 (fun m_ e_ w_ => ∃ (k : Nat), m_ = A.length - k ∧ Fr [(22, .slice ad A.length c), (23, .int .i64 (A.length : Int)), (3, .int .i64 (zC4 (A.take k))), (24, .int .i64 (k : Int))] e_ ∧ (k ≤ A.length) ∧ (zC4 (A.take k) ≤ 4096) ∧ Grow w w_) _ ⟨0, rfl, zC6 ⟨rfl, rfl, rfl, rfl, trivial⟩, by omega, by simp [zC4], G⟩ ?_
  clear G
  rintro m_ e_ w8 ⟨k, rfl, ⟨e9, rfl⟩, hk, htk, G⟩
  refine qZ 2 ?_
  refine stp (zF6 rfl rfl ?_)
  refine qZ 2 ?_
  refine zA2 (b := (decide ((k : Int) < (A.length : Int)))) rfl (fun hlt => ?_) (fun hlt => ?_)
  ·
   replace hlt := qT hlt
   have hi : k < A.length := by omega
   have hg := zH3 A k
   have hlk := hs k
   have ht1 := zY5 hi
   have ht2 := qP5 (A := A) (k + 1)
   have ht3 := zN1 (A.take k)
   have hak : ((A[k].length : Nat) : Int) = (len2 A k : Int) := by simp only [len2]; rw [zE5 hi]
   have hadd : zJ2 (zC4 (A.take k)) ((zB3 A).getD k 0) 4096 = decide (zC4 (A.take (k + 1)) ≤ 4096) := by unfold zJ2; by_cases h_ : zC4 (A.take (k + 1)) ≤ 4096; (rw [decide_eq_true h_]; exact decide_eq_true (by omega)); (rw [decide_eq_false h_]; exact decide_eq_false (by omega))
   refine qZ 5 ?_
   refine stp (zC8 (R.grow G) rfl rfl ?_ ?_); omega
   refine stp (zC5 (v := .int .i64 ((zB3 A).getD k 0)) (m := 0) (R.grow G) rfl (zE6 0 (by omega)) ?_)
   refine qZ 6 ?_
   refine stp (zA4 (v := .tuple #[.int .i64 (if zJ2 (zC4 (A.take k)) ((zB3 A).getD k 0) 4096 then zC4 (A.take k) + (zB3 A).getD k 0 else 0), .bool (zJ2 (zC4 (A.take k)) ((zB3 A).getD k 0) 4096)]) rfl (qD2 _ (a := zC4 (A.take k)) (b := (zB3 A).getD k 0) (m := 4096) (by simp only [inR]; omega) (by simp only [inR]; omega) (by simp only [inR]; omega)) ?_)
   intro w10 g11
   replace G := G.tr g11
   clear g11
   refine qZ 10 ?_
   refine stp (zN8 rfl ?_)
   refine zA6 ?_
   refine zA2 (b := (!(zJ2 (zC4 (A.take k)) ((zB3 A).getD k 0) 4096))) rfl (fun h3 => ?_) (fun h3 => ?_)
   ·
    simp only [sb] at h3
    rw [hadd] at h3
    refine qZ 5 ?_
    have h9 : zC7 A = false := by unfold zC7; exact decide_eq_false (by simp at h3; omega)
    refine ret1 (zA1 (v := .bool false) rfl) ⟨?_, G⟩
    rw [h9]
   ·
    simp only [sb] at h3
    rw [hadd] at h3
    have h3_ : zC4 (A.take (k + 1)) ≤ 4096 := by simpa using h3
    refine qZ 6 ?_
    refine stp (zB5 rfl rfl ?_ ?_); constructor <;> omega
    refine qZ 2 ?_
    refine ⟨_, ?_, k + 1, rfl, zC6 ⟨rfl, rfl, congrArg (Value.int .i64) (by rw [hadd, decide_eq_true h3_, if_pos rfl]; omega), rfl, trivial⟩, by omega, by omega, G⟩
    omega
  ·
   replace hlt := qF hlt
   have hk2 : k = A.length := by omega
   subst hk2
   rw [List.take_length] at htk
   refine qZ 6 ?_
   have h9 : zC7 A = true := by unfold zC7; exact decide_eq_true (by omega)
   refine ret1 (zA1 (v := .bool true) rfl) ⟨?_, G⟩
   rw [h9]
theorem qE6 (w : World) {u : Value} {A : List (List Int)} (hA : zG2 w u A) (hn : A.length ≤ 8796093022208) : zB6 Tryz.prog 30 #[u] w (.bool (zC7 A)) := by
 have hA0 := hA
 obtain ⟨ada, ca, segs, sa, sc, rfl, hca, hca2, RA, hsf, hrf⟩ := hA.fn
 have hs : ∀ i, len2 A i ≤ 140737488355328 := fun i => by by_cases hi : i < A.length; exact (hrf i hi).2.2.lim; (have := zR8 (A := A) (j := i) (by omega); omega)
 have G := Grow.rfl' w
 refine zA8 Tryz.func30 Tryz.ntmps30 Tryz.results30 rfl rfl ?_
 refine qZ 7 ?_
 refine stp ?_
 refine zD7 rfl (qR8 _ (hA0.grow G) hn) ?_
 rintro v_ w1 ⟨ad9, c9, rfl, RZ, g_⟩
 replace G := G.tr g_
 clear g_
 refine stp (zA4 (v := .bool (zC7 A)) rfl (qW4 _ RZ hs) ?_)
 intro w2 g3
 replace RZ := RZ.grow g3
 replace G := G.tr g3
 clear g3
 refine qZ 3 ?_
 refine ret1 (zA1 (v := .bool (zC7 A)) rfl) ⟨?_, G⟩
 rfl
theorem qN2 (w : World) {u : Value} {A : List (List Int)} (hA : zG2 w u A) (hn : A.length ≤ 8796093022208) (hx : ∀ q ∈ A, ∀ x ∈ q, inR .u64 x) : Calls Tryz.prog 70 #[u] w (Ret fun v w' => ∃ cells, v = .tuple #[.agg cells.toArray, .int .u16 (decT A).2] ∧ NodeR (hide w.heap.size w') cells (decT A).1 ∧ Grow w w') := by
 have hA0 := hA
 obtain ⟨ada, ca, segs, sa, sc, rfl, hca, hca2, RA, hsf, hrf⟩ := hA.fn
 have G := Grow.rfl' w
 refine zC2 Tryz.func70 Tryz.ntmps70 Tryz.results70 rfl rfl ?_
 refine qZ 2 ?_
 refine stp (zA7 ?_)
 intro b1 w2 hb3 hc4 g5
 refine qZ 6 ?_
 have hge6 := Nat.le_trans G.size hb3
 replace G := G.tr g5
 clear g5 hb3
 refine stp (zA4 (v := .bool (zC7 A)) rfl (qE6 _ (hA0.grow G) hn) ?_)
 intro w7 g8
 replace hc4 := g8.heap hc4
 replace G := G.tr g8
 clear g8
 refine stp (zN8 rfl ?_)
 refine zA6 ?_
 refine zA2 (b := (!(zC7 A))) rfl (fun h1 => ?_) (fun h1 => ?_)
 ·
  simp only [sb] at h1
  have h9 : decT A = (.nil, 1) := if_pos (by simpa using h1)
  refine qZ 2 ?_
  refine stp (zA9 (v := .agg #[.int .i64 0, .int .i64 0, .slice none 0 0, .slice none 0 0, .slice none 0 0]) (fun w => by kernel_rfl) ?_)
  refine stn (qS hc4 ?_)
  intro w9 hc10 u11
  replace G := G.upd u11 hge6
  clear u11 hc4
  refine qZ 3 ?_
  rw [h9]
  refine ret2 (zA5 rfl hc10 (by rfl)) (zA1 (v := .int .u16 1) rfl) ⟨[_, _, _, _, _], rfl, NodeR.zero _, G⟩
 ·
  simp only [sb] at h1
  have h1' : zC7 A = true := by simpa using h1
  have hr : OkA A := yK0 h1' hx
  have h9 : decT A = (zJ8 (zB0 A) 32 0 0 0).2 := if_neg (by simp [h1'])
  rw [h9]
  refine qZ 4 ?_
  refine stp (zA4 (v := .iface 110 (.agg #[.slice ada A.length ca])) rfl (qH5 _) ?_)
  intro w12 g13
  replace hc4 := g13.heap hc4
  replace G := G.tr g13
  clear g13
  refine stp (zA9 (v := .agg #[.iface 110 (.agg #[.slice ada A.length ca]), .int .i64 0]) (fun w => by kernel_rfl) ?_)
  refine stp ?_
  refine qC ?_
  intro b14 w15 hb16 hc17 g18
  have hge19 := Nat.le_trans G.size hb16
  have ne20 := qN hc4 hb16
  replace hc4 := g18.heap hc4
  replace G := G.tr g18
  clear g18 hb16
  refine qZ 5 ?_
  refine stp ?_
  have hcal := qW3 _ _ (yQ7 hA0 hr) G hge19 hc17 (by decide) (by decide) 0 (a := 0) (by decide) (by decide) (d := 32) (by decide) (Nat.le_refl _)
  have hlow := G.size
  have hlt1 := zC1 hc4
  refine zD7 rfl hcal ?_
  rintro v_ w21 ⟨cells, rfl, hT9, hb9, K_⟩
  clear hcal
  replace hc4 := K_.heap hc4 (fun hm_ => by simp only [List.mem_singleton] at hm_; first | exact ne20 hm_ | exact ne20 hm_.symm)
  replace G := G.trK K_ (fun x_ hx_ => by simp only [List.mem_singleton] at hx_; subst hx_; exact hge19)
  clear K_ hc17
  obtain ⟨y0, y1, ya, yn, yc, za, zn, zc, ua, un, uc, rfl⟩ := hT9.cells
  refine qZ 2 ?_
  refine stn (qS hc4 ?_)
  intro w22 hc23 u24
  replace hb9 := u24.heap hb9 ne20.symm
  replace hT9 := hT9.sees (Sees.upd u24 (fun h_ => absurd h_ (Nat.not_le.2 hlt1)))
  replace G := G.upd u24 hge6
  clear u24 hc4
  refine qZ 3 ?_
  refine ret2 (zA5 rfl hc23 (by rfl)) (zA1 (v := .int .u16 ((zJ8 (zB0 A) 32 0 0 0).2.2)) rfl) ⟨_, rfl, hT9.sees (Sees.low hlow _), G⟩
end Go.Proofs.YtkkbbhpbcfcplaaGreat.K
namespace Go.Proofs.YtkkbbhpbcfcplaaGreat.K
open Go Go.RowKit
structure KpQ where
  r : World → World → Prop
  g : World → World → Prop
  gdrew : ∀ w : World, g w { w with drawn := w.drawn + 1 }
  refl : ∀ w, r w w
  tr : ∀ {a b c : World}, r a b → r b c → r a c
  grow : ∀ {a b : World}, g a b → r a b
def Sp.StabQ (F : KpQ) : Sp → Prop
  | .ex _ => True
  | .so G => ∀ w w' v, F.r w w' → G w v → G w' v
theorem Sp.keepQ {F : KpQ} {s : Sp} (h : s.StabQ F) {w w' : World} {v : Value} (g : F.r w w') (hv : s.holds w v) : s.holds w' v := by
  cases s with
  | ex x => exact hv
  | so G => exact h w w' v g hv
abbrev grQ (R : KpR) : KpQ := ⟨R.r, Grow, Grow.drew', R.refl, R.tr, R.grow⟩
def OblU (P : Program) (ops : Array Oper) (F : KpQ) (S : Nat → Env → World → Prop) (w0 : World) (e : Env) (o : Oper) (s : Sp) (l : List (Option Nat × Sp)) : Option Nat → Prop
  | none => ∀ w, F.r w0 w → OblEnv l e w fun e' => OpG P ops o e' w fun v w' => F.g w w' ∧ s.holds w' v
  | some k => ∀ w, F.r w0 w → OblEnv l e w fun e' => S k e' w → OpG P ops o e' w fun v w' => F.r w w' ∧ S (k + 1) e' w' ∧ s.holds w' v
def AOU (P : Program) (ops : Array Oper) (F : KpQ) (S : Nat → Env → World → Prop) (ms : List Nat) (w0 : World) (e : Env) (K : List Dn → Prop) : List Oper → List (List Nat) → List Dn → Prop
  | [], _, rdone => K rdone.reverse
  | o :: r, an, rdone => ∃ s : Sp, s.StabQ F ∧ OblU P ops F S w0 e o s (selB rdone (an.headD [])) (zK4 ms 0 rdone.length) ∧
      AOU P ops F S ms w0 e K r an.tail (⟨o, s, an.headD []⟩ :: rdone)
section
variable {P : Program} {ops : Array Oper} {F : KpQ} {S : Nat → Env → World → Prop} {ms : List Nat} {w0 : World} {e : Env} {K : List Dn → Prop} {o : Oper} {r : List Oper} {a : List Nat} {an : List (List Nat)} {rdone : List Dn}
theorem zG3 (x : Value) (hm : zK4 ms 0 rdone.length = none) (h : ∀ w, F.r w0 w → OblEnv (selB rdone a) e w fun e' => OpG P ops o e' w fun v w' => F.g w w' ∧ v = x)
    (next : AOU P ops F S ms w0 e K r an (⟨o, .ex x, a⟩ :: rdone)) : AOU P ops F S ms w0 e K (o :: r) (a :: an) rdone := ⟨.ex x, trivial, by rw [hm]; exact h, next⟩
theorem yL0 (G : World → Value → Prop) (hst : ∀ w w' v, F.r w w' → G w v → G w' v) (hm : zK4 ms 0 rdone.length = none) (h : ∀ w, F.r w0 w → OblEnv (selB rdone a) e w fun e' => OpG P ops o e' w fun v w' => F.g w w' ∧ G w' v)
    (next : AOU P ops F S ms w0 e K r an (⟨o, .so G, a⟩ :: rdone)) : AOU P ops F S ms w0 e K (o :: r) (a :: an) rdone := ⟨.so G, hst, by rw [hm]; exact h, next⟩
theorem qW5 (k : Nat) (x : Value) (hm : zK4 ms 0 rdone.length = some k) (h : ∀ w, F.r w0 w → OblEnv (selB rdone a) e w fun e' => S k e' w → OpG P ops o e' w fun v w' => F.r w w' ∧ S (k + 1) e' w' ∧ v = x)
    (next : AOU P ops F S ms w0 e K r an (⟨o, .ex x, a⟩ :: rdone)) : AOU P ops F S ms w0 e K (o :: r) (a :: an) rdone := ⟨.ex x, trivial, by rw [hm]; exact h, next⟩
theorem qW6 {an : List (List Nat)} (h : K rdone.reverse) : AOU P ops F S ms w0 e K [] an rdone := h
end
def yW8 (P : Program) (ops : Array Oper) (F : KpQ) (S : Nat → Env → World → Prop) (ms : List Nat) (w0 : World) (e : Env) (D : List Dn) : Prop :=
  ∀ i d, D[i]? = some d → d.s.StabQ F ∧ OblU P ops F S w0 e d.o d.s (selB (D.take i).reverse d.anc) (zK4 ms 0 i)
theorem yL1 {P : Program} {ops : Array Oper} {F : KpQ} {S : Nat → Env → World → Prop} {ms : List Nat} {w0 : World} {e : Env} {K : List Dn → Prop} : ∀ (r : List Oper) (an : List (List Nat)) (rdone : List Dn), r.length = an.length →
    AOU P ops F S ms w0 e K r an rdone → yW8 P ops F S ms w0 e rdone.reverse → ∃ D, K D ∧ yW8 P ops F S ms w0 e D ∧ D.map Dn.o = rdone.reverse.map Dn.o ++ r ∧ D.map Dn.anc = rdone.reverse.map Dn.anc ++ an
  | [], [], rdone, _, h, hg => ⟨rdone.reverse, h, hg, by simp, by simp⟩
  | [], _ :: _, _, hl, _, _ => by simp at hl
  | _ :: _, [], _, hl, _, _ => by simp at hl
  | o :: r, a :: an, rdone, hl, ⟨s, hs, ho, hn⟩, hg => by
    simp only [List.headD_cons, List.tail_cons] at ho hn
    obtain ⟨D, hK, hG, hD, hA⟩ := yL1 r an (⟨o, s, a⟩ :: rdone) (by simpa using hl) hn (by
      intro i d hd
      simp only [List.reverse_cons] at hd ⊢
      rcases Nat.lt_or_ge i rdone.reverse.length with hi | hi
      · rw [List.getElem?_append_left hi] at hd
        rw [List.take_append_of_le_length (by omega)]
        exact hg i d hd
      · rw [List.getElem?_append_right hi] at hd
        have h0 : i - rdone.reverse.length = 0 := by
          rcases Nat.eq_zero_or_pos (i - rdone.reverse.length) with h | h
          · exact h
          · rw [List.getElem?_eq_none (by simp only [List.length_cons, List.length_nil]; omega)] at hd; cases hd
        rw [h0] at hd
        have hi' : i = rdone.reverse.length := by omega
        subst hi'
        simp only [List.getElem?_cons_zero, Option.some.injEq] at hd
        subst hd
        have ht : (rdone.reverse ++ [(⟨o, s, a⟩ : Dn)]).take rdone.reverse.length = rdone.reverse := by simp
        rw [ht, List.reverse_reverse]
        rw [List.length_reverse]
        exact ⟨hs, ho⟩)
    exact ⟨D, hK, hG, by rw [hD]; simp, by rw [hA]; simp⟩
def usOk (ops : List Oper) (an : List (List Nat)) (U ms : List Nat) : Bool := U.all fun u => ms.all fun m => (an.getD m []).any fun j => match (ops[j]?).bind (·.dst) with | some d => Nat.beq d u | none => false
theorem yL2 {ops : List Oper} {an : List (List Nat)} {U ms : List Nat} (h : usOk ops an U ms = true) {u m : Nat} (hu : u ∈ U) (hm : m ∈ ms) : ∃ j o, j ∈ an.getD m [] ∧ ops[j]? = some o ∧ o.dst = some u := by
  unfold usOk at h
  simp only [List.all_eq_true, List.any_eq_true] at h
  obtain ⟨j, hj, hd⟩ := h u hu m hm
  cases ho : ops[j]? with
  | none => rw [ho] at hd; simp at hd
  | some o =>
    rw [ho] at hd
    cases hdst : o.dst with
    | none => simp [hdst] at hd
    | some d =>
      simp only [Option.bind_some, hdst] at hd
      exact ⟨j, o, hj, ho, by rw [hdst, Nat.eq_of_beq_eq_true hd]⟩
section main
variable {P : Program} {N : Nat} {hd tl : List Oper} {Q : Ex → Env → World → Prop} {F : KpQ} {U : List Nat} {S : Nat → Env → World → Prop} {ms : List Nat}
structure InvU (F : KpQ) (S : Nat → Env → World → Prop) (ms : List Nat) (P : Program) (hd tl : List Oper) (D : List Dn) (w0 : World) (e : Env) (L : Array Bool) (E : Env) (w : World) : Prop where
  msro : E.ms = e.ms ∧ E.ro = e.ro
  down : Down (hd ++ tl) L
  head : ∀ i, Ls L i → i < hd.length
  grow : F.r w0 w
  st : ∃ k, k ≤ ms.length ∧ S k E w ∧ ∀ (j p : Nat), ms[j]? = some p → (Ls L p ↔ j < k)
  got : ∀ (i : Nat) (d : Dn), D[i]? = some d → Ls L i → ∃ v, d.s.holds w v ∧ ∀ t, d.o.dst = some t → E t = v
  off : ∀ u, (∀ (i : Nat) (o : Oper), (hd ++ tl)[i]? = some o → Ls L i → o.dst ≠ some u) → E u = e u
theorem yW9 (sh : Shape hd tl) {D : List Dn} {w0 : World} {e : Env} (hD : D.map Dn.o = hd) (hA : D.map Dn.anc = ancB (hd ++ tl) hd.length) (hg : yW8 P (hd ++ tl).toArray F S ms w0 e D)
    (hS : ∀ k e w w', F.g w w' → S k e w → S k e w') (hSe : ∀ k e e' w, (∀ u ∈ U, e u = e' u) → S k e w → S k e' w) (hS0 : ∀ e e' w, S 0 e w → S 0 e' w) (hUo : usOk (hd ++ tl) (ancL (hd ++ tl) []) U ms = true) (hmo : qI8 (ancL (hd ++ tl) []) [] ms = true) (hml : ∀ (j p : Nat), ms[j]? = some p → p < hd.length)
    (hfin : ∀ w, F.r w0 w → Fin (fun e w => S ms.length e w → WL P (hd ++ tl).toArray Q tl e w) D e w) : ∀ (fuel : Nat) (L : Array Bool) (E : Env) (w : World),
    InvU F S ms P hd tl D w0 e L E w → left L ≤ fuel → AnyE P (hd ++ tl).toArray Q fuel L E w := by
  have hlen : D.length = hd.length := by rw [← hD]; simp
  have hDo : ∀ (i : Nat) (d : Dn), D[i]? = some d → (hd ++ tl)[i]? = some d.o := fun i d h => by
    have hi : i < D.length := (List.getElem?_eq_some_iff.1 h).1
    rw [List.getElem?_append_left (by omega), ← hD]; simp [h]
  have hanc := qM3 sh hlen hA
  -- with all of the head listed, what follows stands
  have fin : ∀ (L : Array Bool) (E : Env) (w : World), InvU F S ms P hd tl D w0 e L E w → (∀ i, i < hd.length → Ls L i) → WL P (hd ++ tl).toArray Q tl E w := by
    intro L E w inv hall
    have hSl : S ms.length E w := by
      obtain ⟨k0, hk0, hSk, hch⟩ := inv.st
      rcases Nat.lt_or_ge k0 ms.length with hlt | hge
      · have hp := List.getElem?_eq_getElem hlt
        have := (hch k0 _ hp).1 (hall _ (hml k0 _ hp))
        omega
      · rw [show ms.length = k0 from by omega]; exact hSk
    obtain ⟨e', hG, hmr, hu⟩ := zZ7 E D e (hfin w inv.grow) (fun d hd' => by
      obtain ⟨i, hi, rfl⟩ := List.getElem_of_mem hd'
      exact inv.got i _ (List.getElem?_eq_getElem hi) (hall i (by omega)))
    have : e' = E := by
      refine Env.ext' (fun u => ?_) (by rw [hmr.1, inv.msro.1]) (by rw [hmr.2, inv.msro.2])
      by_cases hin : ∃ d ∈ D, d.o.dst = some u
      · exact (hu u).1 hin
      · rw [(hu u).2 (fun d hd' he => hin ⟨d, hd', he⟩)]
        refine (inv.off u fun i o ho hl hou => hin ?_).symm
        have hi := inv.head i hl
        have hiD : i < D.length := by omega
        have := hDo i _ (List.getElem?_eq_getElem hiD)
        rw [ho] at this
        exact ⟨D[i], List.getElem_mem hiD, by rw [← Option.some.inj this]; exact hou⟩
    subst this; exact hG hSl
  -- and so the rest of the region
  have rest : ∀ (fuel : Nat) (L : Array Bool) (E : Env) (w : World), InvU F S ms P hd tl D w0 e L E w → (∀ i, i < hd.length → Ls L i) → left L ≤ fuel →
      AnyE P (hd ++ tl).toArray Q fuel L E w := by
    intro fuel L E w inv hall hf
    refine qZ5 sh fuel hd.length L E w inv.down (fun i => ⟨inv.head i, hall i⟩) (Nat.le_refl _) (by simp) hf ?_
    rw [List.drop_left]
    exact fin L E w inv hall
  intro fuel
  induction fuel with
  | zero =>
    intro L E w inv hf
    refine rest 0 L E w inv (fun i hi => ?_) hf
    by_cases hl : Ls L i
    · exact hl
    · have := zM5 (L := L) (i := i) (by rw [inv.down.size]; simp; omega) hl; omega
  | succ fuel ih =>
    intro L E w inv hf
    by_cases hall : ∀ i, i < hd.length → Ls L i
    · exact rest _ L E w inv hall hf
    refine ⟨fun hr => absurd (fun i hi => zR6 inv.down.size sh.back hr i (by simp; omega)) hall, fun i hi o' ho' => ?_⟩
    obtain ⟨hn, o, ho, hedge⟩ := (zP0 inv.down.size).1 hi
    have hin : i < (hd ++ tl).length := (List.getElem?_eq_some_iff.1 ho).1
    have hal := zI2 inv.down i o ho hedge
    have hih : i < hd.length := by
      rcases Nat.lt_or_ge i hd.length with h' | h'
      · exact h'
      · exact absurd (fun j hj => hal j (sh.tail i h' hin j (by omega))) hall
    have hi' : i < L.size := by rw [inv.down.size]; exact hin
    have hiD : i < D.length := by omega
    have hd' := List.getElem?_eq_getElem hiD
    generalize hdd : D[i] = d at hd'
    have hod : d.o = o := by have := hDo i d hd'; rw [ho] at this; exact (Option.some.inj this).symm
    obtain ⟨hst, hob⟩ := hg i d hd'
    have ha := hanc i d hd'
    rw [ha] at hob
    have hanI : (ancL (hd ++ tl) []).getD i [] = ancI (hd ++ tl) i := rfl
    have hinst : ∀ p ∈ sel (D.take i) (ancI (hd ++ tl) i), ∃ v, p.2.holds w v ∧ ∀ t, p.1 = some t → E t = v := by
      intro p hp
      unfold sel at hp
      rw [List.mem_filterMap] at hp
      obtain ⟨j, hj, hp⟩ := hp
      rw [List.getElem?_take] at hp
      split at hp
      · cases hdj : D[j]? with
        | none => rw [hdj] at hp; simp at hp
        | some dj =>
          rw [hdj] at hp
          simp only [Option.map_some, Option.some.injEq] at hp
          subst hp
          exact inv.got j dj hdj (hal j hj)
      · simp at hp
    have hmem : ∀ u, (∃ p ∈ sel (D.take i) (ancI (hd ++ tl) i), p.1 = some u) ↔ ∃ j ∈ ancI (hd ++ tl) i, ∃ dj, D[j]? = some dj ∧ dj.o.dst = some u := by
      intro u
      unfold sel
      constructor
      · rintro ⟨p, hp, hpu⟩
        rw [List.mem_filterMap] at hp
        obtain ⟨j, hj, hp⟩ := hp
        rw [List.getElem?_take] at hp
        split at hp
        · cases hdj : D[j]? with
          | none => rw [hdj] at hp; simp at hp
          | some dj =>
            rw [hdj] at hp
            simp only [Option.map_some, Option.some.injEq] at hp
            subst hp
            exact ⟨j, hj, dj, hdj, hpu⟩
        · simp at hp
      · rintro ⟨j, hj, dj, hdj, hdu⟩
        refine ⟨(dj.o.dst, dj.s), ?_, hdu⟩
        rw [List.mem_filterMap]
        refine ⟨j, hj, ?_⟩
        rw [List.getElem?_take, if_pos ((zL3 ho).1 hj).1, hdj]
        rfl
    have agree : ∀ e' : Env, (∀ u, ((∃ p ∈ sel (D.take i) (ancI (hd ++ tl) i), p.1 = some u) → e' u = E u) ∧ ((∀ p ∈ sel (D.take i) (ancI (hd ++ tl) i), p.1 ≠ some u) → e' u = e u)) → ∀ u ∈ qU4 (hd ++ tl) o, e' u = E u := by
      intro e' hu u hu'
      by_cases hin' : ∃ p ∈ sel (D.take i) (ancI (hd ++ tl) i), p.1 = some u
      · exact (hu u).1 hin'
      · rw [(hu u).2 (fun p hp he => hin' ⟨p, hp, he⟩)]
        refine (inv.off u fun k p hp hl hpu => ?_).symm
        have hki : i ≠ k := fun h => hn (h ▸ hl)
        rcases sh.read i k o p ho hp hki u hpu hu' with h | h
        · refine hin' ((hmem u).2 ⟨k, h, ?_⟩)
          have hk := inv.head k hl
          have hkD : k < D.length := by omega
          have := hDo k _ (List.getElem?_eq_getElem hkD)
          rw [hp] at this
          exact ⟨_, List.getElem?_eq_getElem hkD, by rw [← Option.some.inj this]; exact hpu⟩
        · exact hn (zI2 inv.down k p hp (inv.down.down k p hp hl) i h)
    have hG2 : OpG P (hd ++ tl).toArray o E w fun v w' => F.r w w' ∧ (∃ k, k ≤ ms.length ∧ S k E w' ∧ ∀ (j p : Nat), ms[j]? = some p → (Ls (L.setIfInBounds i true) p ↔ j < k)) ∧ d.s.holds w' v := by
      obtain ⟨k0, hk0, hSk, hch⟩ := inv.st
      cases hmu : zK4 ms 0 i with
      | none =>
        rw [hmu] at hob
        obtain ⟨e', hG, hu⟩ := zL9 E _ e hinst (hob w inv.grow)
        rw [hod] at hG
        refine OpG.mono ?_ (zU9 (sh.nosel i o ho) (agree e' hu) hG)
        rintro v w' ⟨g, hv⟩
        refine ⟨F.grow g, ⟨k0, hk0, hS _ _ _ _ g hSk, fun j p hj => ?_⟩, hv⟩
        rw [zI7 hi', ← hch j p hj]
        have : p ≠ i := fun h => zW9 hmu j (h ▸ hj)
        simp [this]
      | some k =>
        rw [hmu] at hob
        obtain ⟨_, hms⟩ := zO5 hmu
        rw [Nat.sub_zero] at hms
        have hkl : k < ms.length := (List.getElem?_eq_some_iff.1 hms).1
        have hkk : k0 = k := by
          have h1 : ¬ k < k0 := fun h => hn ((hch k i hms).2 h)
          rcases Nat.lt_or_ge k0 k with hlt | hge
          · have hq := List.getElem?_eq_getElem (show k0 < ms.length by omega)
            have h2 := (zQ5 hmo k i hms).2 k0 _ hlt hq
            rw [hanI] at h2
            have := (hch k0 _ hq).1 (hal _ h2)
            omega
          · omega
        subst hkk
        obtain ⟨e', hG, hu⟩ := zL9 E _ e hinst (hob w inv.grow)
        have hUe : ∀ u ∈ U, e' u = E u := fun u hu' => by
          obtain ⟨j, oj, hj, hoj, hdj⟩ := yL2 hUo hu' (List.mem_of_getElem? hms)
          rw [hanI] at hj
          have hji := ((zL3 ho).1 hj).1
          have hjD : j < D.length := by omega
          refine (hu u).1 ((hmem u).2 ⟨j, hj, D[j], List.getElem?_eq_getElem hjD, ?_⟩)
          have := hDo j _ (List.getElem?_eq_getElem hjD)
          rw [hoj] at this
          rw [← Option.some.inj this]; exact hdj
        have hG := hG (hSe _ _ _ _ (fun u hu' => (hUe u hu').symm) hSk)
        rw [hod] at hG
        refine OpG.mono ?_ (zU9 (sh.nosel i o ho) (agree e' hu) hG)
        rintro v w' ⟨g, hs', hv⟩
        refine ⟨g, ⟨k0 + 1, hkl, hSe _ _ _ _ hUe hs', fun j p hj => ?_⟩, hv⟩
        rw [zI7 hi', hch j p hj]
        have anc_lt : ∀ q, q ∈ ancI (hd ++ tl) i → q < i := fun q hq => ((zL3 ho).1 hq).1
        constructor
        · rintro (rfl | h)
          · rcases Nat.lt_trichotomy j k0 with h | h | h
            · omega
            · omega
            · have h2 := (zQ5 hmo j p hj).2 k0 p h hms
              exact absurd (anc_lt p h2) (by omega)
          · omega
        · intro h
          rcases Nat.lt_or_ge j k0 with h' | h'
          · exact .inr h'
          · have : j = k0 := by omega
            subst this
            rw [hms] at hj
            exact .inl (Option.some.inj hj).symm
    have hoo : o = o' := by rw [List.getElem?_toArray, ho] at ho'; exact Option.some.inj ho'
    subst hoo
    refine OpG.mono ?_ hG2
    rintro v w' ⟨hgr, hst', hv⟩
    have hst' : ∃ k, k ≤ ms.length ∧ S k (E.put o.dst v) w' ∧ ∀ (j p : Nat), ms[j]? = some p → (Ls (L.setIfInBounds i true) p ↔ j < k) := by
      obtain ⟨k, hk, hSk, hch⟩ := hst'
      refine ⟨k, hk, ?_, hch⟩
      rcases Nat.eq_zero_or_pos k with h0 | h0
      · subst h0; exact hS0 _ _ _ hSk
      · refine hSe _ _ _ _ (fun u hu' => ?_) hSk
        have hq := List.getElem?_eq_getElem (show 0 < ms.length by omega)
        obtain ⟨j, oj, hj, hoj, hdj⟩ := yL2 hUo hu' (List.mem_of_getElem? hq)
        have hl0 := (hch 0 _ hq).2 h0
        have hji : j ≠ i := by
          intro he
          rw [zI7 hi'] at hl0
          rcases hl0 with h' | h'
          · rw [he, h'] at hj
            have := ((zL3 ho).1 hj).1
            omega
          · have hp0 := inv.head _ h'
            have hpl : ms[0] < (hd ++ tl).length := by simp; omega
            have := zI2 inv.down ms[0] _ (List.getElem?_eq_getElem hpl) (fun k hk => inv.down.down _ _ (List.getElem?_eq_getElem hpl) h' k hk) j hj
            rw [he] at this
            exact hn this
        cases hdst' : o.dst with
        | none => rfl
        | some t' =>
          refine (zR5 _ _ fun htt => ?_).symm
          exact sh.uniq i j o oj ho hoj (Ne.symm hji) t' hdst' (by rw [hdj, htt])
    refine ih _ _ w' ⟨⟨by rw [qO9]; exact inv.msro.1, by rw [qP0]; exact inv.msro.2⟩, inv.down.set ho hedge, fun j hj => ?_, F.tr inv.grow hgr, hst', fun j dj hdj hl => ?_, fun u hu' => ?_⟩ (by have := zM5 hi' hn; omega)
    · rw [zI7 hi'] at hj
      rcases hj with rfl | hj
      · exact hih
      · exact inv.head j hj
    · rw [zI7 hi'] at hl
      by_cases hji : j = i
      · subst hji
        rw [hd'] at hdj
        cases hdj
        refine ⟨v, hv, fun t ht => ?_⟩
        rw [hod] at ht
        rw [ht]; exact zP8 _ _ _
      · have hlj := hl.resolve_left hji
        obtain ⟨vj, hvj, htj⟩ := inv.got j dj hdj hlj
        have hkeep : dj.s.holds w' vj := by
          have hsj := (hg j dj hdj).1
          exact Sp.keepQ hsj hgr hvj
        refine ⟨vj, hkeep, fun t ht => ?_⟩
        rw [← htj t ht]
        cases hdst' : o.dst with
        | none => rfl
        | some t' =>
          refine zR5 _ _ fun htt => ?_
          exact sh.uniq i j o dj.o ho (hDo j dj hdj) (Ne.symm hji) t' hdst' (by rw [ht, htt])
    · have hne : o.dst ≠ some u := hu' i o ho ((zI7 hi').2 (.inl rfl))
      have : E.put o.dst v u = E u := by
        cases hdst' : o.dst with
        | none => rfl
        | some t' => exact zR5 _ _ fun htt => hne (by rw [hdst', htt])
      rw [this]
      exact inv.off u fun k p hp hl => hu' k p hp ((zI7 hi').2 (.inr hl))
theorem yL3 {id : Nat} {e : Env} {w : World} {l : List Oper} (m : Nat) (an : List (List Nat)) (ms U : List Nat) (F : KpQ) (S : Nat → Env → World → Prop) (hm : P.follows .mixedOrders = true) (hsh : zY3 (l.take m) (l.drop m) = true)
    (han : ancB l (l.take m).length = an) (hdst : qM1 N l = true) (hmo : (qI8 (ancL l []) [] ms && ms.all fun p => Nat.blt p (l.take m).length) = true) (hUo : usOk l (ancL l []) U ms = true) (hS : ∀ k e w w', F.g w w' → S k e w → S k e w') (hSe : ∀ k e e' w, (∀ u ∈ U, e u = e' u) → S k e w → S k e' w) (hS0 : ∀ e e' w, S 0 e w → S 0 e' w) (h0 : ∀ w0, F.g w w0 → S 0 e w0)
    (h : ∀ w0, F.g w w0 → AOU P l.toArray F S ms w0 e (fun D => ∀ w', F.r w0 w' → Fin (fun e w => S ms.length e w → WL P l.toArray Q (l.drop m) e w) D e w') (l.take m) an []) :
    W P N (.region id l.toArray true) Q e w := by
  have hl := List.take_append_drop m l
  generalize hhd : l.take m = hd at *
  generalize htl : l.drop m = tl at *
  subst hl
  have h := h { w with drawn := w.drawn + 1 } (F.gdrew w)
  have h0 := h0 { w with drawn := w.drawn + 1 } (F.gdrew w)
  simp only [Bool.and_eq_true, List.all_eq_true] at hmo
  have hml : ∀ (j p : Nat), ms[j]? = some p → p < hd.length := fun j p hj => by
    have := hmo.2 p (List.mem_of_getElem? hj)
    simpa [Nat.blt_eq] using this
  intro b a k cs hs he
  subst he
  have sh := qF2 hsh
  obtain ⟨D, hK, hG, hDo, hDa⟩ := yL1 _ _ _ (by rw [← han]; simp [ancB, zK3]) h (fun i d hd' => by simp at hd')
  have hDo' : D.map Dn.o = hd := by simpa using hDo
  have hDa' : D.map Dn.anc = ancB (hd ++ tl) hd.length := by rw [hDa, han]; simp
  have hno : ∀ i, ¬ Ls (Array.replicate (hd ++ tl).toArray.size false) i := fun i => by simp [Ls, Array.getD_eq_getD_getElem?, Array.getElem?_replicate]; split <;> simp
  have hany : AnyE P (hd ++ tl).toArray Q (hd ++ tl).toArray.size (Array.replicate (hd ++ tl).toArray.size false) (env b.roundOf a) { w with drawn := w.drawn + 1 } := by
    refine yW9 sh hDo' hDa' hG hS hSe hS0 hUo hmo.1 hml hK _ _ _ _ ⟨⟨rfl, rfl⟩, ⟨by simp, fun i o ho hl => absurd hl (hno i)⟩, fun i hl => absurd hl (hno i), F.refl _, ⟨0, Nat.zero_le _, h0, fun j p hj => ⟨fun hl => absurd hl (hno p), fun h => by omega⟩⟩, fun i d hd' hl => absurd hl (hno i), fun u _ => rfl⟩ ?_
    unfold Go.Proofs.YtkkbbhpbcfcplaaGreat.K.left
    have := List.countP_le_length (p := (!·)) (l := (Array.replicate (hd ++ tl).toArray.size false).toList)
    simpa using this
  have hs2 := zW4 _ ((w.tape w.drawn (.order b.fn id))) _ _ _ hany
  obtain ⟨x, a', w', h1, h2, h3⟩ := zO9 hdst (k := k) (cs := cs) _ a _ hs hs2
  refine ⟨x, a', w', h1, h2, .of (.one stepR_region_draw) ?_⟩
  simp only [Region.schedule, hm, Bool.true_or, if_true]
  exact h3
end main
structure SrcR (P : Program) (fw : FuncId) (w : World) (ua : Value) (b : Bool) (uh : Value) (A : List (List Int)) (s : Src) : Prop where
  arena : zG2 w ua A
  sizes : s.sizes = zB3 A
  word : ∀ w', Grow w w' → ∀ seg at_ : Int, inR .i64 seg → inR .i64 at_ → zB6 P fw #[.agg #[ua, .bool b, uh], .int .i64 seg, .int .i64 at_] w' (.tuple #[.int .u64 (s.word seg at_).1, .int .i64 (s.word seg at_).2])
  num : ∀ seg at_ : Int, 0 ≤ (s.word seg at_).1 ∧ (s.word seg at_).1 ≤ 18446744073709551615 ∧ 0 ≤ (s.word seg at_).2 ∧ (s.word seg at_).2 ≤ 65535
  ok : ∀ seg at_ : Int, (s.word seg at_).2 = 0 → 0 ≤ seg ∧ seg < s.sizes.length ∧ 0 ≤ at_ ∧ at_ ≤ 140737488355328
  len : A.length ≤ 1000000
  each : ∀ i, len2 A i ≤ 140737488355328
theorem SrcR.grow {P : Program} {fw : FuncId} {w w' : World} {ua uh : Value} {b : Bool} {A : List (List Int)} {s : Src} (h : SrcR P fw w ua b uh A s) (g : Grow w w') : SrcR P fw w' ua b uh A s :=
  ⟨h.arena.grow g, h.sizes, fun w2 g2 => h.word w2 (g.tr g2), h.num, h.ok, h.len, h.each⟩
theorem yF0 {A : List (List Int)} {seg at_ : Int} : zF8 (zB3 A) seg at_ 1 = decide (0 ≤ seg ∧ seg < A.length ∧ 0 ≤ at_ ∧ at_ < len2 A seg.toNat) := by
  unfold zF8 zJ2
  rw [← Bool.decide_and]
  refine decide_eq_decide.2 ?_
  rw [zF0]
  have h := zH3 A seg.toNat
  constructor
  · rintro ⟨⟨h1, h2⟩, h3, h4, h5, h6⟩; exact ⟨h1, h2, h3, by omega⟩
  · rintro ⟨h1, h2, h3, h4⟩; exact ⟨⟨h1, h2⟩, h3, by omega, by omega, by omega⟩
section
variable {P : Program} {fw : FuncId} {w : World} {ua uh : Value} {b : Bool} {A : List (List Int)} {s : Src}
theorem SrcR.ptr_range (H : SrcR P fw w ua b uh A s) (seg at_ : Int) : PtR (ptrS s seg at_).1 := by
  obtain ⟨h1, h2, -, -⟩ := H.num seg at_
  unfold ptrS
  split
  · exact zV3
  · exact zH7 _ h1 h2
theorem SrcR.ptr_at (H : SrcR P fw w ua b uh A s) {seg at_ : Int} (h : (ptrS s seg at_).2 = 0) : 0 ≤ seg ∧ seg < s.sizes.length ∧ 0 ≤ at_ ∧ at_ ≤ 140737488355328 := by
  refine H.ok seg at_ ?_
  by_cases h0 : (s.word seg at_).2 = 0
  · exact h0
  · unfold ptrS at h; rw [if_pos h0] at h; exact absurd h h0
theorem SrcR.found_range (H : SrcR P fw w ua b uh A s) {p : Pt} (hp : PtR p) (hn : zH4 p = true) (seg at_ : Int) : ObR (zB4 s p seg at_).1 := by
  unfold zB4
  split
  · exact zD1
  · split
    · exact zD1
    · rename_i h1 h2
      simp only [Bool.not_eq_false] at h2
      unfold zF8 zJ2 at h2
      simp only [Bool.and_eq_true, decide_eq_true_eq] at h2
      obtain ⟨⟨h3, h4⟩, h5, h6, h7, h8⟩ := h2
      have h9 := H.each seg.toNat
      have h10 := H.len
      have h11 : (s.sizes.getD seg.toNat 0) = (len2 A seg.toNat : Int) := by rw [H.sizes]; exact zH3 A seg.toNat
      have h12 : s.sizes.length = A.length := by rw [H.sizes]; exact zF0 A
      have hk : p.kind = 1 ∨ p.kind = 2 := by simpa [zH4] using hn
      exact ⟨by show 0 ≤ p.kind ∧ p.kind ≤ 2; omega, by show 0 ≤ seg ∧ seg ≤ _; omega, by show 0 ≤ at_ ∧ at_ ≤ _; omega, hp.data, hp.ptrs, hp.size, hp.count⟩
theorem SrcR.follow_range (H : SrcR P fw w ua b uh A s) (seg at_ : Int) : ObR (zA0 s seg at_).1 := by
  unfold zA0
  split
  · exact zD1
  · split
    · rename_i h; exact H.found_range (H.ptr_range seg at_) h _ _
    · split
      · unfold zD6
        split
        · exact zD1
        · split
          · exact zD1
          · split
            · exact zD1
            · split
              · exact zD1
              · split
                · exact zD1
                · rename_i h
                  obtain ⟨n1, n2, -, -⟩ := H.num (ptrS s seg at_).1.seg ((ptrS s seg at_).1.off + 1)
                  refine H.found_range (zH7 _ n1 n2) ?_ _ _
                  cases hq : zH4 (decP (s.word (ptrS s seg at_).1.seg ((ptrS s seg at_).1.off + 1)).1) with
                  | true => rfl
                  | false => exact absurd (.inr (.inr (.inl hq))) h
      · unfold zD0
        split
        · exact zD1
        · split
          · exact zD1
          · rename_i h
            exact H.found_range (H.ptr_range _ _) (by simpa using h) _ _
end
def bndS (s : Src) (o : Ob) : Ob × Int := if zF9 o.pt ≠ 0 then (Ob0, zF9 o.pt) else if zF8 s.sizes o.seg o.at_ (zF4 o.pt) = false then (Ob0, 20) else (o, 0)
theorem qR9 (s : Src) (p : Pt) (seg at_ : Int) : zB4 s p seg at_ = bndS s (objP p seg at_) := rfl
def dblS (s : Src) (p : Pt) : Ob × Int :=
  if (s.word p.seg p.off).2 ≠ 0 then (Ob0, (s.word p.seg p.off).2)
  else if (s.word p.seg (p.off + 1)).2 ≠ 0 then (Ob0, (s.word p.seg (p.off + 1)).2)
  else if decE (s.word p.seg p.off).1 ≠ 0 then (Ob0, decE (s.word p.seg p.off).1)
  else if decE (s.word p.seg (p.off + 1)).1 ≠ 0 then (Ob0, decE (s.word p.seg (p.off + 1)).1)
  else if (decP (s.word p.seg p.off).1).kind ≠ 3 ∨ (decP (s.word p.seg p.off).1).dbl = true ∨ zH4 (decP (s.word p.seg (p.off + 1)).1) = false ∨ (decP (s.word p.seg (p.off + 1)).1).off ≠ 0 then (Ob0, 23)
  else (objP (decP (s.word p.seg (p.off + 1)).1) (decP (s.word p.seg p.off).1).seg (decP (s.word p.seg p.off).1).off, 0)
theorem qS0 (s : Src) (p : Pt) : zD6 s p = if (dblS s p).2 ≠ 0 then (Ob0, (dblS s p).2) else bndS s (dblS s p).1 := by
  unfold zD6 dblS
  split
  · rfl
  · split
    · rfl
    · split
      · rfl
      · split
        · rfl
        · split
          · rfl
          · rfl
structure ObW (o : Ob) : Prop where
  seg : -9223372036854775808 ≤ o.seg ∧ o.seg ≤ 9223372036854775807
  at_ : -9223372036854775808 ≤ o.at_ ∧ o.at_ ≤ 9223372036854775807
  pt : PtR o.pt
theorem yL4 {p : Pt} (h : PtR p) {seg at_ : Int} (h1 : inR .i64 seg) (h2 : inR .i64 at_) : ObW (objP p seg at_) := ⟨h1, h2, h.of⟩
section
variable {P : Program} {fw : FuncId} {w : World} {ua uh : Value} {b : Bool} {A : List (List Int)} {s : Src}
theorem SrcR.dbl_W (H : SrcR P fw w ua b uh A s) (p : Pt) : ObW (dblS s p).1 := by
  have hz : ObW Ob0 := ⟨by simp [Ob0], by simp [Ob0], zV3⟩
  obtain ⟨n1, n2, -, -⟩ := H.num p.seg p.off
  obtain ⟨n3, n4, -, -⟩ := H.num p.seg (p.off + 1)
  have hq := zH7 _ n1 n2
  have hr := zH7 _ n3 n4
  have h1 := hq.seg
  have h2 := hq.off
  unfold dblS
  (repeat' split) <;> first | exact hz | exact yL4 hr (by simp only [inR]; omega) (by simp only [inR]; omega)
end
theorem yL5 (x : Int) (q : Nat) (h0 : 0 ≤ x) (h1 : x ≤ 18446744073709551615) : 0 ≤ x / 2 ^ (8 * q) ∧ x / 2 ^ (8 * q) ≤ 18446744073709551615 := by
  have hp : (0 : Int) < 2 ^ (8 * q) := Int.pow_pos (by decide)
  refine ⟨Int.ediv_nonneg h0 (Int.le_of_lt hp), ?_⟩
  exact Int.le_trans (Int.ediv_le_self _ h0) h1
theorem yQ8 (x : Int) (q : Nat) : x / 2 ^ (8 * q) / 256 = x / 2 ^ (8 * (q + 1)) := by
  rw [Int.ediv_ediv_of_nonneg (Int.le_of_lt (Int.pow_pos (by decide))), show 8 * (q + 1) = 8 * q + 8 from by omega, Int.pow_add]
  rfl
mutual
def Nd.beq : Nd → Nd → Bool
  | .mk k s w b ks, .mk k' s' w' b' ks' => decide (k = k') && decide (s = s') && decide (w = w') && decide (b = b') && Nd.beqs ks ks'
def Nd.beqs : List Nd → List Nd → Bool
  | [], [] => true
  | [], _ :: _ => false
  | _ :: _, [] => false
  | t :: ts, u :: us => t.beq u && Nd.beqs ts us
end
mutual
theorem Nd.beq_iff : ∀ (t u : Nd), t.beq u = true ↔ t = u
  | .mk k s w b ks, .mk k' s' w' b' ks' => by
    simp only [Nd.beq, Bool.and_eq_true, decide_eq_true_eq, Nd.mk.injEq, Nd.beqs_iff ks ks', and_assoc]
theorem Nd.beqs_iff : ∀ (t u : List Nd), Nd.beqs t u = true ↔ t = u
  | [], [] => by simp [Nd.beqs]
  | [], _ :: _ => by simp [Nd.beqs]
  | _ :: _, [] => by simp [Nd.beqs]
  | t :: ts, u :: us => by
    simp only [Nd.beqs, Bool.and_eq_true, List.cons.injEq, Nd.beq_iff t u, Nd.beqs_iff ts us]
end
theorem Nd.beqs_all : ∀ (t u : List Nd), (decide (t.length = u.length) && (List.range t.length).all fun i => (t.getD i (.mk 0 0 [] [] [])).beq (u.getD i (.mk 0 0 [] [] []))) = Nd.beqs t u
  | [], [] => by simp [Nd.beqs]
  | [], _ :: _ => by simp [Nd.beqs]
  | _ :: _, [] => by simp [Nd.beqs]
  | t :: ts, u :: us => by
    rw [Nd.beqs, ← Nd.beqs_all ts us, List.length_cons, List.length_cons, List.range_succ_eq_map, List.all_cons, List.all_map]
    have h : decide (ts.length + 1 = us.length + 1) = decide (ts.length = us.length) := by
      by_cases h : ts.length = us.length
      · rw [decide_eq_true h, decide_eq_true (by omega)]
      · rw [decide_eq_false h, decide_eq_false (by omega)]
    rw [h]
    show (decide (ts.length = us.length) && (t.beq u && (List.range ts.length).all fun i => (ts.getD i (.mk 0 0 [] [] [])).beq (us.getD i (.mk 0 0 [] [] [])))) = _
    cases decide (ts.length = us.length) <;> cases t.beq u <;> simp
theorem qS1 {n k : Nat} {p : Nat → Bool} (hk : k < n) (h : p k = false) : (List.range n).all p = false := by
  rw [List.all_eq_false]
  exact ⟨k, List.mem_range.2 hk, by rw [h]; decide⟩
theorem qN3 {n : Nat} {p : Nat → Bool} (h : ∀ j, j < n → p j = true) : (List.range n).all p = true := by
  rw [List.all_eq_true]
  exact fun j hj => h j (List.mem_range.1 hj)
end Go.Proofs.YtkkbbhpbcfcplaaGreat.K
namespace Go.Proofs.YtkkbbhpbcfcplaaGreat.K
open Go Go.RowKit Go.Proofs
attribute [local irreducible] Run1 OpG WL W AO zB6
theorem zW1 (w : World) {u : Value} {A : List (List Int)} (hA : zG2 w u A) (hn : A.length ≤ 8796093022208) : Calls Tryz.prog 65 #[u] w (Ret fun v w' => ∃ ad c, v = .slice ad A.length c ∧ RowAt w' 1 ad A.length ((zB3 A).map (.int .i64)) ∧ Grow w w') := by
 obtain ⟨ada, ca, segs, sa, sc, rfl, hca, hca2, RA, hsf, hrf⟩ := hA.fn
 have G := Grow.rfl' w
 refine zC2 Tryz.func65 Tryz.ntmps65 Tryz.results65 rfl rfl ?_
 refine qZ 14 ?_
 refine zF5 (fun m_ e_ w_ => ∃ (k : Nat) (ad3 : Option Addr) (n3 : Nat) (c3 : Nat), m_ = A.length - k ∧ Fr [(0, .slice ada A.length ca), (2, .slice none 0 0), (3, .slice ad3 n3 c3), (4, .int .i64 (k : Int))] e_ ∧ (k ≤ A.length) ∧ (w_.ownsRow w.heap.size 3 1 (.slice ad3 n3 c3) k ((zB3 (A.take k)).map (.int .i64))) ∧ Grow w w_) _ ⟨0, none, 0, 0, rfl, zC6 ⟨rfl, rfl, rfl, rfl, trivial⟩, by omega, World.ownsRow_nil _ _ _ _, G⟩ ?_
 clear G
 rintro m_ e_ w1 ⟨k, ad3, n3, c3, rfl, ⟨e2, rfl⟩, hk, own, G⟩
 refine qZ 6 ?_
 refine stp (zF6 rfl rfl ?_)
 refine zA6 ?_
 refine zA2 (b := (decide ((k : Int) < (A.length : Int)))) rfl (fun hlt => ?_) (fun hlt => ?_)
 ·
  replace hlt := qT hlt
  have hi : k < A.length := by omega
  have hlk := (hrf k hi).2.2.lim
  refine qZ 7 ?_
  refine stp (zC8 (RA.grow G) rfl rfl ?_ ?_); omega
  refine stp (zC5 (v := .slice (sa k) (len2 A k) (sc k)) (m := 0) (RA.grow G) rfl (by rw [Nat.mul_one]; exact hsf _ (by omega)) ?_)
  refine qZ 1 ?_
  refine stp (zC3 (cs := #[.int .i64 ((len2 A k) : Int)]) (el := 3) (fun w => by kernel_rfl) ?_)
  intro bs3 w4 hb5 hc6 g7
  have hge8 := Nat.le_trans G.size hb5
  replace own := zB7 own g7
  replace G := G.tr g7
  clear g7
  refine stp (zG1 rfl rfl rfl rfl own (Row.of_block (n := 1) hc6 rfl rfl (by omega)) (fun q_ hq_ => by simp at hq_; subst hq_; rfl) (by simp only [maxLen]; omega) (by omega) G.size ?_)
  intro v9 w10 own6 gr6
  replace G := G.grown gr6 (zH8 own)
  clear own gr6
  obtain ⟨ad4, n4, c4, rfl⟩ := zE0 own6
  refine qZ 4 ?_
  refine stp (zB5 rfl rfl ?_ ?_); constructor <;> omega
  refine qZ 2 ?_
  refine ⟨_, ?_, k + 1, ad4, n4, c4, rfl, zC6 ⟨rfl, rfl, rfl, congrArg (Value.int .i64) (by omega), trivial⟩, by omega, (by rw [qH3 hi, List.map_append]; exact own6), G⟩
  omega
 ·
  replace hlt := qF hlt
  have hk2 : k = A.length := by omega
  subst hk2
  rw [List.take_length] at own
  obtain ⟨ad9, c9, hs9, -, -, R9⟩ := zI3 own (by omega)
  simp only [Value.slice.injEq] at hs9
  obtain ⟨rfl, rfl, rfl⟩ := hs9
  refine qZ 7 ?_
  refine ret1 (zA1 (v := .slice ad3 A.length c3) rfl) ⟨_, _, rfl, R9, G⟩
theorem qW7 (w : World) {ad : Option Addr} {c : Nat} {A : List (List Int)} (R : RowAt w 1 ad A.length ((zB3 A).map (.int .i64))) (hs : ∀ i, len2 A i ≤ 140737488355328) : zB6 Tryz.prog 64 #[.slice ad A.length c] w (.bool (zC7 A)) := by
 have hl := zF0 A
 have lm := R.lim
 have G := Grow.rfl' w
 refine zA8 Tryz.func64 Tryz.ntmps64 Tryz.results64 rfl rfl ?_
 refine qZ 9 ?_
 refine stp (zF6 rfl rfl ?_)
 refine qZ 1 ?_
 refine qG 2 ?_
 refine zA3 (zB2 (s := .bool _) (v := .bool (decide ((A.length : Int) > 16))) rfl (zE3 _) (fun hc3 => ?_) ?_)
 ·
  have hc3_ := hc3
  try simp only [sb] at hc3_
  refine zN7 (gvt hc3) rfl ?_
  exact ⟨rfl, rfl⟩
 refine stp (zH6 rfl rfl rfl ?_)
 refine qZ 1 ?_
 refine qG 1 ?_
 refine zA3 (zB2 (s := .bool _) (v := .pointer (some (eadr ad ((0 : Int).toNat * 1)))) rfl (zE3 _) (fun hc5 => ?_) ?_)
 ·
  have hc5_ := hc5
  try simp only [sb] at hc5_
  refine zE7 (R.grow G) (gvt hc5) rfl ?_ ?_ ?_; omega; omega
  exact ⟨rfl, rfl⟩
 refine zA3 (zB2 (s := .bool _) (v := .int .i64 ((zB3 A).getD 0 0)) rfl (zE3 _) (fun hc6 => ?_) ?_)
 ·
  have hc6_ := hc6
  try simp only [sb] at hc6_
  refine zC5 (v := .int .i64 ((zB3 A).getD 0 0)) (m := 0) (R.grow G) (gvt hc6) (show _ from zE6 (j := 0) 0 (by omega)) ?_
  exact ⟨rfl, rfl⟩
 refine zA3 (zB2 (s := .bool _) (v := .bool (decide (((zB3 A).getD 0 0) < 1))) rfl (zE3 _) (fun hc7 => ?_) ?_)
 ·
  have hc7_ := hc7
  try simp only [sb] at hc7_
  refine zF6 (gvt hc7) rfl ?_
  exact ⟨rfl, rfl⟩
 refine stp (zH6 rfl rfl rfl ?_)
 refine zA6 ?_
 refine zA2 (b := (((decide ((A.length : Int) < 1)) || (decide ((A.length : Int) > 16))) || (decide (((zB3 A).getD 0 0) < 1)))) rfl (fun h1 => ?_) (fun h1 => ?_)
 ·
  simp only [sb] at h1
  have hg0 := zH3 A 0
  refine qZ 5 ?_
  have h9 : zC7 A = false := by unfold zC7; exact decide_eq_false (by omega)
  refine ret1 (zA1 (v := .bool false) rfl) ⟨?_, G⟩
  rw [h9]
 ·
  simp only [sb] at h1
  have hg0 := zH3 A 0
  have h1' : 1 ≤ A.length ∧ A.length ≤ 16 ∧ 1 ≤ len2 A 0 := by omega
  clear h1
  refine qZ 11 ?_
  refine zF5 (fun m_ e_ w_ => ∃ (k : Nat), m_ = A.length - k ∧ Fr [(0, .slice ad A.length c), (3, .int .i64 (zC4 (A.take k))), (4, .int .i64 (k : Int))] e_ ∧ (k ≤ A.length) ∧ (zC4 (A.take k) ≤ 4096) ∧ Grow w w_) _ ⟨0, rfl, zC6 ⟨rfl, rfl, rfl, trivial⟩, by omega, by simp [zC4], G⟩ ?_
  clear G
  rintro m_ e_ w8 ⟨k, rfl, ⟨e9, rfl⟩, hk, htk, G⟩
  have ht3 := zN1 (A.take k)
  refine qZ 6 ?_
  refine stp (zF6 rfl rfl ?_)
  refine zA6 ?_
  refine zA2 (b := (decide ((k : Int) < (A.length : Int)))) rfl (fun hlt => ?_) (fun hlt => ?_)
  ·
   replace hlt := qT hlt
   have hi : k < A.length := by omega
   have hg := zH3 A k
   have hlk := hs k
   have ht1 := zY5 hi
   have ht2 := qP5 (A := A) (k + 1)
   have hak : ((A[k].length : Nat) : Int) = (len2 A k : Int) := by simp only [len2]; rw [zE5 hi]
   refine qZ 8 ?_
   refine stp (zC8 (R.grow G) rfl rfl ?_ ?_); omega
   refine stp (zC5 (v := .int .i64 ((zB3 A).getD k 0)) (m := 0) (R.grow G) rfl (zE6 0 (by omega)) ?_)
   refine stp (zF6 rfl rfl ?_)
   refine qZ 1 ?_
   refine qG 2 ?_
   refine zA3 (zB2 (s := .bool _) (v := .pointer (some (eadr ad (k * 1)))) rfl (zE3 _) (fun hc12 => ?_) ?_)
   ·
    have hc12_ := hc12
    try simp only [sb] at hc12_
    refine zC8 (R.grow G) (gvt hc12) (gvt hc12) ?_ ?_; omega
    exact ⟨rfl, rfl⟩
   refine zA3 (zB2 (s := .bool _) (v := .int .i64 ((zB3 A).getD k 0)) rfl (zE3 _) (fun hc13 => ?_) ?_)
   ·
    have hc13_ := hc13
    try simp only [sb] at hc13_
    refine zC5 (v := .int .i64 ((zB3 A).getD k 0)) (m := 0) (R.grow G) (gvt hc13) (zE6 0 (by omega)) ?_
    exact ⟨rfl, rfl⟩
   refine qG 1 ?_
   refine zA3 (zB2 (s := .bool _) (v := .int .i64 (4096 - (zC4 (A.take k)))) rfl (zE3 _) (fun hc15 => ?_) ?_)
   ·
    have hc15_ := hc15
    try simp only [sb] at hc15_
    refine zM9 rfl (gvt hc15) ?_ ?_; constructor <;> omega
    exact ⟨rfl, rfl⟩
   refine zA3 (zB2 (s := .bool _) (v := .bool (decide (((zB3 A).getD k 0) > (4096 - (zC4 (A.take k)))))) rfl (zE3 _) (fun hc16 => ?_) ?_)
   ·
    have hc16_ := hc16
    try simp only [sb] at hc16_
    refine zN7 (gvt hc16) (gvt hc16) ?_
    exact ⟨rfl, rfl⟩
   refine stp (zH6 rfl rfl rfl ?_)
   refine zA6 ?_
   refine zA2 (b := ((decide (((zB3 A).getD k 0) < 0)) || (decide (((zB3 A).getD k 0) > (4096 - (zC4 (A.take k))))))) rfl (fun h3 => ?_) (fun h3 => ?_)
   ·
    simp only [sb] at h3
    refine qZ 5 ?_
    have h9 : zC7 A = false := by unfold zC7; exact decide_eq_false (by omega)
    refine ret1 (zA1 (v := .bool false) rfl) ⟨?_, G⟩
    rw [h9]
   ·
    simp only [sb] at h3
    refine qZ 5 ?_
    refine stp (zC8 (R.grow G) rfl rfl ?_ ?_); omega
    refine stp (zC5 (v := .int .i64 ((zB3 A).getD k 0)) (m := 0) (R.grow G) rfl (zE6 0 (by omega)) ?_)
    refine stp (zB5 rfl rfl ?_ ?_); constructor <;> omega
    refine qZ 4 ?_
    refine stp (zB5 rfl rfl ?_ ?_); constructor <;> omega
    refine qZ 2 ?_
    refine ⟨_, ?_, k + 1, rfl, zC6 ⟨rfl, congrArg (Value.int .i64) (by omega), rfl, trivial⟩, by omega, by omega, G⟩
    omega
  ·
   replace hlt := qF hlt
   have hk2 : k = A.length := by omega
   subst hk2
   rw [List.take_length] at htk
   refine qZ 6 ?_
   have h9 : zC7 A = true := by unfold zC7; exact decide_eq_true (by omega)
   refine ret1 (zA1 (v := .bool true) rfl) ⟨?_, G⟩
   rw [h9]
theorem qN4 (w : World) {u : Value} {A : List (List Int)} (hA : zG2 w u A) (hn : A.length ≤ 8796093022208) : zB6 Tryz.prog 34 #[u] w (.bool (zC7 A)) := by
 have hA0 := hA
 obtain ⟨ada, ca, segs, sa, sc, rfl, hca, hca2, RA, hsf, hrf⟩ := hA.fn
 have hs : ∀ i, len2 A i ≤ 140737488355328 := fun i => by by_cases hi : i < A.length; exact (hrf i hi).2.2.lim; (have := zR8 (A := A) (j := i) (by omega); omega)
 have G := Grow.rfl' w
 refine zA8 Tryz.func34 Tryz.ntmps34 Tryz.results34 rfl rfl ?_
 refine qZ 7 ?_
 refine stp ?_
 refine zD7 rfl (zW1 _ (hA0.grow G) hn) ?_
 rintro v_ w1 ⟨ad9, c9, rfl, RZ, g_⟩
 replace G := G.tr g_
 clear g_
 refine stp (zA4 (v := .bool (zC7 A)) rfl (qW7 _ RZ hs) ?_)
 intro w2 g3
 replace RZ := RZ.grow g3
 replace G := G.tr g3
 clear g3
 refine qZ 3 ?_
 refine ret1 (zA1 (v := .bool (zC7 A)) rfl) ⟨?_, G⟩
 rfl
theorem qB8 (w : World) {ad : Option Addr} {c : Nat} {sz : List Int} {seg a n : Int} (R : RowAt w 1 ad sz.length (sz.map (.int .i64))) (hs : ∀ i, 0 ≤ sz.getD i 0 ∧ sz.getD i 0 ≤ 140737488355328) : zB6 Tryz.prog 130 #[.slice ad sz.length c, .int .i64 seg, .int .i64 a, .int .i64 n] w (.bool (zF8 sz seg a n)) := by
 have ll := R.lim
 have h9 := hs seg.toNat
 have G := Grow.rfl' w
 refine zA8 Tryz.func130 Tryz.ntmps130 Tryz.results130 rfl rfl ?_
 refine qZ 7 ?_
 refine stp (zP7 rfl rfl ?_)
 refine qZ 1 ?_
 refine qG 3 ?_
 refine zA3 (zB2 (s := .bool _) (v := .bool (decide (seg < (sz.length : Int)))) rfl (zE2 _) (fun hc4 => ?_) ?_)
 ·
  have hc4_ := qT hc4
  refine zF6 (gvt hc4) (gvt hc4) ?_
  exact ⟨rfl, rfl⟩
 refine stp (zG8 rfl rfl rfl ?_)
 refine qZ 1 ?_
 refine qG 1 ?_
 refine zA3 (zB2 (s := .bool _) (v := .bool (decide (a ≥ 0))) rfl (zE2 _) (fun hc6 => ?_) ?_)
 ·
  obtain ⟨hc6a, hc6b⟩ := and_t hc6
  have hc6a_ := qT hc6a
  have hc6b_ := qT hc6b
  refine zP7 (gvt hc6) rfl ?_
  exact ⟨rfl, rfl⟩
 refine stp (zG8 rfl rfl rfl ?_)
 refine qZ 1 ?_
 refine zA3 (zB2 (s := .bool _) (v := .int .i64 n) rfl (zE2 _) (fun hc7 => ?_) ?_)
 ·
  obtain ⟨hc7a, hc7b⟩ := and_t hc7
  obtain ⟨hc7aa, hc7ab⟩ := and_t hc7a
  have hc7aa_ := qT hc7aa
  have hc7ab_ := qT hc7ab
  have hc7b_ := qT hc7b
  refine zD3 rfl ?_
  exact ⟨rfl, rfl⟩
 refine zA3 (zB2 (s := .bool _) (v := .bool (decide (n ≥ 0))) rfl (zE2 _) (fun hc8 => ?_) ?_)
 ·
  obtain ⟨hc8a, hc8b⟩ := and_t hc8
  obtain ⟨hc8aa, hc8ab⟩ := and_t hc8a
  have hc8aa_ := qT hc8aa
  have hc8ab_ := qT hc8ab
  have hc8b_ := qT hc8b
  refine zP7 (gvt hc8) rfl ?_
  exact ⟨rfl, rfl⟩
 refine stp (zG8 rfl rfl rfl ?_)
 refine qZ 1 ?_
 refine zA3 (zB2 (s := .bool _) (v := .int .i64 a) rfl (zE2 _) (fun hc9 => ?_) ?_)
 ·
  obtain ⟨hc9a, hc9b⟩ := and_t hc9
  obtain ⟨hc9aa, hc9ab⟩ := and_t hc9a
  obtain ⟨hc9aaa, hc9aab⟩ := and_t hc9aa
  have hc9aaa_ := qT hc9aaa
  have hc9aab_ := qT hc9aab
  have hc9ab_ := qT hc9ab
  have hc9b_ := qT hc9b
  refine zD3 rfl ?_
  exact ⟨rfl, rfl⟩
 refine zA3 (zB2 (s := .bool _) (v := .slice ad sz.length c) rfl (zE2 _) (fun hc10 => ?_) ?_)
 ·
  obtain ⟨hc10a, hc10b⟩ := and_t hc10
  obtain ⟨hc10aa, hc10ab⟩ := and_t hc10a
  obtain ⟨hc10aaa, hc10aab⟩ := and_t hc10aa
  have hc10aaa_ := qT hc10aaa
  have hc10aab_ := qT hc10aab
  have hc10ab_ := qT hc10ab
  have hc10b_ := qT hc10b
  refine zH9 rfl ?_
  exact ⟨rfl, rfl⟩
 refine zA3 (zB2 (s := .bool _) (v := .int .i64 seg) rfl (zE2 _) (fun hc11 => ?_) ?_)
 ·
  obtain ⟨hc11a, hc11b⟩ := and_t hc11
  obtain ⟨hc11aa, hc11ab⟩ := and_t hc11a
  obtain ⟨hc11aaa, hc11aab⟩ := and_t hc11aa
  have hc11aaa_ := qT hc11aaa
  have hc11aab_ := qT hc11aab
  have hc11ab_ := qT hc11ab
  have hc11b_ := qT hc11b
  refine zD3 rfl ?_
  exact ⟨rfl, rfl⟩
 refine zA3 (zB2 (s := .bool _) (v := .pointer (some (eadr ad ((seg).toNat * 1)))) rfl (zE2 _) (fun hc12 => ?_) ?_)
 ·
  obtain ⟨hc12a, hc12b⟩ := and_t hc12
  obtain ⟨hc12aa, hc12ab⟩ := and_t hc12a
  obtain ⟨hc12aaa, hc12aab⟩ := and_t hc12aa
  have hc12aaa_ := qT hc12aaa
  have hc12aab_ := qT hc12aab
  have hc12ab_ := qT hc12ab
  have hc12b_ := qT hc12b
  refine zE7 (R.grow G) (gvt hc12) (gvt hc12) ?_ ?_ ?_; omega; omega
  exact ⟨rfl, rfl⟩
 refine zA3 (zB2 (s := .bool _) (v := .int .i64 (sz.getD seg.toNat 0)) rfl (zE2 _) (fun hc13 => ?_) ?_)
 ·
  obtain ⟨hc13a, hc13b⟩ := and_t hc13
  obtain ⟨hc13aa, hc13ab⟩ := and_t hc13a
  obtain ⟨hc13aaa, hc13aab⟩ := and_t hc13aa
  have hc13aaa_ := qT hc13aaa
  have hc13aab_ := qT hc13aab
  have hc13ab_ := qT hc13ab
  have hc13b_ := qT hc13b
  refine zC5 (v := .int .i64 (sz.getD seg.toNat 0)) (m := 0) (R.grow G) (gvt hc13) (by rw [Nat.mul_one]; exact zY6 0 (by omega)) ?_
  exact ⟨rfl, rfl⟩
 refine zA3 (zB2 (s := .bool _) (v := .bool (decide (a ≤ (sz.getD seg.toNat 0)))) rfl (zE2 _) (fun hc14 => ?_) ?_)
 ·
  obtain ⟨hc14a, hc14b⟩ := and_t hc14
  obtain ⟨hc14aa, hc14ab⟩ := and_t hc14a
  obtain ⟨hc14aaa, hc14aab⟩ := and_t hc14aa
  have hc14aaa_ := qT hc14aaa
  have hc14aab_ := qT hc14aab
  have hc14ab_ := qT hc14ab
  have hc14b_ := qT hc14b
  refine zU7 (gvt hc14) (gvt hc14) ?_
  exact ⟨rfl, rfl⟩
 refine stp (zG8 rfl rfl rfl ?_)
 refine qZ 1 ?_
 refine zA3 (zB2 (s := .bool _) (v := .int .i64 n) rfl (zE2 _) (fun hc15 => ?_) ?_)
 ·
  obtain ⟨hc15a, hc15b⟩ := and_t hc15
  obtain ⟨hc15aa, hc15ab⟩ := and_t hc15a
  obtain ⟨hc15aaa, hc15aab⟩ := and_t hc15aa
  obtain ⟨hc15aaaa, hc15aaab⟩ := and_t hc15aaa
  have hc15aaaa_ := qT hc15aaaa
  have hc15aaab_ := qT hc15aaab
  have hc15aab_ := qT hc15aab
  have hc15ab_ := qT hc15ab
  have hc15b_ := qT hc15b
  refine zD3 rfl ?_
  exact ⟨rfl, rfl⟩
 refine zA3 (zB2 (s := .bool _) (v := .slice ad sz.length c) rfl (zE2 _) (fun hc16 => ?_) ?_)
 ·
  obtain ⟨hc16a, hc16b⟩ := and_t hc16
  obtain ⟨hc16aa, hc16ab⟩ := and_t hc16a
  obtain ⟨hc16aaa, hc16aab⟩ := and_t hc16aa
  obtain ⟨hc16aaaa, hc16aaab⟩ := and_t hc16aaa
  have hc16aaaa_ := qT hc16aaaa
  have hc16aaab_ := qT hc16aaab
  have hc16aab_ := qT hc16aab
  have hc16ab_ := qT hc16ab
  have hc16b_ := qT hc16b
  refine zH9 rfl ?_
  exact ⟨rfl, rfl⟩
 refine zA3 (zB2 (s := .bool _) (v := .int .i64 seg) rfl (zE2 _) (fun hc17 => ?_) ?_)
 ·
  obtain ⟨hc17a, hc17b⟩ := and_t hc17
  obtain ⟨hc17aa, hc17ab⟩ := and_t hc17a
  obtain ⟨hc17aaa, hc17aab⟩ := and_t hc17aa
  obtain ⟨hc17aaaa, hc17aaab⟩ := and_t hc17aaa
  have hc17aaaa_ := qT hc17aaaa
  have hc17aaab_ := qT hc17aaab
  have hc17aab_ := qT hc17aab
  have hc17ab_ := qT hc17ab
  have hc17b_ := qT hc17b
  refine zD3 rfl ?_
  exact ⟨rfl, rfl⟩
 refine zA3 (zB2 (s := .bool _) (v := .pointer (some (eadr ad ((seg).toNat * 1)))) rfl (zE2 _) (fun hc18 => ?_) ?_)
 ·
  obtain ⟨hc18a, hc18b⟩ := and_t hc18
  obtain ⟨hc18aa, hc18ab⟩ := and_t hc18a
  obtain ⟨hc18aaa, hc18aab⟩ := and_t hc18aa
  obtain ⟨hc18aaaa, hc18aaab⟩ := and_t hc18aaa
  have hc18aaaa_ := qT hc18aaaa
  have hc18aaab_ := qT hc18aaab
  have hc18aab_ := qT hc18aab
  have hc18ab_ := qT hc18ab
  have hc18b_ := qT hc18b
  refine zE7 (R.grow G) (gvt hc18) (gvt hc18) ?_ ?_ ?_; omega; omega
  exact ⟨rfl, rfl⟩
 refine zA3 (zB2 (s := .bool _) (v := .int .i64 (sz.getD seg.toNat 0)) rfl (zE2 _) (fun hc19 => ?_) ?_)
 ·
  obtain ⟨hc19a, hc19b⟩ := and_t hc19
  obtain ⟨hc19aa, hc19ab⟩ := and_t hc19a
  obtain ⟨hc19aaa, hc19aab⟩ := and_t hc19aa
  obtain ⟨hc19aaaa, hc19aaab⟩ := and_t hc19aaa
  have hc19aaaa_ := qT hc19aaaa
  have hc19aaab_ := qT hc19aaab
  have hc19aab_ := qT hc19aab
  have hc19ab_ := qT hc19ab
  have hc19b_ := qT hc19b
  refine zC5 (v := .int .i64 (sz.getD seg.toNat 0)) (m := 0) (R.grow G) (gvt hc19) (by rw [Nat.mul_one]; exact zY6 0 (by omega)) ?_
  exact ⟨rfl, rfl⟩
 refine zA3 (zB2 (s := .bool _) (v := .int .i64 a) rfl (zE2 _) (fun hc20 => ?_) ?_)
 ·
  obtain ⟨hc20a, hc20b⟩ := and_t hc20
  obtain ⟨hc20aa, hc20ab⟩ := and_t hc20a
  obtain ⟨hc20aaa, hc20aab⟩ := and_t hc20aa
  obtain ⟨hc20aaaa, hc20aaab⟩ := and_t hc20aaa
  have hc20aaaa_ := qT hc20aaaa
  have hc20aaab_ := qT hc20aaab
  have hc20aab_ := qT hc20aab
  have hc20ab_ := qT hc20ab
  have hc20b_ := qT hc20b
  refine zD3 rfl ?_
  exact ⟨rfl, rfl⟩
 refine zA3 (zB2 (s := .bool _) (v := .int .i64 ((sz.getD seg.toNat 0) - a)) rfl (zE2 _) (fun hc21 => ?_) ?_)
 ·
  obtain ⟨hc21a, hc21b⟩ := and_t hc21
  obtain ⟨hc21aa, hc21ab⟩ := and_t hc21a
  obtain ⟨hc21aaa, hc21aab⟩ := and_t hc21aa
  obtain ⟨hc21aaaa, hc21aaab⟩ := and_t hc21aaa
  have hc21aaaa_ := qT hc21aaaa
  have hc21aaab_ := qT hc21aaab
  have hc21aab_ := qT hc21aab
  have hc21ab_ := qT hc21ab
  have hc21b_ := qT hc21b
  refine zM9 (gvt hc21) (gvt hc21) ?_ ?_; constructor <;> omega
  exact ⟨rfl, rfl⟩
 refine zA3 (zB2 (s := .bool _) (v := .bool (decide (n ≤ ((sz.getD seg.toNat 0) - a)))) rfl (zE2 _) (fun hc22 => ?_) ?_)
 ·
  obtain ⟨hc22a, hc22b⟩ := and_t hc22
  obtain ⟨hc22aa, hc22ab⟩ := and_t hc22a
  obtain ⟨hc22aaa, hc22aab⟩ := and_t hc22aa
  obtain ⟨hc22aaaa, hc22aaab⟩ := and_t hc22aaa
  have hc22aaaa_ := qT hc22aaaa
  have hc22aaab_ := qT hc22aaab
  have hc22aab_ := qT hc22aab
  have hc22ab_ := qT hc22ab
  have hc22b_ := qT hc22b
  refine zU7 (gvt hc22) (gvt hc22) ?_
  exact ⟨rfl, rfl⟩
 refine stp (zG8 rfl rfl rfl ?_)
 refine qZ 3 ?_
 refine ret1 (zA1 (v := .bool ((((((decide (seg ≥ 0)) && (decide (seg < (sz.length : Int)))) && (decide (a ≥ 0))) && (decide (n ≥ 0))) && (decide (a ≤ (sz.getD seg.toNat 0)))) && (decide (n ≤ ((sz.getD seg.toNat 0) - a))))) rfl) ⟨?_, G⟩
 congr 1; rw [Bool.eq_iff_iff]; unfold zF8 zJ2; simp only [Bool.and_eq_true, decide_eq_true_eq]; constructor <;> (intro h; omega)
theorem qS2 (w : World) {u : Value} {A : List (List Int)} {seg a : Int} (hA : zG2 w u A) (hn : A.length ≤ 8796093022208) : zB6 Tryz.prog 107 #[u, .int .i64 seg, .int .i64 a] w (.tuple #[.int .u64 ((zH1 A seg a).1), .int .i64 ((zH1 A seg a).2)]) := by
 have hA0 := hA
 obtain ⟨ada, ca, segsa, sa, sca, rfl, -, -, RA, hsa, hra⟩ := hA.fn
 have la := RA.lim
 have hwo := yF0 (A := A) (seg := seg) (at_ := a)
 have hs : ∀ i, 0 ≤ (zB3 A).getD i 0 ∧ (zB3 A).getD i 0 ≤ 140737488355328 := fun i => by rw [zH3]; by_cases hi : i < A.length; (have := (hra i hi).2.2.lim; omega); (have := zR8 (A := A) (j := i) (by omega); omega)
 have G := Grow.rfl' w
 refine zA8 Tryz.func107 Tryz.ntmps107 Tryz.results107 rfl rfl ?_
 refine qZ 9 ?_
 refine stp ?_
 refine zD7 rfl (zW1 _ (hA0.grow G) hn) ?_
 rintro v_ w1 ⟨ad9, c9, rfl, RZ, g_⟩
 replace G := G.tr g_
 clear g_
 refine qZ 2 ?_
 refine stp (zA4 (v := .bool (decide (0 ≤ seg ∧ seg < A.length ∧ 0 ≤ a ∧ a < len2 A seg.toNat))) rfl ((by have h_ := qB8 w1 (c := c9) (seg := seg) (a := a) (n := 1) (by rw [zF0]; exact RZ) hs; rw [hwo, zF0] at h_; exact h_)) ?_)
 intro w2 g3
 replace RZ := RZ.grow g3
 replace G := G.tr g3
 clear g3
 refine stp (zN8 rfl ?_)
 refine zA6 ?_
 refine zA2 (b := (!(decide (0 ≤ seg ∧ seg < A.length ∧ 0 ≤ a ∧ a < len2 A seg.toNat)))) rfl (fun h1 => ?_) (fun h1 => ?_)
 ·
  simp only [sb] at h1
  have h1' : ¬ (0 ≤ seg ∧ seg < A.length ∧ 0 ≤ a ∧ a < len2 A seg.toNat) := by simpa using h1
  refine qZ 6 ?_
  refine ret2 (zA1 (v := .int .u64 0) rfl) (zA1 (v := .int .i64 20) rfl) ⟨?_, G⟩
  have h9 : zH1 A seg a = (0, 20) := by unfold zH1; rw [if_neg h1']
  rw [h9]
 ·
  simp only [sb] at h1
  have h1' : 0 ≤ seg ∧ seg < A.length ∧ 0 ≤ a ∧ a < len2 A seg.toNat := by simpa using h1
  obtain ⟨-, -, Rk⟩ := hra seg.toNat (by omega)
  have lk := Rk.lim
  refine qZ 5 ?_
  refine stp (zE7 (RA.grow G) rfl rfl ?_ ?_ ?_); omega; omega
  refine stp (zC5 (v := .slice (sa seg.toNat) (len2 A seg.toNat) (sca seg.toNat)) (m := 0) (RA.grow G) rfl (by rw [Nat.mul_one]; exact hsa _ (by omega)) ?_)
  refine qZ 1 ?_
  refine stp (zE7 (Rk.grow G) rfl rfl ?_ ?_ ?_); omega; omega
  refine stp (zC5 (v := .int .u64 ((A.getD seg.toNat []).getD a.toNat 0)) (m := 0) (Rk.grow G) rfl (by rw [Nat.mul_one]; exact zY6 0 (by simp only [len2] at *; omega)) ?_)
  refine qZ 4 ?_
  refine ret2 (zA1 (v := .int .u64 ((A.getD seg.toNat []).getD a.toNat 0)) rfl) (zA1 (v := .int .i64 0) rfl) ⟨?_, G⟩
  have h9 : zH1 A seg a = ((A.getD seg.toNat []).getD a.toNat 0, 0) := by unfold zH1; rw [if_pos h1']
  rw [h9]
theorem qS3 (w : World) {ua uh : Value} {A : List (List Int)} {seg a : Int} (hA : zG2 w ua A) (hn : A.length ≤ 8796093022208) : zB6 Tryz.prog 72 #[.agg #[ua, .bool false, uh], .int .i64 seg, .int .i64 a] w (.tuple #[.int .u64 ((zH1 A seg a).1), .int .i64 ((zH1 A seg a).2)]) := by
 have G := Grow.rfl' w
 refine zA8 Tryz.func72 Tryz.ntmps72 Tryz.results72 rfl rfl ?_
 refine qZ 2 ?_
 refine stp ?_
 refine qC ?_
 intro b1 w2 hb3 hc4 g5
 have hge6 := Nat.le_trans G.size hb3
 replace G := G.tr g5
 clear g5 hb3
 refine qZ 9 ?_
 refine stp (zA4 (v := .tuple #[.int .u64 ((zH1 A seg a).1), .int .i64 ((zH1 A seg a).2)]) rfl (qS2 _ (hA.grow G) hn) ?_)
 intro w7 g8
 replace hc4 := g8.heap hc4
 replace G := G.tr g8
 clear g8
 refine qZ 10 ?_
 refine stp (zD5 rfl rfl ?_)
 refine qZ 1 ?_
 refine qG 2 ?_
 refine stp (zG8 rfl rfl rfl ?_)
 refine zA6 ?_
 refine zN5 (show _ = Value.bool false from congrArg Value.bool (by simp)) ?_
 refine qZ 9 ?_
 refine ret2 (zA1 (v := .int .u64 ((zH1 A seg a).1)) rfl) (zA1 (v := .int .i64 ((zH1 A seg a).2)) rfl) ⟨?_, G⟩
 rfl
theorem yF1 {w : World} {ua uh : Value} {A : List (List Int)} (hA : zG2 w ua A) (hl : A.length ≤ 1000000) (hx : ∀ q ∈ A, ∀ x ∈ q, inR .u64 x) (he : ∀ i, len2 A i ≤ 140737488355328) : SrcR Tryz.prog 72 w ua false uh A (zB0 A) :=
  ⟨hA, rfl, fun w' g seg a _ _ => qS3 w' (hA.grow g) (by omega), zV5 hx, fun seg a h => by
    show 0 ≤ seg ∧ seg < (zB3 A).length ∧ _
    have h2 : (zH1 A seg a).2 = 0 := h
    unfold zH1 at h2
    split at h2
    · rename_i hc; rw [zF0]; have := he seg.toNat; omega
    · simp at h2, hl, he⟩
theorem zW2 (w : World) (p : Pt) : zB6 Tryz.prog 99 #[.agg #[.int .i64 p.kind, .int .i64 p.off, .int .i64 p.data, .int .i64 p.ptrs, .int .i64 p.size, .int .i64 p.count, .int .i64 p.seg, .bool p.dbl]] w (.bool (zH4 p)) := by
 have G := Grow.rfl' w
 refine zA8 Tryz.func99 Tryz.ntmps99 Tryz.results99 rfl rfl ?_
 refine qZ 2 ?_
 refine stp ?_
 refine qC ?_
 intro b1 w2 hb3 hc4 g5
 have hge6 := Nat.le_trans G.size hb3
 replace G := G.tr g5
 clear g5 hb3
 refine qZ 6 ?_
 refine stp (zD5 rfl rfl ?_)
 refine qZ 1 ?_
 refine qG 2 ?_
 refine zA3 (zB2 (s := .bool _) (v := .bool (decide (p.kind = 2))) rfl (zE3 _) (fun hc9 => ?_) ?_)
 ·
  have hc9_ := hc9
  try simp only [sb] at hc9_
  refine zD5 (gvt hc9) rfl ?_
  exact ⟨rfl, rfl⟩
 refine stp (zH6 rfl rfl rfl ?_)
 refine qZ 3 ?_
 refine ret1 (zA1 (v := .bool ((decide (p.kind = 1)) || (decide (p.kind = 2)))) rfl) ⟨?_, G⟩
 rfl
theorem qD3 (w : World) (p : Pt) (seg a : Int) : zB6 Tryz.prog 101 #[.agg #[.int .i64 p.kind, .int .i64 p.off, .int .i64 p.data, .int .i64 p.ptrs, .int .i64 p.size, .int .i64 p.count, .int .i64 p.seg, .bool p.dbl], .int .i64 seg, .int .i64 a] w (.agg #[.int .i64 ((objP p seg a).kind), .int .i64 ((objP p seg a).seg), .int .i64 ((objP p seg a).at_), .int .i64 ((objP p seg a).data), .int .i64 ((objP p seg a).ptrs), .int .i64 ((objP p seg a).size), .int .i64 ((objP p seg a).count)]) := by
 have G := Grow.rfl' w
 refine zA8 Tryz.func101 Tryz.ntmps101 Tryz.results101 rfl rfl ?_
 refine qZ 2 ?_
 refine stp ?_
 refine qC ?_
 intro b1 w2 hb3 hc4 g5
 have hge6 := Nat.le_trans G.size hb3
 replace G := G.tr g5
 clear g5 hb3
 refine stp (zA7 ?_)
 intro b7 w8 hb9 hc10 g11
 refine qZ 4 ?_
 have hge12 := Nat.le_trans G.size hb9
 have ne13 := qN hc4 hb9
 replace hc4 := g11.heap hc4
 replace G := G.tr g11
 clear g11 hb9
 refine qZ 11 ?_
 refine stp (zA9 (v := .agg #[.int .i64 p.kind, .int .i64 seg, .int .i64 a, .int .i64 p.data, .int .i64 p.ptrs, .int .i64 p.size, .int .i64 p.count]) (fun w => by kernel_rfl) ?_)
 refine stn (qS hc10 ?_)
 intro w14 hc15 u16
 replace hc4 := u16.heap hc4 ne13
 replace G := G.upd u16 hge12
 clear u16 hc10
 refine qZ 2 ?_
 refine ret1 (zA5 rfl hc15 (by rfl)) ⟨?_, G⟩
 rfl
theorem qN5 (w : World) (o : Ob) : zB6 Tryz.prog 67 #[.agg #[.int .i64 o.kind, .int .i64 o.seg, .int .i64 o.at_, .int .i64 o.data, .int .i64 o.ptrs, .int .i64 o.size, .int .i64 o.count]] w (.int .i64 (zB8 o)) := by
 have G := Grow.rfl' w
 refine zA8 Tryz.func67 Tryz.ntmps67 Tryz.results67 rfl rfl ?_
 refine qZ 2 ?_
 refine stp ?_
 refine qC ?_
 intro b1 w2 hb3 hc4 g5
 have hge6 := Nat.le_trans G.size hb3
 replace G := G.tr g5
 clear g5 hb3
 refine qZ 7 ?_
 refine stp (zD5 rfl rfl ?_)
 refine zA6 ?_
 refine zA2 (b := (decide (o.kind = 3))) rfl (fun h1 => ?_) (fun h1 => ?_)
 ·
  replace h1 := qT h1
  refine qZ 5 ?_
  refine ret1 (zA1 (v := .int .i64 0) rfl) ⟨?_, G⟩
  simp [zB8, Ob.pt, *]
 ·
  replace h1 := qF h1
  refine qZ 13 ?_
  refine stp (zA9 (v := .agg #[.int .i64 o.kind, .int .i64 0, .int .i64 o.data, .int .i64 o.ptrs, .int .i64 o.size, .int .i64 o.count, .int .i64 0, .bool false]) (fun w => by kernel_rfl) ?_)
  refine stp (zA4 (v := .tuple #[.int .i64 (zF4 ⟨o.kind, 0, o.data, o.ptrs, o.size, o.count, 0, false⟩), .int .i64 (zF9 ⟨o.kind, 0, o.data, o.ptrs, o.size, o.count, 0, false⟩)]) rfl (qE3 _ ⟨o.kind, 0, o.data, o.ptrs, o.size, o.count, 0, false⟩) ?_)
  intro w7 g8
  replace hc4 := g8.heap hc4
  replace G := G.tr g8
  clear g8
  refine qZ 12 ?_
  refine ret1 (zA1 (v := .int .i64 (zF4 ⟨o.kind, 0, o.data, o.ptrs, o.size, o.count, 0, false⟩)) rfl) ⟨?_, G⟩
  simp [zB8, Ob.pt, *]
theorem qL0 (w : World) {ua uh : Value} {b : Bool} {A : List (List Int)} {s : Src} (H : SrcR Tryz.prog 72 w ua b uh A s) (seg a : Int) (h1 : inR .i64 seg) (h2 : inR .i64 a) : zB6 Tryz.prog 98 #[.agg #[ua, .bool b, uh], .int .i64 seg, .int .i64 a] w (.tuple #[.agg #[.int .i64 ((ptrS s seg a).1.kind), .int .i64 ((ptrS s seg a).1.off), .int .i64 ((ptrS s seg a).1.data), .int .i64 ((ptrS s seg a).1.ptrs), .int .i64 ((ptrS s seg a).1.size), .int .i64 ((ptrS s seg a).1.count), .int .i64 ((ptrS s seg a).1.seg), .bool ((ptrS s seg a).1.dbl)], .int .i64 ((ptrS s seg a).2)]) := by
 simp only [inR] at h1 h2
 have G := Grow.rfl' w
 refine zA8 Tryz.func98 Tryz.ntmps98 Tryz.results98 rfl rfl ?_
 refine qZ 2 ?_
 refine stp ?_
 refine qC ?_
 intro b1 w2 hb3 hc4 g5
 have hge6 := Nat.le_trans G.size hb3
 replace G := G.tr g5
 clear g5 hb3
 refine stp (zA7 ?_)
 intro b7 w8 hb9 hc10 g11
 refine qZ 4 ?_
 have hge12 := Nat.le_trans G.size hb9
 have ne13 := qN hc4 hb9
 replace hc4 := g11.heap hc4
 replace G := G.tr g11
 clear g11 hb9
 refine qZ 3 ?_
 refine stp (zA4 (v := .tuple #[.int .u64 ((s.word seg a).1), .int .i64 ((s.word seg a).2)]) rfl (H.word _ G seg a (by simp only [inR]; omega) (by simp only [inR]; omega)) ?_)
 intro w14 g15
 replace hc4 := g15.heap hc4
 replace hc10 := g15.heap hc10
 replace G := G.tr g15
 clear g15
 refine qZ 10 ?_
 refine stp (zG9 rfl rfl ?_)
 refine zA6 ?_
 refine zA2 (b := (decide (((s.word seg a).2) ≠ 0))) rfl (fun hz => ?_) (fun hz => ?_)
 ·
  replace hz := qT hz
  refine qZ 2 ?_
  refine stp (zA9 (v := .agg #[.int .i64 0, .int .i64 0, .int .i64 0, .int .i64 0, .int .i64 0, .int .i64 0, .int .i64 0, .bool false]) (fun w => by kernel_rfl) ?_)
  refine qZ 1 ?_
  refine stn (qS hc10 ?_)
  intro w16 hc17 u18
  replace hc4 := u18.heap hc4 ne13
  replace G := G.upd u18 hge12
  clear u18 hc10
  refine qZ 3 ?_
  refine ret2 (zA5 rfl hc17 (by rfl)) (zA1 (v := .int .i64 ((s.word seg a).2)) rfl) ⟨?_, G⟩
  have h9 : ptrS s seg a = (Pt0, (s.word seg a).2) := by unfold ptrS; exact if_pos hz
  rw [h9]; rfl
 ·
  replace hz := qF hz
  refine qZ 4 ?_
  refine stp (zA4 (v := .tuple #[.agg #[.int .i64 ((decP (s.word seg a).1).kind), .int .i64 ((decP (s.word seg a).1).off), .int .i64 ((decP (s.word seg a).1).data), .int .i64 ((decP (s.word seg a).1).ptrs), .int .i64 ((decP (s.word seg a).1).size), .int .i64 ((decP (s.word seg a).1).count), .int .i64 ((decP (s.word seg a).1).seg), .bool ((decP (s.word seg a).1).dbl)], .int .i64 (decE (s.word seg a).1)]) rfl (zF1 _ _ (H.num seg a).1 (H.num seg a).2.1) ?_)
  intro w19 g20
  replace hc4 := g20.heap hc4
  replace hc10 := g20.heap hc10
  replace G := G.tr g20
  clear g20
  refine qZ 3 ?_
  refine stp (zA7 ?_)
  intro b21 w22 hb23 hc24 g25
  refine stn (qS hc24 ?_)
  intro w26 hc27 u28
  have g29 := g25.upd u28 hb23
  have hge30 := Nat.le_trans G.size hb23
  have ne31 := qN hc4 hb23
  have ne32 := qN hc10 hb23
  replace hc4 := g29.heap hc4
  replace hc10 := g29.heap hc10
  replace G := G.tr g29
  clear u28 g25 hb23 hc24
  refine qZ 6 ?_
  refine stn (qS hc10 ?_)
  intro w33 hc34 u35
  replace hc4 := u35.heap hc4 ne13
  replace hc27 := u35.heap hc27 ne32.symm
  replace G := G.upd u35 hge12
  clear u35 hc10
  refine qZ 3 ?_
  refine ret2 (zA5 rfl hc34 (by rfl)) (zA1 (v := .int .i64 (decE (s.word seg a).1)) rfl) ⟨?_, G⟩
  have h9 : ptrS s seg a = (decP (s.word seg a).1, decE (s.word seg a).1) := by unfold ptrS; exact if_neg hz
  rw [h9]
theorem zT8 (w : World) {ua uh : Value} {b : Bool} {A : List (List Int)} {s : Src} (H : SrcR Tryz.prog 72 w ua b uh A s) (o : Ob) (ho : ObW o) : zB6 Tryz.prog 100 #[.agg #[ua, .bool b, uh], .agg #[.int .i64 o.kind, .int .i64 o.seg, .int .i64 o.at_, .int .i64 o.data, .int .i64 o.ptrs, .int .i64 o.size, .int .i64 o.count]] w (.tuple #[.agg #[.int .i64 ((bndS s o).1.kind), .int .i64 ((bndS s o).1.seg), .int .i64 ((bndS s o).1.at_), .int .i64 ((bndS s o).1.data), .int .i64 ((bndS s o).1.ptrs), .int .i64 ((bndS s o).1.size), .int .i64 ((bndS s o).1.count)], .int .i64 ((bndS s o).2)]) := by
 have hw9 := zQ8 ho.pt
 have hsz := H.sizes
 have hs : ∀ i, 0 ≤ (zB3 A).getD i 0 ∧ (zB3 A).getD i 0 ≤ 140737488355328 := fun i => by rw [zH3]; have := H.each i; omega
 have G := Grow.rfl' w
 refine zA8 Tryz.func100 Tryz.ntmps100 Tryz.results100 rfl rfl ?_
 refine qZ 2 ?_
 refine stp ?_
 refine qC ?_
 intro b1 w2 hb3 hc4 g5
 have hge6 := Nat.le_trans G.size hb3
 replace G := G.tr g5
 clear g5 hb3
 refine stp ?_
 refine qC ?_
 intro b7 w8 hb9 hc10 g11
 have hge12 := Nat.le_trans G.size hb9
 replace hc4 := g11.heap hc4
 replace G := G.tr g11
 clear g11 hb9
 refine stp (zA7 ?_)
 intro b13 w14 hb15 hc16 g17
 refine qZ 5 ?_
 have hge18 := Nat.le_trans G.size hb15
 have ne19 := qN hc4 hb15
 have ne20 := qN hc10 hb15
 replace hc4 := g17.heap hc4
 replace hc10 := g17.heap hc10
 replace G := G.tr g17
 clear g17 hb15
 refine qZ 9 ?_
 refine stp (zA9 (v := .agg #[.int .i64 o.kind, .int .i64 0, .int .i64 o.data, .int .i64 o.ptrs, .int .i64 o.size, .int .i64 o.count, .int .i64 0, .bool false]) (fun w => by kernel_rfl) ?_)
 refine stp (zA4 (v := .tuple #[.int .i64 (zF4 ⟨o.kind, 0, o.data, o.ptrs, o.size, o.count, 0, false⟩), .int .i64 (zF9 ⟨o.kind, 0, o.data, o.ptrs, o.size, o.count, 0, false⟩)]) rfl (qE3 _ ⟨o.kind, 0, o.data, o.ptrs, o.size, o.count, 0, false⟩) ?_)
 intro w21 g22
 replace hc4 := g22.heap hc4
 replace hc10 := g22.heap hc10
 replace hc16 := g22.heap hc16
 replace G := G.tr g22
 clear g22
 refine qZ 10 ?_
 refine stp (zG9 rfl rfl ?_)
 refine zA6 ?_
 refine zA2 (b := (decide ((zF9 ⟨o.kind, 0, o.data, o.ptrs, o.size, o.count, 0, false⟩) ≠ 0))) rfl (fun h1 => ?_) (fun h1 => ?_)
 ·
  replace h1 := qT h1
  refine qZ 2 ?_
  refine stp (zA9 (v := .agg #[.int .i64 0, .int .i64 0, .int .i64 0, .int .i64 0, .int .i64 0, .int .i64 0, .int .i64 0]) (fun w => by kernel_rfl) ?_)
  refine qZ 1 ?_
  refine stn (qS hc16 ?_)
  intro w23 hc24 u25
  replace hc4 := u25.heap hc4 ne19
  replace hc10 := u25.heap hc10 ne20
  replace G := G.upd u25 hge18
  clear u25 hc16
  refine qZ 3 ?_
  refine ret2 (zA5 rfl hc24 (by rfl)) (zA1 (v := .int .i64 (zF9 ⟨o.kind, 0, o.data, o.ptrs, o.size, o.count, 0, false⟩)) rfl) ⟨?_, G⟩
  have h9 : bndS s o = (Ob0, zF9 ⟨o.kind, 0, o.data, o.ptrs, o.size, o.count, 0, false⟩) := by unfold bndS; exact if_pos h1
  rw [h9]; rfl
 ·
  replace h1 := qF h1
  refine qZ 3 ?_
  refine zM8 10 [[], [0], [1, 0], [], [0], [], [0], [], [7, 6, 5, 4, 3, 2, 1, 0], [8, 7, 6, 5, 4, 3, 2, 1, 0]] mixed (by kernel_rfl) (by kernel_rfl) (by kernel_rfl) ?_
  intro w26 g27
  replace hc4 := g27.heap hc4
  replace hc10 := g27.heap hc10
  replace hc16 := g27.heap hc16
  replace G := G.tr g27
  clear g27
  refine qA 2 ?_
  refine zY2 (fun w_ v_ => ∃ ad9 c9, v_ = .slice ad9 A.length c9 ∧ RowAt w_ 1 ad9 A.length ((zB3 A).map (.int .i64))) (fun _ _ _ g_ ⟨a_, c_, h1_, h2_⟩ => ⟨a_, c_, h1_, h2_.grow g_⟩) ?_ ?_
  ·intro w_ g_
   refine og rfl ?_
   refine zD7 rfl (zW1 w_ (H.arena.grow (G.tr g_)) (by have := H.len; omega)) ?_
   rintro v9_ w9_ ⟨a_, c_, rfl, R9_, g9_⟩
   exact ⟨g9_, a_, c_, rfl, R9_⟩
  refine qA 5 ?_
  apply zC0
  ·intro w_ g_; intro v2_ hv2_; show OpG _ _ _ _ _ _; refine og rfl ?_; obtain ⟨ad9, c9, rfl, RZ⟩ := hv2_; exact zA4 (v := .bool (zF8 s.sizes o.seg o.at_ (zF4 o.pt))) rfl (by rw [hsz]; have h_ := qB8 w_ (c := c9) (seg := o.seg) (a := o.at_) (n := zF4 o.pt) (by rw [zF0]; exact RZ) hs; rw [zF0] at h_; exact h_) (fun w2_ g2_ => ⟨g2_, rfl⟩)
  apply zC0
  ·intro w_ g_; intro v2_ hv2_; show OpG _ _ _ _ _ _; exact og rfl (zN8 rfl qX)
  refine zI4 ?_
  intro w28 g29
  replace hc4 := g29.heap hc4
  replace hc10 := g29.heap hc10
  replace hc16 := g29.heap hc16
  replace G := G.tr g29
  clear g29
  intro v_z hv_z
  refine zA6 ?_
  refine zA2 (b := (!(zF8 s.sizes o.seg o.at_ (zF4 o.pt)))) rfl (fun h2 => ?_) (fun h2 => ?_)
  ·
   simp only [sb] at h2
   refine qZ 2 ?_
   refine stp (zA9 (v := .agg #[.int .i64 0, .int .i64 0, .int .i64 0, .int .i64 0, .int .i64 0, .int .i64 0, .int .i64 0]) (fun w => by kernel_rfl) ?_)
   refine stn (qS hc16 ?_)
   intro w30 hc31 u32
   replace hc4 := u32.heap hc4 ne19
   replace hc10 := u32.heap hc10 ne20
   replace G := G.upd u32 hge18
   clear u32 hc16
   refine qZ 3 ?_
   refine ret2 (zA5 rfl hc31 (by rfl)) (zA1 (v := .int .i64 20) rfl) ⟨?_, G⟩
   have h9 : bndS s o = (Ob0, 20) := by unfold bndS; exact (if_neg h1).trans (if_pos (by simpa using h2))
   rw [h9]; rfl
  ·
   simp only [sb] at h2
   refine qZ 4 ?_
   refine stn (qS hc16 ?_)
   intro w33 hc34 u35
   replace hc4 := u35.heap hc4 ne19
   replace hc10 := u35.heap hc10 ne20
   replace G := G.upd u35 hge18
   clear u35 hc16
   refine qZ 3 ?_
   refine ret2 (zA5 rfl hc34 (by rfl)) (zA1 (v := .int .i64 0) rfl) ⟨?_, G⟩
   have h9 : bndS s o = (o, 0) := by unfold bndS; exact (if_neg h1).trans (if_neg (by simpa using h2))
   rw [h9]
theorem qN6 (w : World) {ua uh : Value} {b : Bool} {A : List (List Int)} {s : Src} (H : SrcR Tryz.prog 72 w ua b uh A s) (p : Pt) (hp : PtR p) : zB6 Tryz.prog 102 #[.agg #[ua, .bool b, uh], .agg #[.int .i64 p.kind, .int .i64 p.off, .int .i64 p.data, .int .i64 p.ptrs, .int .i64 p.size, .int .i64 p.count, .int .i64 p.seg, .bool p.dbl]] w (.tuple #[.agg #[.int .i64 ((dblS s p).1.kind), .int .i64 ((dblS s p).1.seg), .int .i64 ((dblS s p).1.at_), .int .i64 ((dblS s p).1.data), .int .i64 ((dblS s p).1.ptrs), .int .i64 ((dblS s p).1.size), .int .i64 ((dblS s p).1.count)], .int .i64 ((dblS s p).2)]) := by
 have hpo := hp.off
 have hpg := hp.seg
 obtain ⟨n1, n2, -, -⟩ := H.num p.seg p.off
 obtain ⟨n3, n4, -, -⟩ := H.num p.seg (p.off + 1)
 have G := Grow.rfl' w
 refine zA8 Tryz.func102 Tryz.ntmps102 Tryz.results102 rfl rfl ?_
 refine qZ 2 ?_
 refine stp ?_
 refine qC ?_
 intro b1 w2 hb3 hc4 g5
 have hge6 := Nat.le_trans G.size hb3
 replace G := G.tr g5
 clear g5 hb3
 refine stp ?_
 refine qC ?_
 intro b7 w8 hb9 hc10 g11
 have hge12 := Nat.le_trans G.size hb9
 replace hc4 := g11.heap hc4
 replace G := G.tr g11
 clear g11 hb9
 refine stp (zA7 ?_)
 intro b13 w14 hb15 hc16 g17
 refine qZ 4 ?_
 have hge18 := Nat.le_trans G.size hb15
 have ne19 := qN hc4 hb15
 have ne20 := qN hc10 hb15
 replace hc4 := g17.heap hc4
 replace hc10 := g17.heap hc10
 replace G := G.tr g17
 clear g17 hb15
 refine qZ 5 ?_
 refine stp (zA4 (v := .tuple #[.int .u64 ((s.word p.seg p.off).1), .int .i64 ((s.word p.seg p.off).2)]) rfl (H.word _ G p.seg p.off (by simp only [inR]; omega) (by simp only [inR]; omega)) ?_)
 intro w21 g22
 replace hc4 := g22.heap hc4
 replace hc10 := g22.heap hc10
 replace hc16 := g22.heap hc16
 replace G := G.tr g22
 clear g22
 refine qZ 10 ?_
 refine stp (zG9 rfl rfl ?_)
 refine zA6 ?_
 refine zA2 (b := (decide (((s.word p.seg p.off).2) ≠ 0))) rfl (fun h1 => ?_) (fun h1 => ?_)
 ·
  replace h1 := qT h1
  refine qZ 2 ?_
  refine stp (zA9 (v := .agg #[.int .i64 0, .int .i64 0, .int .i64 0, .int .i64 0, .int .i64 0, .int .i64 0, .int .i64 0]) (fun w => by kernel_rfl) ?_)
  refine qZ 1 ?_
  refine stn (qS hc16 ?_)
  intro w23 hc24 u25
  replace hc4 := u25.heap hc4 ne19
  replace hc10 := u25.heap hc10 ne20
  replace G := G.upd u25 hge18
  clear u25 hc16
  refine qZ 3 ?_
  refine ret2 (zA5 rfl hc24 (by rfl)) (zA1 (v := .int .i64 ((s.word p.seg p.off).2)) rfl) ⟨?_, G⟩
  have h9 : dblS s p = (Ob0, (s.word p.seg p.off).2) := by unfold dblS; rw [if_pos h1]
  rw [h9]; rfl
 ·
  replace h1 := qF h1
  refine qZ 8 ?_
  refine stp (zB5 rfl rfl ?_ ?_); constructor <;> omega
  refine stp (zA4 (v := .tuple #[.int .u64 ((s.word p.seg (p.off + 1)).1), .int .i64 ((s.word p.seg (p.off + 1)).2)]) rfl (H.word _ G p.seg (p.off + 1) (by simp only [inR]; omega) (by simp only [inR]; omega)) ?_)
  intro w26 g27
  replace hc4 := g27.heap hc4
  replace hc10 := g27.heap hc10
  replace hc16 := g27.heap hc16
  replace G := G.tr g27
  clear g27
  refine qZ 10 ?_
  refine stp (zG9 rfl rfl ?_)
  refine zA6 ?_
  refine zA2 (b := (decide (((s.word p.seg (p.off + 1)).2) ≠ 0))) rfl (fun h2 => ?_) (fun h2 => ?_)
  ·
   replace h2 := qT h2
   refine qZ 2 ?_
   refine stp (zA9 (v := .agg #[.int .i64 0, .int .i64 0, .int .i64 0, .int .i64 0, .int .i64 0, .int .i64 0, .int .i64 0]) (fun w => by kernel_rfl) ?_)
   refine qZ 1 ?_
   refine stn (qS hc16 ?_)
   intro w28 hc29 u30
   replace hc4 := u30.heap hc4 ne19
   replace hc10 := u30.heap hc10 ne20
   replace G := G.upd u30 hge18
   clear u30 hc16
   refine qZ 3 ?_
   refine ret2 (zA5 rfl hc29 (by rfl)) (zA1 (v := .int .i64 ((s.word p.seg (p.off + 1)).2)) rfl) ⟨?_, G⟩
   have h9 : dblS s p = (Ob0, (s.word p.seg (p.off + 1)).2) := by unfold dblS; rw [if_neg h1, if_pos h2]
   rw [h9]; rfl
  ·
   replace h2 := qF h2
   refine qZ 4 ?_
   refine stp (zA4 (v := .tuple #[.agg #[.int .i64 ((decP (s.word p.seg p.off).1).kind), .int .i64 ((decP (s.word p.seg p.off).1).off), .int .i64 ((decP (s.word p.seg p.off).1).data), .int .i64 ((decP (s.word p.seg p.off).1).ptrs), .int .i64 ((decP (s.word p.seg p.off).1).size), .int .i64 ((decP (s.word p.seg p.off).1).count), .int .i64 ((decP (s.word p.seg p.off).1).seg), .bool ((decP (s.word p.seg p.off).1).dbl)], .int .i64 (decE (s.word p.seg p.off).1)]) rfl (zF1 _ _ (H.num p.seg p.off).1 (H.num p.seg p.off).2.1) ?_)
   intro w31 g32
   replace hc4 := g32.heap hc4
   replace hc10 := g32.heap hc10
   replace hc16 := g32.heap hc16
   replace G := G.tr g32
   clear g32
   refine qZ 3 ?_
   refine stp (zA7 ?_)
   intro b33 w34 hb35 hc36 g37
   refine stn (qS hc36 ?_)
   intro w38 hc39 u40
   have g41 := g37.upd u40 hb35
   have hge42 := Nat.le_trans G.size hb35
   have ne43 := qN hc4 hb35
   have ne44 := qN hc10 hb35
   have ne45 := qN hc16 hb35
   replace hc4 := g41.heap hc4
   replace hc10 := g41.heap hc10
   replace hc16 := g41.heap hc16
   replace G := G.tr g41
   clear u40 g37 hb35 hc36
   refine qZ 6 ?_
   refine stp (zG9 rfl rfl ?_)
   refine zA6 ?_
   refine zA2 (b := (decide ((decE (s.word p.seg p.off).1) ≠ 0))) rfl (fun h3 => ?_) (fun h3 => ?_)
   ·
    replace h3 := qT h3
    refine qZ 2 ?_
    refine stp (zA9 (v := .agg #[.int .i64 0, .int .i64 0, .int .i64 0, .int .i64 0, .int .i64 0, .int .i64 0, .int .i64 0]) (fun w => by kernel_rfl) ?_)
    refine qZ 1 ?_
    refine stn (qS hc16 ?_)
    intro w46 hc47 u48
    replace hc4 := u48.heap hc4 ne19
    replace hc10 := u48.heap hc10 ne20
    replace hc39 := u48.heap hc39 ne45.symm
    replace G := G.upd u48 hge18
    clear u48 hc16
    refine qZ 3 ?_
    refine ret2 (zA5 rfl hc47 (by rfl)) (zA1 (v := .int .i64 (decE (s.word p.seg p.off).1)) rfl) ⟨?_, G⟩
    have h9 : dblS s p = (Ob0, decE (s.word p.seg p.off).1) := by unfold dblS; rw [if_neg h1, if_neg h2, if_pos h3]
    rw [h9]; rfl
   ·
    replace h3 := qF h3
    refine qZ 4 ?_
    refine stp (zA4 (v := .tuple #[.agg #[.int .i64 ((decP (s.word p.seg (p.off + 1)).1).kind), .int .i64 ((decP (s.word p.seg (p.off + 1)).1).off), .int .i64 ((decP (s.word p.seg (p.off + 1)).1).data), .int .i64 ((decP (s.word p.seg (p.off + 1)).1).ptrs), .int .i64 ((decP (s.word p.seg (p.off + 1)).1).size), .int .i64 ((decP (s.word p.seg (p.off + 1)).1).count), .int .i64 ((decP (s.word p.seg (p.off + 1)).1).seg), .bool ((decP (s.word p.seg (p.off + 1)).1).dbl)], .int .i64 (decE (s.word p.seg (p.off + 1)).1)]) rfl (zF1 _ _ (H.num p.seg (p.off + 1)).1 (H.num p.seg (p.off + 1)).2.1) ?_)
    intro w49 g50
    replace hc4 := g50.heap hc4
    replace hc10 := g50.heap hc10
    replace hc16 := g50.heap hc16
    replace hc39 := g50.heap hc39
    replace G := G.tr g50
    clear g50
    refine qZ 3 ?_
    refine stp (zA7 ?_)
    intro b51 w52 hb53 hc54 g55
    refine stn (qS hc54 ?_)
    intro w56 hc57 u58
    have g59 := g55.upd u58 hb53
    have hge60 := Nat.le_trans G.size hb53
    have ne61 := qN hc4 hb53
    have ne62 := qN hc10 hb53
    have ne63 := qN hc16 hb53
    have ne64 := qN hc39 hb53
    replace hc4 := g59.heap hc4
    replace hc10 := g59.heap hc10
    replace hc16 := g59.heap hc16
    replace hc39 := g59.heap hc39
    replace G := G.tr g59
    clear u58 g55 hb53 hc54
    refine qZ 6 ?_
    refine stp (zG9 rfl rfl ?_)
    refine zA6 ?_
    refine zA2 (b := (decide ((decE (s.word p.seg (p.off + 1)).1) ≠ 0))) rfl (fun h4 => ?_) (fun h4 => ?_)
    ·
     replace h4 := qT h4
     refine qZ 2 ?_
     refine stp (zA9 (v := .agg #[.int .i64 0, .int .i64 0, .int .i64 0, .int .i64 0, .int .i64 0, .int .i64 0, .int .i64 0]) (fun w => by kernel_rfl) ?_)
     refine qZ 1 ?_
     refine stn (qS hc16 ?_)
     intro w65 hc66 u67
     replace hc4 := u67.heap hc4 ne19
     replace hc10 := u67.heap hc10 ne20
     replace hc39 := u67.heap hc39 ne45.symm
     replace hc57 := u67.heap hc57 ne63.symm
     replace G := G.upd u67 hge18
     clear u67 hc16
     refine qZ 3 ?_
     refine ret2 (zA5 rfl hc66 (by rfl)) (zA1 (v := .int .i64 (decE (s.word p.seg (p.off + 1)).1)) rfl) ⟨?_, G⟩
     have h9 : dblS s p = (Ob0, decE (s.word p.seg (p.off + 1)).1) := by unfold dblS; rw [if_neg h1, if_neg h2, if_neg h3, if_pos h4]
     rw [h9]; rfl
    ·
     replace h4 := qF h4
     refine qZ 6 ?_
     refine stp (zG9 rfl rfl ?_)
     refine qZ 1 ?_
     refine qG 2 ?_
     refine stp (zH6 rfl rfl rfl ?_)
     refine qZ 1 ?_
     refine zA3 (zB2 (s := .bool _) (v := .agg #[.int .i64 ((decP (s.word p.seg (p.off + 1)).1).kind), .int .i64 ((decP (s.word p.seg (p.off + 1)).1).off), .int .i64 ((decP (s.word p.seg (p.off + 1)).1).data), .int .i64 ((decP (s.word p.seg (p.off + 1)).1).ptrs), .int .i64 ((decP (s.word p.seg (p.off + 1)).1).size), .int .i64 ((decP (s.word p.seg (p.off + 1)).1).count), .int .i64 ((decP (s.word p.seg (p.off + 1)).1).seg), .bool ((decP (s.word p.seg (p.off + 1)).1).dbl)]) rfl (zE3 _) (fun hc70 => ?_) ?_)
     ·
      have hc70_ := hc70
      try simp only [sb] at hc70_
      refine zD8 rfl hc57 (by rfl) ?_
      exact ⟨rfl, rfl⟩
     refine zA3 (zX8 (s := .bool ((decide (((decP (s.word p.seg p.off).1).kind) ≠ 3)) || ((decP (s.word p.seg p.off).1).dbl))) (b := false) (v := .bool (zH4 (decP (s.word p.seg (p.off + 1)).1))) rfl (zE3 _) (fun hc71 => ?_) ?_)
     ·
      have hc71_ := hc71
      try simp only [sb] at hc71_
      exact zM7 (l := ([.agg #[.int .i64 ((decP (s.word p.seg (p.off + 1)).1).kind), .int .i64 ((decP (s.word p.seg (p.off + 1)).1).off), .int .i64 ((decP (s.word p.seg (p.off + 1)).1).data), .int .i64 ((decP (s.word p.seg (p.off + 1)).1).ptrs), .int .i64 ((decP (s.word p.seg (p.off + 1)).1).size), .int .i64 ((decP (s.word p.seg (p.off + 1)).1).count), .int .i64 ((decP (s.word p.seg (p.off + 1)).1).seg), .bool ((decP (s.word p.seg (p.off + 1)).1).dbl)]] : List Value)) rfl (by show ([gv (!((decide (((decP (s.word p.seg p.off).1).kind) ≠ 3)) || ((decP (s.word p.seg p.off).1).dbl))) (.agg #[.int .i64 ((decP (s.word p.seg (p.off + 1)).1).kind), .int .i64 ((decP (s.word p.seg (p.off + 1)).1).off), .int .i64 ((decP (s.word p.seg (p.off + 1)).1).data), .int .i64 ((decP (s.word p.seg (p.off + 1)).1).ptrs), .int .i64 ((decP (s.word p.seg (p.off + 1)).1).size), .int .i64 ((decP (s.word p.seg (p.off + 1)).1).count), .int .i64 ((decP (s.word p.seg (p.off + 1)).1).seg), .bool ((decP (s.word p.seg (p.off + 1)).1).dbl)])] : List Value) = _; rw [gvt hc71]) (zW2 _ (decP (s.word p.seg (p.off + 1)).1)) (fun w2_ g2_ => ⟨rfl, g2_⟩)
     intro w72 g73
     replace hc4 := g73.heap hc4
     replace hc10 := g73.heap hc10
     replace hc16 := g73.heap hc16
     replace hc39 := g73.heap hc39
     replace hc57 := g73.heap hc57
     replace G := G.tr g73
     clear g73
     refine zA3 (zB2 (s := .bool _) (v := .bool (!(zH4 (decP (s.word p.seg (p.off + 1)).1)))) rfl (zE3 _) (fun hc74 => ?_) ?_)
     ·
      have hc74_ := hc74
      try simp only [sb] at hc74_
      refine zN8 (gvt hc74) ?_
      exact ⟨rfl, rfl⟩
     refine stp (zH6 rfl rfl rfl ?_)
     refine qZ 1 ?_
     refine qG 2 ?_
     refine zA3 (zB2 (s := .bool _) (v := .bool (decide (((decP (s.word p.seg (p.off + 1)).1).off) ≠ 0))) rfl (zE3 _) (fun hc77 => ?_) ?_)
     ·
      have hc77_ := hc77
      try simp only [sb] at hc77_
      refine zG9 (gvt hc77) rfl ?_
      exact ⟨rfl, rfl⟩
     refine stp (zH6 rfl rfl rfl ?_)
     refine zA6 ?_
     refine zA2 (b := ((((decide (((decP (s.word p.seg p.off).1).kind) ≠ 3)) || ((decP (s.word p.seg p.off).1).dbl)) || (!(zH4 (decP (s.word p.seg (p.off + 1)).1)))) || (decide (((decP (s.word p.seg (p.off + 1)).1).off) ≠ 0)))) rfl (fun h5 => ?_) (fun h5 => ?_)
     ·
      simp only [sb] at h5
      have h8 : (decP (s.word p.seg p.off).1).kind ≠ 3 ∨ (decP (s.word p.seg p.off).1).dbl = true ∨ zH4 (decP (s.word p.seg (p.off + 1)).1) = false ∨ (decP (s.word p.seg (p.off + 1)).1).off ≠ 0 := by simpa [or_assoc] using h5
      refine qZ 2 ?_
      refine stp (zA9 (v := .agg #[.int .i64 0, .int .i64 0, .int .i64 0, .int .i64 0, .int .i64 0, .int .i64 0, .int .i64 0]) (fun w => by kernel_rfl) ?_)
      refine stn (qS hc16 ?_)
      intro w78 hc79 u80
      replace hc4 := u80.heap hc4 ne19
      replace hc10 := u80.heap hc10 ne20
      replace hc39 := u80.heap hc39 ne45.symm
      replace hc57 := u80.heap hc57 ne63.symm
      replace G := G.upd u80 hge18
      clear u80 hc16
      refine qZ 3 ?_
      refine ret2 (zA5 rfl hc79 (by rfl)) (zA1 (v := .int .i64 23) rfl) ⟨?_, G⟩
      have h9 : dblS s p = (Ob0, 23) := by unfold dblS; rw [if_neg h1, if_neg h2, if_neg h3, if_neg h4, if_pos h8]
      rw [h9]; rfl
     ·
      simp only [sb] at h5
      have h8 : ¬ ((decP (s.word p.seg p.off).1).kind ≠ 3 ∨ (decP (s.word p.seg p.off).1).dbl = true ∨ zH4 (decP (s.word p.seg (p.off + 1)).1) = false ∨ (decP (s.word p.seg (p.off + 1)).1).off ≠ 0) := by simpa [and_assoc] using h5
      refine qZ 8 ?_
      refine stp (zA4 (v := .agg #[.int .i64 ((objP (decP (s.word p.seg (p.off + 1)).1) ((decP (s.word p.seg p.off).1).seg) ((decP (s.word p.seg p.off).1).off)).kind), .int .i64 ((objP (decP (s.word p.seg (p.off + 1)).1) ((decP (s.word p.seg p.off).1).seg) ((decP (s.word p.seg p.off).1).off)).seg), .int .i64 ((objP (decP (s.word p.seg (p.off + 1)).1) ((decP (s.word p.seg p.off).1).seg) ((decP (s.word p.seg p.off).1).off)).at_), .int .i64 ((objP (decP (s.word p.seg (p.off + 1)).1) ((decP (s.word p.seg p.off).1).seg) ((decP (s.word p.seg p.off).1).off)).data), .int .i64 ((objP (decP (s.word p.seg (p.off + 1)).1) ((decP (s.word p.seg p.off).1).seg) ((decP (s.word p.seg p.off).1).off)).ptrs), .int .i64 ((objP (decP (s.word p.seg (p.off + 1)).1) ((decP (s.word p.seg p.off).1).seg) ((decP (s.word p.seg p.off).1).off)).size), .int .i64 ((objP (decP (s.word p.seg (p.off + 1)).1) ((decP (s.word p.seg p.off).1).seg) ((decP (s.word p.seg p.off).1).off)).count)]) rfl (qD3 _ (decP (s.word p.seg (p.off + 1)).1) ((decP (s.word p.seg p.off).1).seg) ((decP (s.word p.seg p.off).1).off)) ?_)
      intro w81 g82
      replace hc4 := g82.heap hc4
      replace hc10 := g82.heap hc10
      replace hc16 := g82.heap hc16
      replace hc39 := g82.heap hc39
      replace hc57 := g82.heap hc57
      replace G := G.tr g82
      clear g82
      refine stn (qS hc16 ?_)
      intro w83 hc84 u85
      replace hc4 := u85.heap hc4 ne19
      replace hc10 := u85.heap hc10 ne20
      replace hc39 := u85.heap hc39 ne45.symm
      replace hc57 := u85.heap hc57 ne63.symm
      replace G := G.upd u85 hge18
      clear u85 hc16
      refine qZ 3 ?_
      refine ret2 (zA5 rfl hc84 (by rfl)) (zA1 (v := .int .i64 0) rfl) ⟨?_, G⟩
      have h9 : dblS s p = (objP (decP (s.word p.seg (p.off + 1)).1) (decP (s.word p.seg p.off).1).seg (decP (s.word p.seg p.off).1).off, 0) := by unfold dblS; rw [if_neg h1, if_neg h2, if_neg h3, if_neg h4, if_neg h8]
      rw [h9]
theorem zT9 (w : World) {ua uh : Value} {b : Bool} {A : List (List Int)} {s : Src} (H : SrcR Tryz.prog 72 w ua b uh A s) (seg a : Int) (g1 : inR .i64 seg) (g2 : inR .i64 a) : zB6 Tryz.prog 66 #[.agg #[ua, .bool b, uh], .int .i64 seg, .int .i64 a] w (.tuple #[.agg #[.int .i64 ((zA0 s seg a).1.kind), .int .i64 ((zA0 s seg a).1.seg), .int .i64 ((zA0 s seg a).1.at_), .int .i64 ((zA0 s seg a).1.data), .int .i64 ((zA0 s seg a).1.ptrs), .int .i64 ((zA0 s seg a).1.size), .int .i64 ((zA0 s seg a).1.count)], .int .i64 ((zA0 s seg a).2)]) := by
 have g1' := g1
 have g2' := g2
 simp only [inR] at g1 g2
 have hq := H.ptr_range seg a
 have hqo := hq.off
 have hqs := hq.seg
 have hqf := hq.far
 have G := Grow.rfl' w
 refine zA8 Tryz.func66 Tryz.ntmps66 Tryz.results66 rfl rfl ?_
 refine qZ 2 ?_
 refine stp ?_
 refine qC ?_
 intro b1 w2 hb3 hc4 g5
 have hge6 := Nat.le_trans G.size hb3
 replace G := G.tr g5
 clear g5 hb3
 refine stp (zA7 ?_)
 intro b7 w8 hb9 hc10 g11
 refine qZ 4 ?_
 have hge12 := Nat.le_trans G.size hb9
 have ne13 := qN hc4 hb9
 replace hc4 := g11.heap hc4
 replace G := G.tr g11
 clear g11 hb9
 refine qZ 3 ?_
 refine stp (zA4 (v := .tuple #[.agg #[.int .i64 ((ptrS s seg a).1.kind), .int .i64 ((ptrS s seg a).1.off), .int .i64 ((ptrS s seg a).1.data), .int .i64 ((ptrS s seg a).1.ptrs), .int .i64 ((ptrS s seg a).1.size), .int .i64 ((ptrS s seg a).1.count), .int .i64 ((ptrS s seg a).1.seg), .bool ((ptrS s seg a).1.dbl)], .int .i64 ((ptrS s seg a).2)]) rfl (qL0 _ (H.grow G) seg a (by simp only [inR]; omega) (by simp only [inR]; omega)) ?_)
 intro w14 g15
 replace hc4 := g15.heap hc4
 replace hc10 := g15.heap hc10
 replace G := G.tr g15
 clear g15
 refine qZ 3 ?_
 refine stp (zA7 ?_)
 intro b16 w17 hb18 hc19 g20
 refine stn (qS hc19 ?_)
 intro w21 hc22 u23
 have g24 := g20.upd u23 hb18
 have hge25 := Nat.le_trans G.size hb18
 have ne26 := qN hc4 hb18
 have ne27 := qN hc10 hb18
 replace hc4 := g24.heap hc4
 replace hc10 := g24.heap hc10
 replace G := G.tr g24
 clear u23 g20 hb18 hc19
 refine qZ 6 ?_
 refine stp (zG9 rfl rfl ?_)
 refine qZ 1 ?_
 refine qG 2 ?_
 refine zA3 (zB2 (s := .bool _) (v := .bool (decide (((ptrS s seg a).1.kind) = 0))) rfl (zE3 _) (fun hc30 => ?_) ?_)
 ·
  have hc30_ := hc30
  try simp only [sb] at hc30_
  refine zD5 (gvt hc30) rfl ?_
  exact ⟨rfl, rfl⟩
 refine stp (zH6 rfl rfl rfl ?_)
 refine zA6 ?_
 refine zA2 (b := ((decide (((ptrS s seg a).2) ≠ 0)) || (decide (((ptrS s seg a).1.kind) = 0)))) rfl (fun h1 => ?_) (fun h1 => ?_)
 ·
  simp only [sb] at h1
  refine qZ 2 ?_
  refine stp (zA9 (v := .agg #[.int .i64 0, .int .i64 0, .int .i64 0, .int .i64 0, .int .i64 0, .int .i64 0, .int .i64 0]) (fun w => by kernel_rfl) ?_)
  refine qZ 1 ?_
  refine stn (qS hc10 ?_)
  intro w31 hc32 u33
  replace hc4 := u33.heap hc4 ne13
  replace hc22 := u33.heap hc22 ne27.symm
  replace G := G.upd u33 hge12
  clear u33 hc10
  refine qZ 3 ?_
  refine ret2 (zA5 rfl hc32 (by rfl)) (zA1 (v := .int .i64 ((ptrS s seg a).2)) rfl) ⟨?_, G⟩
  have h9 : zA0 s seg a = (Ob0, (ptrS s seg a).2) := by unfold zA0; rw [if_pos h1]
  rw [h9]; rfl
 ·
  simp only [sb] at h1
  have hz : (ptrS s seg a).2 = 0 := by omega
  have hb := H.ptr_at hz
  have h1n : ¬ ((ptrS s seg a).2 ≠ 0 ∨ (ptrS s seg a).1.kind = 0) := by omega
  refine qZ 5 ?_
  refine stp (zA4 (v := .bool (zH4 ((ptrS s seg a).1))) rfl (zW2 _ ((ptrS s seg a).1)) ?_)
  intro w34 g35
  replace hc4 := g35.heap hc4
  replace hc10 := g35.heap hc10
  replace hc22 := g35.heap hc22
  replace G := G.tr g35
  clear g35
  refine zA6 ?_
  refine zA2 (b := (zH4 ((ptrS s seg a).1))) rfl (fun h2 => ?_) (fun h2 => ?_)
  ·
   have hsz36 : w34.heap.size ≤ w34.heap.size := Nat.le_refl _
   have ltf36_hc4 := zC1 hc4
   have ltf36_hc10 := zC1 hc10
   have ltf36_hc22 := zC1 hc22
   have hgz36 := G.size
   refine qE9 ?_
   have kb_hc4 : ∀ w_, (ktR 112 w34.heap.size).r w34 w_ → w_.heap[b1]? = some (.cells #[ua, .bool b, uh] 86 (0, 0)) := fun w_ k_ => (KtP.to_grow k_ (Grow.rfl' _)).heap hc4
   have kb_hc10 : ∀ w_, (ktR 112 w34.heap.size).r w34 w_ → w_.heap[b7]? = some (.cells #[.int .i64 0, .int .i64 0, .int .i64 0, .int .i64 0, .int .i64 0, .int .i64 0, .int .i64 0] 112 (0, 0)) := fun w_ k_ => (KtP.to_grow k_ (Grow.rfl' _)).heap hc10
   have kb_hc22 : ∀ w_, (ktR 112 w34.heap.size).r w34 w_ → w_.heap[b16]? = some (.cells #[.int .i64 ((ptrS s seg a).1.kind), .int .i64 ((ptrS s seg a).1.off), .int .i64 ((ptrS s seg a).1.data), .int .i64 ((ptrS s seg a).1.ptrs), .int .i64 ((ptrS s seg a).1.size), .int .i64 ((ptrS s seg a).1.count), .int .i64 ((ptrS s seg a).1.seg), .bool ((ptrS s seg a).1.dbl)] 70 (0, 0)) := fun w_ k_ => (KtP.to_grow k_ (Grow.rfl' _)).heap hc22
   have kb_hsz36 : ∀ w_, (ktR 112 w34.heap.size).r w34 w_ → w34.heap.size ≤ w_.heap.size := fun w_ k_ => Nat.le_trans hsz36 (KtP.to_grow k_ (Grow.rfl' _)).size
   have kb_G : ∀ w_, (ktR 112 w34.heap.size).r w34 w_ → Grow w w_ := fun w_ k_ => G.tr (KtP.to_grow k_ (Grow.rfl' _))
   refine yL3 15 [[], [], [], [], [0], [], [0], [3, 2, 1, 0], [6, 5, 4, 3, 2, 1, 0], [8, 7, 6, 5, 4, 3, 2, 1, 0], [9, 8, 7, 6, 5, 4, 3, 2, 1, 0], [10, 9, 8, 7, 6, 5, 4, 3, 2, 1, 0], [11, 10, 9, 8, 7, 6, 5, 4, 3, 2, 1], [], [13, 12, 11, 10, 9, 8, 7, 6, 5, 4, 3, 2, 0]] [14] [10] (grQ (ktR 112 w34.heap.size)) (fun k_ e_ w_ => match k_ with | 0 => True | _ => ∃ b : Nat, e_ 10 = .pointer (some ⟨b, 0, none⟩) ∧ w34.heap.size ≤ b ∧ w_.heap[b]? = some (.cells #[.int .i64 ((bndS s (objP (ptrS s seg a).1 seg (a + 1 + (ptrS s seg a).1.off))).1.kind), .int .i64 ((bndS s (objP (ptrS s seg a).1 seg (a + 1 + (ptrS s seg a).1.off))).1.seg), .int .i64 ((bndS s (objP (ptrS s seg a).1 seg (a + 1 + (ptrS s seg a).1.off))).1.at_), .int .i64 ((bndS s (objP (ptrS s seg a).1 seg (a + 1 + (ptrS s seg a).1.off))).1.data), .int .i64 ((bndS s (objP (ptrS s seg a).1 seg (a + 1 + (ptrS s seg a).1.off))).1.ptrs), .int .i64 ((bndS s (objP (ptrS s seg a).1 seg (a + 1 + (ptrS s seg a).1.off))).1.size), .int .i64 ((bndS s (objP (ptrS s seg a).1 seg (a + 1 + (ptrS s seg a).1.off))).1.count)] 112 (0, 0))) mixed (by kernel_rfl) (by kernel_rfl) (by kernel_rfl) (by kernel_rfl) (by kernel_rfl) (fun k_ _ _ _ g_ h_ => match k_, h_ with | 0, _ => trivial | _ + 1, ⟨b_, h1_, h2_, h3_⟩ => ⟨b_, h1_, h2_, g_.heap h3_⟩) (fun k_ _ _ _ hu_ h_ => match k_, h_ with | 0, _ => trivial | _ + 1, ⟨b_, h1_, h2_, h3_⟩ => ⟨b_, (hu_ _ (by simp)).symm.trans h1_, h2_, h3_⟩) (fun _ _ _ h_ => h_) (fun _ _ => trivial) ?_
   intro w37 g38
   replace kb_hc4 : ∀ w_, (ktR 112 w34.heap.size).r w37 w_ → w_.heap[b1]? = some (.cells #[ua, .bool b, uh] 86 (0, 0)) := fun w_ k_ => kb_hc4 w_ ((ktR 112 w34.heap.size).tr ((ktR 112 w34.heap.size).grow g38) k_)
   replace kb_hc10 : ∀ w_, (ktR 112 w34.heap.size).r w37 w_ → w_.heap[b7]? = some (.cells #[.int .i64 0, .int .i64 0, .int .i64 0, .int .i64 0, .int .i64 0, .int .i64 0, .int .i64 0] 112 (0, 0)) := fun w_ k_ => kb_hc10 w_ ((ktR 112 w34.heap.size).tr ((ktR 112 w34.heap.size).grow g38) k_)
   replace kb_hc22 : ∀ w_, (ktR 112 w34.heap.size).r w37 w_ → w_.heap[b16]? = some (.cells #[.int .i64 ((ptrS s seg a).1.kind), .int .i64 ((ptrS s seg a).1.off), .int .i64 ((ptrS s seg a).1.data), .int .i64 ((ptrS s seg a).1.ptrs), .int .i64 ((ptrS s seg a).1.size), .int .i64 ((ptrS s seg a).1.count), .int .i64 ((ptrS s seg a).1.seg), .bool ((ptrS s seg a).1.dbl)] 70 (0, 0)) := fun w_ k_ => kb_hc22 w_ ((ktR 112 w34.heap.size).tr ((ktR 112 w34.heap.size).grow g38) k_)
   replace kb_hsz36 : ∀ w_, (ktR 112 w34.heap.size).r w37 w_ → w34.heap.size ≤ w_.heap.size := fun w_ k_ => kb_hsz36 w_ ((ktR 112 w34.heap.size).tr ((ktR 112 w34.heap.size).grow g38) k_)
   replace kb_G : ∀ w_, (ktR 112 w34.heap.size).r w37 w_ → Grow w w_ := fun w_ k_ => kb_G w_ ((ktR 112 w34.heap.size).tr ((ktR 112 w34.heap.size).grow g38) k_)
   have k0_ : (ktR 112 w34.heap.size).r w34 w37 := ((ktR 112 w34.heap.size).grow g38)
   apply zG3 (hm := by rfl)
   ·intro w_ g_; exact og rfl (zD8 rfl (kb_hc4 _ g_) (by rfl) qX)
   apply zG3 (hm := by rfl)
   ·intro w_ g_; exact og rfl (zD8 rfl (kb_hc22 _ g_) (by rfl) qX)
   apply zG3 (hm := by rfl)
   ·intro w_ g_; exact og rfl (zD3 rfl qX)
   apply zG3 (hm := by rfl)
   ·intro w_ g_; exact og rfl (zD3 rfl qX)
   apply zG3 (hm := by rfl)
   ·intro w_ g_; refine og rfl ?_; refine zB5 rfl rfl ?_ ?_; constructor <;> omega; exact qX
   apply zG3 (hm := by rfl)
   ·intro w_ g_; exact og rfl (zD4 rfl qX)
   apply zG3 (hm := by rfl)
   ·intro w_ g_; exact og rfl (zG7 (v := .int .i64 ((ptrS s seg a).1.off)) rfl (kb_hc22 _ g_) rfl qX)
   apply zG3 (hm := by rfl)
   ·intro w_ g_; refine og rfl ?_; refine zB5 rfl rfl ?_ ?_; constructor <;> omega; exact qX
   apply zG3 (hm := by rfl)
   ·intro w_ g_; refine og rfl ?_; exact zA4 (v := .agg #[.int .i64 ((objP ((ptrS s seg a).1) seg ((a + 1) + ((ptrS s seg a).1.off))).kind), .int .i64 ((objP ((ptrS s seg a).1) seg ((a + 1) + ((ptrS s seg a).1.off))).seg), .int .i64 ((objP ((ptrS s seg a).1) seg ((a + 1) + ((ptrS s seg a).1.off))).at_), .int .i64 ((objP ((ptrS s seg a).1) seg ((a + 1) + ((ptrS s seg a).1.off))).data), .int .i64 ((objP ((ptrS s seg a).1) seg ((a + 1) + ((ptrS s seg a).1.off))).ptrs), .int .i64 ((objP ((ptrS s seg a).1) seg ((a + 1) + ((ptrS s seg a).1.off))).size), .int .i64 ((objP ((ptrS s seg a).1) seg ((a + 1) + ((ptrS s seg a).1.off))).count)]) rfl (qD3 _ ((ptrS s seg a).1) seg ((a + 1) + ((ptrS s seg a).1.off))) (fun w2_ g2_ => ⟨g2_, rfl⟩)
   apply zG3 (hm := by rfl)
   ·intro w_ g_; refine og rfl ?_; exact zA4 (v := .tuple #[.agg #[.int .i64 ((bndS s (objP ((ptrS s seg a).1) seg ((a + 1) + ((ptrS s seg a).1.off)))).1.kind), .int .i64 ((bndS s (objP ((ptrS s seg a).1) seg ((a + 1) + ((ptrS s seg a).1.off)))).1.seg), .int .i64 ((bndS s (objP ((ptrS s seg a).1) seg ((a + 1) + ((ptrS s seg a).1.off)))).1.at_), .int .i64 ((bndS s (objP ((ptrS s seg a).1) seg ((a + 1) + ((ptrS s seg a).1.off)))).1.data), .int .i64 ((bndS s (objP ((ptrS s seg a).1) seg ((a + 1) + ((ptrS s seg a).1.off)))).1.ptrs), .int .i64 ((bndS s (objP ((ptrS s seg a).1) seg ((a + 1) + ((ptrS s seg a).1.off)))).1.size), .int .i64 ((bndS s (objP ((ptrS s seg a).1) seg ((a + 1) + ((ptrS s seg a).1.off)))).1.count)], .int .i64 ((bndS s (objP ((ptrS s seg a).1) seg ((a + 1) + ((ptrS s seg a).1.off)))).2)]) rfl (zT8 _ (H.grow (kb_G _ g_)) (objP ((ptrS s seg a).1) seg ((a + 1) + ((ptrS s seg a).1.off))) (yL4 hq g1' (by simp only [inR]; omega))) (fun w2_ g2_ => ⟨g2_, rfl⟩)
   apply zG3 (hm := by rfl)
   ·intro w_ g_; exact og rfl (zH5 (v := .tuple #[.agg #[.int .i64 ((bndS s (objP ((ptrS s seg a).1) seg ((a + 1) + ((ptrS s seg a).1.off)))).1.kind), .int .i64 ((bndS s (objP ((ptrS s seg a).1) seg ((a + 1) + ((ptrS s seg a).1.off)))).1.seg), .int .i64 ((bndS s (objP ((ptrS s seg a).1) seg ((a + 1) + ((ptrS s seg a).1.off)))).1.at_), .int .i64 ((bndS s (objP ((ptrS s seg a).1) seg ((a + 1) + ((ptrS s seg a).1.off)))).1.data), .int .i64 ((bndS s (objP ((ptrS s seg a).1) seg ((a + 1) + ((ptrS s seg a).1.off)))).1.ptrs), .int .i64 ((bndS s (objP ((ptrS s seg a).1) seg ((a + 1) + ((ptrS s seg a).1.off)))).1.size), .int .i64 ((bndS s (objP ((ptrS s seg a).1) seg ((a + 1) + ((ptrS s seg a).1.off)))).1.count)], .int .i64 ((bndS s (objP ((ptrS s seg a).1) seg ((a + 1) + ((ptrS s seg a).1.off)))).2)]) rfl qX)
   apply zG3 (hm := by rfl)
   ·intro w_ g_; exact og rfl (zC9 (v := .agg #[.int .i64 ((bndS s (objP ((ptrS s seg a).1) seg ((a + 1) + ((ptrS s seg a).1.off)))).1.kind), .int .i64 ((bndS s (objP ((ptrS s seg a).1) seg ((a + 1) + ((ptrS s seg a).1.off)))).1.seg), .int .i64 ((bndS s (objP ((ptrS s seg a).1) seg ((a + 1) + ((ptrS s seg a).1.off)))).1.at_), .int .i64 ((bndS s (objP ((ptrS s seg a).1) seg ((a + 1) + ((ptrS s seg a).1.off)))).1.data), .int .i64 ((bndS s (objP ((ptrS s seg a).1) seg ((a + 1) + ((ptrS s seg a).1.off)))).1.ptrs), .int .i64 ((bndS s (objP ((ptrS s seg a).1) seg ((a + 1) + ((ptrS s seg a).1.off)))).1.size), .int .i64 ((bndS s (objP ((ptrS s seg a).1) seg ((a + 1) + ((ptrS s seg a).1.off)))).1.count)]) rfl rfl qX)
   apply zG3 (hm := by rfl)
   ·intro w_ g_; exact og rfl (zC9 (v := .int .i64 ((bndS s (objP ((ptrS s seg a).1) seg ((a + 1) + ((ptrS s seg a).1.off)))).2)) rfl rfl qX)
   refine yL0 (fun w_ v_ => ∃ b cs, v_ = .pointer (some ⟨b, 0, none⟩) ∧ w34.heap.size ≤ b ∧ cs.size = 7 ∧ w_.heap[b]? = some (.cells cs 112 (0, 0))) (fun _ _ _ g_ ⟨b, cs, h1_, h2_, h3_, h4_⟩ => by obtain ⟨cs2, h5_, h6_⟩ := KtP.new g_ b cs h4_; exact ⟨b, cs2, h1_, h2_, h5_.trans h3_, h6_⟩) (by rfl) ?_ ?_
   ·intro w_ g_
    refine og rfl ?_
    refine zA7 ?_
    intro b_ w2_ hb_ hc_ g2_
    exact ⟨g2_, b_, _, rfl, Nat.le_trans (kb_hsz36 _ g_) hb_, rfl, hc_⟩
   apply qW5 0 (hm := by rfl)
   ·intro w_ g_
    intro v13_ hv13_
    intro s_
    show OpG _ _ _ _ _ _
    refine og rfl ?_
    obtain ⟨b_, cs_, rfl, hge_, hsz_, hb_⟩ := hv13_
    refine zW8 rfl rfl hb_ (by rfl) hsz_ (by rfl) ?_
    intro w2_ s2_ u_
    exact ⟨KtP.of_upd u_ hge_ hb_ s2_ hsz_.symm, ⟨b_, rfl, hge_, s2_⟩, rfl⟩
   refine qW6 ?_
   intro w39 g40
   replace k0_ := ((ktR 112 w34.heap.size).tr k0_ g40)
   replace hc4 := kb_hc4 _ g40
   clear kb_hc4
   replace hc10 := kb_hc10 _ g40
   clear kb_hc10
   replace hc22 := kb_hc22 _ g40
   clear kb_hc22
   replace hsz36 := kb_hsz36 _ g40
   clear kb_hsz36
   replace G := kb_G _ g40
   clear kb_G
   intro v_x36 hv_x36
   rintro ⟨bx36, hbe36, hge36, hc36⟩
   have hbv36 : v_x36 = .pointer (some ⟨bx36, 0, none⟩) := hbe36
   subst hbv36
   clear hv_x36 hbe36
   have hgx36 := Nat.le_trans hgz36 hge36
   refine qZ 6 ?_
   refine stn (qS hc10 ?_)
   intro w41 hc42 u43
   replace hc4 := u43.heap hc4 ne13
   replace hc22 := u43.heap hc22 ne27.symm
   replace hc36 := u43.heap hc36 (Nat.ne_of_lt (Nat.lt_of_lt_of_le ltf36_hc10 hge36)).symm
   replace G := G.upd u43 hge12
   clear u43 hc10
   refine qZ 3 ?_
   refine ret2 (zA5 rfl hc42 (by rfl)) (zA1 (v := .int .i64 ((bndS s (objP ((ptrS s seg a).1) seg ((a + 1) + ((ptrS s seg a).1.off)))).2)) rfl) ⟨?_, G⟩
   have h9 : zA0 s seg a = bndS s (objP (ptrS s seg a).1 seg (a + 1 + (ptrS s seg a).1.off)) := by unfold zA0; rw [if_neg h1n, if_pos h2, qR9]
   rw [h9]
  ·
   refine qZ 7 ?_
   refine zA2 (b := ((ptrS s seg a).1.dbl)) rfl (fun h3 => ?_) (fun h3 => ?_)
   ·
    refine qZ 4 ?_
    refine stp (zA4 (v := .tuple #[.agg #[.int .i64 ((dblS s (ptrS s seg a).1).1.kind), .int .i64 ((dblS s (ptrS s seg a).1).1.seg), .int .i64 ((dblS s (ptrS s seg a).1).1.at_), .int .i64 ((dblS s (ptrS s seg a).1).1.data), .int .i64 ((dblS s (ptrS s seg a).1).1.ptrs), .int .i64 ((dblS s (ptrS s seg a).1).1.size), .int .i64 ((dblS s (ptrS s seg a).1).1.count)], .int .i64 ((dblS s (ptrS s seg a).1).2)]) rfl (qN6 _ (H.grow G) (ptrS s seg a).1 hq) ?_)
    intro w44 g45
    replace hc4 := g45.heap hc4
    replace hc10 := g45.heap hc10
    replace hc22 := g45.heap hc22
    replace G := G.tr g45
    clear g45
    refine qZ 3 ?_
    refine stp (zA7 ?_)
    intro b46 w47 hb48 hc49 g50
    refine stn (qS hc49 ?_)
    intro w51 hc52 u53
    have g54 := g50.upd u53 hb48
    have hge55 := Nat.le_trans G.size hb48
    have ne56 := qN hc4 hb48
    have ne57 := qN hc10 hb48
    have ne58 := qN hc22 hb48
    replace hc4 := g54.heap hc4
    replace hc10 := g54.heap hc10
    replace hc22 := g54.heap hc22
    replace G := G.tr g54
    clear u53 g50 hb48 hc49
    refine qZ 6 ?_
    refine stp (zG9 rfl rfl ?_)
    refine zA6 ?_
    refine zA2 (b := (decide (((dblS s (ptrS s seg a).1).2) ≠ 0))) rfl (fun h4 => ?_) (fun h4 => ?_)
    ·
     replace h4 := qT h4
     refine qZ 2 ?_
     refine stp (zA9 (v := .agg #[.int .i64 0, .int .i64 0, .int .i64 0, .int .i64 0, .int .i64 0, .int .i64 0, .int .i64 0]) (fun w => by kernel_rfl) ?_)
     refine qZ 1 ?_
     refine stn (qS hc10 ?_)
     intro w59 hc60 u61
     replace hc4 := u61.heap hc4 ne13
     replace hc22 := u61.heap hc22 ne27.symm
     replace hc52 := u61.heap hc52 ne57.symm
     replace G := G.upd u61 hge12
     clear u61 hc10
     refine qZ 3 ?_
     refine ret2 (zA5 rfl hc60 (by rfl)) (zA1 (v := .int .i64 ((dblS s (ptrS s seg a).1).2)) rfl) ⟨?_, G⟩
     have h9 : zA0 s seg a = (Ob0, (dblS s (ptrS s seg a).1).2) := by unfold zA0; rw [if_neg h1n, if_neg (by simp [h2]), if_pos h3, qS0, if_pos h4]
     rw [h9]; rfl
    ·
     replace h4 := qF h4
     refine qZ 5 ?_
     refine stp (zA4 (v := .tuple #[.agg #[.int .i64 ((bndS s (dblS s (ptrS s seg a).1).1).1.kind), .int .i64 ((bndS s (dblS s (ptrS s seg a).1).1).1.seg), .int .i64 ((bndS s (dblS s (ptrS s seg a).1).1).1.at_), .int .i64 ((bndS s (dblS s (ptrS s seg a).1).1).1.data), .int .i64 ((bndS s (dblS s (ptrS s seg a).1).1).1.ptrs), .int .i64 ((bndS s (dblS s (ptrS s seg a).1).1).1.size), .int .i64 ((bndS s (dblS s (ptrS s seg a).1).1).1.count)], .int .i64 ((bndS s (dblS s (ptrS s seg a).1).1).2)]) rfl (zT8 _ (H.grow G) (dblS s (ptrS s seg a).1).1 (H.dbl_W (ptrS s seg a).1)) ?_)
     intro w62 g63
     replace hc4 := g63.heap hc4
     replace hc10 := g63.heap hc10
     replace hc22 := g63.heap hc22
     replace hc52 := g63.heap hc52
     replace G := G.tr g63
     clear g63
     refine qZ 3 ?_
     refine stp (zA7 ?_)
     intro b64 w65 hb66 hc67 g68
     refine stn (qS hc67 ?_)
     intro w69 hc70 u71
     have g72 := g68.upd u71 hb66
     have hge73 := Nat.le_trans G.size hb66
     have ne74 := qN hc4 hb66
     have ne75 := qN hc10 hb66
     have ne76 := qN hc22 hb66
     have ne77 := qN hc52 hb66
     replace hc4 := g72.heap hc4
     replace hc10 := g72.heap hc10
     replace hc22 := g72.heap hc22
     replace hc52 := g72.heap hc52
     replace G := G.tr g72
     clear u71 g68 hb66 hc67
     refine qZ 6 ?_
     refine stn (qS hc10 ?_)
     intro w78 hc79 u80
     replace hc4 := u80.heap hc4 ne13
     replace hc22 := u80.heap hc22 ne27.symm
     replace hc52 := u80.heap hc52 ne57.symm
     replace hc70 := u80.heap hc70 ne75.symm
     replace G := G.upd u80 hge12
     clear u80 hc10
     refine qZ 3 ?_
     refine ret2 (zA5 rfl hc79 (by rfl)) (zA1 (v := .int .i64 ((bndS s (dblS s (ptrS s seg a).1).1).2)) rfl) ⟨?_, G⟩
     have h9 : zA0 s seg a = bndS s (dblS s (ptrS s seg a).1).1 := by unfold zA0; rw [if_neg h1n, if_neg (by simp [h2]), if_pos h3, qS0, if_neg h4]
     rw [h9]
   ·
    have hq2 := H.ptr_range (ptrS s seg a).1.seg (ptrS s seg a).1.off
    have hqo2 := hq2.off
    refine qZ 8 ?_
    refine stp (zA4 (v := .tuple #[.agg #[.int .i64 ((ptrS s ((ptrS s seg a).1.seg) ((ptrS s seg a).1.off)).1.kind), .int .i64 ((ptrS s ((ptrS s seg a).1.seg) ((ptrS s seg a).1.off)).1.off), .int .i64 ((ptrS s ((ptrS s seg a).1.seg) ((ptrS s seg a).1.off)).1.data), .int .i64 ((ptrS s ((ptrS s seg a).1.seg) ((ptrS s seg a).1.off)).1.ptrs), .int .i64 ((ptrS s ((ptrS s seg a).1.seg) ((ptrS s seg a).1.off)).1.size), .int .i64 ((ptrS s ((ptrS s seg a).1.seg) ((ptrS s seg a).1.off)).1.count), .int .i64 ((ptrS s ((ptrS s seg a).1.seg) ((ptrS s seg a).1.off)).1.seg), .bool ((ptrS s ((ptrS s seg a).1.seg) ((ptrS s seg a).1.off)).1.dbl)], .int .i64 ((ptrS s ((ptrS s seg a).1.seg) ((ptrS s seg a).1.off)).2)]) rfl (qL0 _ (H.grow G) ((ptrS s seg a).1.seg) ((ptrS s seg a).1.off) (by simp only [inR]; omega) (by simp only [inR]; omega)) ?_)
    intro w81 g82
    replace hc4 := g82.heap hc4
    replace hc10 := g82.heap hc10
    replace hc22 := g82.heap hc22
    replace G := G.tr g82
    clear g82
    refine qZ 3 ?_
    refine stp (zA7 ?_)
    intro b83 w84 hb85 hc86 g87
    refine stn (qS hc86 ?_)
    intro w88 hc89 u90
    have g91 := g87.upd u90 hb85
    have hge92 := Nat.le_trans G.size hb85
    have ne93 := qN hc4 hb85
    have ne94 := qN hc10 hb85
    have ne95 := qN hc22 hb85
    replace hc4 := g91.heap hc4
    replace hc10 := g91.heap hc10
    replace hc22 := g91.heap hc22
    replace G := G.tr g91
    clear u90 g87 hb85 hc86
    refine qZ 6 ?_
    refine stp (zG9 rfl rfl ?_)
    refine zA6 ?_
    refine zA2 (b := (decide (((ptrS s ((ptrS s seg a).1.seg) ((ptrS s seg a).1.off)).2) ≠ 0))) rfl (fun h4 => ?_) (fun h4 => ?_)
    ·
     replace h4 := qT h4
     refine qZ 2 ?_
     refine stp (zA9 (v := .agg #[.int .i64 0, .int .i64 0, .int .i64 0, .int .i64 0, .int .i64 0, .int .i64 0, .int .i64 0]) (fun w => by kernel_rfl) ?_)
     refine qZ 1 ?_
     refine stn (qS hc10 ?_)
     intro w96 hc97 u98
     replace hc4 := u98.heap hc4 ne13
     replace hc22 := u98.heap hc22 ne27.symm
     replace hc89 := u98.heap hc89 ne94.symm
     replace G := G.upd u98 hge12
     clear u98 hc10
     refine qZ 3 ?_
     refine ret2 (zA5 rfl hc97 (by rfl)) (zA1 (v := .int .i64 ((ptrS s ((ptrS s seg a).1.seg) ((ptrS s seg a).1.off)).2)) rfl) ⟨?_, G⟩
     have h9 : zA0 s seg a = (Ob0, (ptrS s (ptrS s seg a).1.seg (ptrS s seg a).1.off).2) := by unfold zA0; rw [if_neg h1n, if_neg (by simp [h2]), if_neg (by simp [h3])]; unfold zD0; rw [if_pos h4]
     rw [h9]; rfl
    ·
     replace h4 := qF h4
     refine qZ 5 ?_
     refine stp (zA4 (v := .bool (zH4 ((ptrS s ((ptrS s seg a).1.seg) ((ptrS s seg a).1.off)).1))) rfl (zW2 _ ((ptrS s ((ptrS s seg a).1.seg) ((ptrS s seg a).1.off)).1)) ?_)
     intro w99 g100
     replace hc4 := g100.heap hc4
     replace hc10 := g100.heap hc10
     replace hc22 := g100.heap hc22
     replace hc89 := g100.heap hc89
     replace G := G.tr g100
     clear g100
     refine stp (zN8 rfl ?_)
     refine zA6 ?_
     refine zA2 (b := (!(zH4 ((ptrS s ((ptrS s seg a).1.seg) ((ptrS s seg a).1.off)).1)))) rfl (fun h5 => ?_) (fun h5 => ?_)
     ·
      simp only [sb] at h5
      refine qZ 2 ?_
      refine stp (zA9 (v := .agg #[.int .i64 0, .int .i64 0, .int .i64 0, .int .i64 0, .int .i64 0, .int .i64 0, .int .i64 0]) (fun w => by kernel_rfl) ?_)
      refine stn (qS hc10 ?_)
      intro w101 hc102 u103
      replace hc4 := u103.heap hc4 ne13
      replace hc22 := u103.heap hc22 ne27.symm
      replace hc89 := u103.heap hc89 ne94.symm
      replace G := G.upd u103 hge12
      clear u103 hc10
      refine qZ 3 ?_
      refine ret2 (zA5 rfl hc102 (by rfl)) (zA1 (v := .int .i64 23) rfl) ⟨?_, G⟩
      have h9 : zA0 s seg a = (Ob0, 23) := by unfold zA0; rw [if_neg h1n, if_neg (by simp [h2]), if_neg (by simp [h3])]; unfold zD0; rw [if_neg h4, if_pos (by simpa using h5)]
      rw [h9]; rfl
     ·
      simp only [sb] at h5
      refine zX6 ?_
      have hsz104 : w99.heap.size ≤ w99.heap.size := Nat.le_refl _
      have ltf104_hc4 := zC1 hc4
      have ltf104_hc10 := zC1 hc10
      have ltf104_hc22 := zC1 hc22
      have ltf104_hc89 := zC1 hc89
      have hgz104 := G.size
      refine qE9 ?_
      have kb_hc4 : ∀ w_, (ktR 112 w99.heap.size).r w99 w_ → w_.heap[b1]? = some (.cells #[ua, .bool b, uh] 86 (0, 0)) := fun w_ k_ => (KtP.to_grow k_ (Grow.rfl' _)).heap hc4
      have kb_hc10 : ∀ w_, (ktR 112 w99.heap.size).r w99 w_ → w_.heap[b7]? = some (.cells #[.int .i64 0, .int .i64 0, .int .i64 0, .int .i64 0, .int .i64 0, .int .i64 0, .int .i64 0] 112 (0, 0)) := fun w_ k_ => (KtP.to_grow k_ (Grow.rfl' _)).heap hc10
      have kb_hc22 : ∀ w_, (ktR 112 w99.heap.size).r w99 w_ → w_.heap[b16]? = some (.cells #[.int .i64 ((ptrS s seg a).1.kind), .int .i64 ((ptrS s seg a).1.off), .int .i64 ((ptrS s seg a).1.data), .int .i64 ((ptrS s seg a).1.ptrs), .int .i64 ((ptrS s seg a).1.size), .int .i64 ((ptrS s seg a).1.count), .int .i64 ((ptrS s seg a).1.seg), .bool ((ptrS s seg a).1.dbl)] 70 (0, 0)) := fun w_ k_ => (KtP.to_grow k_ (Grow.rfl' _)).heap hc22
      have kb_hc89 : ∀ w_, (ktR 112 w99.heap.size).r w99 w_ → w_.heap[b83]? = some (.cells #[.int .i64 ((ptrS s ((ptrS s seg a).1.seg) ((ptrS s seg a).1.off)).1.kind), .int .i64 ((ptrS s ((ptrS s seg a).1.seg) ((ptrS s seg a).1.off)).1.off), .int .i64 ((ptrS s ((ptrS s seg a).1.seg) ((ptrS s seg a).1.off)).1.data), .int .i64 ((ptrS s ((ptrS s seg a).1.seg) ((ptrS s seg a).1.off)).1.ptrs), .int .i64 ((ptrS s ((ptrS s seg a).1.seg) ((ptrS s seg a).1.off)).1.size), .int .i64 ((ptrS s ((ptrS s seg a).1.seg) ((ptrS s seg a).1.off)).1.count), .int .i64 ((ptrS s ((ptrS s seg a).1.seg) ((ptrS s seg a).1.off)).1.seg), .bool ((ptrS s ((ptrS s seg a).1.seg) ((ptrS s seg a).1.off)).1.dbl)] 70 (0, 0)) := fun w_ k_ => (KtP.to_grow k_ (Grow.rfl' _)).heap hc89
      have kb_hsz104 : ∀ w_, (ktR 112 w99.heap.size).r w99 w_ → w99.heap.size ≤ w_.heap.size := fun w_ k_ => Nat.le_trans hsz104 (KtP.to_grow k_ (Grow.rfl' _)).size
      have kb_G : ∀ w_, (ktR 112 w99.heap.size).r w99 w_ → Grow w w_ := fun w_ k_ => G.tr (KtP.to_grow k_ (Grow.rfl' _))
      refine yL3 17 [[], [], [], [0], [], [0], [1, 0], [], [0], [4, 3, 2, 1, 0], [8, 7, 6, 5, 4, 3, 2, 1, 0], [10, 9, 8, 7, 6, 5, 4, 3, 2, 1, 0], [11, 10, 9, 8, 7, 6, 5, 4, 3, 2, 1, 0], [12, 11, 10, 9, 8, 7, 6, 5, 4, 3, 2, 1, 0], [13, 12, 11, 10, 9, 8, 7, 6, 5, 4, 3, 2, 1], [], [15, 14, 13, 12, 11, 10, 9, 8, 7, 6, 5, 4, 3, 2, 0]] [16] [18] (grQ (ktR 112 w99.heap.size)) (fun k_ e_ w_ => match k_ with | 0 => True | _ => ∃ b : Nat, e_ 18 = .pointer (some ⟨b, 0, none⟩) ∧ w99.heap.size ≤ b ∧ w_.heap[b]? = some (.cells #[.int .i64 ((bndS s (objP (ptrS s (ptrS s seg a).1.seg (ptrS s seg a).1.off).1 (ptrS s seg a).1.seg ((ptrS s seg a).1.off + 1 + (ptrS s (ptrS s seg a).1.seg (ptrS s seg a).1.off).1.off))).1.kind), .int .i64 ((bndS s (objP (ptrS s (ptrS s seg a).1.seg (ptrS s seg a).1.off).1 (ptrS s seg a).1.seg ((ptrS s seg a).1.off + 1 + (ptrS s (ptrS s seg a).1.seg (ptrS s seg a).1.off).1.off))).1.seg), .int .i64 ((bndS s (objP (ptrS s (ptrS s seg a).1.seg (ptrS s seg a).1.off).1 (ptrS s seg a).1.seg ((ptrS s seg a).1.off + 1 + (ptrS s (ptrS s seg a).1.seg (ptrS s seg a).1.off).1.off))).1.at_), .int .i64 ((bndS s (objP (ptrS s (ptrS s seg a).1.seg (ptrS s seg a).1.off).1 (ptrS s seg a).1.seg ((ptrS s seg a).1.off + 1 + (ptrS s (ptrS s seg a).1.seg (ptrS s seg a).1.off).1.off))).1.data), .int .i64 ((bndS s (objP (ptrS s (ptrS s seg a).1.seg (ptrS s seg a).1.off).1 (ptrS s seg a).1.seg ((ptrS s seg a).1.off + 1 + (ptrS s (ptrS s seg a).1.seg (ptrS s seg a).1.off).1.off))).1.ptrs), .int .i64 ((bndS s (objP (ptrS s (ptrS s seg a).1.seg (ptrS s seg a).1.off).1 (ptrS s seg a).1.seg ((ptrS s seg a).1.off + 1 + (ptrS s (ptrS s seg a).1.seg (ptrS s seg a).1.off).1.off))).1.size), .int .i64 ((bndS s (objP (ptrS s (ptrS s seg a).1.seg (ptrS s seg a).1.off).1 (ptrS s seg a).1.seg ((ptrS s seg a).1.off + 1 + (ptrS s (ptrS s seg a).1.seg (ptrS s seg a).1.off).1.off))).1.count)] 112 (0, 0))) mixed (by kernel_rfl) (by kernel_rfl) (by kernel_rfl) (by kernel_rfl) (by kernel_rfl) (fun k_ _ _ _ g_ h_ => match k_, h_ with | 0, _ => trivial | _ + 1, ⟨b_, h1_, h2_, h3_⟩ => ⟨b_, h1_, h2_, g_.heap h3_⟩) (fun k_ _ _ _ hu_ h_ => match k_, h_ with | 0, _ => trivial | _ + 1, ⟨b_, h1_, h2_, h3_⟩ => ⟨b_, (hu_ _ (by simp)).symm.trans h1_, h2_, h3_⟩) (fun _ _ _ h_ => h_) (fun _ _ => trivial) ?_
      intro w105 g106
      replace kb_hc4 : ∀ w_, (ktR 112 w99.heap.size).r w105 w_ → w_.heap[b1]? = some (.cells #[ua, .bool b, uh] 86 (0, 0)) := fun w_ k_ => kb_hc4 w_ ((ktR 112 w99.heap.size).tr ((ktR 112 w99.heap.size).grow g106) k_)
      replace kb_hc10 : ∀ w_, (ktR 112 w99.heap.size).r w105 w_ → w_.heap[b7]? = some (.cells #[.int .i64 0, .int .i64 0, .int .i64 0, .int .i64 0, .int .i64 0, .int .i64 0, .int .i64 0] 112 (0, 0)) := fun w_ k_ => kb_hc10 w_ ((ktR 112 w99.heap.size).tr ((ktR 112 w99.heap.size).grow g106) k_)
      replace kb_hc22 : ∀ w_, (ktR 112 w99.heap.size).r w105 w_ → w_.heap[b16]? = some (.cells #[.int .i64 ((ptrS s seg a).1.kind), .int .i64 ((ptrS s seg a).1.off), .int .i64 ((ptrS s seg a).1.data), .int .i64 ((ptrS s seg a).1.ptrs), .int .i64 ((ptrS s seg a).1.size), .int .i64 ((ptrS s seg a).1.count), .int .i64 ((ptrS s seg a).1.seg), .bool ((ptrS s seg a).1.dbl)] 70 (0, 0)) := fun w_ k_ => kb_hc22 w_ ((ktR 112 w99.heap.size).tr ((ktR 112 w99.heap.size).grow g106) k_)
      replace kb_hc89 : ∀ w_, (ktR 112 w99.heap.size).r w105 w_ → w_.heap[b83]? = some (.cells #[.int .i64 ((ptrS s ((ptrS s seg a).1.seg) ((ptrS s seg a).1.off)).1.kind), .int .i64 ((ptrS s ((ptrS s seg a).1.seg) ((ptrS s seg a).1.off)).1.off), .int .i64 ((ptrS s ((ptrS s seg a).1.seg) ((ptrS s seg a).1.off)).1.data), .int .i64 ((ptrS s ((ptrS s seg a).1.seg) ((ptrS s seg a).1.off)).1.ptrs), .int .i64 ((ptrS s ((ptrS s seg a).1.seg) ((ptrS s seg a).1.off)).1.size), .int .i64 ((ptrS s ((ptrS s seg a).1.seg) ((ptrS s seg a).1.off)).1.count), .int .i64 ((ptrS s ((ptrS s seg a).1.seg) ((ptrS s seg a).1.off)).1.seg), .bool ((ptrS s ((ptrS s seg a).1.seg) ((ptrS s seg a).1.off)).1.dbl)] 70 (0, 0)) := fun w_ k_ => kb_hc89 w_ ((ktR 112 w99.heap.size).tr ((ktR 112 w99.heap.size).grow g106) k_)
      replace kb_hsz104 : ∀ w_, (ktR 112 w99.heap.size).r w105 w_ → w99.heap.size ≤ w_.heap.size := fun w_ k_ => kb_hsz104 w_ ((ktR 112 w99.heap.size).tr ((ktR 112 w99.heap.size).grow g106) k_)
      replace kb_G : ∀ w_, (ktR 112 w99.heap.size).r w105 w_ → Grow w w_ := fun w_ k_ => kb_G w_ ((ktR 112 w99.heap.size).tr ((ktR 112 w99.heap.size).grow g106) k_)
      have k0_ : (ktR 112 w99.heap.size).r w99 w105 := ((ktR 112 w99.heap.size).grow g106)
      apply zG3 (hm := by rfl)
      ·intro w_ g_; exact og rfl (zD8 rfl (kb_hc4 _ g_) (by rfl) qX)
      apply zG3 (hm := by rfl)
      ·intro w_ g_; exact og rfl (zD8 rfl (kb_hc89 _ g_) (by rfl) qX)
      apply zG3 (hm := by rfl)
      ·intro w_ g_; exact og rfl (zD4 rfl qX)
      apply zG3 (hm := by rfl)
      ·intro w_ g_; exact og rfl (zG7 (v := .int .i64 ((ptrS s seg a).1.seg)) rfl (kb_hc22 _ g_) rfl qX)
      apply zG3 (hm := by rfl)
      ·intro w_ g_; exact og rfl (zD4 rfl qX)
      apply zG3 (hm := by rfl)
      ·intro w_ g_; exact og rfl (zG7 (v := .int .i64 ((ptrS s seg a).1.off)) rfl (kb_hc22 _ g_) rfl qX)
      apply zG3 (hm := by rfl)
      ·intro w_ g_; refine og rfl ?_; refine zB5 rfl rfl ?_ ?_; constructor <;> omega; exact qX
      apply zG3 (hm := by rfl)
      ·intro w_ g_; exact og rfl (zD4 rfl qX)
      apply zG3 (hm := by rfl)
      ·intro w_ g_; exact og rfl (zG7 (v := .int .i64 ((ptrS s ((ptrS s seg a).1.seg) ((ptrS s seg a).1.off)).1.off)) rfl (kb_hc89 _ g_) rfl qX)
      apply zG3 (hm := by rfl)
      ·intro w_ g_; refine og rfl ?_; refine zB5 rfl rfl ?_ ?_; constructor <;> omega; exact qX
      apply zG3 (hm := by rfl)
      ·intro w_ g_; refine og rfl ?_; exact zA4 (v := .agg #[.int .i64 ((objP ((ptrS s ((ptrS s seg a).1.seg) ((ptrS s seg a).1.off)).1) ((ptrS s seg a).1.seg) ((((ptrS s seg a).1.off) + 1) + ((ptrS s ((ptrS s seg a).1.seg) ((ptrS s seg a).1.off)).1.off))).kind), .int .i64 ((objP ((ptrS s ((ptrS s seg a).1.seg) ((ptrS s seg a).1.off)).1) ((ptrS s seg a).1.seg) ((((ptrS s seg a).1.off) + 1) + ((ptrS s ((ptrS s seg a).1.seg) ((ptrS s seg a).1.off)).1.off))).seg), .int .i64 ((objP ((ptrS s ((ptrS s seg a).1.seg) ((ptrS s seg a).1.off)).1) ((ptrS s seg a).1.seg) ((((ptrS s seg a).1.off) + 1) + ((ptrS s ((ptrS s seg a).1.seg) ((ptrS s seg a).1.off)).1.off))).at_), .int .i64 ((objP ((ptrS s ((ptrS s seg a).1.seg) ((ptrS s seg a).1.off)).1) ((ptrS s seg a).1.seg) ((((ptrS s seg a).1.off) + 1) + ((ptrS s ((ptrS s seg a).1.seg) ((ptrS s seg a).1.off)).1.off))).data), .int .i64 ((objP ((ptrS s ((ptrS s seg a).1.seg) ((ptrS s seg a).1.off)).1) ((ptrS s seg a).1.seg) ((((ptrS s seg a).1.off) + 1) + ((ptrS s ((ptrS s seg a).1.seg) ((ptrS s seg a).1.off)).1.off))).ptrs), .int .i64 ((objP ((ptrS s ((ptrS s seg a).1.seg) ((ptrS s seg a).1.off)).1) ((ptrS s seg a).1.seg) ((((ptrS s seg a).1.off) + 1) + ((ptrS s ((ptrS s seg a).1.seg) ((ptrS s seg a).1.off)).1.off))).size), .int .i64 ((objP ((ptrS s ((ptrS s seg a).1.seg) ((ptrS s seg a).1.off)).1) ((ptrS s seg a).1.seg) ((((ptrS s seg a).1.off) + 1) + ((ptrS s ((ptrS s seg a).1.seg) ((ptrS s seg a).1.off)).1.off))).count)]) rfl (qD3 _ ((ptrS s ((ptrS s seg a).1.seg) ((ptrS s seg a).1.off)).1) ((ptrS s seg a).1.seg) ((((ptrS s seg a).1.off) + 1) + ((ptrS s ((ptrS s seg a).1.seg) ((ptrS s seg a).1.off)).1.off))) (fun w2_ g2_ => ⟨g2_, rfl⟩)
      apply zG3 (hm := by rfl)
      ·intro w_ g_; refine og rfl ?_; exact zA4 (v := .tuple #[.agg #[.int .i64 ((bndS s (objP ((ptrS s ((ptrS s seg a).1.seg) ((ptrS s seg a).1.off)).1) ((ptrS s seg a).1.seg) ((((ptrS s seg a).1.off) + 1) + ((ptrS s ((ptrS s seg a).1.seg) ((ptrS s seg a).1.off)).1.off)))).1.kind), .int .i64 ((bndS s (objP ((ptrS s ((ptrS s seg a).1.seg) ((ptrS s seg a).1.off)).1) ((ptrS s seg a).1.seg) ((((ptrS s seg a).1.off) + 1) + ((ptrS s ((ptrS s seg a).1.seg) ((ptrS s seg a).1.off)).1.off)))).1.seg), .int .i64 ((bndS s (objP ((ptrS s ((ptrS s seg a).1.seg) ((ptrS s seg a).1.off)).1) ((ptrS s seg a).1.seg) ((((ptrS s seg a).1.off) + 1) + ((ptrS s ((ptrS s seg a).1.seg) ((ptrS s seg a).1.off)).1.off)))).1.at_), .int .i64 ((bndS s (objP ((ptrS s ((ptrS s seg a).1.seg) ((ptrS s seg a).1.off)).1) ((ptrS s seg a).1.seg) ((((ptrS s seg a).1.off) + 1) + ((ptrS s ((ptrS s seg a).1.seg) ((ptrS s seg a).1.off)).1.off)))).1.data), .int .i64 ((bndS s (objP ((ptrS s ((ptrS s seg a).1.seg) ((ptrS s seg a).1.off)).1) ((ptrS s seg a).1.seg) ((((ptrS s seg a).1.off) + 1) + ((ptrS s ((ptrS s seg a).1.seg) ((ptrS s seg a).1.off)).1.off)))).1.ptrs), .int .i64 ((bndS s (objP ((ptrS s ((ptrS s seg a).1.seg) ((ptrS s seg a).1.off)).1) ((ptrS s seg a).1.seg) ((((ptrS s seg a).1.off) + 1) + ((ptrS s ((ptrS s seg a).1.seg) ((ptrS s seg a).1.off)).1.off)))).1.size), .int .i64 ((bndS s (objP ((ptrS s ((ptrS s seg a).1.seg) ((ptrS s seg a).1.off)).1) ((ptrS s seg a).1.seg) ((((ptrS s seg a).1.off) + 1) + ((ptrS s ((ptrS s seg a).1.seg) ((ptrS s seg a).1.off)).1.off)))).1.count)], .int .i64 ((bndS s (objP ((ptrS s ((ptrS s seg a).1.seg) ((ptrS s seg a).1.off)).1) ((ptrS s seg a).1.seg) ((((ptrS s seg a).1.off) + 1) + ((ptrS s ((ptrS s seg a).1.seg) ((ptrS s seg a).1.off)).1.off)))).2)]) rfl (zT8 _ (H.grow (kb_G _ g_)) (objP ((ptrS s ((ptrS s seg a).1.seg) ((ptrS s seg a).1.off)).1) ((ptrS s seg a).1.seg) ((((ptrS s seg a).1.off) + 1) + ((ptrS s ((ptrS s seg a).1.seg) ((ptrS s seg a).1.off)).1.off))) (yL4 hq2 (by simp only [inR]; omega) (by simp only [inR]; omega))) (fun w2_ g2_ => ⟨g2_, rfl⟩)
      apply zG3 (hm := by rfl)
      ·intro w_ g_; exact og rfl (zH5 (v := .tuple #[.agg #[.int .i64 ((bndS s (objP ((ptrS s ((ptrS s seg a).1.seg) ((ptrS s seg a).1.off)).1) ((ptrS s seg a).1.seg) ((((ptrS s seg a).1.off) + 1) + ((ptrS s ((ptrS s seg a).1.seg) ((ptrS s seg a).1.off)).1.off)))).1.kind), .int .i64 ((bndS s (objP ((ptrS s ((ptrS s seg a).1.seg) ((ptrS s seg a).1.off)).1) ((ptrS s seg a).1.seg) ((((ptrS s seg a).1.off) + 1) + ((ptrS s ((ptrS s seg a).1.seg) ((ptrS s seg a).1.off)).1.off)))).1.seg), .int .i64 ((bndS s (objP ((ptrS s ((ptrS s seg a).1.seg) ((ptrS s seg a).1.off)).1) ((ptrS s seg a).1.seg) ((((ptrS s seg a).1.off) + 1) + ((ptrS s ((ptrS s seg a).1.seg) ((ptrS s seg a).1.off)).1.off)))).1.at_), .int .i64 ((bndS s (objP ((ptrS s ((ptrS s seg a).1.seg) ((ptrS s seg a).1.off)).1) ((ptrS s seg a).1.seg) ((((ptrS s seg a).1.off) + 1) + ((ptrS s ((ptrS s seg a).1.seg) ((ptrS s seg a).1.off)).1.off)))).1.data), .int .i64 ((bndS s (objP ((ptrS s ((ptrS s seg a).1.seg) ((ptrS s seg a).1.off)).1) ((ptrS s seg a).1.seg) ((((ptrS s seg a).1.off) + 1) + ((ptrS s ((ptrS s seg a).1.seg) ((ptrS s seg a).1.off)).1.off)))).1.ptrs), .int .i64 ((bndS s (objP ((ptrS s ((ptrS s seg a).1.seg) ((ptrS s seg a).1.off)).1) ((ptrS s seg a).1.seg) ((((ptrS s seg a).1.off) + 1) + ((ptrS s ((ptrS s seg a).1.seg) ((ptrS s seg a).1.off)).1.off)))).1.size), .int .i64 ((bndS s (objP ((ptrS s ((ptrS s seg a).1.seg) ((ptrS s seg a).1.off)).1) ((ptrS s seg a).1.seg) ((((ptrS s seg a).1.off) + 1) + ((ptrS s ((ptrS s seg a).1.seg) ((ptrS s seg a).1.off)).1.off)))).1.count)], .int .i64 ((bndS s (objP ((ptrS s ((ptrS s seg a).1.seg) ((ptrS s seg a).1.off)).1) ((ptrS s seg a).1.seg) ((((ptrS s seg a).1.off) + 1) + ((ptrS s ((ptrS s seg a).1.seg) ((ptrS s seg a).1.off)).1.off)))).2)]) rfl qX)
      apply zG3 (hm := by rfl)
      ·intro w_ g_; exact og rfl (zC9 (v := .agg #[.int .i64 ((bndS s (objP ((ptrS s ((ptrS s seg a).1.seg) ((ptrS s seg a).1.off)).1) ((ptrS s seg a).1.seg) ((((ptrS s seg a).1.off) + 1) + ((ptrS s ((ptrS s seg a).1.seg) ((ptrS s seg a).1.off)).1.off)))).1.kind), .int .i64 ((bndS s (objP ((ptrS s ((ptrS s seg a).1.seg) ((ptrS s seg a).1.off)).1) ((ptrS s seg a).1.seg) ((((ptrS s seg a).1.off) + 1) + ((ptrS s ((ptrS s seg a).1.seg) ((ptrS s seg a).1.off)).1.off)))).1.seg), .int .i64 ((bndS s (objP ((ptrS s ((ptrS s seg a).1.seg) ((ptrS s seg a).1.off)).1) ((ptrS s seg a).1.seg) ((((ptrS s seg a).1.off) + 1) + ((ptrS s ((ptrS s seg a).1.seg) ((ptrS s seg a).1.off)).1.off)))).1.at_), .int .i64 ((bndS s (objP ((ptrS s ((ptrS s seg a).1.seg) ((ptrS s seg a).1.off)).1) ((ptrS s seg a).1.seg) ((((ptrS s seg a).1.off) + 1) + ((ptrS s ((ptrS s seg a).1.seg) ((ptrS s seg a).1.off)).1.off)))).1.data), .int .i64 ((bndS s (objP ((ptrS s ((ptrS s seg a).1.seg) ((ptrS s seg a).1.off)).1) ((ptrS s seg a).1.seg) ((((ptrS s seg a).1.off) + 1) + ((ptrS s ((ptrS s seg a).1.seg) ((ptrS s seg a).1.off)).1.off)))).1.ptrs), .int .i64 ((bndS s (objP ((ptrS s ((ptrS s seg a).1.seg) ((ptrS s seg a).1.off)).1) ((ptrS s seg a).1.seg) ((((ptrS s seg a).1.off) + 1) + ((ptrS s ((ptrS s seg a).1.seg) ((ptrS s seg a).1.off)).1.off)))).1.size), .int .i64 ((bndS s (objP ((ptrS s ((ptrS s seg a).1.seg) ((ptrS s seg a).1.off)).1) ((ptrS s seg a).1.seg) ((((ptrS s seg a).1.off) + 1) + ((ptrS s ((ptrS s seg a).1.seg) ((ptrS s seg a).1.off)).1.off)))).1.count)]) rfl rfl qX)
      apply zG3 (hm := by rfl)
      ·intro w_ g_; exact og rfl (zC9 (v := .int .i64 ((bndS s (objP ((ptrS s ((ptrS s seg a).1.seg) ((ptrS s seg a).1.off)).1) ((ptrS s seg a).1.seg) ((((ptrS s seg a).1.off) + 1) + ((ptrS s ((ptrS s seg a).1.seg) ((ptrS s seg a).1.off)).1.off)))).2)) rfl rfl qX)
      refine yL0 (fun w_ v_ => ∃ b cs, v_ = .pointer (some ⟨b, 0, none⟩) ∧ w99.heap.size ≤ b ∧ cs.size = 7 ∧ w_.heap[b]? = some (.cells cs 112 (0, 0))) (fun _ _ _ g_ ⟨b, cs, h1_, h2_, h3_, h4_⟩ => by obtain ⟨cs2, h5_, h6_⟩ := KtP.new g_ b cs h4_; exact ⟨b, cs2, h1_, h2_, h5_.trans h3_, h6_⟩) (by rfl) ?_ ?_
      ·intro w_ g_
       refine og rfl ?_
       refine zA7 ?_
       intro b_ w2_ hb_ hc_ g2_
       exact ⟨g2_, b_, _, rfl, Nat.le_trans (kb_hsz104 _ g_) hb_, rfl, hc_⟩
      apply qW5 0 (hm := by rfl)
      ·intro w_ g_
       intro v15_ hv15_
       intro s_
       show OpG _ _ _ _ _ _
       refine og rfl ?_
       obtain ⟨b_, cs_, rfl, hge_, hsz_, hb_⟩ := hv15_
       refine zW8 rfl rfl hb_ (by rfl) hsz_ (by rfl) ?_
       intro w2_ s2_ u_
       exact ⟨KtP.of_upd u_ hge_ hb_ s2_ hsz_.symm, ⟨b_, rfl, hge_, s2_⟩, rfl⟩
      refine qW6 ?_
      intro w107 g108
      replace k0_ := ((ktR 112 w99.heap.size).tr k0_ g108)
      replace hc4 := kb_hc4 _ g108
      clear kb_hc4
      replace hc10 := kb_hc10 _ g108
      clear kb_hc10
      replace hc22 := kb_hc22 _ g108
      clear kb_hc22
      replace hc89 := kb_hc89 _ g108
      clear kb_hc89
      replace hsz104 := kb_hsz104 _ g108
      clear kb_hsz104
      replace G := kb_G _ g108
      clear kb_G
      intro v_x104 hv_x104
      rintro ⟨bx104, hbe104, hge104, hc104⟩
      have hbv104 : v_x104 = .pointer (some ⟨bx104, 0, none⟩) := hbe104
      subst hbv104
      clear hv_x104 hbe104
      have hgx104 := Nat.le_trans hgz104 hge104
      refine qZ 6 ?_
      refine stn (qS hc10 ?_)
      intro w109 hc110 u111
      replace hc4 := u111.heap hc4 ne13
      replace hc22 := u111.heap hc22 ne27.symm
      replace hc89 := u111.heap hc89 ne94.symm
      replace hc104 := u111.heap hc104 (Nat.ne_of_lt (Nat.lt_of_lt_of_le ltf104_hc10 hge104)).symm
      replace G := G.upd u111 hge12
      clear u111 hc10
      refine qZ 3 ?_
      refine ret2 (zA5 rfl hc110 (by rfl)) (zA1 (v := .int .i64 ((bndS s (objP ((ptrS s ((ptrS s seg a).1.seg) ((ptrS s seg a).1.off)).1) ((ptrS s seg a).1.seg) ((((ptrS s seg a).1.off) + 1) + ((ptrS s ((ptrS s seg a).1.seg) ((ptrS s seg a).1.off)).1.off)))).2)) rfl) ⟨?_, G⟩
      have h9 : zA0 s seg a = bndS s (objP (ptrS s (ptrS s seg a).1.seg (ptrS s seg a).1.off).1 (ptrS s seg a).1.seg ((ptrS s seg a).1.off + 1 + (ptrS s (ptrS s seg a).1.seg (ptrS s seg a).1.off).1.off)) := by unfold zA0; rw [if_neg h1n, if_neg (by simp [h2]), if_neg (by simp [h3])]; unfold zD0; rw [if_neg h4, if_neg (by simpa using h5), qR9]
      rw [h9]
end Go.Proofs.YtkkbbhpbcfcplaaGreat.K
namespace Go.Proofs.YtkkbbhpbcfcplaaGreat.K
open Go Go.RowKit
section
variable {P : Program} {ops : Array Oper} {Q : Ex → Env → World → Prop} {e : Env} {w : World} {K : Value → World → Prop} {r : List Oper}
variable {d : Option Nat} {ty : TypeId} {pos : String} {af : Array Edge} {g : Option (Nat × Bool)}
variable {t u : TypeId} {x y z : Operand}
theorem qL1 {n c : Nat} {ad : Option Addr} {el : TypeId} {xs : List Int} [hui : ElI P t el 1] [hei : IntI P el .u8] [hsi : StrI P u] (R : RowAt w 1 ad n (xs.map (.int .u8))) (hx : ev e x = .slice ad n c) (h : K (.string (strOfNums xs)) w) : Run1 P ⟨d, .convert t u x, ty, pos, af, g⟩ e w K := by
  have hn : n = xs.length := by have := R.len; simp at this; exact this.symm
  have hu := hui.h
  have ht : P.underlying t = some (.slice el) := by
    unfold elS at hu
    split at hu
    · rename_i el' hul
      split at hu
      · simp only [Option.some.injEq, Prod.mk.injEq] at hu
        obtain ⟨rfl, _⟩ := hu
        exact hul
      · cases hu
    · cases hu
  have key : (convert t u (.slice ad n c)).run P w = .ok (.string (strOfNums xs)) w := by
    rcases Nat.eq_zero_or_pos n with h0 | h0
    · have hxs : xs = [] := List.eq_nil_of_length_eq_zero (by omega)
      subst hxs
      cases ad with
      | none => exact run_convert_bytes_nil w t el ht hei.h n c u hsi.h
      | some a =>
        subst h0
        rw [run_convert_bytes_string w t u el _ 0 c ht hei.h hsi.h, run_bytesToString w a 0 c [] (by rfl)]
        rfl
    · obtain ⟨b, o, cs, T, fr, rfl, hb, hr⟩ := R.at_ h0
      refine run_convert_bytes_arg w t el ht hei.h b o n c xs hn.symm (fun i hi => ?_) u hsi.h
      rw [cell_of_row w b (o + i) cs T fr hb]
      refine zQ4 hr ?_
      rw [List.getElem?_map, List.getElem?_eq_getElem (by omega), List.getD_eq_getElem?_getD, List.getElem?_eq_getElem (by omega)]
      rfl
  exact zE1 (w' := w) (by simp only [execOp, hx, Sem.run_bind, key, Result.andThen_ok, Sem.run_pure]) h
theorem yQ9 {s q : ByteArray} (hx : ev e x = .string s) (hy : ev e y = .string q) (h : K (.bool (s.toList == q.toList)) w) : Run1 P ⟨d, .binOp .eql t x y u, ty, pos, af, g⟩ e w K :=
  zE1 (w' := w) (by
    have hg : ∀ w : World, (eqGuard .eql t x y (.string s) (.string q)).run P w = .ok () w := fun _ => rfl
    simp only [execOp, hx, hy, Sem.run_bind, hg, Result.andThen_ok, binOp, Op.stringOp, Sem.run_pure]) h
end
theorem yL6 : ∀ (xs ys : List Int), (∀ x ∈ xs, inR .u8 x) → (∀ y ∈ ys, inR .u8 y) → (strOfNums xs).data.toList = (strOfNums ys).data.toList → xs = ys := by
  intro xs ys hx hy h2
  simp only [strOfNums_data] at h2
  induction xs generalizing ys with
  | nil => cases ys with
    | nil => rfl
    | cons y ys => simp at h2
  | cons x xs ih => cases ys with
    | nil => simp at h2
    | cons y ys =>
      simp only [List.map_cons, List.cons.injEq] at h2
      have h3 := ih ys (fun z hz => hx z (by simp [hz])) (fun z hz => hy z (by simp [hz])) h2.2
      have h4 := hx x (by simp)
      have h5 := hy y (by simp)
      simp only [inR] at h4 h5
      have h6 := congrArg UInt8.toNat h2.1
      simp only [UInt8.toNat_ofNat'] at h6
      have : x = y := by omega
      rw [this, h3]
theorem yR0 {xs ys : List Int} (hx : ∀ x ∈ xs, inR .u8 x) (hy : ∀ y ∈ ys, inR .u8 y) : ((strOfNums xs).toList == (strOfNums ys).toList) = decide (xs = ys) := by
  rw [ByteArray.toList_eq, ByteArray.toList_eq]
  by_cases h : xs = ys
  · subst h; simp
  · rw [decide_eq_false h, beq_eq_false_iff_ne]
    exact fun hs => h (yL6 xs ys hx hy hs)
end Go.Proofs.YtkkbbhpbcfcplaaGreat.K
namespace Go.Proofs.YtkkbbhpbcfcplaaGreat.K
open Go Go.RowKit Go.Proofs
attribute [local irreducible] Run1 OpG WL W AO zB6
theorem yL7 (w : World) {ad ad2 : Option Addr} {c c2 : Nat} {xs ys : List Int} (R : RowAt w 1 ad xs.length (xs.map (.int .u64))) (R2 : RowAt w 1 ad2 ys.length (ys.map (.int .u64))) : zB6 Tryz.prog 82 #[.slice ad xs.length c, .slice ad2 ys.length c2] w (.bool (decide (xs = ys))) := by
 have l1 := R.lim
 have l2 := R2.lim
 have G := Grow.rfl' w
 refine zA8 Tryz.func82 Tryz.ntmps82 Tryz.results82 rfl rfl ?_
 refine qZ 11 ?_
 refine stp (zG9 rfl rfl ?_)
 refine zA6 ?_
 refine zA2 (b := (decide ((xs.length : Int) ≠ (ys.length : Int)))) rfl (fun h1 => ?_) (fun h1 => ?_)
 ·
  replace h1 := qT h1
  refine qZ 5 ?_
  refine ret1 (zA1 (v := .bool false) rfl) ⟨?_, G⟩
  congr 1; exact (decide_eq_false (fun he => h1 (by rw [he]))).symm
 ·
  replace h1 := qF h1
  have hl : xs.length = ys.length := by omega
  refine qZ 9 ?_
  refine zF5 (fun m_ e_ w_ => ∃ (k : Nat), m_ = xs.length - k ∧ Fr [(0, .slice ad xs.length c), (1, .slice ad2 ys.length c2), (12, .int .i64 (xs.length : Int)), (13, .int .i64 (k : Int))] e_ ∧ (k ≤ xs.length) ∧ (∀ j, j < k → xs.getD j 0 = ys.getD j 0) ∧ Grow w w_) _ ⟨0, rfl, zC6 ⟨rfl, rfl, rfl, rfl, trivial⟩, by omega, fun j hj => by omega, G⟩ ?_
  clear G
  rintro m_ e_ w1 ⟨k, rfl, ⟨e2, rfl⟩, hk2, hk, G⟩
  refine qZ 2 ?_
  refine stp (zF6 rfl rfl ?_)
  refine qZ 2 ?_
  refine zA2 (b := (decide ((k : Int) < (xs.length : Int)))) rfl (fun hlt => ?_) (fun hlt => ?_)
  ·
   replace hlt := qT hlt
   have hk3 : k < ys.length := by omega
   refine qZ 9 ?_
   refine zM8 9 [[], [], [1, 0], [2, 1, 0], [], [], [1, 0], [2, 1, 0], [7, 6, 5, 4, 3, 2, 1, 0]] mixed (by kernel_rfl) (by kernel_rfl) (by kernel_rfl) ?_
   intro w3 g4
   replace G := G.tr g4
   clear g4
   refine qA 2 ?_
   apply zC0
   ·intro w_ g_; refine og rfl ?_; refine zC8 (R.grow (G.tr g_)) rfl rfl ?_ ?_; omega; exact qX
   apply zC0
   ·intro w_ g_; exact og rfl (zC5 (v := .int .u64 (xs.getD k 0)) (m := 0) (R.grow (G.tr g_)) rfl (zE6 0 (by omega)) qX)
   refine qA 2 ?_
   apply zC0
   ·intro w_ g_; refine og rfl ?_; refine zC8 (R2.grow (G.tr g_)) rfl rfl ?_ ?_; omega; exact qX
   apply zC0
   ·intro w_ g_; exact og rfl (zC5 (v := .int .u64 (ys.getD k 0)) (m := 0) (R2.grow (G.tr g_)) rfl (zE6 0 (by omega)) qX)
   apply zC0
   ·intro w_ g_; exact og rfl (zG9 rfl rfl qX)
   refine zI4 ?_
   intro w5 g6
   replace G := G.tr g6
   clear g6
   refine zA6 ?_
   refine zA2 (b := (decide ((xs.getD k 0) ≠ (ys.getD k 0)))) rfl (fun h3 => ?_) (fun h3 => ?_)
   ·
    replace h3 := qT h3
    refine qZ 5 ?_
    refine ret1 (zA1 (v := .bool false) rfl) ⟨?_, G⟩
    congr 1; exact (decide_eq_false (fun he => h3 (by rw [he]))).symm
   ·
    replace h3 := qF h3
    refine qZ 2 ?_
    refine stp (zB5 rfl rfl ?_ ?_); constructor <;> omega
    refine qZ 2 ?_
    refine ⟨_, ?_, k + 1, rfl, zC6 ⟨rfl, rfl, rfl, rfl, trivial⟩, by omega, fun j hj => by rcases Nat.lt_succ_iff_lt_or_eq.1 hj with h_ | h_; exact hk j h_; subst h_; omega, G⟩
    omega
  ·
   replace hlt := qF hlt
   have hk3 : k = xs.length := by omega
   refine qZ 6 ?_
   refine ret1 (zA1 (v := .bool true) rfl) ⟨?_, G⟩
   congr 1; exact (decide_eq_true (yP4 hl (fun j hj => hk j (by omega)))).symm
theorem yL8 (w : World) {ad ad2 : Option Addr} {c c2 : Nat} {xs ys : List Int} (R : RowAt w 1 ad xs.length (xs.map (.int .u8))) (R2 : RowAt w 1 ad2 ys.length (ys.map (.int .u8))) (hx : ∀ x ∈ xs, inR .u8 x) (hy : ∀ y ∈ ys, inR .u8 y) : zB6 Tryz.prog 83 #[.slice ad xs.length c, .slice ad2 ys.length c2] w (.bool (decide (xs = ys))) := by
 have G := Grow.rfl' w
 refine zA8 Tryz.func83 Tryz.ntmps83 Tryz.results83 rfl rfl ?_
 refine qZ 7 ?_
 refine stp (qL1 (xs := xs) (R.grow G) rfl ?_)
 refine qZ 1 ?_
 refine stp (qL1 (xs := ys) (R2.grow G) rfl ?_)
 refine stp ?_
 refine yQ9 rfl rfl ?_
 rw [yR0 hx hy]
 refine qZ 3 ?_
 refine ret1 (zA1 (v := .bool (decide (xs = ys))) rfl) ⟨?_, G⟩
 rfl
theorem yL9 (w : World) {ad ad2 : Option Addr} {c c2 n m fid : Nat} {fst cap : Array Value} {kc kd : List Value} [FuncI Tryz.prog fid] (R : RowAt w 5 ad n kc) (R2 : RowAt w 5 ad2 m kd) (p : Nat → Bool) (hf : ∀ i, i < n → i < m → ∀ w', Grow w w' → zB6 Tryz.prog fid (fst.toList ++ ([Value.agg ((kc.drop (i * 5)).take 5).toArray, Value.agg ((kd.drop (i * 5)).take 5).toArray] ++ cap.toList)).toArray w' (.bool (p i))) (h1c : ∀ i, i < n → ∃ k s a n cp a2 n2 c2 a3 n3 c3, (kc.drop (i * 5)).take 5 = [.int .i64 k, .int .i64 s, .slice a n cp, .slice a2 n2 c2, .slice a3 n3 c3]) (h2c : ∀ i, i < m → ∃ k s a n cp a2 n2 c2 a3 n3 c3, (kd.drop (i * 5)).take 5 = [.int .i64 k, .int .i64 s, .slice a n cp, .slice a2 n2 c2, .slice a3 n3 c3]) : zB6 Tryz.prog 84 #[.slice ad n c, .slice ad2 m c2, .func (.func fid) fst cap] w (.bool (decide (n = m) && (List.range n).all p)) := by
 have l1 := R.lim
 have l2 := R2.lim
 have e1 := R.len
 have e2 := R2.len
 have G := Grow.rfl' w
 refine zA8 Tryz.func84 Tryz.ntmps84 Tryz.results84 rfl rfl ?_
 refine qZ 11 ?_
 refine stp (zG9 rfl rfl ?_)
 refine zA6 ?_
 refine zA2 (b := (decide ((n : Int) ≠ (m : Int)))) rfl (fun h1 => ?_) (fun h1 => ?_)
 ·
  replace h1 := qT h1
  refine qZ 5 ?_
  refine ret1 (zA1 (v := .bool false) rfl) ⟨?_, G⟩
  rw [decide_eq_false (by omega), Bool.false_and]
 ·
  replace h1 := qF h1
  have hl : n = m := by omega
  refine qZ 9 ?_
  refine zF5 (fun m_ e_ w_ => ∃ (k : Nat), m_ = n - k ∧ Fr [(1, .slice ad2 m c2), (2, .func (.func fid) fst cap), (15, .slice ad n c), (16, .int .i64 (n : Int)), (17, .int .i64 (k : Int))] e_ ∧ (k ≤ n) ∧ (∀ j, j < k → p j = true) ∧ Grow w w_) _ ⟨0, rfl, zC6 ⟨rfl, rfl, rfl, rfl, rfl, trivial⟩, by omega, fun j hj => by omega, G⟩ ?_
  clear G
  rintro m_ e_ w1 ⟨k, rfl, ⟨e2, rfl⟩, hk2, hk, G⟩
  refine qZ 2 ?_
  refine stp (zF6 rfl rfl ?_)
  refine qZ 2 ?_
  refine zA2 (b := (decide ((k : Int) < (n : Int)))) rfl (fun hlt => ?_) (fun hlt => ?_)
  ·
   replace hlt := qT hlt
   have hk3 : k < m := by omega
   have hfk := hf k (by omega) hk3
   obtain ⟨x0, x1, x2, x3, x4, x5, x6, x7, x8, x9, x10, hx5⟩ := h1c k (by omega)
   obtain ⟨y0, y1, y2, y3, y4, y5, y6, y7, y8, y9, y10, hy5⟩ := h2c k (by omega)
   rw [hx5, hy5] at hfk
   refine qZ 6 ?_
   refine stp (zC8 (R.grow G) rfl rfl ?_ ?_); omega
   refine stp (zL5 (R.grow G) rfl (by decide) (by omega) hx5 ?_)
   refine stp (zA7 ?_)
   intro b3 w4 hb5 hc6 g7
   refine qZ 1 ?_
   refine stn (qS hc6 ?_)
   intro w8 hc9 u10
   have g11 := g7.upd u10 hb5
   have hge12 := Nat.le_trans G.size hb5
   replace G := G.tr g11
   clear u10 g7 hb5 hc6
   refine qZ 5 ?_
   refine stp (zC8 (R2.grow G) rfl rfl ?_ ?_); omega
   refine stp (zL5 (R2.grow G) rfl (by decide) (by omega) hy5 ?_)
   refine stp (zA7 ?_)
   intro b13 w14 hb15 hc16 g17
   refine stn (qS hc16 ?_)
   intro w18 hc19 u20
   have g21 := g17.upd u20 hb15
   have hge22 := Nat.le_trans G.size hb15
   have ne23 := qN hc9 hb15
   replace hc9 := g21.heap hc9
   replace G := G.tr g21
   clear u20 g17 hb15 hc16
   refine qZ 6 ?_
   refine stp (zA4 (v := .bool (p k)) rfl (hfk _ G) ?_)
   intro w24 g25
   replace hc9 := g25.heap hc9
   replace hc19 := g25.heap hc19
   replace G := G.tr g25
   clear g25
   refine stp (zN8 rfl ?_)
   refine zA6 ?_
   refine zA2 (b := (!(p k))) rfl (fun hpk => ?_) (fun hpk => ?_)
   ·
    simp only [sb] at hpk
    refine qZ 5 ?_
    refine ret1 (zA1 (v := .bool false) rfl) ⟨?_, G⟩
    rw [qS1 (k := k) (by omega) (by simpa using hpk), Bool.and_false]
   ·
    simp only [sb] at hpk
    refine qZ 2 ?_
    refine stp (zB5 rfl rfl ?_ ?_); constructor <;> omega
    refine qZ 2 ?_
    refine ⟨_, ?_, k + 1, rfl, zC6 ⟨rfl, rfl, rfl, rfl, rfl, trivial⟩, by omega, fun j hj => by rcases Nat.lt_succ_iff_lt_or_eq.1 hj with h_ | h_; exact hk j h_; subst h_; simpa using hpk, G⟩
    omega
  ·
   replace hlt := qF hlt
   have hk3 : k = n := by omega
   refine qZ 6 ?_
   refine ret1 (zA1 (v := .bool true) rfl) ⟨?_, G⟩
   rw [qN3 (fun j hj => hk j (by omega)), decide_eq_true hl]; rfl
theorem yF2 : ∀ (n_ : Nat) (w : World) {c : List Value} {t : Nd} (T : NodeR w c t) {d : List Value} {u : Nd} (U : NodeR w d u), t.sz ≤ n_ → zB6 Tryz.prog 47 #[.agg c.toArray, .agg d.toArray] w (.bool (t.beq u)) := by
 intro n_
 induction n_ with
 | zero => intro w c t T d u U hm_; exact absurd hm_ (by have := t.sz_pos; omega)
 | succ n_ ih_ =>
 intro w c t T d u U hm_
 obtain @⟨kind, size, words, bytes, kids, ws, bs, ks, kc, hk, hs, hW, hwr, hB, hbr, hK, hKs⟩ := T
 obtain ⟨aw, cw, rfl, hcw, hcw2, RW⟩ := hW
 obtain ⟨ab, cb, rfl, hcb, hcb2, RB⟩ := hB
 obtain ⟨ak, ck, rfl, hck, hck2, RK⟩ := hK
 have lw := RW.lim
 have lb := RB.lim
 have lk := RK.lim
 simp only [inR] at hk hs
 obtain @⟨kind2, size2, words2, bytes2, kids2, ws2, bs2, ks2, kc2, hk2, hs2, hW2, hwr2, hB2, hbr2, hK2, hKs2⟩ := U
 obtain ⟨aw2, cw2, rfl, hcw2, hcw22, RW2⟩ := hW2
 obtain ⟨ab2, cb2, rfl, hcb2, hcb22, RB2⟩ := hB2
 obtain ⟨ak2, ck2, rfl, hck2, hck22, RK2⟩ := hK2
 have lw2 := RW2.lim
 have lb2 := RB2.lim
 have lk2 := RK2.lim
 simp only [inR] at hk2 hs2
 have G := Grow.rfl' w
 refine zA8 Tryz.func47 Tryz.ntmps47 Tryz.results47 rfl rfl ?_
 refine qZ 2 ?_
 refine stp ?_
 refine qC ?_
 intro b1 w2 hb3 hc4 g5
 have hge6 := Nat.le_trans G.size hb3
 replace G := G.tr g5
 clear g5 hb3
 refine stp ?_
 refine qC ?_
 intro b7 w8 hb9 hc10 g11
 have hge12 := Nat.le_trans G.size hb9
 replace hc4 := g11.heap hc4
 replace G := G.tr g11
 clear g11 hb9
 refine qZ 8 ?_
 refine stp (zD5 rfl rfl ?_)
 refine qZ 1 ?_
 refine qG 4 ?_
 refine zA3 (zB2 (s := .bool _) (v := .bool (decide (size = size2))) rfl (zE2 _) (fun hc17 => ?_) ?_)
 ·
  have hc17_ := qT hc17
  refine zD5 (gvt hc17) (gvt hc17) ?_
  exact ⟨rfl, rfl⟩
 refine stp (zG8 rfl rfl rfl ?_)
 refine qZ 1 ?_
 refine qG 4 ?_
 refine zA3 (zX8 (s := .bool ((decide (kind = kind2)) && (decide (size = size2)))) (b := true) (v := .bool (decide (words = words2))) rfl (zE2 _) (fun hc22 => ?_) ?_)
 ·
  obtain ⟨hc22a, hc22b⟩ := and_t hc22
  have hc22a_ := qT hc22a
  have hc22b_ := qT hc22b
  exact zM7 (l := ([.slice aw words.length cw, .slice aw2 words2.length cw2] : List Value)) rfl (by show ([gv ((decide (kind = kind2)) && (decide (size = size2))) (.slice aw words.length cw), gv ((decide (kind = kind2)) && (decide (size = size2))) (.slice aw2 words2.length cw2)] : List Value) = _; rw [gvt hc22, gvt hc22]) (yL7 _ (RW.grow G) (RW2.grow G)) (fun w2_ g2_ => ⟨rfl, g2_⟩)
 intro w23 g24
 replace hc4 := g24.heap hc4
 replace hc10 := g24.heap hc10
 replace G := G.tr g24
 clear g24
 refine stp (zG8 rfl rfl rfl ?_)
 refine qZ 1 ?_
 refine zA3 (zB2 (s := .bool _) (v := .pointer (some ⟨b1, 3, none⟩)) rfl (zE2 _) (fun hc25 => ?_) ?_)
 ·
  obtain ⟨hc25a, hc25b⟩ := and_t hc25
  obtain ⟨hc25aa, hc25ab⟩ := and_t hc25a
  have hc25aa_ := qT hc25aa
  have hc25ab_ := qT hc25ab
  refine zD4 rfl ?_
  exact ⟨rfl, rfl⟩
 refine zA3 (zB2 (s := .bool _) (v := .slice ab bytes.length cb) rfl (zE2 _) (fun hc26 => ?_) ?_)
 ·
  obtain ⟨hc26a, hc26b⟩ := and_t hc26
  obtain ⟨hc26aa, hc26ab⟩ := and_t hc26a
  have hc26aa_ := qT hc26aa
  have hc26ab_ := qT hc26ab
  refine zG7 (v := .slice ab bytes.length cb) (gvt hc26) hc4 rfl ?_
  exact ⟨rfl, rfl⟩
 refine zA3 (zB2 (s := .bool _) (v := .pointer (some ⟨b7, 3, none⟩)) rfl (zE2 _) (fun hc27 => ?_) ?_)
 ·
  obtain ⟨hc27a, hc27b⟩ := and_t hc27
  obtain ⟨hc27aa, hc27ab⟩ := and_t hc27a
  have hc27aa_ := qT hc27aa
  have hc27ab_ := qT hc27ab
  refine zD4 rfl ?_
  exact ⟨rfl, rfl⟩
 refine zA3 (zB2 (s := .bool _) (v := .slice ab2 bytes2.length cb2) rfl (zE2 _) (fun hc28 => ?_) ?_)
 ·
  obtain ⟨hc28a, hc28b⟩ := and_t hc28
  obtain ⟨hc28aa, hc28ab⟩ := and_t hc28a
  have hc28aa_ := qT hc28aa
  have hc28ab_ := qT hc28ab
  refine zG7 (v := .slice ab2 bytes2.length cb2) (gvt hc28) hc10 rfl ?_
  exact ⟨rfl, rfl⟩
 refine zA3 (zX8 (s := .bool (((decide (kind = kind2)) && (decide (size = size2))) && (decide (words = words2)))) (b := true) (v := .bool (decide (bytes = bytes2))) rfl (zE2 _) (fun hc29 => ?_) ?_)
 ·
  obtain ⟨hc29a, hc29b⟩ := and_t hc29
  obtain ⟨hc29aa, hc29ab⟩ := and_t hc29a
  have hc29aa_ := qT hc29aa
  have hc29ab_ := qT hc29ab
  exact zM7 (l := ([.slice ab bytes.length cb, .slice ab2 bytes2.length cb2] : List Value)) rfl (by show ([gv (((decide (kind = kind2)) && (decide (size = size2))) && (decide (words = words2))) (.slice ab bytes.length cb), gv (((decide (kind = kind2)) && (decide (size = size2))) && (decide (words = words2))) (.slice ab2 bytes2.length cb2)] : List Value) = _; rw [gvt hc29, gvt hc29]) (yL8 _ (RB.grow G) (RB2.grow G) hbr hbr2) (fun w2_ g2_ => ⟨rfl, g2_⟩)
 intro w30 g31
 replace hc4 := g31.heap hc4
 replace hc10 := g31.heap hc10
 replace G := G.tr g31
 clear g31
 refine stp (zG8 rfl rfl rfl ?_)
 refine qZ 1 ?_
 refine zA3 (zB2 (s := .bool _) (v := .pointer (some ⟨b1, 4, none⟩)) rfl (zE2 _) (fun hc32 => ?_) ?_)
 ·
  obtain ⟨hc32a, hc32b⟩ := and_t hc32
  obtain ⟨hc32aa, hc32ab⟩ := and_t hc32a
  obtain ⟨hc32aaa, hc32aab⟩ := and_t hc32aa
  have hc32aaa_ := qT hc32aaa
  have hc32aab_ := qT hc32aab
  refine zD4 rfl ?_
  exact ⟨rfl, rfl⟩
 refine zA3 (zB2 (s := .bool _) (v := .slice ak kids.length ck) rfl (zE2 _) (fun hc33 => ?_) ?_)
 ·
  obtain ⟨hc33a, hc33b⟩ := and_t hc33
  obtain ⟨hc33aa, hc33ab⟩ := and_t hc33a
  obtain ⟨hc33aaa, hc33aab⟩ := and_t hc33aa
  have hc33aaa_ := qT hc33aaa
  have hc33aab_ := qT hc33aab
  refine zG7 (v := .slice ak kids.length ck) (gvt hc33) hc4 rfl ?_
  exact ⟨rfl, rfl⟩
 refine zA3 (zB2 (s := .bool _) (v := .pointer (some ⟨b7, 4, none⟩)) rfl (zE2 _) (fun hc34 => ?_) ?_)
 ·
  obtain ⟨hc34a, hc34b⟩ := and_t hc34
  obtain ⟨hc34aa, hc34ab⟩ := and_t hc34a
  obtain ⟨hc34aaa, hc34aab⟩ := and_t hc34aa
  have hc34aaa_ := qT hc34aaa
  have hc34aab_ := qT hc34aab
  refine zD4 rfl ?_
  exact ⟨rfl, rfl⟩
 refine zA3 (zB2 (s := .bool _) (v := .slice ak2 kids2.length ck2) rfl (zE2 _) (fun hc35 => ?_) ?_)
 ·
  obtain ⟨hc35a, hc35b⟩ := and_t hc35
  obtain ⟨hc35aa, hc35ab⟩ := and_t hc35a
  obtain ⟨hc35aaa, hc35aab⟩ := and_t hc35aa
  have hc35aaa_ := qT hc35aaa
  have hc35aab_ := qT hc35aab
  refine zG7 (v := .slice ak2 kids2.length ck2) (gvt hc35) hc10 rfl ?_
  exact ⟨rfl, rfl⟩
 refine zA3 (zX8 (s := .bool ((((decide (kind = kind2)) && (decide (size = size2))) && (decide (words = words2))) && (decide (bytes = bytes2)))) (b := true) (v := .bool (decide (kids.length = kids2.length) && (List.range kids.length).all (fun i => (kids.getD i (.mk 0 0 [] [] [])).beq (kids2.getD i (.mk 0 0 [] [] []))))) rfl (zE2 _) (fun hc36 => ?_) ?_)
 ·
  obtain ⟨hc36a, hc36b⟩ := and_t hc36
  obtain ⟨hc36aa, hc36ab⟩ := and_t hc36a
  obtain ⟨hc36aaa, hc36aab⟩ := and_t hc36aa
  have hc36aaa_ := qT hc36aaa
  have hc36aab_ := qT hc36aab
  have kid : ∀ i, i < kids.length → i < kids2.length → ∀ w', Grow w30 w' → zB6 Tryz.prog 47 ((#[] : Array Value).toList ++ ([Value.agg ((kc.drop (i * 5)).take 5).toArray, Value.agg ((kc2.drop (i * 5)).take 5).toArray] ++ (#[] : Array Value).toList)).toArray w' (.bool ((kids.getD i (.mk 0 0 [] [] [])).beq (kids2.getD i (.mk 0 0 [] [] [])))) := by
   intro i hi hi2 w' g'
   have hat := KidsR.at_ i kids[i] (hKs.grow (G.tr g')) (by simp [hi])
   have hat2 := KidsR.at_ i kids2[i] (hKs2.grow (G.tr g')) (by simp [hi2])
   have hsz := Nd.szs_at kids i kids[i] (by simp [hi])
   rw [List.getD_eq_getElem?_getD, List.getElem?_eq_getElem hi, Option.getD_some, List.getD_eq_getElem?_getD, List.getElem?_eq_getElem hi2, Option.getD_some]
   exact ih_ w' hat hat2 (by simp only [Nd.sz] at hm_; omega)
  exact zM7 (l := ([.slice ak kids.length ck, .slice ak2 kids2.length ck2, .func (.func 47) #[] #[]] : List Value)) rfl (by show ([gv ((((decide (kind = kind2)) && (decide (size = size2))) && (decide (words = words2))) && (decide (bytes = bytes2))) (.slice ak kids.length ck), gv ((((decide (kind = kind2)) && (decide (size = size2))) && (decide (words = words2))) && (decide (bytes = bytes2))) (.slice ak2 kids2.length ck2), .func (.func 47) #[] #[]] : List Value) = _; rw [gvt hc36, gvt hc36]) (yL9 _ (RK.grow G) (RK2.grow G) (fun i => (kids.getD i (.mk 0 0 [] [] [])).beq (kids2.getD i (.mk 0 0 [] [] []))) kid (fun i hi => (KidsR.at_ i kids[i] hKs (by simp [hi])).cells) (fun i hi => (KidsR.at_ i kids2[i] hKs2 (by simp [hi])).cells)) (fun w2_ g2_ => ⟨rfl, g2_⟩)
 intro w37 g38
 replace hc4 := g38.heap hc4
 replace hc10 := g38.heap hc10
 replace G := G.tr g38
 clear g38
 refine stp (zG8 rfl rfl rfl ?_)
 refine qZ 3 ?_
 refine ret1 (zA1 (v := .bool (((((decide (kind = kind2)) && (decide (size = size2))) && (decide (words = words2))) && (decide (bytes = bytes2))) && (decide (kids.length = kids2.length) && (List.range kids.length).all (fun i => (kids.getD i (.mk 0 0 [] [] [])).beq (kids2.getD i (.mk 0 0 [] [] [])))))) rfl) ⟨?_, G⟩
 rw [Nd.beqs_all, Nd.beq]
end Go.Proofs.YtkkbbhpbcfcplaaGreat.K
