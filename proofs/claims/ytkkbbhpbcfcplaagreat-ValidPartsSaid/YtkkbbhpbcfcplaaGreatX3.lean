/- Plain laws, rules and walks of this claim's functions, laid together. -/
import Derived.Test.YtkkbbhpbcfcplaaGreatX2
import Derived.Laws.BytesArg
import Derived.Laws.Strings
import Derived.Laws.Pointers
set_option linter.unusedVariables false
set_option linter.unusedSimpArgs false
set_option maxRecDepth 100000
namespace Go.Proofs.YtkkbbhpbcfcplaaGreat.K
open Go Go.RowKit Go.Proofs
attribute [local irreducible] Run1 OpG WL W AO zB6
instance : IfcI Tryz.prog 76 := ⟨⟨_, Tryz.underlying76⟩⟩
theorem zQ9 : MethI Tryz.prog 110 "Word" 183 := ⟨fun v args w => by kernel_rfl⟩
theorem zU5 : MethI Tryz.prog 110 "Sizes" 182 := ⟨fun v args w => by kernel_rfl⟩
theorem qC3 (w : World) {a b m : Int} (ha : inR .i64 a) (hb : inR .i64 b) (hm : inR .i64 m) : zB6 Tryz.prog 87 #[.int .i64 a, .int .i64 b, .int .i64 m] w (.tuple #[.int .i64 (if zJ2 a b m then a + b else 0), .bool (zJ2 a b m)]) := by
 simp only [inR] at ha hb hm
 have G := Grow.rfl' w
 refine zA7 Tryz.func87 Tryz.ntmps87 Tryz.results87 rfl rfl ?_
 refine qZ 10 ?_
 refine stp (qL8 rfl rfl rfl ?_)
 refine stp (zG5 rfl rfl ?_)
 refine qZ 1 ?_
 refine qG 2 ?_
 refine zA3 (zB3 (s := .bool _) (v := .bool (decide (a > m))) rfl (zE2 _) (fun hc3 => ?_) ?_)
 ·
  have hc3_ := hc3
  try simp only [sb] at hc3_
  refine zQ5 (gvt hc3) (gvt hc3) ?_
  exact ⟨rfl, rfl⟩
 refine stp (zI0 rfl rfl rfl ?_)
 refine qZ 1 ?_
 refine qG 3 ?_
 refine zA3 (zB3 (s := .bool _) (v := .int .i64 (m - a)) rfl (zE2 _) (fun hc7 => ?_) ?_)
 ·
  have hc7_ := hc7
  try simp only [sb] at hc7_
  refine zO6 (gvt hc7) (gvt hc7) ?_ ?_; constructor <;> omega
  exact ⟨rfl, rfl⟩
 refine zA3 (zB3 (s := .bool _) (v := .bool (decide (b > (m - a)))) rfl (zE2 _) (fun hc8 => ?_) ?_)
 ·
  have hc8_ := hc8
  try simp only [sb] at hc8_
  refine zQ5 (gvt hc8) (gvt hc8) ?_
  exact ⟨rfl, rfl⟩
 refine stp (zI0 rfl rfl rfl ?_)
 refine zA6 ?_
 refine zA2 (b := (((decide ((if b < a then b else a) < 0)) || (decide (a > m))) || (decide (b > (m - a))))) rfl (fun h1 => ?_) (fun h1 => ?_)
 ·
  simp only [sb] at h1
  refine qZ 6 ?_
  refine ret2 (zA1 (v := .int .i64 0) rfl) (zA1 (v := .bool false) rfl) ⟨?_, G⟩
  have h9 : zJ2 a b m = false := by simp only [zJ2]; exact decide_eq_false (by omega)
  rw [h9]; rfl
 ·
  simp only [sb] at h1
  have h9 : zJ2 a b m = true := by simp only [zJ2]; exact decide_eq_true (by omega)
  refine qZ 5 ?_
  refine stp (zB9 rfl rfl ?_ ?_); constructor <;> omega
  refine qZ 4 ?_
  refine ret2 (zA1 (v := .int .i64 (a + b)) rfl) (zA1 (v := .bool true) rfl) ⟨?_, G⟩
  rw [h9]; rfl
theorem qD7 (w : World) {ad : Option Addr} {c : Nat} {sz : List Int} {seg a n : Int} (R : RowAt w 1 ad sz.length (sz.map (.int .i64))) (hs : ∀ i, i < sz.length → 0 ≤ sz.getD i 0 ∧ sz.getD i 0 ≤ 140737488355328) (ha : inR .i64 a) (hn : inR .i64 n) : zB6 Tryz.prog 119 #[.slice ad sz.length c, .int .i64 seg, .int .i64 a, .int .i64 n] w (.bool (zE5 sz seg a n)) := by
 have ll := R.lim
 have G := Grow.rfl' w
 refine zA7 Tryz.func119 Tryz.ntmps119 Tryz.results119 rfl rfl ?_
 refine qZ 8 ?_
 refine stp (zG5 rfl rfl ?_)
 refine qZ 1 ?_
 refine qG 3 ?_
 refine zA3 (zB3 (s := .bool _) (v := .bool (decide (seg ≥ (sz.length : Int)))) rfl (zE2 _) (fun hc4 => ?_) ?_)
 ·
  have hc4_ := hc4
  try simp only [sb] at hc4_
  refine qB2 (gvt hc4) (gvt hc4) ?_
  exact ⟨rfl, rfl⟩
 refine stp (zI0 rfl rfl rfl ?_)
 refine zA6 ?_
 refine zA2 (b := ((decide (seg < 0)) || (decide (seg ≥ (sz.length : Int))))) rfl (fun h1 => ?_) (fun h1 => ?_)
 ·
  simp only [sb] at h1
  refine qZ 5 ?_
  refine ret1 (zA1 (v := .bool false) rfl) ⟨?_, G⟩
  have h9 : zE5 sz seg a n = false := by unfold zE5; rw [decide_eq_false (by omega), Bool.false_and]
  rw [h9]
 ·
  simp only [sb] at h1
  have h9 := hs seg.toNat (by omega)
  refine qZ 7 ?_
  refine stp (zH1 (R.grow G) rfl rfl ?_ ?_ ?_); omega; omega
  refine stp (zE8 (v := .int .i64 (sz.getD seg.toNat 0)) (m := 0) (R.grow G) rfl (by rw [Nat.mul_one]; exact qM0 0 (by omega)) ?_)
  refine stp (zA4 (v := .tuple #[.int .i64 (if zJ2 a n (sz.getD seg.toNat 0) then a + n else 0), .bool (zJ2 a n (sz.getD seg.toNat 0))]) rfl (qC3 _ ha hn (m := sz.getD seg.toNat 0) (by simp only [inR]; omega)) ?_)
  intro w5 g6
  replace G := G.tr g6
  clear g6
  refine qZ 12 ?_
  refine ret1 (zA1 (v := .bool (zJ2 a n (sz.getD seg.toNat 0))) rfl) ⟨?_, G⟩
  unfold zE5; rw [decide_eq_true (by omega), Bool.true_and]
theorem qV4 (w : World) {u : Value} {A : List (List Int)} {seg a : Int} (hA : zF3 w u A) : zB6 Tryz.prog 184 #[u, .int .i64 seg, .int .i64 a] w (.tuple #[.int .u64 ((zG0 A seg a).1), .int .u16 ((zG0 A seg a).2)]) := by
 obtain ⟨ada, ca, segsa, sa, sca, rfl, -, -, RA, hsa, hra⟩ := hA.fn
 have la := RA.lim
 have G := Grow.rfl' w
 refine zA7 Tryz.func184 Tryz.ntmps184 Tryz.results184 rfl rfl ?_
 refine qZ 9 ?_
 refine stp (zG5 rfl rfl ?_)
 refine qZ 1 ?_
 refine qG 3 ?_
 refine zA3 (zB3 (s := .bool _) (v := .bool (decide (seg ≥ (A.length : Int)))) rfl (zE2 _) (fun hc4 => ?_) ?_)
 ·
  have hc4_ := hc4
  try simp only [sb] at hc4_
  refine qB2 (gvt hc4) (gvt hc4) ?_
  exact ⟨rfl, rfl⟩
 refine stp (zI0 rfl rfl rfl ?_)
 refine qZ 1 ?_
 refine qG 1 ?_
 refine zA3 (zB3 (s := .bool _) (v := .bool (decide (a < 0))) rfl (zE2 _) (fun hc6 => ?_) ?_)
 ·
  have hc6_ := hc6
  try simp only [sb] at hc6_
  refine zG5 (gvt hc6) rfl ?_
  exact ⟨rfl, rfl⟩
 refine stp (zI0 rfl rfl rfl ?_)
 refine qZ 1 ?_
 refine qG 3 ?_
 refine zA3 (zB3 (s := .bool _) (v := .pointer (some (eadr ada ((seg).toNat * 1)))) rfl (zE2 _) (fun hc10 => ?_) ?_)
 ·
  have hc10_ := hc10
  try simp only [sb] at hc10_
  refine zH1 (RA.grow G) (gvt hc10) (gvt hc10) ?_ ?_ ?_; omega; omega
  exact ⟨rfl, rfl⟩
 refine zA3 (zB3 (s := .bool _) (v := .slice (sa seg.toNat) (len2 A seg.toNat) (sca seg.toNat)) rfl (zE2 _) (fun hc11 => ?_) ?_)
 ·
  have hc11_ := hc11
  try simp only [sb] at hc11_
  refine zE8 (v := .slice (sa seg.toNat) (len2 A seg.toNat) (sca seg.toNat)) (m := 0) (RA.grow G) (gvt hc11) (by rw [Nat.mul_one]; exact hsa _ (by omega)) ?_
  exact ⟨rfl, rfl⟩
 refine qG 1 ?_
 refine zA3 (zB3 (s := .bool _) (v := .bool (decide (a ≥ ((len2 A seg.toNat) : Int)))) rfl (zE2 _) (fun hc13 => ?_) ?_)
 ·
  have hc13_ := hc13
  try simp only [sb] at hc13_
  refine qB2 (gvt hc13) (gvt hc13) ?_
  exact ⟨rfl, rfl⟩
 refine stp (zI0 rfl rfl rfl ?_)
 refine zA6 ?_
 refine zA2 (b := ((((decide (seg < 0)) || (decide (seg ≥ (A.length : Int)))) || (decide (a < 0))) || (decide (a ≥ ((len2 A seg.toNat) : Int))))) rfl (fun h1 => ?_) (fun h1 => ?_)
 ·
  simp only [sb] at h1
  refine qZ 6 ?_
  refine ret2 (zA1 (v := .int .u64 0) rfl) (zA1 (v := .int .u16 20) rfl) ⟨?_, G⟩
  have h9 : zG0 A seg a = (0, 20) := by unfold zG0; rw [if_neg (by omega)]
  rw [h9]
 ·
  simp only [sb] at h1
  obtain ⟨-, -, Rk⟩ := hra seg.toNat (by omega)
  have lk := Rk.lim
  refine qZ 5 ?_
  refine stp (zH1 (RA.grow G) rfl rfl ?_ ?_ ?_); omega; omega
  refine stp (zE8 (v := .slice (sa seg.toNat) (len2 A seg.toNat) (sca seg.toNat)) (m := 0) (RA.grow G) rfl (by rw [Nat.mul_one]; exact hsa _ (by omega)) ?_)
  refine qZ 1 ?_
  refine stp (zH1 (Rk.grow G) rfl rfl ?_ ?_ ?_); omega; omega
  refine stp (zE8 (v := .int .u64 ((A.getD seg.toNat []).getD a.toNat 0)) (m := 0) (Rk.grow G) rfl (by rw [Nat.mul_one]; exact qM0 0 (by simp only [len2] at *; omega)) ?_)
  refine qZ 4 ?_
  refine ret2 (zA1 (v := .int .u64 ((A.getD seg.toNat []).getD a.toNat 0)) rfl) (zA1 (v := .int .u16 0) rfl) ⟨?_, G⟩
  have h9 : zG0 A seg a = ((A.getD seg.toNat []).getD a.toNat 0, 0) := by unfold zG0; rw [if_pos (by omega)]
  rw [h9]
theorem zK4 (w : World) (p : Pt) : zB6 Tryz.prog 89 #[.agg #[.int .i64 p.kind, .int .i64 p.off, .int .i64 p.data, .int .i64 p.ptrs, .int .i64 p.size, .int .i64 p.count, .int .i64 p.seg, .bool p.dbl]] w (.bool (zH0 p)) := by
 have G := Grow.rfl' w
 refine zA7 Tryz.func89 Tryz.ntmps89 Tryz.results89 rfl rfl ?_
 refine qZ 2 ?_
 refine stp ?_
 refine qC ?_
 intro b1 w2 hb3 hc4 g5
 have hge6 := Nat.le_trans G.size hb3
 replace G := G.tr g5
 clear g5 hb3
 refine qZ 6 ?_
 refine stp (zD5 rfl rfl ?_)
 refine qZ 1 ?_
 refine qG 2 ?_
 refine zA3 (zB3 (s := .bool _) (v := .bool (decide (p.kind = 2))) rfl (zE2 _) (fun hc9 => ?_) ?_)
 ·
  have hc9_ := hc9
  try simp only [sb] at hc9_
  refine zD5 (gvt hc9) rfl ?_
  exact ⟨rfl, rfl⟩
 refine stp (zI0 rfl rfl rfl ?_)
 refine qZ 3 ?_
 refine ret1 (zA1 (v := .bool ((decide (p.kind = 1)) || (decide (p.kind = 2)))) rfl) ⟨?_, G⟩
 rfl
theorem qM7 (w : World) (o : Ob) : zB6 Tryz.prog 118 #[.agg #[.int .i64 o.kind, .int .i64 o.seg, .int .i64 o.at_, .int .i64 o.data, .int .i64 o.ptrs, .int .i64 o.size, .int .i64 o.count]] w (.agg #[.int .i64 o.kind, .int .i64 0, .int .i64 o.data, .int .i64 o.ptrs, .int .i64 o.size, .int .i64 o.count, .int .i64 0, .bool false]) := by
 have G := Grow.rfl' w
 refine zA7 Tryz.func118 Tryz.ntmps118 Tryz.results118 rfl rfl ?_
 refine qZ 2 ?_
 refine stp ?_
 refine qC ?_
 intro b1 w2 hb3 hc4 g5
 have hge6 := Nat.le_trans G.size hb3
 replace G := G.tr g5
 clear g5 hb3
 refine stp (zA8 ?_)
 intro b7 w8 hb9 hc10 g11
 refine qZ 4 ?_
 have hge12 := Nat.le_trans G.size hb9
 have ne13 := qN hc4 hb9
 replace hc4 := g11.heap hc4
 replace G := G.tr g11
 clear g11 hb9
 refine qZ 9 ?_
 refine stp (zB0 (v := .agg #[.int .i64 o.kind, .int .i64 0, .int .i64 o.data, .int .i64 o.ptrs, .int .i64 o.size, .int .i64 o.count, .int .i64 0, .bool false]) (fun w => by kernel_rfl) ?_)
 refine stn (qS hc10 ?_)
 intro w14 hc15 u16
 replace hc4 := u16.heap hc4 ne13
 replace G := G.upd u16 hge12
 clear u16 hc10
 refine qZ 2 ?_
 refine ret1 (zA5 rfl hc15 (by rfl)) ⟨?_, G⟩
 rfl
theorem qD8 (w : World) (o : Ob) : zB6 Tryz.prog 93 #[.agg #[.int .i64 o.kind, .int .i64 o.seg, .int .i64 o.at_, .int .i64 o.data, .int .i64 o.ptrs, .int .i64 o.size, .int .i64 o.count]] w (.int .i64 (zC8 o)) := by
 have G := Grow.rfl' w
 refine zA7 Tryz.func93 Tryz.ntmps93 Tryz.results93 rfl rfl ?_
 refine qZ 2 ?_
 refine stp ?_
 refine qC ?_
 intro b1 w2 hb3 hc4 g5
 have hge6 := Nat.le_trans G.size hb3
 replace G := G.tr g5
 clear g5 hb3
 refine qZ 7 ?_
 refine stp (zD5 rfl rfl ?_)
 refine zA6 ?_
 refine zA2 (b := (decide (o.kind = 3))) rfl (fun h1 => ?_) (fun h1 => ?_)
 ·
  replace h1 := qT h1
  refine qZ 5 ?_
  refine ret1 (zA1 (v := .int .i64 0) rfl) ⟨?_, G⟩
  simp [zC8, Ob.pt, *]
 ·
  replace h1 := qF h1
  refine qZ 4 ?_
  refine stp (zA4 (v := .agg #[.int .i64 o.kind, .int .i64 0, .int .i64 o.data, .int .i64 o.ptrs, .int .i64 o.size, .int .i64 o.count, .int .i64 0, .bool false]) rfl (qM7 _ ⟨o.kind, o.seg, o.at_, o.data, o.ptrs, o.size, o.count⟩) ?_)
  intro w7 g8
  replace hc4 := g8.heap hc4
  replace G := G.tr g8
  clear g8
  refine stp (zA4 (v := .tuple #[.int .i64 (zE9 ⟨o.kind, 0, o.data, o.ptrs, o.size, o.count, 0, false⟩), .int .u16 (zG2 ⟨o.kind, 0, o.data, o.ptrs, o.size, o.count, 0, false⟩)]) rfl (zX5 _ ⟨o.kind, 0, o.data, o.ptrs, o.size, o.count, 0, false⟩) ?_)
  intro w9 g10
  replace hc4 := g10.heap hc4
  replace G := G.tr g10
  clear g10
  refine qZ 12 ?_
  refine ret1 (zA1 (v := .int .i64 (zE9 ⟨o.kind, 0, o.data, o.ptrs, o.size, o.count, 0, false⟩)) rfl) ⟨?_, G⟩
  simp [zC8, Ob.pt, *]
theorem zP1 (w : World) {u : Value} {A : List (List Int)} (hA : zF3 w u A) (seg a : Int) : zB6 Tryz.prog 183 #[.agg #[u], .int .i64 seg, .int .i64 a] w (.tuple #[.int .u64 ((zG0 A seg a).1), .int .u16 ((zG0 A seg a).2)]) := by
 obtain ⟨ada, ca, segsa, sa, sca, rfl, -, -, RA, hsa, hra⟩ := hA.fn
 have G := Grow.rfl' w
 refine zA7 Tryz.func183 Tryz.ntmps183 Tryz.results183 rfl rfl ?_
 refine qZ 2 ?_
 refine stp ?_
 refine qC ?_
 intro b1 w2 hb3 hc4 g5
 have hge6 := Nat.le_trans G.size hb3
 replace G := G.tr g5
 clear g5 hb3
 refine qZ 9 ?_
 refine stp (zA4 (v := .tuple #[.int .u64 ((zG0 A seg a).1), .int .u16 ((zG0 A seg a).2)]) rfl (qV4 _ (hA.grow G)) ?_)
 intro w7 g8
 replace hc4 := g8.heap hc4
 replace G := G.tr g8
 clear g8
 refine qZ 6 ?_
 refine ret2 (zA1 (v := .int .u64 ((zG0 A seg a).1)) rfl) (zA1 (v := .int .u16 ((zG0 A seg a).2)) rfl) ⟨?_, G⟩
 rfl
theorem qE3 (w : World) {u : Value} {A : List (List Int)} (hA : zF3 w u A) (hl : A.length ≤ 1000) : Calls Tryz.prog 182 #[.agg #[u]] w (Ret fun r w2 => ∃ ad c, r = .slice ad A.length c ∧ RowAt w2 1 ad A.length (A.map fun s => .int .i64 (s.length : Int)) ∧ Grow w w2) := by
 obtain ⟨segs_, ⟨ada, ca, rfl, hc1_, hc2_, RA⟩, hrows⟩ := hA
 have G := Grow.rfl' w
 refine zB8 Tryz.func182 Tryz.ntmps182 Tryz.results182 rfl rfl ?_
 refine qZ 2 ?_
 refine stp ?_
 refine qC ?_
 intro b1 w2 hb3 hc4 g5
 have hge6 := Nat.le_trans G.size hb3
 replace G := G.tr g5
 clear g5 hb3
 refine qZ 6 ?_
 refine stp ?_
 refine zD2 rfl (qH5 _ (RA.grow G) rfl (fun i q hq => by obtain ⟨v, h1, h2⟩ := hrows i q hq; exact ⟨v, h1, h2.grow G⟩) (by omega)) ?_
 rintro v_ w7 ⟨own, g_⟩
 replace hc4 := g_.heap hc4
 replace G := G.tr g_
 clear g_
 obtain ⟨ad5, c5, rfl, hc5, hc6, RS⟩ := zH3 own (by omega)
 refine qZ 3 ?_
 refine ret1 (zA1 (v := .slice ad5 A.length c5) rfl) ⟨_, _, rfl, RS, G⟩
theorem qA1 (w : World) {src : Value} {s : Src} (H : SrcOk Tryz.prog w src s) (seg a : Int) : zB6 Tryz.prog 88 #[src, .int .i64 seg, .int .i64 a] w (.tuple #[.agg #[.int .i64 ((ptrS s seg a).1.kind), .int .i64 ((ptrS s seg a).1.off), .int .i64 ((ptrS s seg a).1.data), .int .i64 ((ptrS s seg a).1.ptrs), .int .i64 ((ptrS s seg a).1.size), .int .i64 ((ptrS s seg a).1.count), .int .i64 ((ptrS s seg a).1.seg), .bool ((ptrS s seg a).1.dbl)], .int .u16 ((ptrS s seg a).2)]) := by
 have G := Grow.rfl' w
 refine zA7 Tryz.func88 Tryz.ntmps88 Tryz.results88 rfl rfl ?_
 refine qZ 2 ?_
 refine stp (zA8 ?_)
 intro b1 w2 hb3 hc4 g5
 refine qZ 4 ?_
 refine stp (zG8 (v := src) rfl ?_)
 refine qZ 2 ?_
 have hge6 := Nat.le_trans G.size hb3
 replace G := G.tr g5
 clear g5 hb3
 refine stp (zZ9 H G rfl rfl rfl ?_)
 intro w7 g8
 replace hc4 := g8.heap hc4
 replace G := G.tr g8
 clear g8
 refine qZ 10 ?_
 refine stp (zI1 rfl rfl ?_)
 refine zA6 ?_
 refine zA2 (b := (decide (((s.word seg a).2) ≠ 0))) rfl (fun h1 => ?_) (fun h1 => ?_)
 ·
  replace h1 := qT h1
  refine qZ 2 ?_
  refine stp (zB0 (v := .agg #[.int .i64 0, .int .i64 0, .int .i64 0, .int .i64 0, .int .i64 0, .int .i64 0, .int .i64 0, .bool false]) (fun w => by kernel_rfl) ?_)
  refine qZ 1 ?_
  refine stn (qS hc4 ?_)
  intro w9 hc10 u11
  replace G := G.upd u11 hge6
  clear u11 hc4
  refine qZ 3 ?_
  refine ret2 (zA5 rfl hc10 (by rfl)) (zA1 (v := .int .u16 ((s.word seg a).2)) rfl) ⟨?_, G⟩
  have h9 : ptrS s seg a = (Pt0, (s.word seg a).2) := by unfold ptrS; rw [if_pos h1]
  rw [h9]; rfl
 ·
  replace h1 := qF h1
  refine qZ 4 ?_
  refine stp (zA4 (v := .tuple #[.agg #[.int .i64 ((decP (s.word seg a).1).kind), .int .i64 ((decP (s.word seg a).1).off), .int .i64 ((decP (s.word seg a).1).data), .int .i64 ((decP (s.word seg a).1).ptrs), .int .i64 ((decP (s.word seg a).1).size), .int .i64 ((decP (s.word seg a).1).count), .int .i64 ((decP (s.word seg a).1).seg), .bool ((decP (s.word seg a).1).dbl)], .int .u16 (decE (s.word seg a).1)]) rfl (zK3 _ _ (H.num seg a).1 (H.num seg a).2.1) ?_)
  intro w12 g13
  replace hc4 := g13.heap hc4
  replace G := G.tr g13
  clear g13
  refine qZ 2 ?_
  refine stn (qS hc4 ?_)
  intro w14 hc15 u16
  replace G := G.upd u16 hge6
  clear u16 hc4
  refine qZ 3 ?_
  refine ret2 (zA5 rfl hc15 (by rfl)) (zA1 (v := .int .u16 (decE (s.word seg a).1)) rfl) ⟨?_, G⟩
  have h9 : ptrS s seg a = (decP (s.word seg a).1, decE (s.word seg a).1) := by unfold ptrS; rw [if_neg h1]
  rw [h9]
theorem zX7 (w : World) {src : Value} {s : Src} (H : SrcOk Tryz.prog w src s) (p : Pt) (seg a : Int) (hp : PtR p) (ha : inR .i64 a) : zB6 Tryz.prog 90 #[src, .agg #[.int .i64 p.kind, .int .i64 p.off, .int .i64 p.data, .int .i64 p.ptrs, .int .i64 p.size, .int .i64 p.count, .int .i64 p.seg, .bool p.dbl], .int .i64 seg, .int .i64 a] w (.tuple #[.agg #[.int .i64 ((zA9 s p seg a).1.kind), .int .i64 ((zA9 s p seg a).1.seg), .int .i64 ((zA9 s p seg a).1.at_), .int .i64 ((zA9 s p seg a).1.data), .int .i64 ((zA9 s p seg a).1.ptrs), .int .i64 ((zA9 s p seg a).1.size), .int .i64 ((zA9 s p seg a).1.count)], .int .u16 ((zA9 s p seg a).2)]) := by
 have hw9 := zU0 hp.of
 have G := Grow.rfl' w
 refine zA7 Tryz.func90 Tryz.ntmps90 Tryz.results90 rfl rfl ?_
 refine qZ 2 ?_
 refine stp ?_
 refine qC ?_
 intro b1 w2 hb3 hc4 g5
 have hge6 := Nat.le_trans G.size hb3
 replace G := G.tr g5
 clear g5 hb3
 refine stp (zA8 ?_)
 intro b7 w8 hb9 hc10 g11
 refine qZ 5 ?_
 have hge12 := Nat.le_trans G.size hb9
 have ne13 := qN hc4 hb9
 replace hc4 := g11.heap hc4
 replace G := G.tr g11
 clear g11 hb9
 refine qZ 11 ?_
 refine stp (zB0 (v := .agg #[.int .i64 p.kind, .int .i64 seg, .int .i64 a, .int .i64 p.data, .int .i64 p.ptrs, .int .i64 p.size, .int .i64 p.count]) (fun w => by kernel_rfl) ?_)
 refine stp (zA8 ?_)
 intro b14 w15 hb16 hc17 g18
 refine stn (qS hc17 ?_)
 intro w19 hc20 u21
 have g22 := g18.upd u21 hb16
 have hge23 := Nat.le_trans G.size hb16
 have ne24 := qN hc4 hb16
 have ne25 := qN hc10 hb16
 replace hc4 := g22.heap hc4
 replace hc10 := g22.heap hc10
 replace G := G.tr g22
 clear u21 g18 hb16 hc17
 refine qZ 4 ?_
 refine stp (zA4 (v := .agg #[.int .i64 p.kind, .int .i64 0, .int .i64 p.data, .int .i64 p.ptrs, .int .i64 p.size, .int .i64 p.count, .int .i64 0, .bool false]) rfl (qM7 _ ⟨p.kind, seg, a, p.data, p.ptrs, p.size, p.count⟩) ?_)
 intro w26 g27
 replace hc4 := g27.heap hc4
 replace hc10 := g27.heap hc10
 replace hc20 := g27.heap hc20
 replace G := G.tr g27
 clear g27
 refine stp (zA4 (v := .tuple #[.int .i64 (zE9 ⟨p.kind, 0, p.data, p.ptrs, p.size, p.count, 0, false⟩), .int .u16 (zG2 ⟨p.kind, 0, p.data, p.ptrs, p.size, p.count, 0, false⟩)]) rfl (zX5 _ ⟨p.kind, 0, p.data, p.ptrs, p.size, p.count, 0, false⟩) ?_)
 intro w28 g29
 replace hc4 := g29.heap hc4
 replace hc10 := g29.heap hc10
 replace hc20 := g29.heap hc20
 replace G := G.tr g29
 clear g29
 refine qZ 11 ?_
 refine stp (zI1 rfl rfl ?_)
 refine qZ 2 ?_
 refine zA2 (b := (decide ((zG2 ⟨p.kind, 0, p.data, p.ptrs, p.size, p.count, 0, false⟩) ≠ 0))) rfl (fun h1 => ?_) (fun h1 => ?_)
 ·
  replace h1 := qT h1
  refine qZ 2 ?_
  refine stp (zB0 (v := .agg #[.int .i64 0, .int .i64 0, .int .i64 0, .int .i64 0, .int .i64 0, .int .i64 0, .int .i64 0]) (fun w => by kernel_rfl) ?_)
  refine qZ 1 ?_
  refine stn (qS hc10 ?_)
  intro w30 hc31 u32
  replace hc4 := u32.heap hc4 ne13
  replace hc20 := u32.heap hc20 ne25.symm
  replace G := G.upd u32 hge12
  clear u32 hc10
  refine qZ 3 ?_
  refine ret2 (zA5 rfl hc31 (by rfl)) (zA1 (v := .int .u16 (zG2 ⟨p.kind, 0, p.data, p.ptrs, p.size, p.count, 0, false⟩)) rfl) ⟨?_, G⟩
  have h9 : zA9 s p seg a = (Ob0, zG2 ⟨p.kind, 0, p.data, p.ptrs, p.size, p.count, 0, false⟩) := by unfold zA9; exact if_pos h1
  rw [h9]; rfl
 ·
  replace h1 := qF h1
  refine qZ 2 ?_
  refine stp (zG8 (v := src) rfl ?_)
  refine stp (yD2 H G rfl ?_)
  intro adz cz w33 g34 Rz
  replace hc4 := g34.heap hc4
  replace hc10 := g34.heap hc10
  replace hc20 := g34.heap hc20
  replace G := G.tr g34
  clear g34
  refine qZ 3 ?_
  refine stp (zA4 (v := .bool (zE5 s.sizes seg a (zE9 ⟨p.kind, 0, p.data, p.ptrs, p.size, p.count, 0, false⟩))) rfl (qD7 _ Rz H.each ha (by simp only [inR]; omega)) ?_)
  intro w35 g36
  replace hc4 := g36.heap hc4
  replace hc10 := g36.heap hc10
  replace hc20 := g36.heap hc20
  replace Rz := Rz.grow g36
  replace G := G.tr g36
  clear g36
  refine stp (zQ6 rfl ?_)
  refine qZ 2 ?_
  refine zA2 (b := (!(zE5 s.sizes seg a (zE9 ⟨p.kind, 0, p.data, p.ptrs, p.size, p.count, 0, false⟩)))) rfl (fun h2 => ?_) (fun h2 => ?_)
  ·
   simp only [sb] at h2
   refine qZ 2 ?_
   refine stp (zB0 (v := .agg #[.int .i64 0, .int .i64 0, .int .i64 0, .int .i64 0, .int .i64 0, .int .i64 0, .int .i64 0]) (fun w => by kernel_rfl) ?_)
   refine stn (qS hc10 ?_)
   intro w37 hc38 u39
   replace hc4 := u39.heap hc4 ne13
   replace hc20 := u39.heap hc20 ne25.symm
   replace G := G.upd u39 hge12
   clear u39 hc10
   refine qZ 3 ?_
   refine ret2 (zA5 rfl hc38 (by rfl)) (zA1 (v := .int .u16 20) rfl) ⟨?_, G⟩
   have h9 : zA9 s p seg a = (Ob0, 20) := by unfold zA9; exact (if_neg h1).trans (if_pos (show zE5 s.sizes seg a (zE9 ⟨p.kind, 0, p.data, p.ptrs, p.size, p.count, 0, false⟩) = false from by simpa using h2))
   rw [h9]; rfl
  ·
   simp only [sb] at h2
   refine qZ 4 ?_
   refine stn (qS hc10 ?_)
   intro w40 hc41 u42
   replace hc4 := u42.heap hc4 ne13
   replace hc20 := u42.heap hc20 ne25.symm
   replace G := G.upd u42 hge12
   clear u42 hc10
   refine qZ 3 ?_
   refine ret2 (zA5 rfl hc41 (by rfl)) (zA1 (v := .int .u16 0) rfl) ⟨?_, G⟩
   have h9 : zA9 s p seg a = (objP p seg a, 0) := by unfold zA9; exact (if_neg h1).trans (if_neg (show ¬ zE5 s.sizes seg a (zE9 ⟨p.kind, 0, p.data, p.ptrs, p.size, p.count, 0, false⟩) = false from by simpa using h2))
   rw [h9]; rfl
theorem qQ3 (w : World) {src : Value} {s : Src} (H : SrcOk Tryz.prog w src s) (p : Pt) (hp : PtR p) : zB6 Tryz.prog 92 #[src, .agg #[.int .i64 p.kind, .int .i64 p.off, .int .i64 p.data, .int .i64 p.ptrs, .int .i64 p.size, .int .i64 p.count, .int .i64 p.seg, .bool p.dbl]] w (.tuple #[.agg #[.int .i64 ((zC4 s p).1.kind), .int .i64 ((zC4 s p).1.seg), .int .i64 ((zC4 s p).1.at_), .int .i64 ((zC4 s p).1.data), .int .i64 ((zC4 s p).1.ptrs), .int .i64 ((zC4 s p).1.size), .int .i64 ((zC4 s p).1.count)], .int .u16 ((zC4 s p).2)]) := by
 have hq := zV4 H p.seg p.off
 have hqo := hq.off
 have hpo := hp.off
 have G := Grow.rfl' w
 refine zA7 Tryz.func92 Tryz.ntmps92 Tryz.results92 rfl rfl ?_
 refine qZ 2 ?_
 refine stp ?_
 refine qC ?_
 intro b1 w2 hb3 hc4 g5
 have hge6 := Nat.le_trans G.size hb3
 replace G := G.tr g5
 clear g5 hb3
 refine stp (zA8 ?_)
 intro b7 w8 hb9 hc10 g11
 refine qZ 4 ?_
 refine stp (zG8 (v := src) rfl ?_)
 refine qZ 1 ?_
 have hge12 := Nat.le_trans G.size hb9
 have ne13 := qN hc4 hb9
 replace hc4 := g11.heap hc4
 replace G := G.tr g11
 clear g11 hb9
 refine qZ 3 ?_
 refine stp (zA4 (v := .tuple #[.agg #[.int .i64 ((ptrS s p.seg p.off).1.kind), .int .i64 ((ptrS s p.seg p.off).1.off), .int .i64 ((ptrS s p.seg p.off).1.data), .int .i64 ((ptrS s p.seg p.off).1.ptrs), .int .i64 ((ptrS s p.seg p.off).1.size), .int .i64 ((ptrS s p.seg p.off).1.count), .int .i64 ((ptrS s p.seg p.off).1.seg), .bool ((ptrS s p.seg p.off).1.dbl)], .int .u16 ((ptrS s p.seg p.off).2)]) rfl (qA1 _ (H.grow G) p.seg p.off) ?_)
 intro w14 g15
 replace hc4 := g15.heap hc4
 replace hc10 := g15.heap hc10
 replace G := G.tr g15
 clear g15
 refine qZ 3 ?_
 refine stp (zA8 ?_)
 intro b16 w17 hb18 hc19 g20
 refine stn (qS hc19 ?_)
 intro w21 hc22 u23
 have g24 := g20.upd u23 hb18
 have hge25 := Nat.le_trans G.size hb18
 have ne26 := qN hc4 hb18
 have ne27 := qN hc10 hb18
 replace hc4 := g24.heap hc4
 replace hc10 := g24.heap hc10
 replace G := G.tr g24
 clear u23 g20 hb18 hc19
 refine qZ 7 ?_
 refine stp (zI1 rfl rfl ?_)
 refine qZ 2 ?_
 refine zA2 (b := (decide (((ptrS s p.seg p.off).2) ≠ 0))) rfl (fun h1 => ?_) (fun h1 => ?_)
 ·
  replace h1 := qT h1
  refine qZ 2 ?_
  refine stp (zB0 (v := .agg #[.int .i64 0, .int .i64 0, .int .i64 0, .int .i64 0, .int .i64 0, .int .i64 0, .int .i64 0]) (fun w => by kernel_rfl) ?_)
  refine qZ 1 ?_
  refine stn (qS hc10 ?_)
  intro w28 hc29 u30
  replace hc4 := u30.heap hc4 ne13
  replace hc22 := u30.heap hc22 ne27.symm
  replace G := G.upd u30 hge12
  clear u30 hc10
  refine qZ 3 ?_
  refine ret2 (zA5 rfl hc29 (by rfl)) (zA1 (v := .int .u16 ((ptrS s p.seg p.off).2)) rfl) ⟨?_, G⟩
  have h9 : zC4 s p = (Ob0, (ptrS s p.seg p.off).2) := by unfold zC4; rw [if_pos h1]
  rw [h9]; rfl
 ·
  replace h1 := qF h1
  refine qZ 3 ?_
  refine stp (zA4 (v := .bool (zH0 ((ptrS s p.seg p.off).1))) rfl (zK4 _ ((ptrS s p.seg p.off).1)) ?_)
  intro w31 g32
  replace hc4 := g32.heap hc4
  replace hc10 := g32.heap hc10
  replace hc22 := g32.heap hc22
  replace G := G.tr g32
  clear g32
  refine stp (zQ6 rfl ?_)
  refine qZ 2 ?_
  refine zA2 (b := (!(zH0 ((ptrS s p.seg p.off).1)))) rfl (fun h2 => ?_) (fun h2 => ?_)
  ·
   simp only [sb] at h2
   refine qZ 2 ?_
   refine stp (zB0 (v := .agg #[.int .i64 0, .int .i64 0, .int .i64 0, .int .i64 0, .int .i64 0, .int .i64 0, .int .i64 0]) (fun w => by kernel_rfl) ?_)
   refine stn (qS hc10 ?_)
   intro w33 hc34 u35
   replace hc4 := u35.heap hc4 ne13
   replace hc22 := u35.heap hc22 ne27.symm
   replace G := G.upd u35 hge12
   clear u35 hc10
   refine qZ 3 ?_
   refine ret2 (zA5 rfl hc34 (by rfl)) (zA1 (v := .int .u16 23) rfl) ⟨?_, G⟩
   have h9 : zC4 s p = (Ob0, 23) := by unfold zC4; rw [if_neg h1, if_pos (by simpa using h2)]
   rw [h9]; rfl
  ·
   simp only [sb] at h2
   refine qZ 3 ?_
   refine stp (zG8 (v := src) rfl ?_)
   refine qZ 5 ?_
   refine stp (zB9 rfl rfl ?_ ?_); constructor <;> omega
   refine qZ 2 ?_
   refine stp (zB9 rfl rfl ?_ ?_); constructor <;> omega
   refine stp (zA4 (v := .tuple #[.agg #[.int .i64 ((zA9 s ((ptrS s p.seg p.off).1) p.seg ((p.off + 1) + ((ptrS s p.seg p.off).1.off))).1.kind), .int .i64 ((zA9 s ((ptrS s p.seg p.off).1) p.seg ((p.off + 1) + ((ptrS s p.seg p.off).1.off))).1.seg), .int .i64 ((zA9 s ((ptrS s p.seg p.off).1) p.seg ((p.off + 1) + ((ptrS s p.seg p.off).1.off))).1.at_), .int .i64 ((zA9 s ((ptrS s p.seg p.off).1) p.seg ((p.off + 1) + ((ptrS s p.seg p.off).1.off))).1.data), .int .i64 ((zA9 s ((ptrS s p.seg p.off).1) p.seg ((p.off + 1) + ((ptrS s p.seg p.off).1.off))).1.ptrs), .int .i64 ((zA9 s ((ptrS s p.seg p.off).1) p.seg ((p.off + 1) + ((ptrS s p.seg p.off).1.off))).1.size), .int .i64 ((zA9 s ((ptrS s p.seg p.off).1) p.seg ((p.off + 1) + ((ptrS s p.seg p.off).1.off))).1.count)], .int .u16 ((zA9 s ((ptrS s p.seg p.off).1) p.seg ((p.off + 1) + ((ptrS s p.seg p.off).1.off))).2)]) rfl (zX7 _ (H.grow G) ((ptrS s p.seg p.off).1) p.seg ((p.off + 1) + ((ptrS s p.seg p.off).1.off)) hq (by simp only [inR]; omega)) ?_)
   intro w36 g37
   replace hc4 := g37.heap hc4
   replace hc10 := g37.heap hc10
   replace hc22 := g37.heap hc22
   replace G := G.tr g37
   clear g37
   refine qZ 2 ?_
   refine stn (qS hc10 ?_)
   intro w38 hc39 u40
   replace hc4 := u40.heap hc4 ne13
   replace hc22 := u40.heap hc22 ne27.symm
   replace G := G.upd u40 hge12
   clear u40 hc10
   refine qZ 3 ?_
   refine ret2 (zA5 rfl hc39 (by rfl)) (zA1 (v := .int .u16 ((zA9 s ((ptrS s p.seg p.off).1) p.seg ((p.off + 1) + ((ptrS s p.seg p.off).1.off))).2)) rfl) ⟨?_, G⟩
   have h9 : zC4 s p = zA9 s (ptrS s p.seg p.off).1 p.seg (p.off + 1 + (ptrS s p.seg p.off).1.off) := by unfold zC4; rw [if_neg h1, if_neg (by simpa using h2)]
   rw [h9]
theorem qV5 (w : World) {src : Value} {s : Src} (H : SrcOk Tryz.prog w src s) (p : Pt) (hp : PtR p) : zB6 Tryz.prog 91 #[src, .agg #[.int .i64 p.kind, .int .i64 p.off, .int .i64 p.data, .int .i64 p.ptrs, .int .i64 p.size, .int .i64 p.count, .int .i64 p.seg, .bool p.dbl]] w (.tuple #[.agg #[.int .i64 ((zC9 s p).1.kind), .int .i64 ((zC9 s p).1.seg), .int .i64 ((zC9 s p).1.at_), .int .i64 ((zC9 s p).1.data), .int .i64 ((zC9 s p).1.ptrs), .int .i64 ((zC9 s p).1.size), .int .i64 ((zC9 s p).1.count)], .int .u16 ((zC9 s p).2)]) := by
 have hpo := hp.off
 obtain ⟨n1, n2, -, -⟩ := H.num p.seg p.off
 obtain ⟨n3, n4, -, -⟩ := H.num p.seg (p.off + 1)
 have hq := zJ3 _ n1 n2
 have hr := zJ3 _ n3 n4
 have hqo := hq.off
 have G := Grow.rfl' w
 refine zA7 Tryz.func91 Tryz.ntmps91 Tryz.results91 rfl rfl ?_
 refine qZ 2 ?_
 refine stp ?_
 refine qC ?_
 intro b1 w2 hb3 hc4 g5
 have hge6 := Nat.le_trans G.size hb3
 replace G := G.tr g5
 clear g5 hb3
 refine stp (zA8 ?_)
 intro b7 w8 hb9 hc10 g11
 refine qZ 4 ?_
 refine stp (zG8 (v := src) rfl ?_)
 refine qZ 1 ?_
 have hge12 := Nat.le_trans G.size hb9
 have ne13 := qN hc4 hb9
 replace hc4 := g11.heap hc4
 replace G := G.tr g11
 clear g11 hb9
 refine qZ 3 ?_
 refine stp (zZ9 H G rfl rfl rfl ?_)
 intro w14 g15
 replace hc4 := g15.heap hc4
 replace hc10 := g15.heap hc10
 replace G := G.tr g15
 clear g15
 refine qZ 10 ?_
 refine stp (zI1 rfl rfl ?_)
 refine zA6 ?_
 refine zA2 (b := (decide (((s.word p.seg p.off).2) ≠ 0))) rfl (fun h1 => ?_) (fun h1 => ?_)
 ·
  replace h1 := qT h1
  refine qZ 2 ?_
  refine stp (zB0 (v := .agg #[.int .i64 0, .int .i64 0, .int .i64 0, .int .i64 0, .int .i64 0, .int .i64 0, .int .i64 0]) (fun w => by kernel_rfl) ?_)
  refine qZ 1 ?_
  refine stn (qS hc10 ?_)
  intro w16 hc17 u18
  replace hc4 := u18.heap hc4 ne13
  replace G := G.upd u18 hge12
  clear u18 hc10
  refine qZ 3 ?_
  refine ret2 (zA5 rfl hc17 (by rfl)) (zA1 (v := .int .u16 ((s.word p.seg p.off).2)) rfl) ⟨?_, G⟩
  have h9 : zC9 s p = (Ob0, (s.word p.seg p.off).2) := by unfold zC9; rw [if_pos h1]
  rw [h9]; rfl
 ·
  replace h1 := qF h1
  refine qZ 3 ?_
  refine stp (zG8 (v := src) rfl ?_)
  refine qZ 4 ?_
  refine stp (zB9 rfl rfl ?_ ?_); constructor <;> omega
  refine stp (zZ9 H G rfl rfl rfl ?_)
  intro w19 g20
  replace hc4 := g20.heap hc4
  replace hc10 := g20.heap hc10
  replace G := G.tr g20
  clear g20
  refine qZ 10 ?_
  refine stp (zI1 rfl rfl ?_)
  refine zA6 ?_
  refine zA2 (b := (decide (((s.word p.seg (p.off + 1)).2) ≠ 0))) rfl (fun h2 => ?_) (fun h2 => ?_)
  ·
   replace h2 := qT h2
   refine qZ 2 ?_
   refine stp (zB0 (v := .agg #[.int .i64 0, .int .i64 0, .int .i64 0, .int .i64 0, .int .i64 0, .int .i64 0, .int .i64 0]) (fun w => by kernel_rfl) ?_)
   refine qZ 1 ?_
   refine stn (qS hc10 ?_)
   intro w21 hc22 u23
   replace hc4 := u23.heap hc4 ne13
   replace G := G.upd u23 hge12
   clear u23 hc10
   refine qZ 3 ?_
   refine ret2 (zA5 rfl hc22 (by rfl)) (zA1 (v := .int .u16 ((s.word p.seg (p.off + 1)).2)) rfl) ⟨?_, G⟩
   have h9 : zC9 s p = (Ob0, (s.word p.seg (p.off + 1)).2) := by unfold zC9; rw [if_neg h1, if_pos h2]
   rw [h9]; rfl
  ·
   replace h2 := qF h2
   refine qZ 4 ?_
   refine stp (zA4 (v := .tuple #[.agg #[.int .i64 ((decP (s.word p.seg p.off).1).kind), .int .i64 ((decP (s.word p.seg p.off).1).off), .int .i64 ((decP (s.word p.seg p.off).1).data), .int .i64 ((decP (s.word p.seg p.off).1).ptrs), .int .i64 ((decP (s.word p.seg p.off).1).size), .int .i64 ((decP (s.word p.seg p.off).1).count), .int .i64 ((decP (s.word p.seg p.off).1).seg), .bool ((decP (s.word p.seg p.off).1).dbl)], .int .u16 (decE (s.word p.seg p.off).1)]) rfl (zK3 _ _ (H.num p.seg p.off).1 (H.num p.seg p.off).2.1) ?_)
   intro w24 g25
   replace hc4 := g25.heap hc4
   replace hc10 := g25.heap hc10
   replace G := G.tr g25
   clear g25
   refine qZ 3 ?_
   refine stp (zA8 ?_)
   intro b26 w27 hb28 hc29 g30
   refine stn (qS hc29 ?_)
   intro w31 hc32 u33
   have g34 := g30.upd u33 hb28
   have hge35 := Nat.le_trans G.size hb28
   have ne36 := qN hc4 hb28
   have ne37 := qN hc10 hb28
   replace hc4 := g34.heap hc4
   replace hc10 := g34.heap hc10
   replace G := G.tr g34
   clear u33 g30 hb28 hc29
   refine qZ 6 ?_
   refine stp (zI1 rfl rfl ?_)
   refine zA6 ?_
   refine zA2 (b := (decide ((decE (s.word p.seg p.off).1) ≠ 0))) rfl (fun h3 => ?_) (fun h3 => ?_)
   ·
    replace h3 := qT h3
    refine qZ 2 ?_
    refine stp (zB0 (v := .agg #[.int .i64 0, .int .i64 0, .int .i64 0, .int .i64 0, .int .i64 0, .int .i64 0, .int .i64 0]) (fun w => by kernel_rfl) ?_)
    refine qZ 1 ?_
    refine stn (qS hc10 ?_)
    intro w38 hc39 u40
    replace hc4 := u40.heap hc4 ne13
    replace hc32 := u40.heap hc32 ne37.symm
    replace G := G.upd u40 hge12
    clear u40 hc10
    refine qZ 3 ?_
    refine ret2 (zA5 rfl hc39 (by rfl)) (zA1 (v := .int .u16 (decE (s.word p.seg p.off).1)) rfl) ⟨?_, G⟩
    have h9 : zC9 s p = (Ob0, decE (s.word p.seg p.off).1) := by unfold zC9; rw [if_neg h1, if_neg h2, if_pos h3]
    rw [h9]; rfl
   ·
    replace h3 := qF h3
    refine qZ 4 ?_
    refine stp (zA4 (v := .tuple #[.agg #[.int .i64 ((decP (s.word p.seg (p.off + 1)).1).kind), .int .i64 ((decP (s.word p.seg (p.off + 1)).1).off), .int .i64 ((decP (s.word p.seg (p.off + 1)).1).data), .int .i64 ((decP (s.word p.seg (p.off + 1)).1).ptrs), .int .i64 ((decP (s.word p.seg (p.off + 1)).1).size), .int .i64 ((decP (s.word p.seg (p.off + 1)).1).count), .int .i64 ((decP (s.word p.seg (p.off + 1)).1).seg), .bool ((decP (s.word p.seg (p.off + 1)).1).dbl)], .int .u16 (decE (s.word p.seg (p.off + 1)).1)]) rfl (zK3 _ _ (H.num p.seg (p.off + 1)).1 (H.num p.seg (p.off + 1)).2.1) ?_)
    intro w41 g42
    replace hc4 := g42.heap hc4
    replace hc10 := g42.heap hc10
    replace hc32 := g42.heap hc32
    replace G := G.tr g42
    clear g42
    refine qZ 3 ?_
    refine stp (zA8 ?_)
    intro b43 w44 hb45 hc46 g47
    refine stn (qS hc46 ?_)
    intro w48 hc49 u50
    have g51 := g47.upd u50 hb45
    have hge52 := Nat.le_trans G.size hb45
    have ne53 := qN hc4 hb45
    have ne54 := qN hc10 hb45
    have ne55 := qN hc32 hb45
    replace hc4 := g51.heap hc4
    replace hc10 := g51.heap hc10
    replace hc32 := g51.heap hc32
    replace G := G.tr g51
    clear u50 g47 hb45 hc46
    refine qZ 7 ?_
    refine stp (zI1 rfl rfl ?_)
    refine qZ 2 ?_
    refine zA2 (b := (decide ((decE (s.word p.seg (p.off + 1)).1) ≠ 0))) rfl (fun h4 => ?_) (fun h4 => ?_)
    ·
     replace h4 := qT h4
     refine qZ 2 ?_
     refine stp (zB0 (v := .agg #[.int .i64 0, .int .i64 0, .int .i64 0, .int .i64 0, .int .i64 0, .int .i64 0, .int .i64 0]) (fun w => by kernel_rfl) ?_)
     refine qZ 1 ?_
     refine stn (qS hc10 ?_)
     intro w56 hc57 u58
     replace hc4 := u58.heap hc4 ne13
     replace hc32 := u58.heap hc32 ne37.symm
     replace hc49 := u58.heap hc49 ne54.symm
     replace G := G.upd u58 hge12
     clear u58 hc10
     refine qZ 3 ?_
     refine ret2 (zA5 rfl hc57 (by rfl)) (zA1 (v := .int .u16 (decE (s.word p.seg (p.off + 1)).1)) rfl) ⟨?_, G⟩
     have h9 : zC9 s p = (Ob0, decE (s.word p.seg (p.off + 1)).1) := by unfold zC9; rw [if_neg h1, if_neg h2, if_neg h3, if_pos h4]
     rw [h9]; rfl
    ·
     replace h4 := qF h4
     refine qZ 4 ?_
     refine stp (zI1 rfl rfl ?_)
     refine qZ 1 ?_
     refine qG 2 ?_
     refine stp (zI0 rfl rfl rfl ?_)
     refine qZ 1 ?_
     refine zA3 (zB3 (s := .bool _) (v := .agg #[.int .i64 ((decP (s.word p.seg (p.off + 1)).1).kind), .int .i64 ((decP (s.word p.seg (p.off + 1)).1).off), .int .i64 ((decP (s.word p.seg (p.off + 1)).1).data), .int .i64 ((decP (s.word p.seg (p.off + 1)).1).ptrs), .int .i64 ((decP (s.word p.seg (p.off + 1)).1).size), .int .i64 ((decP (s.word p.seg (p.off + 1)).1).count), .int .i64 ((decP (s.word p.seg (p.off + 1)).1).seg), .bool ((decP (s.word p.seg (p.off + 1)).1).dbl)]) rfl (zE2 _) (fun hc61 => ?_) ?_)
     ·
      have hc61_ := hc61
      try simp only [sb] at hc61_
      refine zD8 rfl hc49 (by rfl) ?_
      exact ⟨rfl, rfl⟩
     refine zA3 (zZ5 (s := .bool ((decide (((decP (s.word p.seg p.off).1).kind) ≠ 3)) || ((decP (s.word p.seg p.off).1).dbl))) (b := false) (v := .bool (zH0 (decP (s.word p.seg (p.off + 1)).1))) rfl (zE2 _) (fun hc62 => ?_) ?_)
     ·
      have hc62_ := hc62
      try simp only [sb] at hc62_
      exact zN7 (l := ([.agg #[.int .i64 ((decP (s.word p.seg (p.off + 1)).1).kind), .int .i64 ((decP (s.word p.seg (p.off + 1)).1).off), .int .i64 ((decP (s.word p.seg (p.off + 1)).1).data), .int .i64 ((decP (s.word p.seg (p.off + 1)).1).ptrs), .int .i64 ((decP (s.word p.seg (p.off + 1)).1).size), .int .i64 ((decP (s.word p.seg (p.off + 1)).1).count), .int .i64 ((decP (s.word p.seg (p.off + 1)).1).seg), .bool ((decP (s.word p.seg (p.off + 1)).1).dbl)]] : List Value)) rfl (by show ([gv (!((decide (((decP (s.word p.seg p.off).1).kind) ≠ 3)) || ((decP (s.word p.seg p.off).1).dbl))) (.agg #[.int .i64 ((decP (s.word p.seg (p.off + 1)).1).kind), .int .i64 ((decP (s.word p.seg (p.off + 1)).1).off), .int .i64 ((decP (s.word p.seg (p.off + 1)).1).data), .int .i64 ((decP (s.word p.seg (p.off + 1)).1).ptrs), .int .i64 ((decP (s.word p.seg (p.off + 1)).1).size), .int .i64 ((decP (s.word p.seg (p.off + 1)).1).count), .int .i64 ((decP (s.word p.seg (p.off + 1)).1).seg), .bool ((decP (s.word p.seg (p.off + 1)).1).dbl)])] : List Value) = _; rw [gvt hc62]) (zK4 _ (decP (s.word p.seg (p.off + 1)).1)) (fun w2_ g2_ => ⟨rfl, g2_⟩)
     intro w63 g64
     replace hc4 := g64.heap hc4
     replace hc10 := g64.heap hc10
     replace hc32 := g64.heap hc32
     replace hc49 := g64.heap hc49
     replace G := G.tr g64
     clear g64
     refine zA3 (zB3 (s := .bool _) (v := .bool (!(zH0 (decP (s.word p.seg (p.off + 1)).1)))) rfl (zE2 _) (fun hc65 => ?_) ?_)
     ·
      have hc65_ := hc65
      try simp only [sb] at hc65_
      refine zQ6 (gvt hc65) ?_
      exact ⟨rfl, rfl⟩
     refine stp (zI0 rfl rfl rfl ?_)
     refine qZ 1 ?_
     refine qG 2 ?_
     refine zA3 (zB3 (s := .bool _) (v := .bool (decide (((decP (s.word p.seg (p.off + 1)).1).off) ≠ 0))) rfl (zE2 _) (fun hc68 => ?_) ?_)
     ·
      have hc68_ := hc68
      try simp only [sb] at hc68_
      refine zI1 (gvt hc68) rfl ?_
      exact ⟨rfl, rfl⟩
     refine stp (zI0 rfl rfl rfl ?_)
     refine qZ 2 ?_
     refine zA2 (b := ((((decide (((decP (s.word p.seg p.off).1).kind) ≠ 3)) || ((decP (s.word p.seg p.off).1).dbl)) || (!(zH0 (decP (s.word p.seg (p.off + 1)).1)))) || (decide (((decP (s.word p.seg (p.off + 1)).1).off) ≠ 0)))) rfl (fun h5 => ?_) (fun h5 => ?_)
     ·
      simp only [sb] at h5
      have h8 : (decP (s.word p.seg p.off).1).kind ≠ 3 ∨ (decP (s.word p.seg p.off).1).dbl = true ∨ zH0 (decP (s.word p.seg (p.off + 1)).1) = false ∨ (decP (s.word p.seg (p.off + 1)).1).off ≠ 0 := by simpa [or_assoc] using h5
      refine qZ 2 ?_
      refine stp (zB0 (v := .agg #[.int .i64 0, .int .i64 0, .int .i64 0, .int .i64 0, .int .i64 0, .int .i64 0, .int .i64 0]) (fun w => by kernel_rfl) ?_)
      refine stn (qS hc10 ?_)
      intro w69 hc70 u71
      replace hc4 := u71.heap hc4 ne13
      replace hc32 := u71.heap hc32 ne37.symm
      replace hc49 := u71.heap hc49 ne54.symm
      replace G := G.upd u71 hge12
      clear u71 hc10
      refine qZ 3 ?_
      refine ret2 (zA5 rfl hc70 (by rfl)) (zA1 (v := .int .u16 23) rfl) ⟨?_, G⟩
      have h9 : zC9 s p = (Ob0, 23) := by unfold zC9; rw [if_neg h1, if_neg h2, if_neg h3, if_neg h4, if_pos h8]
      rw [h9]; rfl
     ·
      simp only [sb] at h5
      have h8 : ¬ ((decP (s.word p.seg p.off).1).kind ≠ 3 ∨ (decP (s.word p.seg p.off).1).dbl = true ∨ zH0 (decP (s.word p.seg (p.off + 1)).1) = false ∨ (decP (s.word p.seg (p.off + 1)).1).off ≠ 0) := by simpa [and_assoc] using h5
      refine qZ 3 ?_
      refine stp (zG8 (v := src) rfl ?_)
      refine qZ 5 ?_
      refine stp (zA4 (v := .tuple #[.agg #[.int .i64 ((zA9 s (decP (s.word p.seg (p.off + 1)).1) ((decP (s.word p.seg p.off).1).seg) ((decP (s.word p.seg p.off).1).off)).1.kind), .int .i64 ((zA9 s (decP (s.word p.seg (p.off + 1)).1) ((decP (s.word p.seg p.off).1).seg) ((decP (s.word p.seg p.off).1).off)).1.seg), .int .i64 ((zA9 s (decP (s.word p.seg (p.off + 1)).1) ((decP (s.word p.seg p.off).1).seg) ((decP (s.word p.seg p.off).1).off)).1.at_), .int .i64 ((zA9 s (decP (s.word p.seg (p.off + 1)).1) ((decP (s.word p.seg p.off).1).seg) ((decP (s.word p.seg p.off).1).off)).1.data), .int .i64 ((zA9 s (decP (s.word p.seg (p.off + 1)).1) ((decP (s.word p.seg p.off).1).seg) ((decP (s.word p.seg p.off).1).off)).1.ptrs), .int .i64 ((zA9 s (decP (s.word p.seg (p.off + 1)).1) ((decP (s.word p.seg p.off).1).seg) ((decP (s.word p.seg p.off).1).off)).1.size), .int .i64 ((zA9 s (decP (s.word p.seg (p.off + 1)).1) ((decP (s.word p.seg p.off).1).seg) ((decP (s.word p.seg p.off).1).off)).1.count)], .int .u16 ((zA9 s (decP (s.word p.seg (p.off + 1)).1) ((decP (s.word p.seg p.off).1).seg) ((decP (s.word p.seg p.off).1).off)).2)]) rfl (zX7 _ (H.grow G) (decP (s.word p.seg (p.off + 1)).1) ((decP (s.word p.seg p.off).1).seg) ((decP (s.word p.seg p.off).1).off) hr (by simp only [inR]; omega)) ?_)
      intro w72 g73
      replace hc4 := g73.heap hc4
      replace hc10 := g73.heap hc10
      replace hc32 := g73.heap hc32
      replace hc49 := g73.heap hc49
      replace G := G.tr g73
      clear g73
      refine qZ 2 ?_
      refine stn (qS hc10 ?_)
      intro w74 hc75 u76
      replace hc4 := u76.heap hc4 ne13
      replace hc32 := u76.heap hc32 ne37.symm
      replace hc49 := u76.heap hc49 ne54.symm
      replace G := G.upd u76 hge12
      clear u76 hc10
      refine qZ 3 ?_
      refine ret2 (zA5 rfl hc75 (by rfl)) (zA1 (v := .int .u16 ((zA9 s (decP (s.word p.seg (p.off + 1)).1) ((decP (s.word p.seg p.off).1).seg) ((decP (s.word p.seg p.off).1).off)).2)) rfl) ⟨?_, G⟩
      have h9 : zC9 s p = zA9 s (decP (s.word p.seg (p.off + 1)).1) (decP (s.word p.seg p.off).1).seg (decP (s.word p.seg p.off).1).off := by unfold zC9; rw [if_neg h1, if_neg h2, if_neg h3, if_neg h4, if_neg h8]
      rw [h9]
theorem qQ4 (w : World) {src : Value} {s : Src} (H : SrcOk Tryz.prog w src s) (seg a : Int) : zB6 Tryz.prog 52 #[src, .int .i64 seg, .int .i64 a] w (.tuple #[.agg #[.int .i64 ((zA0 s seg a).1.kind), .int .i64 ((zA0 s seg a).1.seg), .int .i64 ((zA0 s seg a).1.at_), .int .i64 ((zA0 s seg a).1.data), .int .i64 ((zA0 s seg a).1.ptrs), .int .i64 ((zA0 s seg a).1.size), .int .i64 ((zA0 s seg a).1.count)], .int .u16 ((zA0 s seg a).2)]) := by
 obtain ⟨t_, u_, f_, hsrc, -, -⟩ := H.word
 have hq := zV4 H seg a
 have hqo := hq.off
 have G := Grow.rfl' w
 refine zA7 Tryz.func52 Tryz.ntmps52 Tryz.results52 rfl rfl ?_
 refine qZ 2 ?_
 refine stp (zA8 ?_)
 intro b1 w2 hb3 hc4 g5
 refine qZ 5 ?_
 refine stp (zG8 (v := src) rfl ?_)
 refine stp (yA1 (T := t_) (v := u_) hsrc rfl ?_)
 refine zA6 ?_
 have hge6 := Nat.le_trans G.size hb3
 replace G := G.tr g5
 clear g5 hb3
 refine zQ4 rfl ?_
 refine qZ 3 ?_
 refine stp (zG8 (v := src) rfl ?_)
 refine qZ 2 ?_
 refine stp (zA4 (v := .tuple #[.agg #[.int .i64 ((ptrS s seg a).1.kind), .int .i64 ((ptrS s seg a).1.off), .int .i64 ((ptrS s seg a).1.data), .int .i64 ((ptrS s seg a).1.ptrs), .int .i64 ((ptrS s seg a).1.size), .int .i64 ((ptrS s seg a).1.count), .int .i64 ((ptrS s seg a).1.seg), .bool ((ptrS s seg a).1.dbl)], .int .u16 ((ptrS s seg a).2)]) rfl (qA1 _ (H.grow G) seg a) ?_)
 intro w7 g8
 replace hc4 := g8.heap hc4
 replace G := G.tr g8
 clear g8
 refine qZ 3 ?_
 refine stp (zA8 ?_)
 intro b9 w10 hb11 hc12 g13
 refine stn (qS hc12 ?_)
 intro w14 hc15 u16
 have g17 := g13.upd u16 hb11
 have hge18 := Nat.le_trans G.size hb11
 have ne19 := qN hc4 hb11
 replace hc4 := g17.heap hc4
 replace G := G.tr g17
 clear u16 g13 hb11 hc12
 refine qZ 7 ?_
 refine stp (zI1 rfl rfl ?_)
 refine qZ 1 ?_
 refine qG 2 ?_
 refine zA3 (zB3 (s := .bool _) (v := .bool (decide (((ptrS s seg a).1.kind) = 0))) rfl (zE2 _) (fun hc22 => ?_) ?_)
 ·
  have hc22_ := hc22
  try simp only [sb] at hc22_
  refine zD5 (gvt hc22) rfl ?_
  exact ⟨rfl, rfl⟩
 refine stp (zI0 rfl rfl rfl ?_)
 refine qZ 2 ?_
 refine zA2 (b := ((decide (((ptrS s seg a).2) ≠ 0)) || (decide (((ptrS s seg a).1.kind) = 0)))) rfl (fun h1 => ?_) (fun h1 => ?_)
 ·
  simp only [sb] at h1
  refine qZ 2 ?_
  refine stp (zB0 (v := .agg #[.int .i64 0, .int .i64 0, .int .i64 0, .int .i64 0, .int .i64 0, .int .i64 0, .int .i64 0]) (fun w => by kernel_rfl) ?_)
  refine qZ 1 ?_
  refine stn (qS hc4 ?_)
  intro w23 hc24 u25
  replace hc15 := u25.heap hc15 ne19.symm
  replace G := G.upd u25 hge6
  clear u25 hc4
  refine qZ 3 ?_
  refine ret2 (zA5 rfl hc24 (by rfl)) (zA1 (v := .int .u16 ((ptrS s seg a).2)) rfl) ⟨?_, G⟩
  have h9 : zA0 s seg a = (Ob0, (ptrS s seg a).2) := by unfold zA0; rw [if_pos h1]
  rw [h9]; rfl
 ·
  simp only [sb] at h1
  have hz : (ptrS s seg a).2 = 0 := by omega
  have hb := yV8 H hz
  have h1n : ¬ ((ptrS s seg a).2 ≠ 0 ∨ (ptrS s seg a).1.kind = 0) := by omega
  refine qZ 3 ?_
  refine stp (zA4 (v := .bool (zH0 ((ptrS s seg a).1))) rfl (zK4 _ ((ptrS s seg a).1)) ?_)
  intro w26 g27
  replace hc4 := g27.heap hc4
  replace hc15 := g27.heap hc15
  replace G := G.tr g27
  clear g27
  refine qZ 2 ?_
  refine zA2 (b := (zH0 ((ptrS s seg a).1))) rfl (fun h2 => ?_) (fun h2 => ?_)
  ·
   refine qZ 2 ?_
   refine stp (zG8 (v := src) rfl ?_)
   refine qZ 3 ?_
   refine stp (zB9 rfl rfl ?_ ?_); constructor <;> omega
   refine qZ 2 ?_
   refine stp (zB9 rfl rfl ?_ ?_); constructor <;> omega
   refine stp (zA4 (v := .tuple #[.agg #[.int .i64 ((zA9 s ((ptrS s seg a).1) seg ((a + 1) + ((ptrS s seg a).1.off))).1.kind), .int .i64 ((zA9 s ((ptrS s seg a).1) seg ((a + 1) + ((ptrS s seg a).1.off))).1.seg), .int .i64 ((zA9 s ((ptrS s seg a).1) seg ((a + 1) + ((ptrS s seg a).1.off))).1.at_), .int .i64 ((zA9 s ((ptrS s seg a).1) seg ((a + 1) + ((ptrS s seg a).1.off))).1.data), .int .i64 ((zA9 s ((ptrS s seg a).1) seg ((a + 1) + ((ptrS s seg a).1.off))).1.ptrs), .int .i64 ((zA9 s ((ptrS s seg a).1) seg ((a + 1) + ((ptrS s seg a).1.off))).1.size), .int .i64 ((zA9 s ((ptrS s seg a).1) seg ((a + 1) + ((ptrS s seg a).1.off))).1.count)], .int .u16 ((zA9 s ((ptrS s seg a).1) seg ((a + 1) + ((ptrS s seg a).1.off))).2)]) rfl (zX7 _ (H.grow G) ((ptrS s seg a).1) seg ((a + 1) + ((ptrS s seg a).1.off)) hq (by simp only [inR]; omega)) ?_)
   intro w28 g29
   replace hc4 := g29.heap hc4
   replace hc15 := g29.heap hc15
   replace G := G.tr g29
   clear g29
   refine qZ 2 ?_
   refine stn (qS hc4 ?_)
   intro w30 hc31 u32
   replace hc15 := u32.heap hc15 ne19.symm
   replace G := G.upd u32 hge6
   clear u32 hc4
   refine qZ 3 ?_
   refine ret2 (zA5 rfl hc31 (by rfl)) (zA1 (v := .int .u16 ((zA9 s ((ptrS s seg a).1) seg ((a + 1) + ((ptrS s seg a).1.off))).2)) rfl) ⟨?_, G⟩
   have h9 : zA0 s seg a = zA9 s (ptrS s seg a).1 seg (a + 1 + (ptrS s seg a).1.off) := by unfold zA0; rw [if_neg h1n, if_pos h2]
   rw [h9]
  ·
   refine qZ 6 ?_
   refine zA2 (b := ((ptrS s seg a).1.dbl)) rfl (fun h3 => ?_) (fun h3 => ?_)
   ·
    refine qZ 2 ?_
    refine stp (zG8 (v := src) rfl ?_)
    refine qZ 1 ?_
    refine stp (zA4 (v := .tuple #[.agg #[.int .i64 ((zC9 s (ptrS s seg a).1).1.kind), .int .i64 ((zC9 s (ptrS s seg a).1).1.seg), .int .i64 ((zC9 s (ptrS s seg a).1).1.at_), .int .i64 ((zC9 s (ptrS s seg a).1).1.data), .int .i64 ((zC9 s (ptrS s seg a).1).1.ptrs), .int .i64 ((zC9 s (ptrS s seg a).1).1.size), .int .i64 ((zC9 s (ptrS s seg a).1).1.count)], .int .u16 ((zC9 s (ptrS s seg a).1).2)]) rfl (qV5 _ (H.grow G) (ptrS s seg a).1 hq) ?_)
    intro w33 g34
    replace hc4 := g34.heap hc4
    replace hc15 := g34.heap hc15
    replace G := G.tr g34
    clear g34
    refine qZ 2 ?_
    refine stn (qS hc4 ?_)
    intro w35 hc36 u37
    replace hc15 := u37.heap hc15 ne19.symm
    replace G := G.upd u37 hge6
    clear u37 hc4
    refine qZ 3 ?_
    refine ret2 (zA5 rfl hc36 (by rfl)) (zA1 (v := .int .u16 ((zC9 s (ptrS s seg a).1).2)) rfl) ⟨?_, G⟩
    have h9 : zA0 s seg a = zC9 s (ptrS s seg a).1 := by unfold zA0; rw [if_neg h1n, if_neg (by simp [h2]), if_pos h3]
    rw [h9]
   ·
    refine qZ 3 ?_
    refine stp (zG8 (v := src) rfl ?_)
    refine qZ 1 ?_
    refine stp (zA4 (v := .tuple #[.agg #[.int .i64 ((zC4 s (ptrS s seg a).1).1.kind), .int .i64 ((zC4 s (ptrS s seg a).1).1.seg), .int .i64 ((zC4 s (ptrS s seg a).1).1.at_), .int .i64 ((zC4 s (ptrS s seg a).1).1.data), .int .i64 ((zC4 s (ptrS s seg a).1).1.ptrs), .int .i64 ((zC4 s (ptrS s seg a).1).1.size), .int .i64 ((zC4 s (ptrS s seg a).1).1.count)], .int .u16 ((zC4 s (ptrS s seg a).1).2)]) rfl (qQ3 _ (H.grow G) (ptrS s seg a).1 hq) ?_)
    intro w38 g39
    replace hc4 := g39.heap hc4
    replace hc15 := g39.heap hc15
    replace G := G.tr g39
    clear g39
    refine qZ 2 ?_
    refine stn (qS hc4 ?_)
    intro w40 hc41 u42
    replace hc15 := u42.heap hc15 ne19.symm
    replace G := G.upd u42 hge6
    clear u42 hc4
    refine qZ 3 ?_
    refine ret2 (zA5 rfl hc41 (by rfl)) (zA1 (v := .int .u16 ((zC4 s (ptrS s seg a).1).2)) rfl) ⟨?_, G⟩
    have h9 : zA0 s seg a = zC4 s (ptrS s seg a).1 := by unfold zA0; rw [if_neg h1n, if_neg (by simp [h2]), if_neg (by simp [h3])]
    rw [h9]
theorem qQ5 (w : World) {b : Nat} {o : Ob} {left : Int} {t_ : TypeId} {u_ : Value} (hb : w.heap[b]? = some (.cells #[.iface t_ u_, .int .i64 o.kind, .int .i64 o.seg, .int .i64 o.at_, .int .i64 o.data, .int .i64 o.ptrs, .int .i64 o.size, .int .i64 o.count, .int .i64 left] 117 (0, 0))) (h0 : -1 ≤ left ∧ left ≤ 9223372036854775807) (h1 : 0 ≤ zC8 o ∧ zC8 o ≤ 536870912) : Calls Tryz.prog 53 #[.pointer (some ⟨b, 0, none⟩)] w (Ret fun v w' => v = .int .u16 (if left - (1 + zC8 o) < 0 then 22 else 0) ∧ w'.heap[b]? = some (.cells #[.iface t_ u_, .int .i64 o.kind, .int .i64 o.seg, .int .i64 o.at_, .int .i64 o.data, .int .i64 o.ptrs, .int .i64 o.size, .int .i64 o.count, .int .i64 (left - (1 + zC8 o))] 117 (0, 0)) ∧ Kp [b] w w') := by
 have K := Kp.refl [b] w
 refine zB8 Tryz.func53 Tryz.ntmps53 Tryz.results53 rfl rfl ?_
 refine qZ 5 ?_
 refine zO5 12 [[], [0], [1, 0], [2, 1, 0], [], [0], [1, 0], [2, 1, 0], [3, 2, 1, 0], [4, 3, 2, 1, 0], [9, 8, 7, 6, 5, 4, 3, 2, 1, 0], [10, 9, 8, 7, 6, 5, 4, 3, 2, 1, 0]] mixed (by kernel_rfl) (by kernel_rfl) (by kernel_rfl) ?_
 intro w1 g2
 replace hb := g2.heap hb
 replace K := K.tr g2.kp
 clear g2
 refine qA 7 ?_
 apply zC3
 ·intro w_ g_; exact og rfl (zG9 rfl (g_.heap hb) (by rfl) (by rfl) qX)
 apply zC3
 ·intro w_ g_; refine og rfl ?_; exact zA4 (v := .int .i64 (zC8 o)) rfl (qD8 _ o) (fun w2_ g2_ => ⟨g2_, rfl⟩)
 apply zC3
 ·intro w_ g_; refine og rfl ?_; refine zB9 rfl rfl ?_ ?_; constructor <;> omega; exact qX
 apply zC3
 ·intro w_ g_; refine og rfl ?_; refine zO6 rfl rfl ?_ ?_; constructor <;> omega; exact qX
 refine qA 1 ?_
 refine zI6 ?_
 intro w3 g4
 replace hb := g4.heap hb
 replace K := K.tr g4.kp
 clear g4
 refine qZ 1 ?_
 refine stn (zC6 (v := .int .i64 (left - (1 + (zC8 o)))) rfl rfl (by rfl) hb (by rfl) (by rfl) ?_)
 intro w5 hc6 u7
 replace K := K.tr (Kp.of_upd u7 (by simp))
 clear u7 hb
 refine qZ 8 ?_
 refine stp (zG5 rfl rfl ?_)
 refine zA6 ?_
 refine zA2 (b := (decide ((left - (1 + (zC8 o))) < 0))) rfl (fun h2 => ?_) (fun h2 => ?_)
 ·
  replace h2 := qT h2
  refine qZ 5 ?_
  refine ret1 (zA1 (v := .int .u16 22) rfl) ⟨by rw [if_pos h2], hc6, K⟩
 ·
  replace h2 := qF h2
  refine qZ 6 ?_
  refine ret1 (zA1 (v := .int .u16 0) rfl) ⟨by rw [if_neg h2], hc6, K⟩
theorem yQ0 (w : World) {b : Nat} {o : Ob} {left : Int} {t_ : TypeId} {u_ : Value} (hb : w.heap[b]? = some (.cells #[.iface t_ u_, .int .i64 o.kind, .int .i64 o.seg, .int .i64 o.at_, .int .i64 o.data, .int .i64 o.ptrs, .int .i64 o.size, .int .i64 o.count, .int .i64 left] 117 (0, 0))) : zB6 Tryz.prog 55 #[.pointer (some ⟨b, 0, none⟩)] w (.agg #[.int .i64 ((isS o).kind), .int .i64 ((isS o).size), .int .i64 ((isS o).words), .int .i64 ((isS o).kids), .int .u64 ((isS o).word)]) := by
 have G := Grow.rfl' w
 refine zA7 Tryz.func55 Tryz.ntmps55 Tryz.results55 rfl rfl ?_
 refine qZ 2 ?_
 refine stp (zA8 ?_)
 intro b1 w2 hb3 hc4 g5
 refine qZ 6 ?_
 have hge6 := Nat.le_trans G.size hb3
 have ne7 := qN hb hb3
 replace hb := g5.heap hb
 replace G := G.tr g5
 clear g5 hb3
 refine stp (zG9 rfl hb (by rfl) (by rfl) ?_)
 refine stp (zA8 ?_)
 intro b8 w9 hb10 hc11 g12
 refine stn (qS hc11 ?_)
 intro w13 hc14 u15
 have g16 := g12.upd u15 hb10
 have hge17 := Nat.le_trans G.size hb10
 have ne18 := qN hb hb10
 have ne19 := qN hc4 hb10
 replace hb := g16.heap hb
 replace hc4 := g16.heap hc4
 replace G := G.tr g16
 clear u15 g12 hb10 hc11
 refine qZ 11 ?_
 refine stp (zB0 (v := .agg #[.int .i64 o.kind, .int .i64 o.size, .int .i64 o.data, .int .i64 o.ptrs, .int .u64 0]) (fun w => by kernel_rfl) ?_)
 refine stp (zA8 ?_)
 intro b20 w21 hb22 hc23 g24
 refine stn (qS hc23 ?_)
 intro w25 hc26 u27
 have g28 := g24.upd u27 hb22
 have hge29 := Nat.le_trans G.size hb22
 have ne30 := qN hb hb22
 have ne31 := qN hc4 hb22
 have ne32 := qN hc14 hb22
 replace hb := g28.heap hb
 replace hc4 := g28.heap hc4
 replace hc14 := g28.heap hc14
 replace G := G.tr g28
 clear u27 g24 hb22 hc23
 refine qZ 7 ?_
 refine stp (zI1 rfl rfl ?_)
 refine qZ 2 ?_
 refine zA2 (b := (decide (o.kind ≠ 2))) rfl (fun h1 => ?_) (fun h1 => ?_)
 ·
  replace h1 := qT h1
  refine qZ 4 ?_
  refine stn (qS hc4 ?_)
  intro w33 hc34 u35
  replace hb := u35.heap hb ne7
  replace hc14 := u35.heap hc14 ne19.symm
  replace hc26 := u35.heap hc26 ne31.symm
  replace G := G.upd u35 hge6
  clear u35 hc4
  refine qZ 2 ?_
  refine ret1 (zA5 rfl hc34 (by rfl)) ⟨?_, G⟩
  simp [isS, *]
 ·
  replace h1 := qF h1
  refine qZ 4 ?_
  refine stp (zD5 rfl rfl ?_)
  refine qZ 2 ?_
  refine zA2 (b := (decide (o.size = 6))) rfl (fun h2 => ?_) (fun h2 => ?_)
  ·
   replace h2 := qT h2
   refine qZ 4 ?_
   refine stn (zC6 (v := .int .i64 o.count) rfl rfl (by rfl) hc26 (by rfl) (by rfl) ?_)
   intro w36 hc37 u38
   replace hb := u38.heap hb ne30
   replace hc4 := u38.heap hc4 ne31
   replace hc14 := u38.heap hc14 ne32
   replace G := G.upd u38 hge29
   clear u38 hc26
   refine qZ 4 ?_
   refine stn (qS hc4 ?_)
   intro w39 hc40 u41
   replace hb := u41.heap hb ne7
   replace hc14 := u41.heap hc14 ne19.symm
   replace hc37 := u41.heap hc37 ne31.symm
   replace G := G.upd u41 hge6
   clear u41 hc4
   refine qZ 2 ?_
   refine ret1 (zA5 rfl hc40 (by rfl)) ⟨?_, G⟩
   simp [isS, *]
  ·
   replace h2 := qF h2
   refine qZ 4 ?_
   refine stn (zC6 (v := .int .i64 o.count) rfl rfl (by rfl) hc26 (by rfl) (by rfl) ?_)
   intro w42 hc43 u44
   replace hb := u44.heap hb ne30
   replace hc4 := u44.heap hc4 ne31
   replace hc14 := u44.heap hc14 ne32
   replace G := G.upd u44 hge29
   clear u44 hc26
   refine qZ 4 ?_
   refine stn (qS hc4 ?_)
   intro w45 hc46 u47
   replace hb := u47.heap hb ne7
   replace hc14 := u47.heap hc14 ne19.symm
   replace hc43 := u47.heap hc43 ne31.symm
   replace G := G.upd u47 hge6
   clear u47 hc4
   refine qZ 2 ?_
   refine ret1 (zA5 rfl hc46 (by rfl)) ⟨?_, G⟩
   simp [isS, *]
theorem qH6 (w : World) {ad : Option Addr} {n c : Nat} : zB6 Tryz.prog 31 #[.slice ad n c] w (.iface 110 (.agg #[.slice ad n c])) := by
 have G := Grow.rfl' w
 refine zA7 Tryz.func31 Tryz.ntmps31 Tryz.results31 rfl rfl ?_
 refine qZ 2 ?_
 refine stp (zJ0 (v := .nilIface) rfl ?_)
 refine qZ 4 ?_
 refine stp (zB0 (v := .agg #[.slice ad n c]) (fun w => by kernel_rfl) ?_)
 refine stp (qG2 (v := .agg #[.slice ad n c]) rfl ?_)
 refine qZ 3 ?_
 refine ret1 (zA1 (v := .iface 110 (.agg #[.slice ad n c])) rfl) ⟨?_, G⟩
 rfl
theorem yQ1 {w : World} {u : Value} {A : List (List Int)} (hA : zF3 w u A) (hr : OkA A) : SrcOk Tryz.prog w (.iface 110 (.agg #[u])) (zB1 A) :=
  yJ6 hr zQ9 zU5 (fun w' g seg a => zP1 w' (hA.grow g) seg a) (fun w' g => qE3 w' (hA.grow g) (by have := hr.most; omega))
theorem zU6 (w : World) {t_ : TypeId} {u_ : Value} {s : Src} (H : SrcOk Tryz.prog w (.iface t_ u_) s) {bd : Nat} {paid : Int} (hb : w.heap[bd]? = some (.cells #[.iface t_ u_, .int .i64 paid] 172 (0, 0))) (seg : Int) {a : Int} (a0 : 0 ≤ a) (a1 : a ≤ 140737488355328) {n : Nat} (hn : n ≤ 10000) : Calls Tryz.prog 131 #[.pointer (some ⟨bd, 0, none⟩), .int .i64 seg, .int .i64 a, .int .i64 (n : Int)] w (Ret fun v w' => Row (hide w.heap.size w') 1 v n ((zN4 s seg a n).map (.int .u64)) ∧ Grow w w') := by
 have G := Grow.rfl' w
 refine zB8 Tryz.func131 Tryz.ntmps131 Tryz.results131 rfl rfl ?_
 refine qZ 15 ?_
 refine zF4 (fun m_ e_ w_ => ∃ (m : Nat) (ad3 : Option Addr) (n3 : Nat) (c3 : Nat), m_ = n - m ∧ Fr [(0, .pointer (some ⟨bd, 0, none⟩)), (1, .int .i64 seg), (2, .int .i64 a), (8, .slice none 0 0), (13, .int .i64 (n : Int)), (9, .slice ad3 n3 c3), (14, .int .i64 (m : Int))] e_ ∧ (m ≤ n) ∧ (w_.heap[bd]? = some (.cells #[.iface t_ u_, .int .i64 paid] 172 (0, 0))) ∧ (w_.ownsRow w.heap.size 23 1 (.slice ad3 n3 c3) m ((zN4 s seg a m).map (.int .u64))) ∧ Grow w w_) _ ⟨0, none, 0, 0, rfl, zD3 ⟨rfl, rfl, rfl, rfl, rfl, rfl, rfl, trivial⟩, by omega, hb, World.ownsRow_nil _ _ _ _, G⟩ ?_
 clear hb
 clear G
 rintro m_ e_ w1 ⟨m, ad3, n3, c3, rfl, ⟨e2, rfl⟩, hm, hb, own, G⟩
 refine qZ 2 ?_
 refine stp (zG5 rfl rfl ?_)
 refine qZ 2 ?_
 refine zA2 (b := (decide ((m : Int) < (n : Int)))) rfl (fun hlt => ?_) (fun hlt => ?_)
 ·
  replace hlt := qT hlt
  have hnum := H.num seg (a + (m : Int))
  refine qZ 17 ?_
  refine stp (zB9 rfl rfl ?_ ?_); constructor <;> omega
  refine stp (zZ9 H G rfl rfl rfl ?_)
  intro w3 g4
  replace hb := g4.heap hb
  replace own := zB7 own g4
  replace G := G.tr g4
  clear g4
  refine qZ 9 ?_
  refine stp (zB5 (cs := #[.int .u64 ((s.word seg (a + (m : Int))).1)]) (el := 23) (fun w => by kernel_rfl) ?_)
  intro bs5 w6 hb7 hc8 g9
  have hge10 := Nat.le_trans G.size hb7
  replace hb := g9.heap hb
  replace own := zB7 own g9
  replace G := G.tr g9
  clear g9
  refine stp (zF8 rfl rfl rfl rfl own (Row.of_block (n := 1) hc8 rfl rfl (by omega)) (fun q_ hq_ => by simp at hq_; subst hq_; rfl) (by simp only [maxLen]; omega) (by omega) G.size ?_)
  intro v11 w12 own6 gr6
  replace G := G.grown gr6 (zI3 own)
  replace hb := zH9 gr6 hb (zE6 own hb (by decide))
  clear own gr6
  obtain ⟨ad4, n4, c4, rfl⟩ := zD6 own6
  refine qZ 3 ?_
  refine stp (zB9 rfl rfl ?_ ?_); constructor <;> omega
  refine qZ 2 ?_
  refine ⟨_, ?_, m + 1, ad4, n4, c4, rfl, zD3 ⟨rfl, rfl, rfl, rfl, rfl, rfl, congrArg (Value.int .i64) (by omega), trivial⟩, by omega, hb, (by rw [qU6, List.map_append]; exact own6), G⟩
  omega
 ·
  replace hlt := qF hlt
  have hm2 : m = n := by omega
  subst hm2
  refine qZ 7 ?_
  refine ret1 (zA1 (v := .slice ad3 n3 c3) rfl) ⟨qI7 own (zI2 _ _ _ _) (by omega), G⟩
theorem yF0 (w : World) {x : Int} (h0 : 0 ≤ x) (h1 : x ≤ 18446744073709551615) : Calls Tryz.prog 157 #[.int .u64 x, .int .i64 8] w (Ret fun v w' => Row w' 1 v 8 ((byt8 x).map (.int .u8)) ∧ Grow w w') := by
 have G := Grow.rfl' w
 refine zB8 Tryz.func157 Tryz.ntmps157 Tryz.results157 rfl rfl ?_
 refine qZ 7 ?_
 refine stp ?_
 refine qL8 rfl rfl rfl ?_
 rw [show (if (8 : Int) < 8 then 8 else 8) = (8 : Int) from rfl]
 refine stp ?_
 refine qO2 rfl rfl rfl ?_
 rw [show (if (8 : Int) > 0 then 8 else 0) = (8 : Int) from rfl]
 refine stp (yI6 (n := 8) (base := w.heap.size) rfl rfl (by first | omega | (simp only [maxLen]; omega)) (by first | omega | (simp only [maxLen]; omega)) G.size ?_)
 intro bm4 w1 hb2 own5 g3
 rw [show (madeCells (Value.cells (.int .u8 0 : Value)) (8 * 1)).toList = List.replicate 8 (.int .u8 0) from by rw [Nat.mul_one]; exact toList_madeCells_one _ _] at own5
 replace G := G.tr g3
 clear g3
 refine qZ 10 ?_
 obtain ⟨hge_, cur0, hc0_, hsz0, hcur0⟩ := own_made' own5
 clear own5
 refine zF4 (fun m_ e_ w_ => ∃ (k : Nat) (cur : Array Value), m_ = 8 - k ∧ Fr [(0, .int .u64 x), (4, .slice none 0 0), (5, .slice (some ⟨bm4, 0, none⟩) 8 8), (12, .int .i64 8), (13, .int .i64 (k : Int))] e_ ∧ (k ≤ 8) ∧ (cur.toList = putCells x k) ∧ (w_.heap[bm4]? = some (.cells cur 5 (0, 0))) ∧ Grow w w_) _ ⟨0, cur0, rfl, zD3 ⟨rfl, rfl, rfl, rfl, rfl, trivial⟩, by omega, hcur0, hc0_, G⟩ ?_
 clear G
 rintro m_ e_ w6 ⟨k, cur, rfl, ⟨e7, rfl⟩, hk, hcur, hc_, G⟩
 refine qZ 2 ?_
 refine stp (zG5 rfl rfl ?_)
 refine qZ 2 ?_
 refine zA2 (b := (decide ((k : Int) < 8))) rfl (fun hlt => ?_) (fun hlt => ?_)
 ·
  replace hlt := qT hlt
  have hszc : cur.size = 8 := by rw [← Array.length_toList, hcur]; exact qP7 x k (by omega)
  refine qZ 13 ?_
  refine stp (zY5 rfl rfl ?_ ?_); constructor <;> omega
  refine stp (yO3 rfl rfl ?_ ?_); omega
  refine stp ?_
  refine zH7 rfl ?_
  rw [yP1 x k h0 h1 (by omega)]
  refine stp ?_
  refine zH8 rfl rfl (by omega) (by omega) ?_
  rw [show 0 + ((k : Int)).toNat * 1 = k from by omega]
  refine stn (zC6 (v := .int .u8 (byt1 x k)) rfl rfl (by rfl) hc_ (Nat.ble_eq_true_of_le (by omega)) (by rfl) ?_)
  intro w8 hc9 u10
  replace G := G.upd u10 hge_
  clear u10 hc_
  refine qZ 2 ?_
  refine stp (zB9 rfl rfl ?_ ?_); constructor <;> omega
  refine qZ 2 ?_
  refine ⟨_, ?_, k + 1, _, rfl, zD3 ⟨rfl, rfl, rfl, rfl, congrArg (Value.int .i64) (by omega), trivial⟩, by omega, (by simp only [hcur]; exact qP6 x k (by omega)), hc9, G⟩
  omega
 ·
  replace hlt := qF hlt
  have hk8 : k = 8 := by omega
  subst hk8
  refine qZ 7 ?_
  refine ret1 (zA1 (v := .slice (some ⟨bm4, 0, none⟩) 8 8) rfl) ⟨Row.of_block (n := 8) hc_ (by rw [hcur]; exact qP8 x) (by simp [byt8]) (by omega), G⟩
theorem qQ6 (w : World) {t_ : TypeId} {u_ : Value} {s : Src} (H : SrcOk Tryz.prog w (.iface t_ u_) s) {bd : Nat} {paid : Int} (hb : w.heap[bd]? = some (.cells #[.iface t_ u_, .int .i64 paid] 172 (0, 0))) (seg : Int) {a : Int} (a0 : 0 ≤ a) (a1 : a ≤ 140737488355328) {n : Nat} (hn : n ≤ 80000) : Calls Tryz.prog 132 #[.pointer (some ⟨bd, 0, none⟩), .int .i64 seg, .int .i64 a, .int .i64 (n : Int)] w (Ret fun v w' => Row (hide w.heap.size w') 1 v n ((qH1 s seg a n).map (.int .u8)) ∧ Grow w w') := by
 have G := Grow.rfl' w
 refine zB8 Tryz.func132 Tryz.ntmps132 Tryz.results132 rfl rfl ?_
 refine qZ 15 ?_
 refine stp (zA4 (v := .int .i64 (((n + 7) / 8 : Nat) : Int)) rfl (zJ1 (yE7 _ _ (by omega) (by omega)) (y := .int .i64 (((n + 7) / 8 : Nat) : Int)) (by congr 1 <;> omega)) ?_)
 intro w1 g2
 replace hb := g2.heap hb
 replace G := G.tr g2
 clear g2
 refine stp ?_
 refine zD2 rfl (zU6 _ (H.grow G) hb seg a0 a1 (n := (n + 7) / 8) (by omega)) ?_
 rintro v_ w3 ⟨⟨ad5, c5, rfl, -, -, R5⟩, g_⟩
 have RW := R5.sees (Sees.seen _ _)
 clear R5
 replace hb := g_.heap hb
 replace G := G.tr g_
 clear g_
 have hB5 := G.size
 have G5 := Grow.rfl' w3
 have hB6 : w3.heap.size ≤ w3.heap.size := Nat.le_refl _
 refine qZ 4 ?_
 refine zF4 (fun m_ e_ w_ => ∃ (m : Nat) (ad3 : Option Addr) (n3 : Nat) (c3 : Nat), m_ = (n + 7) / 8 - m ∧ Fr [(3, .int .i64 (n : Int)), (8, .slice none 0 0), (17, .slice ad5 ((n + 7) / 8) c5), (18, .int .i64 (((n + 7) / 8 : Nat) : Int)), (9, .slice ad3 n3 c3), (19, .int .i64 (m : Int))] e_ ∧ (m ≤ (n + 7) / 8) ∧ (w_.heap[bd]? = some (.cells #[.iface t_ u_, .int .i64 paid] 172 (0, 0))) ∧ (Grow w3 w_) ∧ (w_.ownsRow w3.heap.size 5 1 (.slice ad3 n3 c3) (8 * m) ((((zN4 s seg a ((n + 7) / 8)).take m).flatMap byt8).map (.int .u8))) ∧ Grow w w_) _ ⟨0, none, 0, 0, rfl, zD3 ⟨rfl, rfl, rfl, rfl, rfl, rfl, trivial⟩, by omega, hb, G5, World.ownsRow_nil _ _ _ _, G⟩ ?_
 clear hb G5
 clear G
 rintro m_ e_ w4 ⟨m, ad3, n3, c3, rfl, ⟨e5, rfl⟩, hm, hb, G5, own, G⟩
 refine qZ 2 ?_
 refine stp (zG5 rfl rfl ?_)
 refine qZ 2 ?_
 refine zA2 (b := (decide ((m : Int) < (((n + 7) / 8 : Nat) : Int)))) rfl (fun hlt => ?_) (fun hlt => ?_)
 ·
  replace hlt := qT hlt
  have hm5 : m < (n + 7) / 8 := by omega
  have hml : m < (zN4 s seg a ((n + 7) / 8)).length := by rw [zI2]; exact hm5
  have hr := qK2 H seg a ((n + 7) / 8) _ (qM4 hml)
  simp only [inR] at hr
  refine qZ 5 ?_
  refine stp (zF1 (RW.grow G5) rfl rfl ?_ ?_); omega
  refine stp (zE8 (v := .int .u64 ((zN4 s seg a ((n + 7) / 8)).getD m 0)) (m := 0) (RW.grow G5) rfl (zM6 0 (by omega)) ?_)
  refine qZ 5 ?_
  refine stp ?_
  refine zD2 rfl (yF0 _ hr.1 hr.2) ?_
  rintro v8 w6 ⟨R8, g_⟩
  replace hb := g_.heap hb
  replace G5 := G5.tr g_
  replace own := zB7 own g_
  replace G := G.tr g_
  clear g_
  refine stp (zF8 rfl rfl rfl rfl own R8 (fun q_ hq_ => by obtain ⟨z_, -, rfl⟩ := List.mem_map.1 hq_; rfl) (by simp only [maxLen]; omega) (by omega) G5.size ?_)
  intro v7 w8 own6 gr6
  clear R8
  replace G := G.grown gr6 (fun k_ hk_ => Nat.le_trans hB5 (zI3 own k_ hk_))
  replace G5 := G5.grown gr6 (zI3 own)
  replace hb := zH9 gr6 hb (zE6 own hb (by decide))
  clear own gr6
  obtain ⟨ad4, n4, c4, rfl⟩ := zD6 own6
  refine qZ 3 ?_
  refine stp (zB9 rfl rfl ?_ ?_); constructor <;> omega
  refine qZ 2 ?_
  refine ⟨_, ?_, m + 1, ad4, n4, c4, rfl, zD3 ⟨rfl, rfl, rfl, rfl, rfl, congrArg (Value.int .i64) (by omega), trivial⟩, by omega, hb, G5, (by rw [Nat.mul_succ, List.take_add_one, List.getElem?_eq_getElem hml, Option.toList_some, List.flatMap_append, List.map_append, List.flatMap_singleton]; rw [zE4 hml] at own6; exact own6), G⟩
  omega
 ·
  replace hlt := qF hlt
  have hm2 : m = (n + 7) / 8 := by omega
  rw [hm2, List.take_of_length_le (by rw [zI2]; exact Nat.le_refl _)] at own
  have hfl := qH2 (zN4 s seg a ((n + 7) / 8))
  rw [zI2] at hfl
  have hR9 := (zV5 own (by omega)).sees (Sees.low hB5 _)
  obtain ⟨ad9, c9, hs9, hc9, hc92, R9⟩ := hR9
  simp only [Value.slice.injEq] at hs9
  obtain ⟨rfl, rfl, rfl⟩ := hs9
  refine qZ 5 ?_
  refine stp (qE6 rfl rfl (by omega) (by omega) ?_)
  refine qZ 3 ?_
  have R10 := R9.sliceH (m := n) hc9 (by omega) (by decide)
  rw [← List.map_take, show n * 1 = n from Nat.mul_one n] at R10
  refine ret1 (zA1 (v := .slice (if c3 = 0 then ad3 else ad3.map (·.add (0 * 1))) (((n : Int)).toNat) c3) rfl) ⟨⟨_, _, rfl, by omega, hc92, R10⟩, G⟩
theorem qV6 : ∀ (n_ : Nat) (w : World) {t_ : TypeId} {u_ : Value} {s : Src} {w0 : World} (H : SrcOk Tryz.prog w0 (.iface t_ u_) s) (g0 : Grow w0 w) {bd : Nat} (hbd : w0.heap.size ≤ bd) {paid : Int} (hb : w.heap[bd]? = some (.cells #[.iface t_ u_, .int .i64 paid] 172 (0, 0))) (hp0 : 0 ≤ paid) (hp1 : paid ≤ 8192) (seg : Int) {a : Int} (a0 : 0 ≤ a) (a1 : a ≤ 140737488455328) {d : Nat} (hd : d ≤ 32), d + 1 ≤ n_ → Calls Tryz.prog 105 #[.pointer (some ⟨bd, 0, none⟩), .int .i64 seg, .int .i64 a, .int .i64 (d : Int)] w (Ret fun v w' => ∃ cells, v = .tuple #[.agg cells.toArray, .int .u16 (zG6 s d seg a paid).2.2] ∧ NodeR (hide w.heap.size w') cells (zG6 s d seg a paid).2.1 ∧ w'.heap[bd]? = some (.cells #[.iface t_ u_, .int .i64 ((zG6 s d seg a paid).1)] 172 (0, 0)) ∧ Kp [bd] w w') := by
 intro n_
 induction n_ with
 | zero => intro w t_ u_ s w0 H g0 bd hbd paid hb hp0 hp1 seg a a0 a1 d hd hm_; exact absurd hm_ (by have := Nat.succ_pos d; omega)
 | succ n_ ih_ =>
 intro w t_ u_ s w0 H g0 bd hbd paid hb hp0 hp1 seg a a0 a1 d hd hm_
 have K := Kp.refl [bd] w
 have g0w := g0.size
 have hblt := zC2 hb
 have hor := zS8 H seg a
 have hok := zU3 s seg a
 obtain ⟨hw0, hw1⟩ := zK1 hor
 obtain ⟨rk, rs, ra, rd, rp, rz, rc⟩ := hor
 have hor := zS8 H seg a
 have hneq := qF2 s d seg a paid
 refine zB8 Tryz.func105 Tryz.ntmps105 Tryz.results105 rfl rfl ?_
 refine qZ 2 ?_
 refine stp (zA8 ?_)
 intro b1 w2 hb3 hc4 g5
 refine qZ 7 ?_
 have hge6 := Nat.le_trans K.size hb3
 have ne7 := qN hb hb3
 replace hb := g5.heap hb
 replace K := K.tr g5.kp
 replace g0 := g0.tr g5
 clear g5 hb3
 refine qZ 3 ?_
 refine stp (zA4 (v := .tuple #[.agg #[.int .i64 ((zA0 s seg a).1.kind), .int .i64 ((zA0 s seg a).1.seg), .int .i64 ((zA0 s seg a).1.at_), .int .i64 ((zA0 s seg a).1.data), .int .i64 ((zA0 s seg a).1.ptrs), .int .i64 ((zA0 s seg a).1.size), .int .i64 ((zA0 s seg a).1.count)], .int .u16 ((zA0 s seg a).2)]) rfl (qQ4 _ (H.grow g0) seg a) ?_)
 intro w8 g9
 replace hb := g9.heap hb
 replace K := K.tr g9.kp
 replace g0 := g0.tr g9
 replace hc4 := g9.heap hc4
 clear g9
 refine qZ 3 ?_
 refine stp (zA8 ?_)
 intro b10 w11 hb12 hc13 g14
 refine stn (qS hc13 ?_)
 intro w15 hc16 u17
 have g18 := g14.upd u17 hb12
 have hge19 := Nat.le_trans K.size hb12
 have ne20 := qN hb hb12
 have ne21 := qN hc4 hb12
 replace hb := g18.heap hb
 replace K := K.tr g18.kp
 replace g0 := g0.tr g18
 replace hc4 := g18.heap hc4
 clear u17 g14 hb12 hc13
 refine qZ 6 ?_
 refine stp (zI1 rfl rfl ?_)
 refine zA6 ?_
 refine zA2 (b := (decide (((zA0 s seg a).2) ≠ 0))) rfl (fun h1 => ?_) (fun h1 => ?_)
 ·
  replace h1 := qT h1
  refine qZ 4 ?_
  refine stn (qS hc4 ?_)
  intro w22 hc23 u24
  replace hb := u24.heap hb ne7
  replace K := (by first | exact K.upd_new u24 (by assumption) | exact K.tr (Kp.of_upd u24 (by simp)))
  replace g0 := (by first | exact Grow.upd g0 u24 (Nat.le_trans g0w (by assumption)) | exact g0.kp1 (Kp.of_upd u24 (by simp)) hbd)
  replace hc16 := u24.heap hc16 ne21.symm
  clear u24 hc4
  refine qZ 3 ?_
  have h9 : (zG6 s d seg a paid) = (paid, .nil, (zA0 s seg a).2) := by rw [hneq]; unfold qC2; rw [if_pos h1]
  rw [h9]
  refine ret2 (zA5 rfl hc23 (by rfl)) (zA1 (v := .int .u16 ((zA0 s seg a).2)) rfl) ⟨[_, _, _, _, _], rfl, NodeR.zero _, hb, K⟩
 ·
  replace h1 := qF h1
  refine qZ 2 ?_
  refine zO5 8 [[], [0], [1, 0], [2, 1, 0], [], [0], [1, 0], [6, 5, 4, 3, 2, 1, 0]] mixed (by kernel_rfl) (by kernel_rfl) (by kernel_rfl) ?_
  intro w25 g26
  replace hb := g26.heap hb
  replace K := K.tr g26.kp
  replace g0 := g0.tr g26
  replace hc4 := g26.heap hc4
  replace hc16 := g26.heap hc16
  clear g26
  refine qA 5 ?_
  apply zC3
  ·intro w_ g_; refine og rfl ?_; exact zA4 (v := .int .i64 (zC8 (zA0 s seg a).1)) rfl (qD8 _ (zA0 s seg a).1) (fun w2_ g2_ => ⟨g2_, rfl⟩)
  apply zC3
  ·intro w_ g_; refine og rfl ?_; refine zB9 rfl rfl ?_ ?_; constructor <;> omega; exact qX
  apply zC3
  ·intro w_ g_; refine og rfl ?_; refine zB9 rfl rfl ?_ ?_; constructor <;> omega; exact qX
  refine zI6 ?_
  intro w27 g28
  replace hb := g28.heap hb
  replace K := K.tr g28.kp
  replace g0 := g0.tr g28
  replace hc4 := g28.heap hc4
  replace hc16 := g28.heap hc16
  clear g28
  refine qZ 2 ?_
  refine stn (zC6 (v := .int .i64 (paid + (1 + (zC8 (zA0 s seg a).1)))) rfl rfl (by rfl) hb (by rfl) (by rfl) ?_)
  intro w29 hc30 u31
  replace K := (by first | exact K.upd_new u31 (by assumption) | exact K.tr (Kp.of_upd u31 (by simp)))
  replace g0 := (by first | exact Grow.upd g0 u31 (Nat.le_trans g0w (by assumption)) | exact g0.kp1 (Kp.of_upd u31 (by simp)) hbd)
  replace hc4 := u31.heap hc4 ne7.symm
  replace hc16 := u31.heap hc16 ne20.symm
  clear u31 hb
  refine qZ 7 ?_
  refine stp (zI1 rfl rfl ?_)
  refine qZ 1 ?_
  refine qG 1 ?_
  refine zA3 (zB3 (s := .bool _) (v := .bool (decide ((d : Int) = 0))) rfl (zF0 _) (fun hc33 => ?_) ?_)
  ·
   have hc33_ := qT hc33
   refine zD5 (gvt hc33) rfl ?_
   exact ⟨rfl, rfl⟩
  refine stp (zH4 rfl rfl rfl ?_)
  refine qZ 2 ?_
  refine zA2 (b := ((decide (((zA0 s seg a).1.kind) ≠ 0)) && (decide ((d : Int) = 0)))) rfl (fun h2 => ?_) (fun h2 => ?_)
  ·
   simp only [sb] at h2
   obtain ⟨h2a, h2b⟩ := h2
   have hd0 : (d == 0) = true := by rw [show d = 0 from by omega]; rfl
   refine qZ 3 ?_
   refine stn (qS hc4 ?_)
   intro w34 hc35 u36
   replace K := (by first | exact K.upd_new u36 (by assumption) | exact K.tr (Kp.of_upd u36 (by simp)))
   replace g0 := (by first | exact Grow.upd g0 u36 (Nat.le_trans g0w (by assumption)) | exact g0.kp1 (Kp.of_upd u36 (by simp)) hbd)
   replace hc16 := u36.heap hc16 ne21.symm
   replace hc30 := u36.heap hc30 ne7
   clear u36 hc4
   refine qZ 3 ?_
   have h9 : (zG6 s d seg a paid) = ((paid + (1 + zC8 (zA0 s seg a).1)), .nil, 21) := by rw [hneq]; unfold qC2; rw [if_neg h1, if_pos ⟨h2a, hd0⟩]
   rw [h9]
   refine ret2 (zA5 rfl hc35 (by rfl)) (zA1 (v := .int .u16 21) rfl) ⟨[_, _, _, _, _], rfl, NodeR.zero _, hc30, K⟩
  ·
   simp only [sb] at h2
   have h2n : ¬ ((zA0 s seg a).1.kind ≠ 0 ∧ (d == 0) = true) := fun h_ => absurd (eq_of_beq h_.2) (by omega)
   refine qZ 6 ?_
   refine stp (zQ5 rfl rfl ?_)
   refine qZ 2 ?_
   refine zA2 (b := (decide ((paid + (1 + (zC8 (zA0 s seg a).1))) > 8192))) rfl (fun h3 => ?_) (fun h3 => ?_)
   ·
    replace h3 := qT h3
    refine qZ 3 ?_
    refine stn (qS hc4 ?_)
    intro w37 hc38 u39
    replace K := (by first | exact K.upd_new u39 (by assumption) | exact K.tr (Kp.of_upd u39 (by simp)))
    replace g0 := (by first | exact Grow.upd g0 u39 (Nat.le_trans g0w (by assumption)) | exact g0.kp1 (Kp.of_upd u39 (by simp)) hbd)
    replace hc16 := u39.heap hc16 ne21.symm
    replace hc30 := u39.heap hc30 ne7
    clear u39 hc4
    refine qZ 3 ?_
    have h9 : (zG6 s d seg a paid) = ((paid + (1 + zC8 (zA0 s seg a).1)), .nil, 22) := by rw [hneq]; unfold qC2; rw [if_neg h1, if_neg h2n, if_pos h3]
    rw [h9]
    refine ret2 (zA5 rfl hc38 (by rfl)) (zA1 (v := .int .u16 22) rfl) ⟨[_, _, _, _, _], rfl, NodeR.zero _, hc30, K⟩
   ·
    replace h3 := qF h3
    obtain ⟨s1, s2, s3, s4, s5, s6⟩ := yP2 hor hok (by omega)
    obtain ⟨B, hB⟩ : ∃ B, B = w29.heap.size := ⟨_, rfl⟩
    have hB8 : b1 < B := by rw [hB]; exact zC2 hc4
    have hB10 : b10 < B := by rw [hB]; exact zC2 hc16
    have hBd : bd < B := by rw [hB]; exact zC2 hc30
    have hwB : w.heap.size ≤ B := by rw [hB]; exact K.size
    have hBw : B ≤ w29.heap.size := by rw [hB]; exact Nat.le_refl _
    clear hB
    refine qZ 2 ?_
    have kb_hc16 : ∀ w_, Kp [b1] w29 w_ → w_.heap[b10]? = some (.cells #[.int .i64 ((zA0 s seg a).1.kind), .int .i64 ((zA0 s seg a).1.seg), .int .i64 ((zA0 s seg a).1.at_), .int .i64 ((zA0 s seg a).1.data), .int .i64 ((zA0 s seg a).1.ptrs), .int .i64 ((zA0 s seg a).1.size), .int .i64 ((zA0 s seg a).1.count)] 112 (0, 0)) := fun w_ k_ => k_.heap hc16 (fun hm_ => by simp only [List.mem_singleton] at hm_; first | exact ne21 hm_ | exact ne21 hm_.symm)
    have kb_hc30 : ∀ w_, Kp [b1] w29 w_ → w_.heap[bd]? = some (.cells #[.iface t_ u_, .int .i64 (paid + (1 + (zC8 (zA0 s seg a).1)))] 172 (0, 0)) := fun w_ k_ => k_.heap hc30 (fun hm_ => by simp only [List.mem_singleton] at hm_; omega)
    have kb_K : ∀ w_, Kp [b1] w29 w_ → Kp [bd] w w_ := fun w_ k_ => K.trans k_ (fun x_ hx_ => by simp only [List.mem_singleton] at hx_; subst hx_; exact .inr hge6)
    have kb_g0 : ∀ w_, Kp [b1] w29 w_ → Grow w0 w_ := fun w_ k_ => g0.trK k_ (fun x_ hx_ => by simp only [List.mem_singleton] at hx_; subst hx_; exact Nat.le_trans g0w hge6)
    have kb_hBw : ∀ w_, Kp [b1] w29 w_ → B ≤ w_.heap.size := fun w_ k_ => Nat.le_trans hBw k_.size
    refine yY9 6 [[], [0], [], [0], [3, 2], [4, 3, 0]] [5] [b1] (fun k_ w_ => match k_ with | 0 => w_.heap[b1]? = some (.cells #[.int .i64 0, .int .i64 0, .slice none 0 0, .slice none 0 0, .slice none 0 0] 48 (0, 0)) | _ => w_.heap[b1]? = some (.cells #[.int .i64 ((zA0 s seg a).1.kind), .int .i64 0, .slice none 0 0, .slice none 0 0, .slice none 0 0] 48 (0, 0))) mixed (by kernel_rfl) (by kernel_rfl) (by kernel_rfl) (by kernel_rfl) (fun k_ w_ w2_ g_ h_ => match k_, h_ with | 0, h_ => g_.heap h_ | n_ + 1, h_ => g_.heap h_) (fun w_ g_ => g_.heap hc4) ?_
    intro w40 g41
    replace kb_hc16 : ∀ w_, Kp [b1] w40 w_ → w_.heap[b10]? = some (.cells #[.int .i64 ((zA0 s seg a).1.kind), .int .i64 ((zA0 s seg a).1.seg), .int .i64 ((zA0 s seg a).1.at_), .int .i64 ((zA0 s seg a).1.data), .int .i64 ((zA0 s seg a).1.ptrs), .int .i64 ((zA0 s seg a).1.size), .int .i64 ((zA0 s seg a).1.count)] 112 (0, 0)) := fun w_ k_ => kb_hc16 w_ (g41.kp.tr k_)
    replace kb_hc30 : ∀ w_, Kp [b1] w40 w_ → w_.heap[bd]? = some (.cells #[.iface t_ u_, .int .i64 (paid + (1 + (zC8 (zA0 s seg a).1)))] 172 (0, 0)) := fun w_ k_ => kb_hc30 w_ (g41.kp.tr k_)
    replace kb_K : ∀ w_, Kp [b1] w40 w_ → Kp [bd] w w_ := fun w_ k_ => kb_K w_ (g41.kp.tr k_)
    replace kb_g0 : ∀ w_, Kp [b1] w40 w_ → Grow w0 w_ := fun w_ k_ => kb_g0 w_ (g41.kp.tr k_)
    replace kb_hBw : ∀ w_, Kp [b1] w40 w_ → B ≤ w_.heap.size := fun w_ k_ => kb_hBw w_ (g41.kp.tr k_)
    have k0_ : Kp [b1] w29 w40 := g41.kp
    refine qM 1 ?_
    apply yI9 (hm := by rfl)
    ·intro w_ g_; exact og rfl (zG3 (v := .int .i64 ((zA0 s seg a).1.kind)) rfl (kb_hc16 _ g_) rfl qX)
    refine qM 1 ?_
    apply yI9 (hm := by rfl)
    ·intro w_ g_; exact og rfl (zG3 (v := .int .i64 ((zA0 s seg a).1.size)) rfl (kb_hc16 _ g_) rfl qX)
    refine qM 1 ?_
    apply yV1 0 (hm := by rfl)
    ·intro w_ g_ s_
     refine og rfl ?_
     refine zC6 (v := .int .i64 ((zA0 s seg a).1.kind)) rfl rfl (by rfl) s_ (by rfl) (by rfl) ?_
     intro w2_ s2_ u_
     exact ⟨Kp.of_upd u_ (by simp), s2_, rfl⟩
    refine yV2 ?_
    intro w42 g43 S_
    replace k0_ := (k0_.tr g43)
    have hc8x := S_
    clear S_
    replace hc16 := kb_hc16 _ g43
    clear kb_hc16
    replace hc30 := kb_hc30 _ g43
    clear kb_hc30
    replace K := kb_K _ g43
    clear kb_K
    replace g0 := kb_g0 _ g43
    clear kb_g0
    replace hBw := kb_hBw _ g43
    clear kb_hBw
    refine qZ 1 ?_
    refine stn (zC6 (v := .int .i64 ((zA0 s seg a).1.size)) rfl rfl (by rfl) hc8x (by rfl) (by rfl) ?_)
    intro w44 hc45 u46
    replace K := (by first | exact K.upd_new u46 (by assumption) | exact K.tr (Kp.of_upd u46 (by simp)))
    replace g0 := (by first | exact Grow.upd g0 u46 (Nat.le_trans g0w (by assumption)) | exact g0.kp1 (Kp.of_upd u46 (by simp)) hbd)
    replace hc16 := u46.heap hc16 ne21.symm
    replace hc30 := u46.heap hc30 ne7
    replace hBw := Nat.le_trans hBw (Nat.le_of_eq u46.size.symm)
    clear u46 hc8x
    refine qZ 2 ?_
    refine zO5 8 [[], [0], [], [0], [], [0], [3, 2, 1, 0], [6, 5]] mixed (by kernel_rfl) (by kernel_rfl) (by kernel_rfl) ?_
    intro w47 g48
    replace K := K.tr g48.kp
    replace g0 := g0.tr g48
    replace hc16 := g48.heap hc16
    replace hc30 := g48.heap hc30
    replace hBw := Nat.le_trans hBw g48.size
    replace hc45 := g48.heap hc45
    clear g48
    refine qA 6 ?_
    apply zC3
    ·intro w_ g_; refine og rfl ?_; refine zB9 rfl rfl ?_ ?_; constructor <;> omega; exact qX
    refine qA 1 ?_
    refine zI6 ?_
    intro w49 g50
    replace K := K.tr g50.kp
    replace g0 := g0.tr g50
    replace hc16 := g50.heap hc16
    replace hc30 := g50.heap hc30
    replace hBw := Nat.le_trans hBw g50.size
    replace hc45 := g50.heap hc45
    clear g50
    refine qZ 11 ?_
    refine stp ?_
    have hcal := zU6 _ (H.grow g0) hc30 (zA0 s seg a).1.seg ra.1 ra.2 (n := (zA0 s seg a).1.data.toNat) (by omega)
    rw [Int.toNat_of_nonneg (by omega)] at hcal
    refine zD2 rfl hcal ?_
    rintro v_ w51 ⟨R_, g_⟩
    have hRw := R_.sees (Sees.low hBw _)
    clear R_
    replace K := K.tr g_.kp
    replace g0 := g0.tr g_
    replace hc16 := g_.heap hc16
    replace hc30 := g_.heap hc30
    replace hBw := Nat.le_trans hBw g_.size
    replace hc45 := g_.heap hc45
    clear g_
    obtain ⟨adhRw, cphRw, rfl, -⟩ := id hRw
    refine qZ 1 ?_
    refine stn (zC6 (v := .slice adhRw ((zA0 s seg a).1.data.toNat) cphRw) rfl rfl (by rfl) hc45 (by rfl) (by rfl) ?_)
    intro w52 hc53 u54
    replace K := (by first | exact K.upd_new u54 (by assumption) | exact K.tr (Kp.of_upd u54 (by simp)))
    replace g0 := (by first | exact Grow.upd g0 u54 (Nat.le_trans g0w (by assumption)) | exact g0.kp1 (Kp.of_upd u54 (by simp)) hbd)
    replace hc16 := u54.heap hc16 ne21.symm
    replace hc30 := u54.heap hc30 ne7
    replace hBw := Nat.le_trans hBw (Nat.le_of_eq u54.size.symm)
    replace hRw := hRw.sees (Sees.upd u54 (fun h_ => by omega))
    clear u54 hc45
    refine zA6 ?_
    refine qZ6 (fun e_ w_ => ∃ (aw : Option Addr) (nw : Nat) (cw : Nat) (ab : Option Addr) (nb : Nat) (cb : Nat), Fr [(0, .pointer (some ⟨bd, 0, none⟩)), (3, .int .i64 (d : Int)), (8, .pointer (some ⟨b1, 0, none⟩)), (9, .int .u16 ((zA0 s seg a).2)), (10, .pointer (some ⟨b10, 0, none⟩)), (11, .int .i64 (kidN (zA0 s seg a).1)), (12, .int .i64 (kidA (zA0 s seg a).1))] e_ ∧ (Kp [bd] w w_) ∧ (Grow w0 w_) ∧ (w_.heap[b10]? = some (.cells #[.int .i64 ((zA0 s seg a).1.kind), .int .i64 ((zA0 s seg a).1.seg), .int .i64 ((zA0 s seg a).1.at_), .int .i64 ((zA0 s seg a).1.data), .int .i64 ((zA0 s seg a).1.ptrs), .int .i64 ((zA0 s seg a).1.size), .int .i64 ((zA0 s seg a).1.count)] 112 (0, 0))) ∧ (w_.heap[bd]? = some (.cells #[.iface t_ u_, .int .i64 (paid + (1 + (zC8 (zA0 s seg a).1)))] 172 (0, 0))) ∧ (B ≤ w_.heap.size) ∧ (w_.heap[b1]? = some (.cells #[.int .i64 ((zA0 s seg a).1.kind), .int .i64 ((zA0 s seg a).1.size), .slice aw nw cw, .slice ab nb cb, .slice none 0 0] 48 (0, 0))) ∧ (Row (hide B w_) 1 (.slice aw nw cw) (nodL s (zA0 s seg a).1).length ((nodL s (zA0 s seg a).1).map (.int .u64))) ∧ (Row (hide B w_) 1 (.slice ab nb cb) (nodB s (zA0 s seg a).1).length ((nodB s (zA0 s seg a).1).map (.int .u8)))) ?_ ?_
    ·-- the parts
     refine qZ 8 ?_
     refine stp (zD5 rfl rfl ?_)
     refine qZ 2 ?_
     refine zA2 (b := (decide (((zA0 s seg a).1.size) = 2))) rfl (fun h4 => ?_) (fun h4 => ?_)
     ·
      replace h4 := qT h4
      refine qZ 8 ?_
      refine stp ?_
      have hcal := qQ6 _ (H.grow g0) hc30 (zA0 s seg a).1.seg ra.1 ra.2 (n := (zA0 s seg a).1.count.toNat) (by omega)
      rw [Int.toNat_of_nonneg (by omega)] at hcal
      refine zD2 rfl hcal ?_
      rintro v_ w55 ⟨R_, g_⟩
      have hRb := R_.sees (Sees.low hBw _)
      clear R_
      replace K := K.tr g_.kp
      replace g0 := g0.tr g_
      replace hc16 := g_.heap hc16
      replace hc30 := g_.heap hc30
      replace hBw := Nat.le_trans hBw g_.size
      replace hRw := hRw.sees (Sees.grow g_)
      replace hc53 := g_.heap hc53
      clear g_
      obtain ⟨adhRb, cphRb, rfl, -⟩ := id hRb
      refine qZ 1 ?_
      refine stn (zC6 (v := .slice adhRb ((zA0 s seg a).1.count.toNat) cphRb) rfl rfl (by rfl) hc53 (by rfl) (by rfl) ?_)
      intro w56 hc57 u58
      replace K := (by first | exact K.upd_new u58 (by assumption) | exact K.tr (Kp.of_upd u58 (by simp)))
      replace g0 := (by first | exact Grow.upd g0 u58 (Nat.le_trans g0w (by assumption)) | exact g0.kp1 (Kp.of_upd u58 (by simp)) hbd)
      replace hc16 := u58.heap hc16 ne21.symm
      replace hc30 := u58.heap hc30 ne7
      replace hBw := Nat.le_trans hBw (Nat.le_of_eq u58.size.symm)
      replace hRw := hRw.sees (Sees.upd u58 (fun h_ => by omega))
      replace hRb := hRb.sees (Sees.upd u58 (fun h_ => by omega))
      clear u58 hc53
      refine zA6 ?_
      have hk6 : (zA0 s seg a).1.size = 6 ∨ (zA0 s seg a).1.size ≠ 6 := by omega
      exact ⟨adhRw, ((zA0 s seg a).1.data).toNat, cphRw, adhRb, ((zA0 s seg a).1.count).toNat, cphRb, zD3 ⟨rfl, rfl, rfl, rfl, rfl, congrArg (Value.int .i64) (by unfold kidN; rw [if_neg (by omega)]), congrArg (Value.int .i64) (by unfold kidA; rw [if_neg (by omega)]), trivial⟩, K, g0, hc16, hc30, hBw, hc57, (by unfold nodL; rw [if_neg (by omega), zI2]; exact hRw), (by unfold nodB; rw [if_pos h4, yD4]; exact hRb)⟩
     ·
      replace h4 := qF h4
      refine qZ 2 ?_
      refine stp (zD5 rfl rfl ?_)
      refine qZ 2 ?_
      refine zA2 (b := (decide (((zA0 s seg a).1.size) = 5))) rfl (fun h5 => ?_) (fun h5 => ?_)
      ·
       replace h5 := qT h5
       refine qZ 8 ?_
       refine stp ?_
       have hcal := zU6 _ (H.grow g0) hc30 (zA0 s seg a).1.seg ra.1 ra.2 (n := (zA0 s seg a).1.count.toNat) (by omega)
       rw [Int.toNat_of_nonneg (by omega)] at hcal
       refine zD2 rfl hcal ?_
       rintro v_ w59 ⟨R_, g_⟩
       have hRv := R_.sees (Sees.low hBw _)
       clear R_
       replace K := K.tr g_.kp
       replace g0 := g0.tr g_
       replace hc16 := g_.heap hc16
       replace hc30 := g_.heap hc30
       replace hBw := Nat.le_trans hBw g_.size
       replace hRw := hRw.sees (Sees.grow g_)
       replace hc53 := g_.heap hc53
       clear g_
       obtain ⟨adhRv, cphRv, rfl, -⟩ := id hRv
       refine qZ 1 ?_
       refine stn (zC6 (v := .slice adhRv ((zA0 s seg a).1.count.toNat) cphRv) rfl rfl (by rfl) hc53 (by rfl) (by rfl) ?_)
       intro w60 hc61 u62
       replace K := (by first | exact K.upd_new u62 (by assumption) | exact K.tr (Kp.of_upd u62 (by simp)))
       replace g0 := (by first | exact Grow.upd g0 u62 (Nat.le_trans g0w (by assumption)) | exact g0.kp1 (Kp.of_upd u62 (by simp)) hbd)
       replace hc16 := u62.heap hc16 ne21.symm
       replace hc30 := u62.heap hc30 ne7
       replace hBw := Nat.le_trans hBw (Nat.le_of_eq u62.size.symm)
       replace hRw := hRw.sees (Sees.upd u62 (fun h_ => by omega))
       replace hRv := hRv.sees (Sees.upd u62 (fun h_ => by omega))
       clear u62 hc53
       refine zA6 ?_
       have hk6 : (zA0 s seg a).1.size = 6 ∨ (zA0 s seg a).1.size ≠ 6 := by omega
       exact ⟨adhRv, ((zA0 s seg a).1.count).toNat, cphRv, none, 0, 0, zD3 ⟨rfl, rfl, rfl, rfl, rfl, congrArg (Value.int .i64) (by unfold kidN; rw [if_neg (by omega)]), congrArg (Value.int .i64) (by unfold kidA; rw [if_neg (by omega)]), trivial⟩, K, g0, hc16, hc30, hBw, hc61, (by unfold nodL; rw [if_pos h5, zI2]; exact hRv), (by unfold nodB; rw [if_neg (by omega)]; exact Row.nil _ _)⟩
      ·
       replace h5 := qF h5
       refine qZ 2 ?_
       refine stp (zD5 rfl rfl ?_)
       refine qZ 2 ?_
       refine zA2 (b := (decide (((zA0 s seg a).1.size) = 6))) rfl (fun h6 => ?_) (fun h6 => ?_)
       ·
        replace h6 := qT h6
        refine zO5 5 [[], [0], [], [0], [3, 2]] mixed (by kernel_rfl) (by kernel_rfl) (by kernel_rfl) ?_
        intro w63 g64
        replace K := K.tr g64.kp
        replace g0 := g0.tr g64
        replace hc16 := g64.heap hc16
        replace hc30 := g64.heap hc30
        replace hBw := Nat.le_trans hBw g64.size
        replace hRw := hRw.sees (Sees.grow g64)
        replace hc53 := g64.heap hc53
        clear g64
        refine qA 5 ?_
        refine zI6 ?_
        intro w65 g66
        replace K := K.tr g66.kp
        replace g0 := g0.tr g66
        replace hc16 := g66.heap hc16
        replace hc30 := g66.heap hc30
        replace hBw := Nat.le_trans hBw g66.size
        replace hRw := hRw.sees (Sees.grow g66)
        replace hc53 := g66.heap hc53
        clear g66
        refine qZ 2 ?_
        have hk6 : (zA0 s seg a).1.size = 6 ∨ (zA0 s seg a).1.size ≠ 6 := by omega
        exact ⟨adhRw, ((zA0 s seg a).1.data).toNat, cphRw, none, 0, 0, zD3 ⟨rfl, rfl, rfl, rfl, rfl, congrArg (Value.int .i64) (by unfold kidN; rw [if_pos (by omega)]), congrArg (Value.int .i64) (by unfold kidA; rw [if_pos (by omega)]), trivial⟩, K, g0, hc16, hc30, hBw, hc53, (by unfold nodL; rw [if_neg (by omega), zI2]; exact hRw), (by unfold nodB; rw [if_neg (by omega)]; exact Row.nil _ _)⟩
       ·
        replace h6 := qF h6
        refine qF6 ?_
        have hk6 : (zA0 s seg a).1.size = 6 ∨ (zA0 s seg a).1.size ≠ 6 := by omega
        exact ⟨adhRw, ((zA0 s seg a).1.data).toNat, cphRw, none, 0, 0, zD3 ⟨rfl, rfl, rfl, rfl, rfl, congrArg (Value.int .i64) (by unfold kidN; rw [if_neg (by omega)]), congrArg (Value.int .i64) (by unfold kidA; rw [if_neg (by omega)]), trivial⟩, K, g0, hc16, hc30, hBw, hc53, (by unfold nodL; rw [if_neg (by omega), zI2]; exact hRw), (by unfold nodB; rw [if_neg (by omega)]; exact Row.nil _ _)⟩
    ·-- behind them
     clear K g0 hc16 hc30 hBw hRw hc53
     rintro e_ w67 ⟨aw, nw, cw, ab, nb, cb, ⟨e68, rfl⟩, K, g0, hc16, hc30, hBw, hc53, hRW, hRB⟩
     refine qZ 7 ?_
     obtain ⟨B2, hB2⟩ : ∃ B, B = w67.heap.size := ⟨_, rfl⟩
     have hBB2 : B ≤ B2 := by rw [hB2]; exact hBw
     have hB2w : B2 ≤ w67.heap.size := by rw [hB2]; exact Nat.le_refl _
     have hSW := hRW.sees (Sees.more (V' := (fun x => B ≤ x ∧ x < B2)) w67 (fun x_ h1_ h2_ => ⟨h2_, by rw [hB2]; exact h1_⟩))
     have hSB := hRB.sees (Sees.more (V' := (fun x => B ≤ x ∧ x < B2)) w67 (fun x_ h1_ h2_ => ⟨h2_, by rw [hB2]; exact h1_⟩))
     clear hRW hRB hB2
     refine zF4 (fun m_ e_ w_ => ∃ (j : Nat) (pd : Int) (ks : List Nd) (ad6 : Option Addr) (n6 : Nat) (c6 : Nat) (kc : List Value) (V : Nat → Prop), m_ = (kidN (zA0 s seg a).1).toNat - j ∧ Fr [(0, .pointer (some ⟨bd, 0, none⟩)), (3, .int .i64 (d : Int)), (8, .pointer (some ⟨b1, 0, none⟩)), (10, .pointer (some ⟨b10, 0, none⟩)), (12, .int .i64 (kidA (zA0 s seg a).1)), (108, .int .i64 (kidN (zA0 s seg a).1)), (109, .int .i64 (j : Int))] e_ ∧ ((j : Int) ≤ kidN (zA0 s seg a).1) ∧ (zE7 (qH3 s d (zA0 s seg a).1.seg) (kidA (zA0 s seg a).1) (paid + (1 + zC8 (zA0 s seg a).1)) j = (pd, ks, 0)) ∧ (0 ≤ pd ∧ pd ≤ 8192) ∧ (∀ x, (Value.slice ad6 n6 c6).ownBlock = some x → ¬ V x) ∧ (Kp [bd] w w_) ∧ (Grow w0 w_) ∧ (w_.heap[b10]? = some (.cells #[.int .i64 ((zA0 s seg a).1.kind), .int .i64 ((zA0 s seg a).1.seg), .int .i64 ((zA0 s seg a).1.at_), .int .i64 ((zA0 s seg a).1.data), .int .i64 ((zA0 s seg a).1.ptrs), .int .i64 ((zA0 s seg a).1.size), .int .i64 ((zA0 s seg a).1.count)] 112 (0, 0))) ∧ (B ≤ w_.heap.size) ∧ (Row (see (fun x => B ≤ x ∧ x < B2) w_) 1 (.slice aw nw cw) (nodL s (zA0 s seg a).1).length ((nodL s (zA0 s seg a).1).map (.int .u64))) ∧ (Row (see (fun x => B ≤ x ∧ x < B2) w_) 1 (.slice ab nb cb) (nodB s (zA0 s seg a).1).length ((nodB s (zA0 s seg a).1).map (.int .u8))) ∧ (B2 ≤ w_.heap.size) ∧ (w_.heap[b1]? = some (.cells #[.int .i64 ((zA0 s seg a).1.kind), .int .i64 ((zA0 s seg a).1.size), .slice aw nw cw, .slice ab nb cb, .slice ad6 n6 c6] 48 (0, 0))) ∧ (w_.heap[bd]? = some (.cells #[.iface t_ u_, .int .i64 pd] 172 (0, 0))) ∧ (w_.ownsRow B2 48 5 (.slice ad6 n6 c6) j kc) ∧ (∀ x, V x → B2 ≤ x ∧ x < w_.heap.size) ∧ (KidsR (see V w_) kc ks)) _ ⟨0, (paid + (1 + zC8 (zA0 s seg a).1)), [], none, 0, 0, [], fun _ => False, rfl, zD3 ⟨rfl, rfl, rfl, rfl, rfl, rfl, rfl, trivial⟩, by omega, rfl, by omega, fun x _ h_ => h_, K, g0, hc16, hBw, hSW, hSB, hB2w, hc53, hc30, World.ownsRow_nil _ _ _ _, fun x h_ => h_.elim, .nil⟩ ?_
     clear K g0 hc16 hc30 hBw hc53 hSW hSB hB2w
     rintro m_ e_ w69 ⟨j, pd, ks, ad6, n6, c6, kc, V, rfl, ⟨e70, rfl⟩, hj, hkd, hpd, hVo, K, g0, hc16, hBw, hSW, hSB, hB2w, hc53, hc30, ownk, hV, hK⟩
     refine qZ 2 ?_
     refine stp (zG5 rfl rfl ?_)
     refine qZ 2 ?_
     refine zA2 (b := (decide ((j : Int) < (kidN (zA0 s seg a).1)))) rfl (fun hlt => ?_) (fun hlt => ?_)
     ·
      replace hlt := qT hlt
      obtain ⟨d1, hd1⟩ := yP4 hok h2n (j := j) (by omega)
      have hnf : qH3 s d = zG6 s d1 := by rw [hd1]; rfl
      have hka : 0 ≤ kidA (zA0 s seg a).1 ∧ kidA (zA0 s seg a).1 ≤ 140737488420864 := by unfold kidA; split <;> omega
      have hq := yD6 H d1 (zA0 s seg a).1.seg (kidA (zA0 s seg a).1 + (j : Int)) pd hpd.1 hpd.2
      have hj1 : zE7 (qH3 s d (zA0 s seg a).1.seg) (kidA (zA0 s seg a).1) (paid + (1 + zC8 (zA0 s seg a).1)) (j + 1) = ((zG6 s d1 (zA0 s seg a).1.seg (kidA (zA0 s seg a).1 + (j : Int)) pd).1, ks ++ [(zG6 s d1 (zA0 s seg a).1.seg (kidA (zA0 s seg a).1 + (j : Int)) pd).2.1], (zG6 s d1 (zA0 s seg a).1.seg (kidA (zA0 s seg a).1 + (j : Int)) pd).2.2) := by rw [zE7, hkd, if_neg (by simp), hnf]
      refine qZ 15 ?_
      refine stp (zB9 rfl rfl ?_ ?_); constructor <;> omega
      refine qZ 1 ?_
      refine stp (zO6 rfl rfl ?_ ?_); constructor <;> omega
      refine stp ?_
      have hcal := ih_ _ H g0 hbd hc30 hpd.1 hpd.2 (zA0 s seg a).1.seg (a := kidA (zA0 s seg a).1 + (j : Int)) (by omega) (by omega) (d := d1) (by omega) (by omega)
      rw [show ((d1 : Nat) : Int) = (d : Int) - 1 from by omega] at hcal
      refine zD2 rfl hcal ?_
      rintro v_ w71 ⟨cells, rfl, hT9, hb9, K_⟩
      clear hcal
      have hB2w0 := hB2w
      have hol := fun x hx_ => (ownk.lt x hx_).2
      replace K := K.tr K_
      replace g0 := g0.kp1 K_ hbd
      replace hc16 := K_.heap hc16 (fun hm_ => by simp only [List.mem_singleton] at hm_; first | exact ne20 hm_ | exact ne20 hm_.symm)
      replace hBw := Nat.le_trans hBw K_.size
      replace hSW := hSW.sees (Sees.kp K_ (fun x_ hx_ hv_ => by simp only [List.mem_singleton] at hx_; subst hx_; exact absurd hv_.1 (by omega)))
      replace hSB := hSB.sees (Sees.kp K_ (fun x_ hx_ hv_ => by simp only [List.mem_singleton] at hx_; subst hx_; exact absurd hv_.1 (by omega)))
      replace hB2w := Nat.le_trans hB2w K_.size
      replace hc53 := K_.heap hc53 (fun hm_ => by simp only [List.mem_singleton] at hm_; first | exact ne7 hm_ | exact ne7 hm_.symm)
      replace ownk := yZ2 ownk K_ (fun x_ hx_ => by simp only [List.mem_singleton] at hx_; subst hx_; omega)
      replace hV := vlt hV K_.size
      replace hK := hK.sees (Sees.kp K_ (fun x_ hx_ hv_ => by simp only [List.mem_singleton] at hx_; subst hx_; exact absurd (hV _ hv_).1 (by omega)))
      have hszK := K_.size
      clear K_ hc30
      obtain ⟨y0, y1, ya, yn, yc, za, zn, zc, ua, un, uc, rfl⟩ := hT9.cells
      have hT8 := hT9.sees (Sees.more (V' := fun x => V x ∨ (w69.heap.size ≤ x ∧ x < w71.heap.size)) w71 (fun x h1_ h2_ => .inr ⟨h2_, h1_⟩))
      clear hT9
      replace hK := hK.sees (Sees.more (V' := fun x => V x ∨ (w69.heap.size ≤ x ∧ x < w71.heap.size)) w71 (fun x _ h2_ => .inl h2_))
      have hV9 : ∀ x, (V x ∨ (w69.heap.size ≤ x ∧ x < w71.heap.size)) → B2 ≤ x ∧ x < w71.heap.size := fun x hx_ => hx_.elim (fun h_ => hV x h_) (fun h_ => ⟨Nat.le_trans hB2w0 h_.1, h_.2⟩)
      have hVo9 : ∀ x, (Value.slice ad6 n6 c6).ownBlock = some x → ¬ (V x ∨ (w69.heap.size ≤ x ∧ x < w71.heap.size)) := fun x hx_ hv_ => hv_.elim (fun h_ => hVo x hx_ h_) (fun h_ => by have := hol x hx_; omega)
      clear hV hVo
      obtain ⟨V9, hV9e⟩ : ∃ V9 : Nat → Prop, V9 = fun x => V x ∨ (w69.heap.size ≤ x ∧ x < w71.heap.size) := ⟨_, rfl⟩
      rw [← hV9e] at hT8 hK
      have hV : ∀ x, V9 x → B2 ≤ x ∧ x < w71.heap.size := by rw [hV9e]; exact hV9
      have hVo : ∀ x, (Value.slice ad6 n6 c6).ownBlock = some x → ¬ V9 x := by rw [hV9e]; exact hVo9
      clear hV9 hVo9 hV9e hB2w0 hol hszK
      refine qZ 3 ?_
      refine stp (zA8 ?_)
      intro b72 w73 hb74 hc75 g76
      refine stn (qS hc75 ?_)
      intro w77 hc78 u79
      have g80 := g76.upd u79 hb74
      have hge81 := Nat.le_trans K.size hb74
      have ne82 := qN hc16 hb74
      have ne83 := qN hc53 hb74
      have ne84 := qN hb9 hb74
      replace K := K.tr g80.kp
      replace g0 := g0.tr g80
      replace hc16 := g80.heap hc16
      replace hBw := Nat.le_trans hBw g80.size
      replace hSW := hSW.sees (Sees.grow g80)
      replace hSB := hSB.sees (Sees.grow g80)
      replace hB2w := Nat.le_trans hB2w g80.size
      replace hc53 := g80.heap hc53
      replace ownk := zB7 ownk g80
      replace hK := hK.sees (Sees.grow g80)
      replace hb9 := g80.heap hb9
      replace hT8 := hT8.sees (Sees.grow g80)
      replace hV := vlt hV g80.size
      clear u79 g76 hb74 hc75
      refine qZ 6 ?_
      refine stp (zI1 rfl rfl ?_)
      refine zA6 ?_
      refine zA2 (b := (decide (((zG6 s d1 (zA0 s seg a).1.seg (kidA (zA0 s seg a).1 + (j : Int)) pd).2.2) ≠ 0))) rfl (fun h7 => ?_) (fun h7 => ?_)
      ·
       replace h7 := qT h7
       refine qZ 2 ?_
       refine stp (zB0 (v := .agg #[.int .i64 0, .int .i64 0, .slice none 0 0, .slice none 0 0, .slice none 0 0]) (fun w => by kernel_rfl) ?_)
       refine qZ 1 ?_
       refine stn (qS hc53 ?_)
       intro w85 hc86 u87
       replace K := (by first | exact K.upd_new u87 (by assumption) | exact K.tr (Kp.of_upd u87 (by simp)))
       replace g0 := (by first | exact Grow.upd g0 u87 (Nat.le_trans g0w (by assumption)) | exact g0.kp1 (Kp.of_upd u87 (by simp)) hbd)
       replace hc16 := u87.heap hc16 ne21.symm
       replace hBw := Nat.le_trans hBw (Nat.le_of_eq u87.size.symm)
       replace hSW := hSW.sees (Sees.upd u87 (fun h_ => by have := h_.1; omega))
       replace hSB := hSB.sees (Sees.upd u87 (fun h_ => by have := h_.1; omega))
       replace hB2w := Nat.le_trans hB2w (Nat.le_of_eq u87.size.symm)
       replace ownk := zF9 ownk u87 (fun he_ => by have := zI3 ownk _ he_; omega)
       replace hb9 := u87.heap hb9 ne7
       replace hc78 := u87.heap hc78 ne83.symm
       clear u87 hc53
       refine qZ 3 ?_
       have h9 : (zG6 s d seg a paid) = ((zG6 s d1 (zA0 s seg a).1.seg (kidA (zA0 s seg a).1 + (j : Int)) pd).1, .nil, (zG6 s d1 (zA0 s seg a).1.seg (kidA (zA0 s seg a).1 + (j : Int)) pd).2.2) := by rw [hneq]; unfold qC2; rw [if_neg h1, if_neg h2n, if_neg h3, kidsD_stop' (k := j + 1) (by rw [hj1]; exact h7) (by omega), hj1, if_pos h7]
       rw [h9]
       refine ret2 (zA5 rfl hc86 (by rfl)) (zA1 (v := .int .u16 ((zG6 s d1 (zA0 s seg a).1.seg (kidA (zA0 s seg a).1 + (j : Int)) pd).2.2)) rfl) ⟨[_, _, _, _, _], rfl, NodeR.zero _, hb9, K⟩
      ·
       replace h7 := qF h7
       have h70 : (zG6 s d1 (zA0 s seg a).1.seg (kidA (zA0 s seg a).1 + (j : Int)) pd).2.2 = 0 := by omega
       refine qZ 5 ?_
       refine stp (zB5 (cs := #[.int .i64 y0, .int .i64 y1, .slice ya yn yc, .slice za zn zc, .slice ua un uc]) (el := 48) (fun w => by kernel_rfl) ?_)
       intro bs88 w89 hb90 hc91 g92
       have hge93 := Nat.le_trans K.size hb90
       have ne94 := qN hc16 hb90
       have ne95 := qN hc53 hb90
       have ne96 := qN hc78 hb90
       replace K := K.tr g92.kp
       replace g0 := g0.tr g92
       replace hc16 := g92.heap hc16
       replace hBw := Nat.le_trans hBw g92.size
       replace hSW := hSW.sees (Sees.grow g92)
       replace hSB := hSB.sees (Sees.grow g92)
       replace hB2w := Nat.le_trans hB2w g92.size
       replace hc53 := g92.heap hc53
       replace ownk := zB7 ownk g92
       replace hK := hK.sees (Sees.grow g92)
       replace hb9 := g92.heap hb9
       replace hT8 := hT8.sees (Sees.grow g92)
       replace hV := vlt hV g92.size
       replace hc78 := g92.heap hc78
       clear g92
       refine stp (qG5 rfl rfl rfl rfl ownk (Row.of_block (n := 1) hc91 rfl rfl (by omega)) (fun q_ hq_ => by simp at hq_; rcases hq_ with rfl | rfl | rfl | rfl | rfl <;> rfl) (by simp only [maxLen]; omega) (by omega) hB2w ?_)
       intro v97 w98 own6 gr6 hbk6
       have k6_ : Kp (Value.slice ad6 n6 c6).ownBlock.toList w89 w98 := Kp.of_grownBy gr6 (fun k_ hk_ => by rw [Option.mem_toList]; exact hk_)
       have hF6 : ∀ x ∈ (Value.slice ad6 n6 c6).ownBlock.toList, B2 ≤ x := fun x hx_ => zI3 ownk x (Option.mem_toList.1 hx_)
       have hF7 : ∀ x ∈ (Value.slice ad6 n6 c6).ownBlock.toList, ¬ V9 x := fun x hx_ => hVo x (Option.mem_toList.1 hx_)
       have hVo6 : ∀ x, v97.ownBlock = some x → ¬ V9 x := fun x hx_ hv_ => hbk6.elim (fun h_ => hVo x (h_ ▸ hx_) hv_) (fun h_ => by rw [h_] at hx_; simp only [Option.some.injEq] at hx_; have := (hV x hv_).2; omega)
       replace K := K.trans k6_ (fun x_ hx_ => .inr (Nat.le_trans hwB (Nat.le_trans hBB2 (hF6 x_ hx_))))
       replace g0 := g0.trK k6_ (fun x_ hx_ => Nat.le_trans g0w (Nat.le_trans hwB (Nat.le_trans hBB2 (hF6 x_ hx_))))
       replace hc16 := k6_.heap hc16 (fun hm_ => by have h1_ := hF6 _ hm_; omega)
       replace hBw := Nat.le_trans hBw k6_.size
       replace hSW := hSW.sees (Sees.kp k6_ (fun x_ hx_ hv_ => by have := hF6 x_ hx_; have := hv_.2; omega))
       replace hSB := hSB.sees (Sees.kp k6_ (fun x_ hx_ hv_ => by have := hF6 x_ hx_; have := hv_.2; omega))
       replace hB2w := Nat.le_trans hB2w k6_.size
       replace hc53 := k6_.heap hc53 (fun hm_ => by have h1_ := hF6 _ hm_; omega)
       replace hK := hK.sees (Sees.kp k6_ hF7)
       replace hb9 := k6_.heap hb9 (fun hm_ => by have h1_ := hF6 _ hm_; omega)
       replace hT8 := hT8.sees (Sees.kp k6_ hF7)
       replace hV := fun x hx_ => (⟨(hV x hx_).1, Nat.lt_of_lt_of_le (hV x hx_).2 k6_.size⟩ : B2 ≤ x ∧ x < w98.heap.size)
       clear hc78
       clear hc91
       clear ownk gr6 hVo k6_ hF6 hF7 hbk6
       obtain ⟨ad7, n7, c7, rfl⟩ := zD6 own6
       refine qZ 1 ?_
       refine stn (zC6 (v := .slice ad7 n7 c7) rfl rfl (by rfl) hc53 (by rfl) (by rfl) ?_)
       intro w99 hc100 u101
       replace K := (by first | exact K.upd_new u101 (by assumption) | exact K.tr (Kp.of_upd u101 (by simp)))
       replace g0 := (by first | exact Grow.upd g0 u101 (Nat.le_trans g0w (by assumption)) | exact g0.kp1 (Kp.of_upd u101 (by simp)) hbd)
       replace hc16 := u101.heap hc16 (fun hm_ => by first | exact ne21 hm_ | exact ne21 hm_.symm)
       replace hBw := Nat.le_trans hBw (Nat.le_of_eq u101.size.symm)
       replace hSW := hSW.sees (Sees.upd u101 (fun h_ => by have := h_.1; omega))
       replace hSB := hSB.sees (Sees.upd u101 (fun h_ => by have := h_.1; omega))
       replace hB2w := Nat.le_trans hB2w (Nat.le_of_eq u101.size.symm)
       replace hK := hK.sees (Sees.upd u101 (fun h_ => by have := (hV _ h_).1; omega))
       replace hb9 := u101.heap hb9 (fun hm_ => by first | exact ne7 hm_ | exact ne7 hm_.symm)
       replace hT8 := hT8.sees (Sees.upd u101 (fun h_ => by have := (hV _ h_).1; omega))
       replace hV := fun x hx_ => (⟨(hV x hx_).1, Nat.lt_of_lt_of_le (hV x hx_).2 (Nat.le_of_eq u101.size.symm)⟩ : B2 ≤ x ∧ x < w99.heap.size)
       replace own6 := zF9 own6 u101 (fun he_ => by have := zI3 own6 _ he_; omega)
       clear hc53 u101
       refine qZ 2 ?_
       refine stp (zB9 rfl rfl ?_ ?_); constructor <;> omega
       refine qZ 2 ?_
       refine ⟨_, ?_, j + 1, (zG6 s d1 (zA0 s seg a).1.seg (kidA (zA0 s seg a).1 + (j : Int)) pd).1, ks ++ [(zG6 s d1 (zA0 s seg a).1.seg (kidA (zA0 s seg a).1 + (j : Int)) pd).2.1], ad7, n7, c7, _, V9, rfl, zD3 ⟨rfl, rfl, rfl, rfl, rfl, rfl, congrArg (Value.int .i64) (by omega), trivial⟩, by omega, (by rw [hj1, h70]), ⟨hq.1, hq.2.2 h70⟩, hVo6, K, g0, hc16, hBw, hSW, hSB, hB2w, hc100, hb9, own6, hV, (KidsR.append hK (by have := KidsR.cons hT8 .nil; simpa using this))⟩
       omega
     ·
      replace hlt := qF hlt
      have hjn : (kidN (zA0 s seg a).1).toNat = j := by omega
      have hlk : ks.length = j := by have := qH4 (f := qH3 s d (zA0 s seg a).1.seg) (a := kidA (zA0 s seg a).1) (p := (paid + (1 + zC8 (zA0 s seg a).1))) j (by rw [hkd]); rw [hkd] at this; exact this
      have hrk : Row (hide B2 w69) 5 (.slice ad6 n6 c6) ks.length kc := by rw [hlk]; exact zV5 ownk (by omega)
      have hK9 := hK.sees (Sees.more (V' := fun x => B2 ≤ x) _ (fun x _ hx_ => (hV x hx_).1))
      clear hK hV ownk
      refine qZ 4 ?_
      refine stn (qS hc53 ?_)
      intro w102 hc103 u104
      replace K := (by first | exact K.upd_new u104 (by assumption) | exact K.tr (Kp.of_upd u104 (by simp)))
      replace g0 := (by first | exact Grow.upd g0 u104 (Nat.le_trans g0w (by assumption)) | exact g0.kp1 (Kp.of_upd u104 (by simp)) hbd)
      replace hc16 := u104.heap hc16 ne21.symm
      replace hBw := Nat.le_trans hBw (Nat.le_of_eq u104.size.symm)
      replace hSW := hSW.sees (Sees.upd u104 (fun h_ => by have := h_.1; omega))
      replace hSB := hSB.sees (Sees.upd u104 (fun h_ => by have := h_.1; omega))
      replace hB2w := Nat.le_trans hB2w (Nat.le_of_eq u104.size.symm)
      replace hc30 := u104.heap hc30 ne7
      replace hrk := hrk.sees (Sees.upd u104 (fun h_ => absurd h_ (by omega)))
      replace hK9 := hK9.sees (Sees.upd u104 (fun h_ => absurd h_ (by omega)))
      clear u104 hc53
      refine qZ 3 ?_
      have h9 : (zG6 s d seg a paid) = (pd, .mk (zA0 s seg a).1.kind (zA0 s seg a).1.size (nodL s (zA0 s seg a).1) (nodB s (zA0 s seg a).1) ks, 0) := by rw [hneq]; unfold qC2; rw [if_neg h1, if_neg h2n, if_neg h3, hjn, hkd, if_neg (by simp)]
      rw [h9]
      refine ret2 (zA5 rfl hc103 (by rfl)) (zA1 (v := .int .u16 0) rfl) ⟨[_, _, _, _, _], rfl, (.mk (by simp only [inR]; omega) (by simp only [inR]; omega) (hSW.sees (Sees.more _ (fun x _ hx_ => Nat.le_trans hwB hx_.1))) (yP3 H _) (hSB.sees (Sees.more _ (fun x _ hx_ => Nat.le_trans hwB hx_.1))) (yV9 s _) (hrk.sees (Sees.low (Nat.le_trans hwB hBB2) _)) (hK9.sees (Sees.low (Nat.le_trans hwB hBB2) _))), hc30, K⟩
theorem qQ7 (w : World) {u : Value} {A : List (List Int)} (hA : zF3 w u A) (hn : A.length ≤ 8796093022208) : Calls Tryz.prog 51 #[u] w (Ret fun v w' => ∃ ad c, v = .slice ad A.length c ∧ RowAt w' 1 ad A.length ((zC0 A).map (.int .i64)) ∧ Grow w w') := by
 obtain ⟨ada, ca, segs, sa, sc, rfl, hca, hca2, RA, hsf, hrf⟩ := hA.fn
 have G := Grow.rfl' w
 refine zB8 Tryz.func51 Tryz.ntmps51 Tryz.results51 rfl rfl ?_
 refine qZ 16 ?_
 refine zF4 (fun m_ e_ w_ => ∃ (k : Nat) (ad3 : Option Addr) (n3 : Nat) (c3 : Nat), m_ = A.length - k ∧ Fr [(2, .slice none 0 0), (6, .slice ada A.length ca), (7, .int .i64 (A.length : Int)), (3, .slice ad3 n3 c3), (8, .int .i64 (k : Int))] e_ ∧ (k ≤ A.length) ∧ (w_.ownsRow w.heap.size 3 1 (.slice ad3 n3 c3) k ((zC0 (A.take k)).map (.int .i64))) ∧ Grow w w_) _ ⟨0, none, 0, 0, rfl, zD3 ⟨rfl, rfl, rfl, rfl, rfl, trivial⟩, by omega, World.ownsRow_nil _ _ _ _, G⟩ ?_
 clear G
 rintro m_ e_ w1 ⟨k, ad3, n3, c3, rfl, ⟨e2, rfl⟩, hk, own, G⟩
 refine qZ 2 ?_
 refine stp (zG5 rfl rfl ?_)
 refine qZ 2 ?_
 refine zA2 (b := (decide ((k : Int) < (A.length : Int)))) rfl (fun hlt => ?_) (fun hlt => ?_)
 ·
  replace hlt := qT hlt
  have hi : k < A.length := by omega
  have hlk := (hrf k hi).2.2.lim
  refine qZ 5 ?_
  refine stp (zF1 (RA.grow G) rfl rfl ?_ ?_); omega
  refine stp (zE8 (v := .slice (sa k) (len2 A k) (sc k)) (m := 0) (RA.grow G) rfl (by rw [Nat.mul_one]; exact hsf _ (by omega)) ?_)
  refine qZ 6 ?_
  refine stp (zB5 (cs := #[.int .i64 ((len2 A k) : Int)]) (el := 3) (fun w => by kernel_rfl) ?_)
  intro bs3 w4 hb5 hc6 g7
  have hge8 := Nat.le_trans G.size hb5
  replace own := zB7 own g7
  replace G := G.tr g7
  clear g7
  refine stp (zF8 rfl rfl rfl rfl own (Row.of_block (n := 1) hc6 rfl rfl (by omega)) (fun q_ hq_ => by simp at hq_; subst hq_; rfl) (by simp only [maxLen]; omega) (by omega) G.size ?_)
  intro v9 w10 own6 gr6
  replace G := G.grown gr6 (zI3 own)
  clear own gr6
  obtain ⟨ad4, n4, c4, rfl⟩ := zD6 own6
  refine qZ 3 ?_
  refine stp (zB9 rfl rfl ?_ ?_); constructor <;> omega
  refine qZ 2 ?_
  refine ⟨_, ?_, k + 1, ad4, n4, c4, rfl, zD3 ⟨rfl, rfl, rfl, rfl, congrArg (Value.int .i64) (by omega), trivial⟩, by omega, (by rw [qU7 hi, List.map_append]; exact own6), G⟩
  omega
 ·
  replace hlt := qF hlt
  have hk2 : k = A.length := by omega
  subst hk2
  rw [List.take_length] at own
  obtain ⟨ad9, c9, hs9, -, -, R9⟩ := zH3 own (by omega)
  simp only [Value.slice.injEq] at hs9
  obtain ⟨rfl, rfl, rfl⟩ := hs9
  refine qZ 7 ?_
  refine ret1 (zA1 (v := .slice ad3 A.length c3) rfl) ⟨_, _, rfl, R9, G⟩
theorem qV7 (w : World) {ad : Option Addr} {c : Nat} {A : List (List Int)} (R : RowAt w 1 ad A.length ((zC0 A).map (.int .i64))) (hs : ∀ i, len2 A i ≤ 140737488355328) : zB6 Tryz.prog 50 #[.slice ad A.length c] w (.bool (zD9 A)) := by
 have hl := zK2 A
 have G := Grow.rfl' w
 refine zA7 Tryz.func50 Tryz.ntmps50 Tryz.results50 rfl rfl ?_
 refine qZ 9 ?_
 refine stp (zG5 rfl rfl ?_)
 refine qZ 1 ?_
 refine qG 2 ?_
 refine zA3 (zB3 (s := .bool _) (v := .bool (decide ((A.length : Int) > 16))) rfl (zE2 _) (fun hc3 => ?_) ?_)
 ·
  have hc3_ := hc3
  try simp only [sb] at hc3_
  refine zQ5 (gvt hc3) rfl ?_
  exact ⟨rfl, rfl⟩
 refine stp (zI0 rfl rfl rfl ?_)
 refine qZ 1 ?_
 refine qG 1 ?_
 refine zA3 (zB3 (s := .bool _) (v := .pointer (some (eadr ad ((0 : Int).toNat * 1)))) rfl (zE2 _) (fun hc5 => ?_) ?_)
 ·
  have hc5_ := hc5
  try simp only [sb] at hc5_
  refine zH1 (R.grow G) (gvt hc5) rfl ?_ ?_ ?_; omega; omega
  exact ⟨rfl, rfl⟩
 refine zA3 (zB3 (s := .bool _) (v := .int .i64 ((zC0 A).getD 0 0)) rfl (zE2 _) (fun hc6 => ?_) ?_)
 ·
  have hc6_ := hc6
  try simp only [sb] at hc6_
  refine zE8 (v := .int .i64 ((zC0 A).getD 0 0)) (m := 0) (R.grow G) (gvt hc6) (show _ from zM6 (j := 0) 0 (by omega)) ?_
  exact ⟨rfl, rfl⟩
 refine zA3 (zB3 (s := .bool _) (v := .bool (decide (((zC0 A).getD 0 0) < 1))) rfl (zE2 _) (fun hc7 => ?_) ?_)
 ·
  have hc7_ := hc7
  try simp only [sb] at hc7_
  refine zG5 (gvt hc7) rfl ?_
  exact ⟨rfl, rfl⟩
 refine stp (zI0 rfl rfl rfl ?_)
 refine zA6 ?_
 refine zA2 (b := (((decide ((A.length : Int) < 1)) || (decide ((A.length : Int) > 16))) || (decide (((zC0 A).getD 0 0) < 1)))) rfl (fun h1 => ?_) (fun h1 => ?_)
 ·
  simp only [sb] at h1
  have hg0 := zO9 A 0
  refine qZ 5 ?_
  have h9 : zD9 A = false := by unfold zD9; exact decide_eq_false (by omega)
  refine ret1 (zA1 (v := .bool false) rfl) ⟨?_, G⟩
  rw [h9]
 ·
  simp only [sb] at h1
  have hg0 := zO9 A 0
  have h1' : 1 ≤ A.length ∧ A.length ≤ 16 ∧ 1 ≤ len2 A 0 := by omega
  clear h1
  refine qZ 13 ?_
  refine zF4 (fun m_ e_ w_ => ∃ (k : Nat), m_ = A.length - k ∧ Fr [(22, .slice ad A.length c), (23, .int .i64 (A.length : Int)), (3, .int .i64 (zC1 (A.take k))), (24, .int .i64 (k : Int))] e_ ∧ (k ≤ A.length) ∧ (zC1 (A.take k) ≤ 4096) ∧ Grow w w_) _ ⟨0, rfl, zD3 ⟨rfl, rfl, rfl, rfl, trivial⟩, by omega, by simp [zC1], G⟩ ?_
  clear G
  rintro m_ e_ w8 ⟨k, rfl, ⟨e9, rfl⟩, hk, htk, G⟩
  refine qZ 2 ?_
  refine stp (zG5 rfl rfl ?_)
  refine qZ 2 ?_
  refine zA2 (b := (decide ((k : Int) < (A.length : Int)))) rfl (fun hlt => ?_) (fun hlt => ?_)
  ·
   replace hlt := qT hlt
   have hi : k < A.length := by omega
   have hg := zO9 A k
   have hlk := hs k
   have ht1 := qG3 hi
   have ht2 := yJ3 (A := A) (k + 1)
   have ht3 := zO7 (A.take k)
   have hak : ((A[k].length : Nat) : Int) = (len2 A k : Int) := by simp only [len2]; rw [zE4 hi]
   have hadd : zJ2 (zC1 (A.take k)) ((zC0 A).getD k 0) 4096 = decide (zC1 (A.take (k + 1)) ≤ 4096) := by unfold zJ2; by_cases h_ : zC1 (A.take (k + 1)) ≤ 4096; (rw [decide_eq_true h_]; exact decide_eq_true (by omega)); (rw [decide_eq_false h_]; exact decide_eq_false (by omega))
   refine qZ 5 ?_
   refine stp (zF1 (R.grow G) rfl rfl ?_ ?_); omega
   refine stp (zE8 (v := .int .i64 ((zC0 A).getD k 0)) (m := 0) (R.grow G) rfl (zM6 0 (by omega)) ?_)
   refine qZ 6 ?_
   refine stp (zA4 (v := .tuple #[.int .i64 (if zJ2 (zC1 (A.take k)) ((zC0 A).getD k 0) 4096 then zC1 (A.take k) + (zC0 A).getD k 0 else 0), .bool (zJ2 (zC1 (A.take k)) ((zC0 A).getD k 0) 4096)]) rfl (qC3 _ (a := zC1 (A.take k)) (b := (zC0 A).getD k 0) (m := 4096) (by simp only [inR]; omega) (by simp only [inR]; omega) (by simp only [inR]; omega)) ?_)
   intro w10 g11
   replace G := G.tr g11
   clear g11
   refine qZ 10 ?_
   refine stp (zQ6 rfl ?_)
   refine zA6 ?_
   refine zA2 (b := (!(zJ2 (zC1 (A.take k)) ((zC0 A).getD k 0) 4096))) rfl (fun h3 => ?_) (fun h3 => ?_)
   ·
    simp only [sb] at h3
    rw [hadd] at h3
    refine qZ 5 ?_
    have h9 : zD9 A = false := by unfold zD9; exact decide_eq_false (by simp at h3; omega)
    refine ret1 (zA1 (v := .bool false) rfl) ⟨?_, G⟩
    rw [h9]
   ·
    simp only [sb] at h3
    rw [hadd] at h3
    have h3_ : zC1 (A.take (k + 1)) ≤ 4096 := by simpa using h3
    refine qZ 6 ?_
    refine stp (zB9 rfl rfl ?_ ?_); constructor <;> omega
    refine qZ 2 ?_
    refine ⟨_, ?_, k + 1, rfl, zD3 ⟨rfl, rfl, congrArg (Value.int .i64) (by rw [hadd, decide_eq_true h3_, if_pos rfl]; omega), rfl, trivial⟩, by omega, by omega, G⟩
    omega
  ·
   replace hlt := qF hlt
   have hk2 : k = A.length := by omega
   subst hk2
   rw [List.take_length] at htk
   refine qZ 6 ?_
   have h9 : zD9 A = true := by unfold zD9; exact decide_eq_true (by omega)
   refine ret1 (zA1 (v := .bool true) rfl) ⟨?_, G⟩
   rw [h9]
theorem qD9 (w : World) {u : Value} {A : List (List Int)} (hA : zF3 w u A) (hn : A.length ≤ 8796093022208) : zB6 Tryz.prog 30 #[u] w (.bool (zD9 A)) := by
 have hA0 := hA
 obtain ⟨ada, ca, segs, sa, sc, rfl, hca, hca2, RA, hsf, hrf⟩ := hA.fn
 have hs : ∀ i, len2 A i ≤ 140737488355328 := fun i => by by_cases hi : i < A.length; exact (hrf i hi).2.2.lim; (have := zO8 (A := A) (j := i) (by omega); omega)
 have G := Grow.rfl' w
 refine zA7 Tryz.func30 Tryz.ntmps30 Tryz.results30 rfl rfl ?_
 refine qZ 7 ?_
 refine stp ?_
 refine zD2 rfl (qQ7 _ (hA0.grow G) hn) ?_
 rintro v_ w1 ⟨ad9, c9, rfl, RZ, g_⟩
 replace G := G.tr g_
 clear g_
 refine stp (zA4 (v := .bool (zD9 A)) rfl (qV7 _ RZ hs) ?_)
 intro w2 g3
 replace RZ := RZ.grow g3
 replace G := G.tr g3
 clear g3
 refine qZ 3 ?_
 refine ret1 (zA1 (v := .bool (zD9 A)) rfl) ⟨?_, G⟩
 rfl
theorem qM8 (w : World) {u : Value} {A : List (List Int)} (hA : zF3 w u A) (hn : A.length ≤ 8796093022208) (hx : ∀ q ∈ A, ∀ x ∈ q, inR .u64 x) : Calls Tryz.prog 70 #[u] w (Ret fun v w' => ∃ cells, v = .tuple #[.agg cells.toArray, .int .u16 (decT A).2] ∧ NodeR (hide w.heap.size w') cells (decT A).1 ∧ Grow w w') := by
 have hA0 := hA
 obtain ⟨ada, ca, segs, sa, sc, rfl, hca, hca2, RA, hsf, hrf⟩ := hA.fn
 have G := Grow.rfl' w
 refine zB8 Tryz.func70 Tryz.ntmps70 Tryz.results70 rfl rfl ?_
 refine qZ 2 ?_
 refine stp (zA8 ?_)
 intro b1 w2 hb3 hc4 g5
 refine qZ 6 ?_
 have hge6 := Nat.le_trans G.size hb3
 replace G := G.tr g5
 clear g5 hb3
 refine stp (zA4 (v := .bool (zD9 A)) rfl (qD9 _ (hA0.grow G) hn) ?_)
 intro w7 g8
 replace hc4 := g8.heap hc4
 replace G := G.tr g8
 clear g8
 refine stp (zQ6 rfl ?_)
 refine zA6 ?_
 refine zA2 (b := (!(zD9 A))) rfl (fun h1 => ?_) (fun h1 => ?_)
 ·
  simp only [sb] at h1
  have h9 : decT A = (.nil, 1) := if_pos (by simpa using h1)
  refine qZ 2 ?_
  refine stp (zB0 (v := .agg #[.int .i64 0, .int .i64 0, .slice none 0 0, .slice none 0 0, .slice none 0 0]) (fun w => by kernel_rfl) ?_)
  refine stn (qS hc4 ?_)
  intro w9 hc10 u11
  replace G := G.upd u11 hge6
  clear u11 hc4
  refine qZ 3 ?_
  rw [h9]
  refine ret2 (zA5 rfl hc10 (by rfl)) (zA1 (v := .int .u16 1) rfl) ⟨[_, _, _, _, _], rfl, NodeR.zero _, G⟩
 ·
  simp only [sb] at h1
  have h1' : zD9 A = true := by simpa using h1
  have hr : OkA A := yK1 h1' hx
  have h9 : decT A = (zG6 (zB1 A) 32 0 0 0).2 := if_neg (by simp [h1'])
  rw [h9]
  refine qZ 4 ?_
  refine stp (zA4 (v := .iface 110 (.agg #[.slice ada A.length ca])) rfl (qH6 _) ?_)
  intro w12 g13
  replace hc4 := g13.heap hc4
  replace G := G.tr g13
  clear g13
  refine stp (zB0 (v := .agg #[.iface 110 (.agg #[.slice ada A.length ca]), .int .i64 0]) (fun w => by kernel_rfl) ?_)
  refine stp ?_
  refine qC ?_
  intro b14 w15 hb16 hc17 g18
  have hge19 := Nat.le_trans G.size hb16
  have ne20 := qN hc4 hb16
  replace hc4 := g18.heap hc4
  replace G := G.tr g18
  clear g18 hb16
  refine qZ 5 ?_
  refine stp ?_
  have hcal := qV6 _ _ (yQ1 hA0 hr) G hge19 hc17 (by decide) (by decide) 0 (a := 0) (by decide) (by decide) (d := 32) (by decide) (Nat.le_refl _)
  have hlow := G.size
  have hlt1 := zC2 hc4
  refine zD2 rfl hcal ?_
  rintro v_ w21 ⟨cells, rfl, hT9, hb9, K_⟩
  clear hcal
  replace hc4 := K_.heap hc4 (fun hm_ => by simp only [List.mem_singleton] at hm_; first | exact ne20 hm_ | exact ne20 hm_.symm)
  replace G := G.trK K_ (fun x_ hx_ => by simp only [List.mem_singleton] at hx_; subst hx_; exact hge19)
  clear K_ hc17
  obtain ⟨y0, y1, ya, yn, yc, za, zn, zc, ua, un, uc, rfl⟩ := hT9.cells
  refine qZ 2 ?_
  refine stn (qS hc4 ?_)
  intro w22 hc23 u24
  replace hb9 := u24.heap hb9 ne20.symm
  replace hT9 := hT9.sees (Sees.upd u24 (fun h_ => absurd h_ (Nat.not_le.2 hlt1)))
  replace G := G.upd u24 hge6
  clear u24 hc4
  refine qZ 3 ?_
  refine ret2 (zA5 rfl hc23 (by rfl)) (zA1 (v := .int .u16 ((zG6 (zB1 A) 32 0 0 0).2.2)) rfl) ⟨_, rfl, hT9.sees (Sees.low hlow _), G⟩
end Go.Proofs.YtkkbbhpbcfcplaaGreat.K
namespace Go.Proofs.YtkkbbhpbcfcplaaGreat.K
open Go Go.RowKit
structure KpQ where
  r : World → World → Prop
  g : World → World → Prop
  gdrew : ∀ w : World, g w { w with drawn := w.drawn + 1 }
  refl : ∀ w, r w w
  tr : ∀ {a b c : World}, r a b → r b c → r a c
  grow : ∀ {a b : World}, g a b → r a b
def Sp.StabQ (F : KpQ) : Sp → Prop
  | .ex _ => True
  | .so G => ∀ w w' v, F.r w w' → G w v → G w' v
theorem Sp.keepQ {F : KpQ} {s : Sp} (h : s.StabQ F) {w w' : World} {v : Value} (g : F.r w w') (hv : s.holds w v) : s.holds w' v := by
  cases s with
  | ex x => exact hv
  | so G => exact h w w' v g hv
mutual
def Nd.beq : Nd → Nd → Bool
  | .mk k s w b ks, .mk k' s' w' b' ks' => decide (k = k') && decide (s = s') && decide (w = w') && decide (b = b') && Nd.beqs ks ks'
def Nd.beqs : List Nd → List Nd → Bool
  | [], [] => true
  | [], _ :: _ => false
  | _ :: _, [] => false
  | t :: ts, u :: us => t.beq u && Nd.beqs ts us
end
mutual
theorem Nd.beq_iff : ∀ (t u : Nd), t.beq u = true ↔ t = u
  | .mk k s w b ks, .mk k' s' w' b' ks' => by
    simp only [Nd.beq, Bool.and_eq_true, decide_eq_true_eq, Nd.mk.injEq, Nd.beqs_iff ks ks', and_assoc]
theorem Nd.beqs_iff : ∀ (t u : List Nd), Nd.beqs t u = true ↔ t = u
  | [], [] => by simp [Nd.beqs]
  | [], _ :: _ => by simp [Nd.beqs]
  | _ :: _, [] => by simp [Nd.beqs]
  | t :: ts, u :: us => by
    simp only [Nd.beqs, Bool.and_eq_true, List.cons.injEq, Nd.beq_iff t u, Nd.beqs_iff ts us]
end
theorem Nd.beqs_all : ∀ (t u : List Nd), (decide (t.length = u.length) && (List.range t.length).all fun i => (t.getD i (.mk 0 0 [] [] [])).beq (u.getD i (.mk 0 0 [] [] []))) = Nd.beqs t u
  | [], [] => by simp [Nd.beqs]
  | [], _ :: _ => by simp [Nd.beqs]
  | _ :: _, [] => by simp [Nd.beqs]
  | t :: ts, u :: us => by
    rw [Nd.beqs, ← Nd.beqs_all ts us, List.length_cons, List.length_cons, List.range_succ_eq_map, List.all_cons, List.all_map]
    have h : decide (ts.length + 1 = us.length + 1) = decide (ts.length = us.length) := by
      by_cases h : ts.length = us.length
      · rw [decide_eq_true h, decide_eq_true (by omega)]
      · rw [decide_eq_false h, decide_eq_false (by omega)]
    rw [h]
    show (decide (ts.length = us.length) && (t.beq u && (List.range ts.length).all fun i => (ts.getD i (.mk 0 0 [] [] [])).beq (us.getD i (.mk 0 0 [] [] [])))) = _
    cases decide (ts.length = us.length) <;> cases t.beq u <;> simp
theorem qQ8 {n k : Nat} {p : Nat → Bool} (hk : k < n) (h : p k = false) : (List.range n).all p = false := by
  rw [List.all_eq_false]
  exact ⟨k, List.mem_range.2 hk, by rw [h]; decide⟩
theorem qM9 {n : Nat} {p : Nat → Bool} (h : ∀ j, j < n → p j = true) : (List.range n).all p = true := by
  rw [List.all_eq_true]
  exact fun j hj => h j (List.mem_range.1 hj)
section
variable {P : Program} {ops : Array Oper} {Q : Ex → Env → World → Prop} {e : Env} {w : World} {K : Value → World → Prop} {r : List Oper}
variable {d : Option Nat} {ty : TypeId} {pos : String} {af : Array Edge} {g : Option (Nat × Bool)}
variable {t u : TypeId} {x y z : Operand}
theorem qK6 {n c : Nat} {ad : Option Addr} {el : TypeId} {xs : List Int} [hui : ElI P t el 1] [hei : IntI P el .u8] [hsi : StrI P u] (R : RowAt w 1 ad n (xs.map (.int .u8))) (hx : ev e x = .slice ad n c) (h : K (.string (strOfNums xs)) w) : Run1 P ⟨d, .convert t u x, ty, pos, af, g⟩ e w K := by
  have hn : n = xs.length := by have := R.len; simp at this; exact this.symm
  have hu := hui.h
  have ht : P.underlying t = some (.slice el) := by
    unfold elS at hu
    split at hu
    · rename_i el' hul
      split at hu
      · simp only [Option.some.injEq, Prod.mk.injEq] at hu
        obtain ⟨rfl, _⟩ := hu
        exact hul
      · cases hu
    · cases hu
  have key : (convert t u (.slice ad n c)).run P w = .ok (.string (strOfNums xs)) w := by
    rcases Nat.eq_zero_or_pos n with h0 | h0
    · have hxs : xs = [] := List.eq_nil_of_length_eq_zero (by omega)
      subst hxs
      cases ad with
      | none => exact run_convert_bytes_nil w t el ht hei.h n c u hsi.h
      | some a =>
        subst h0
        rw [run_convert_bytes_string w t u el _ 0 c ht hei.h hsi.h, run_bytesToString w a 0 c [] (by rfl)]
        rfl
    · obtain ⟨b, o, cs, T, fr, rfl, hb, hr⟩ := R.at_ h0
      refine run_convert_bytes_arg w t el ht hei.h b o n c xs hn.symm (fun i hi => ?_) u hsi.h
      rw [cell_of_row w b (o + i) cs T fr hb]
      refine zP8 hr ?_
      rw [List.getElem?_map, List.getElem?_eq_getElem (by omega), List.getD_eq_getElem?_getD, List.getElem?_eq_getElem (by omega)]
      rfl
  exact zD4 (w' := w) (by simp only [execOp, hx, Sem.run_bind, key, Result.andThen_ok, Sem.run_pure]) h
theorem yQ2 {s q : ByteArray} (hx : ev e x = .string s) (hy : ev e y = .string q) (h : K (.bool (s.toList == q.toList)) w) : Run1 P ⟨d, .binOp .eql t x y u, ty, pos, af, g⟩ e w K :=
  zD4 (w' := w) (by
    have hg : ∀ w : World, (eqGuard .eql t x y (.string s) (.string q)).run P w = .ok () w := fun _ => rfl
    simp only [execOp, hx, hy, Sem.run_bind, hg, Result.andThen_ok, binOp, Op.stringOp, Sem.run_pure]) h
end
theorem yL1 : ∀ (xs ys : List Int), (∀ x ∈ xs, inR .u8 x) → (∀ y ∈ ys, inR .u8 y) → (strOfNums xs).data.toList = (strOfNums ys).data.toList → xs = ys := by
  intro xs ys hx hy h2
  simp only [strOfNums_data] at h2
  induction xs generalizing ys with
  | nil => cases ys with
    | nil => rfl
    | cons y ys => simp at h2
  | cons x xs ih => cases ys with
    | nil => simp at h2
    | cons y ys =>
      simp only [List.map_cons, List.cons.injEq] at h2
      have h3 := ih ys (fun z hz => hx z (by simp [hz])) (fun z hz => hy z (by simp [hz])) h2.2
      have h4 := hx x (by simp)
      have h5 := hy y (by simp)
      simp only [inR] at h4 h5
      have h6 := congrArg UInt8.toNat h2.1
      simp only [UInt8.toNat_ofNat'] at h6
      have : x = y := by omega
      rw [this, h3]
theorem yQ3 {xs ys : List Int} (hx : ∀ x ∈ xs, inR .u8 x) (hy : ∀ y ∈ ys, inR .u8 y) : ((strOfNums xs).toList == (strOfNums ys).toList) = decide (xs = ys) := by
  rw [ByteArray.toList_eq, ByteArray.toList_eq]
  by_cases h : xs = ys
  · subst h; simp
  · rw [decide_eq_false h, beq_eq_false_iff_ne]
    exact fun hs => h (yL1 xs ys hx hy hs)
end Go.Proofs.YtkkbbhpbcfcplaaGreat.K
namespace Go.Proofs.YtkkbbhpbcfcplaaGreat.K
open Go Go.RowKit Go.Proofs
attribute [local irreducible] Run1 OpG WL W AO zB6
theorem yL2 (w : World) {ad ad2 : Option Addr} {c c2 : Nat} {xs ys : List Int} (R : RowAt w 1 ad xs.length (xs.map (.int .u64))) (R2 : RowAt w 1 ad2 ys.length (ys.map (.int .u64))) : zB6 Tryz.prog 82 #[.slice ad xs.length c, .slice ad2 ys.length c2] w (.bool (decide (xs = ys))) := by
 have l1 := R.lim
 have l2 := R2.lim
 have G := Grow.rfl' w
 refine zA7 Tryz.func82 Tryz.ntmps82 Tryz.results82 rfl rfl ?_
 refine qZ 11 ?_
 refine stp (zI1 rfl rfl ?_)
 refine zA6 ?_
 refine zA2 (b := (decide ((xs.length : Int) ≠ (ys.length : Int)))) rfl (fun h1 => ?_) (fun h1 => ?_)
 ·
  replace h1 := qT h1
  refine qZ 5 ?_
  refine ret1 (zA1 (v := .bool false) rfl) ⟨?_, G⟩
  congr 1; exact (decide_eq_false (fun he => h1 (by rw [he]))).symm
 ·
  replace h1 := qF h1
  have hl : xs.length = ys.length := by omega
  refine qZ 9 ?_
  refine zF4 (fun m_ e_ w_ => ∃ (k : Nat), m_ = xs.length - k ∧ Fr [(0, .slice ad xs.length c), (1, .slice ad2 ys.length c2), (12, .int .i64 (xs.length : Int)), (13, .int .i64 (k : Int))] e_ ∧ (k ≤ xs.length) ∧ (∀ j, j < k → xs.getD j 0 = ys.getD j 0) ∧ Grow w w_) _ ⟨0, rfl, zD3 ⟨rfl, rfl, rfl, rfl, trivial⟩, by omega, fun j hj => by omega, G⟩ ?_
  clear G
  rintro m_ e_ w1 ⟨k, rfl, ⟨e2, rfl⟩, hk2, hk, G⟩
  refine qZ 2 ?_
  refine stp (zG5 rfl rfl ?_)
  refine qZ 2 ?_
  refine zA2 (b := (decide ((k : Int) < (xs.length : Int)))) rfl (fun hlt => ?_) (fun hlt => ?_)
  ·
   replace hlt := qT hlt
   have hk3 : k < ys.length := by omega
   refine qZ 9 ?_
   refine zO5 9 [[], [], [1, 0], [2, 1, 0], [], [], [1, 0], [2, 1, 0], [7, 6, 5, 4, 3, 2, 1, 0]] mixed (by kernel_rfl) (by kernel_rfl) (by kernel_rfl) ?_
   intro w3 g4
   replace G := G.tr g4
   clear g4
   refine qA 2 ?_
   apply zC3
   ·intro w_ g_; refine og rfl ?_; refine zF1 (R.grow (G.tr g_)) rfl rfl ?_ ?_; omega; exact qX
   apply zC3
   ·intro w_ g_; exact og rfl (zE8 (v := .int .u64 (xs.getD k 0)) (m := 0) (R.grow (G.tr g_)) rfl (zM6 0 (by omega)) qX)
   refine qA 2 ?_
   apply zC3
   ·intro w_ g_; refine og rfl ?_; refine zF1 (R2.grow (G.tr g_)) rfl rfl ?_ ?_; omega; exact qX
   apply zC3
   ·intro w_ g_; exact og rfl (zE8 (v := .int .u64 (ys.getD k 0)) (m := 0) (R2.grow (G.tr g_)) rfl (zM6 0 (by omega)) qX)
   apply zC3
   ·intro w_ g_; exact og rfl (zI1 rfl rfl qX)
   refine zI6 ?_
   intro w5 g6
   replace G := G.tr g6
   clear g6
   refine zA6 ?_
   refine zA2 (b := (decide ((xs.getD k 0) ≠ (ys.getD k 0)))) rfl (fun h3 => ?_) (fun h3 => ?_)
   ·
    replace h3 := qT h3
    refine qZ 5 ?_
    refine ret1 (zA1 (v := .bool false) rfl) ⟨?_, G⟩
    congr 1; exact (decide_eq_false (fun he => h3 (by rw [he]))).symm
   ·
    replace h3 := qF h3
    refine qZ 2 ?_
    refine stp (zB9 rfl rfl ?_ ?_); constructor <;> omega
    refine qZ 2 ?_
    refine ⟨_, ?_, k + 1, rfl, zD3 ⟨rfl, rfl, rfl, rfl, trivial⟩, by omega, fun j hj => by rcases Nat.lt_succ_iff_lt_or_eq.1 hj with h_ | h_; exact hk j h_; subst h_; omega, G⟩
    omega
  ·
   replace hlt := qF hlt
   have hk3 : k = xs.length := by omega
   refine qZ 6 ?_
   refine ret1 (zA1 (v := .bool true) rfl) ⟨?_, G⟩
   congr 1; exact (decide_eq_true (yO9 hl (fun j hj => hk j (by omega)))).symm
theorem yL3 (w : World) {ad ad2 : Option Addr} {c c2 : Nat} {xs ys : List Int} (R : RowAt w 1 ad xs.length (xs.map (.int .u8))) (R2 : RowAt w 1 ad2 ys.length (ys.map (.int .u8))) (hx : ∀ x ∈ xs, inR .u8 x) (hy : ∀ y ∈ ys, inR .u8 y) : zB6 Tryz.prog 83 #[.slice ad xs.length c, .slice ad2 ys.length c2] w (.bool (decide (xs = ys))) := by
 have G := Grow.rfl' w
 refine zA7 Tryz.func83 Tryz.ntmps83 Tryz.results83 rfl rfl ?_
 refine qZ 7 ?_
 refine stp (qK6 (xs := xs) (R.grow G) rfl ?_)
 refine qZ 1 ?_
 refine stp (qK6 (xs := ys) (R2.grow G) rfl ?_)
 refine stp ?_
 refine yQ2 rfl rfl ?_
 rw [yQ3 hx hy]
 refine qZ 3 ?_
 refine ret1 (zA1 (v := .bool (decide (xs = ys))) rfl) ⟨?_, G⟩
 rfl
theorem yL4 (w : World) {ad ad2 : Option Addr} {c c2 n m fid : Nat} {fst cap : Array Value} {kc kd : List Value} [FuncI Tryz.prog fid] (R : RowAt w 5 ad n kc) (R2 : RowAt w 5 ad2 m kd) (p : Nat → Bool) (hf : ∀ i, i < n → i < m → ∀ w', Grow w w' → zB6 Tryz.prog fid (fst.toList ++ ([Value.agg ((kc.drop (i * 5)).take 5).toArray, Value.agg ((kd.drop (i * 5)).take 5).toArray] ++ cap.toList)).toArray w' (.bool (p i))) (h1c : ∀ i, i < n → ∃ k s a n cp a2 n2 c2 a3 n3 c3, (kc.drop (i * 5)).take 5 = [.int .i64 k, .int .i64 s, .slice a n cp, .slice a2 n2 c2, .slice a3 n3 c3]) (h2c : ∀ i, i < m → ∃ k s a n cp a2 n2 c2 a3 n3 c3, (kd.drop (i * 5)).take 5 = [.int .i64 k, .int .i64 s, .slice a n cp, .slice a2 n2 c2, .slice a3 n3 c3]) : zB6 Tryz.prog 84 #[.slice ad n c, .slice ad2 m c2, .func (.func fid) fst cap] w (.bool (decide (n = m) && (List.range n).all p)) := by
 have l1 := R.lim
 have l2 := R2.lim
 have e1 := R.len
 have e2 := R2.len
 have G := Grow.rfl' w
 refine zA7 Tryz.func84 Tryz.ntmps84 Tryz.results84 rfl rfl ?_
 refine qZ 11 ?_
 refine stp (zI1 rfl rfl ?_)
 refine zA6 ?_
 refine zA2 (b := (decide ((n : Int) ≠ (m : Int)))) rfl (fun h1 => ?_) (fun h1 => ?_)
 ·
  replace h1 := qT h1
  refine qZ 5 ?_
  refine ret1 (zA1 (v := .bool false) rfl) ⟨?_, G⟩
  rw [decide_eq_false (by omega), Bool.false_and]
 ·
  replace h1 := qF h1
  have hl : n = m := by omega
  refine qZ 9 ?_
  refine zF4 (fun m_ e_ w_ => ∃ (k : Nat), m_ = n - k ∧ Fr [(1, .slice ad2 m c2), (2, .func (.func fid) fst cap), (15, .slice ad n c), (16, .int .i64 (n : Int)), (17, .int .i64 (k : Int))] e_ ∧ (k ≤ n) ∧ (∀ j, j < k → p j = true) ∧ Grow w w_) _ ⟨0, rfl, zD3 ⟨rfl, rfl, rfl, rfl, rfl, trivial⟩, by omega, fun j hj => by omega, G⟩ ?_
  clear G
  rintro m_ e_ w1 ⟨k, rfl, ⟨e2, rfl⟩, hk2, hk, G⟩
  refine qZ 2 ?_
  refine stp (zG5 rfl rfl ?_)
  refine qZ 2 ?_
  refine zA2 (b := (decide ((k : Int) < (n : Int)))) rfl (fun hlt => ?_) (fun hlt => ?_)
  ·
   replace hlt := qT hlt
   have hk3 : k < m := by omega
   have hfk := hf k (by omega) hk3
   obtain ⟨x0, x1, x2, x3, x4, x5, x6, x7, x8, x9, x10, hx5⟩ := h1c k (by omega)
   obtain ⟨y0, y1, y2, y3, y4, y5, y6, y7, y8, y9, y10, hy5⟩ := h2c k (by omega)
   rw [hx5, hy5] at hfk
   refine qZ 6 ?_
   refine stp (zF1 (R.grow G) rfl rfl ?_ ?_); omega
   refine stp (zN8 (R.grow G) rfl (by decide) (by omega) hx5 ?_)
   refine stp (zA8 ?_)
   intro b3 w4 hb5 hc6 g7
   refine qZ 1 ?_
   refine stn (qS hc6 ?_)
   intro w8 hc9 u10
   have g11 := g7.upd u10 hb5
   have hge12 := Nat.le_trans G.size hb5
   replace G := G.tr g11
   clear u10 g7 hb5 hc6
   refine qZ 5 ?_
   refine stp (zF1 (R2.grow G) rfl rfl ?_ ?_); omega
   refine stp (zN8 (R2.grow G) rfl (by decide) (by omega) hy5 ?_)
   refine stp (zA8 ?_)
   intro b13 w14 hb15 hc16 g17
   refine stn (qS hc16 ?_)
   intro w18 hc19 u20
   have g21 := g17.upd u20 hb15
   have hge22 := Nat.le_trans G.size hb15
   have ne23 := qN hc9 hb15
   replace hc9 := g21.heap hc9
   replace G := G.tr g21
   clear u20 g17 hb15 hc16
   refine qZ 6 ?_
   refine stp (zA4 (v := .bool (p k)) rfl (hfk _ G) ?_)
   intro w24 g25
   replace hc9 := g25.heap hc9
   replace hc19 := g25.heap hc19
   replace G := G.tr g25
   clear g25
   refine stp (zQ6 rfl ?_)
   refine zA6 ?_
   refine zA2 (b := (!(p k))) rfl (fun hpk => ?_) (fun hpk => ?_)
   ·
    simp only [sb] at hpk
    refine qZ 5 ?_
    refine ret1 (zA1 (v := .bool false) rfl) ⟨?_, G⟩
    rw [qQ8 (k := k) (by omega) (by simpa using hpk), Bool.and_false]
   ·
    simp only [sb] at hpk
    refine qZ 2 ?_
    refine stp (zB9 rfl rfl ?_ ?_); constructor <;> omega
    refine qZ 2 ?_
    refine ⟨_, ?_, k + 1, rfl, zD3 ⟨rfl, rfl, rfl, rfl, rfl, trivial⟩, by omega, fun j hj => by rcases Nat.lt_succ_iff_lt_or_eq.1 hj with h_ | h_; exact hk j h_; subst h_; simpa using hpk, G⟩
    omega
  ·
   replace hlt := qF hlt
   have hk3 : k = n := by omega
   refine qZ 6 ?_
   refine ret1 (zA1 (v := .bool true) rfl) ⟨?_, G⟩
   rw [qM9 (fun j hj => hk j (by omega)), decide_eq_true hl]; rfl
theorem yF1 : ∀ (n_ : Nat) (w : World) {c : List Value} {t : Nd} (T : NodeR w c t) {d : List Value} {u : Nd} (U : NodeR w d u), t.sz ≤ n_ → zB6 Tryz.prog 47 #[.agg c.toArray, .agg d.toArray] w (.bool (t.beq u)) := by
 intro n_
 induction n_ with
 | zero => intro w c t T d u U hm_; exact absurd hm_ (by have := t.sz_pos; omega)
 | succ n_ ih_ =>
 intro w c t T d u U hm_
 obtain @⟨kind, size, words, bytes, kids, ws, bs, ks, kc, hk, hs, hW, hwr, hB, hbr, hK, hKs⟩ := T
 obtain ⟨aw, cw, rfl, hcw, hcw2, RW⟩ := hW
 obtain ⟨ab, cb, rfl, hcb, hcb2, RB⟩ := hB
 obtain ⟨ak, ck, rfl, hck, hck2, RK⟩ := hK
 have lw := RW.lim
 have lb := RB.lim
 have lk := RK.lim
 simp only [inR] at hk hs
 obtain @⟨kind2, size2, words2, bytes2, kids2, ws2, bs2, ks2, kc2, hk2, hs2, hW2, hwr2, hB2, hbr2, hK2, hKs2⟩ := U
 obtain ⟨aw2, cw2, rfl, hcw2, hcw22, RW2⟩ := hW2
 obtain ⟨ab2, cb2, rfl, hcb2, hcb22, RB2⟩ := hB2
 obtain ⟨ak2, ck2, rfl, hck2, hck22, RK2⟩ := hK2
 have lw2 := RW2.lim
 have lb2 := RB2.lim
 have lk2 := RK2.lim
 simp only [inR] at hk2 hs2
 have G := Grow.rfl' w
 refine zA7 Tryz.func47 Tryz.ntmps47 Tryz.results47 rfl rfl ?_
 refine qZ 2 ?_
 refine stp ?_
 refine qC ?_
 intro b1 w2 hb3 hc4 g5
 have hge6 := Nat.le_trans G.size hb3
 replace G := G.tr g5
 clear g5 hb3
 refine stp ?_
 refine qC ?_
 intro b7 w8 hb9 hc10 g11
 have hge12 := Nat.le_trans G.size hb9
 replace hc4 := g11.heap hc4
 replace G := G.tr g11
 clear g11 hb9
 refine qZ 8 ?_
 refine stp (zD5 rfl rfl ?_)
 refine qZ 1 ?_
 refine qG 4 ?_
 refine zA3 (zB3 (s := .bool _) (v := .bool (decide (size = size2))) rfl (zF0 _) (fun hc17 => ?_) ?_)
 ·
  have hc17_ := qT hc17
  refine zD5 (gvt hc17) (gvt hc17) ?_
  exact ⟨rfl, rfl⟩
 refine stp (zH4 rfl rfl rfl ?_)
 refine qZ 1 ?_
 refine qG 4 ?_
 refine zA3 (zZ5 (s := .bool ((decide (kind = kind2)) && (decide (size = size2)))) (b := true) (v := .bool (decide (words = words2))) rfl (zF0 _) (fun hc22 => ?_) ?_)
 ·
  obtain ⟨hc22a, hc22b⟩ := and_t hc22
  have hc22a_ := qT hc22a
  have hc22b_ := qT hc22b
  exact zN7 (l := ([.slice aw words.length cw, .slice aw2 words2.length cw2] : List Value)) rfl (by show ([gv ((decide (kind = kind2)) && (decide (size = size2))) (.slice aw words.length cw), gv ((decide (kind = kind2)) && (decide (size = size2))) (.slice aw2 words2.length cw2)] : List Value) = _; rw [gvt hc22, gvt hc22]) (yL2 _ (RW.grow G) (RW2.grow G)) (fun w2_ g2_ => ⟨rfl, g2_⟩)
 intro w23 g24
 replace hc4 := g24.heap hc4
 replace hc10 := g24.heap hc10
 replace G := G.tr g24
 clear g24
 refine stp (zH4 rfl rfl rfl ?_)
 refine qZ 1 ?_
 refine zA3 (zB3 (s := .bool _) (v := .pointer (some ⟨b1, 3, none⟩)) rfl (zF0 _) (fun hc25 => ?_) ?_)
 ·
  obtain ⟨hc25a, hc25b⟩ := and_t hc25
  obtain ⟨hc25aa, hc25ab⟩ := and_t hc25a
  have hc25aa_ := qT hc25aa
  have hc25ab_ := qT hc25ab
  refine zE0 rfl ?_
  exact ⟨rfl, rfl⟩
 refine zA3 (zB3 (s := .bool _) (v := .slice ab bytes.length cb) rfl (zF0 _) (fun hc26 => ?_) ?_)
 ·
  obtain ⟨hc26a, hc26b⟩ := and_t hc26
  obtain ⟨hc26aa, hc26ab⟩ := and_t hc26a
  have hc26aa_ := qT hc26aa
  have hc26ab_ := qT hc26ab
  refine zG3 (v := .slice ab bytes.length cb) (gvt hc26) hc4 rfl ?_
  exact ⟨rfl, rfl⟩
 refine zA3 (zB3 (s := .bool _) (v := .pointer (some ⟨b7, 3, none⟩)) rfl (zF0 _) (fun hc27 => ?_) ?_)
 ·
  obtain ⟨hc27a, hc27b⟩ := and_t hc27
  obtain ⟨hc27aa, hc27ab⟩ := and_t hc27a
  have hc27aa_ := qT hc27aa
  have hc27ab_ := qT hc27ab
  refine zE0 rfl ?_
  exact ⟨rfl, rfl⟩
 refine zA3 (zB3 (s := .bool _) (v := .slice ab2 bytes2.length cb2) rfl (zF0 _) (fun hc28 => ?_) ?_)
 ·
  obtain ⟨hc28a, hc28b⟩ := and_t hc28
  obtain ⟨hc28aa, hc28ab⟩ := and_t hc28a
  have hc28aa_ := qT hc28aa
  have hc28ab_ := qT hc28ab
  refine zG3 (v := .slice ab2 bytes2.length cb2) (gvt hc28) hc10 rfl ?_
  exact ⟨rfl, rfl⟩
 refine zA3 (zZ5 (s := .bool (((decide (kind = kind2)) && (decide (size = size2))) && (decide (words = words2)))) (b := true) (v := .bool (decide (bytes = bytes2))) rfl (zF0 _) (fun hc29 => ?_) ?_)
 ·
  obtain ⟨hc29a, hc29b⟩ := and_t hc29
  obtain ⟨hc29aa, hc29ab⟩ := and_t hc29a
  have hc29aa_ := qT hc29aa
  have hc29ab_ := qT hc29ab
  exact zN7 (l := ([.slice ab bytes.length cb, .slice ab2 bytes2.length cb2] : List Value)) rfl (by show ([gv (((decide (kind = kind2)) && (decide (size = size2))) && (decide (words = words2))) (.slice ab bytes.length cb), gv (((decide (kind = kind2)) && (decide (size = size2))) && (decide (words = words2))) (.slice ab2 bytes2.length cb2)] : List Value) = _; rw [gvt hc29, gvt hc29]) (yL3 _ (RB.grow G) (RB2.grow G) hbr hbr2) (fun w2_ g2_ => ⟨rfl, g2_⟩)
 intro w30 g31
 replace hc4 := g31.heap hc4
 replace hc10 := g31.heap hc10
 replace G := G.tr g31
 clear g31
 refine stp (zH4 rfl rfl rfl ?_)
 refine qZ 1 ?_
 refine zA3 (zB3 (s := .bool _) (v := .pointer (some ⟨b1, 4, none⟩)) rfl (zF0 _) (fun hc32 => ?_) ?_)
 ·
  obtain ⟨hc32a, hc32b⟩ := and_t hc32
  obtain ⟨hc32aa, hc32ab⟩ := and_t hc32a
  obtain ⟨hc32aaa, hc32aab⟩ := and_t hc32aa
  have hc32aaa_ := qT hc32aaa
  have hc32aab_ := qT hc32aab
  refine zE0 rfl ?_
  exact ⟨rfl, rfl⟩
 refine zA3 (zB3 (s := .bool _) (v := .slice ak kids.length ck) rfl (zF0 _) (fun hc33 => ?_) ?_)
 ·
  obtain ⟨hc33a, hc33b⟩ := and_t hc33
  obtain ⟨hc33aa, hc33ab⟩ := and_t hc33a
  obtain ⟨hc33aaa, hc33aab⟩ := and_t hc33aa
  have hc33aaa_ := qT hc33aaa
  have hc33aab_ := qT hc33aab
  refine zG3 (v := .slice ak kids.length ck) (gvt hc33) hc4 rfl ?_
  exact ⟨rfl, rfl⟩
 refine zA3 (zB3 (s := .bool _) (v := .pointer (some ⟨b7, 4, none⟩)) rfl (zF0 _) (fun hc34 => ?_) ?_)
 ·
  obtain ⟨hc34a, hc34b⟩ := and_t hc34
  obtain ⟨hc34aa, hc34ab⟩ := and_t hc34a
  obtain ⟨hc34aaa, hc34aab⟩ := and_t hc34aa
  have hc34aaa_ := qT hc34aaa
  have hc34aab_ := qT hc34aab
  refine zE0 rfl ?_
  exact ⟨rfl, rfl⟩
 refine zA3 (zB3 (s := .bool _) (v := .slice ak2 kids2.length ck2) rfl (zF0 _) (fun hc35 => ?_) ?_)
 ·
  obtain ⟨hc35a, hc35b⟩ := and_t hc35
  obtain ⟨hc35aa, hc35ab⟩ := and_t hc35a
  obtain ⟨hc35aaa, hc35aab⟩ := and_t hc35aa
  have hc35aaa_ := qT hc35aaa
  have hc35aab_ := qT hc35aab
  refine zG3 (v := .slice ak2 kids2.length ck2) (gvt hc35) hc10 rfl ?_
  exact ⟨rfl, rfl⟩
 refine zA3 (zZ5 (s := .bool ((((decide (kind = kind2)) && (decide (size = size2))) && (decide (words = words2))) && (decide (bytes = bytes2)))) (b := true) (v := .bool (decide (kids.length = kids2.length) && (List.range kids.length).all (fun i => (kids.getD i (.mk 0 0 [] [] [])).beq (kids2.getD i (.mk 0 0 [] [] []))))) rfl (zF0 _) (fun hc36 => ?_) ?_)
 ·
  obtain ⟨hc36a, hc36b⟩ := and_t hc36
  obtain ⟨hc36aa, hc36ab⟩ := and_t hc36a
  obtain ⟨hc36aaa, hc36aab⟩ := and_t hc36aa
  have hc36aaa_ := qT hc36aaa
  have hc36aab_ := qT hc36aab
  have kid : ∀ i, i < kids.length → i < kids2.length → ∀ w', Grow w30 w' → zB6 Tryz.prog 47 ((#[] : Array Value).toList ++ ([Value.agg ((kc.drop (i * 5)).take 5).toArray, Value.agg ((kc2.drop (i * 5)).take 5).toArray] ++ (#[] : Array Value).toList)).toArray w' (.bool ((kids.getD i (.mk 0 0 [] [] [])).beq (kids2.getD i (.mk 0 0 [] [] [])))) := by
   intro i hi hi2 w' g'
   have hat := KidsR.at_ i kids[i] (hKs.grow (G.tr g')) (by simp [hi])
   have hat2 := KidsR.at_ i kids2[i] (hKs2.grow (G.tr g')) (by simp [hi2])
   have hsz := Nd.szs_at kids i kids[i] (by simp [hi])
   rw [List.getD_eq_getElem?_getD, List.getElem?_eq_getElem hi, Option.getD_some, List.getD_eq_getElem?_getD, List.getElem?_eq_getElem hi2, Option.getD_some]
   exact ih_ w' hat hat2 (by simp only [Nd.sz] at hm_; omega)
  exact zN7 (l := ([.slice ak kids.length ck, .slice ak2 kids2.length ck2, .func (.func 47) #[] #[]] : List Value)) rfl (by show ([gv ((((decide (kind = kind2)) && (decide (size = size2))) && (decide (words = words2))) && (decide (bytes = bytes2))) (.slice ak kids.length ck), gv ((((decide (kind = kind2)) && (decide (size = size2))) && (decide (words = words2))) && (decide (bytes = bytes2))) (.slice ak2 kids2.length ck2), .func (.func 47) #[] #[]] : List Value) = _; rw [gvt hc36, gvt hc36]) (yL4 _ (RK.grow G) (RK2.grow G) (fun i => (kids.getD i (.mk 0 0 [] [] [])).beq (kids2.getD i (.mk 0 0 [] [] []))) kid (fun i hi => (KidsR.at_ i kids[i] hKs (by simp [hi])).cells) (fun i hi => (KidsR.at_ i kids2[i] hKs2 (by simp [hi])).cells)) (fun w2_ g2_ => ⟨rfl, g2_⟩)
 intro w37 g38
 replace hc4 := g38.heap hc4
 replace hc10 := g38.heap hc10
 replace G := G.tr g38
 clear g38
 refine stp (zH4 rfl rfl rfl ?_)
 refine qZ 3 ?_
 refine ret1 (zA1 (v := .bool (((((decide (kind = kind2)) && (decide (size = size2))) && (decide (words = words2))) && (decide (bytes = bytes2))) && (decide (kids.length = kids2.length) && (List.range kids.length).all (fun i => (kids.getD i (.mk 0 0 [] [] [])).beq (kids2.getD i (.mk 0 0 [] [] [])))))) rfl) ⟨?_, G⟩
 rw [Nd.beqs_all, Nd.beq]
theorem yF2 : ∀ (n_ : Nat) (w : World) {w0 : World} {d n cp : Nat} {ad : Option Addr} {xs : List Int} (R : RowAt w0 1 ad n (xs.map (.int .u8))) (g0 : Grow w0 w) (hn : n = xs.length) (hx : ∀ x ∈ xs, inR .u8 x) (hcp : n ≤ cp) (hcp2 : cp ≤ maxLen) (hd : d ≤ 100), d + 1 ≤ n_ → Calls Tryz.prog 20 #[.slice ad n cp, .int .i64 (d : Int)] w (Ret fun v w' => ∃ cells ad' n' c', v = .tuple #[.agg cells.toArray, .slice ad' n' c'] ∧ NodeR (hide w.heap.size w') cells (zD7 d xs).1 ∧ n' = (zD7 d xs).2.length ∧ n' ≤ c' ∧ c' ≤ maxLen ∧ RowAt w0 1 ad' n' ((zD7 d xs).2.map (.int .u8)) ∧ Grow w w') := by
 intro n_
 induction n_ with
 | zero => intro w w0 d n cp ad xs R g0 hn hx hcp hcp2 hd hm_; exact absurd hm_ (by have := Nat.succ_pos d; omega)
 | succ n_ ih_ =>
 intro w w0 d n cp ad xs R g0 hn hx hcp hcp2 hd hm_
 have G := Grow.rfl' w
 refine zB8 Tryz.func20 Tryz.ntmps20 Tryz.results20 rfl rfl ?_
 refine qZ 2 ?_
 refine stp (zA8 ?_)
 intro b1 w2 hb3 hc4 g5
 refine qZ 7 ?_
 refine stp (zD5 rfl rfl ?_)
 refine qZ 1 ?_
 refine qG 1 ?_
 refine zA3 (zB3 (s := .bool _) (v := .bool (decide ((d : Int) = 0))) rfl (zE2 _) (fun hc7 => ?_) ?_)
 ·
  have hc7_ := hc7
  try simp only [sb] at hc7_
  refine zD5 (gvt hc7) rfl ?_
  exact ⟨rfl, rfl⟩
 refine stp (zI0 rfl rfl rfl ?_)
 refine zA6 ?_
 have hge8 := Nat.le_trans G.size hb3
 replace G := G.tr g5
 clear g5 hb3
 refine zA2 (b := ((decide ((n : Int) = 0)) || (decide ((d : Int) = 0)))) rfl (fun h1 => ?_) (fun h1 => ?_)
 ·
  simp only [sb] at h1
  have hst : zD7 d xs = (.nil, xs) := yD3 (by rcases h1 with h | h; exact .inl (List.eq_nil_of_length_eq_zero (by omega)); exact .inr (by omega))
  refine qZ 2 ?_
  refine stp (zB0 (v := .agg #[.int .i64 0, .int .i64 0, .slice none 0 0, .slice none 0 0, .slice none 0 0]) (fun w => by kernel_rfl) ?_)
  refine qZ 1 ?_
  refine stn (qS hc4 ?_)
  intro w9 hc10 u11
  replace G := G.upd u11 hge8
  clear u11 hc4
  refine qZ 3 ?_
  rw [hst]
  refine ret2 (zA5 rfl hc10 (by rfl)) (zA1 (v := .slice ad n cp) rfl) ⟨[_, _, _, _, _], _, _, _, rfl, NodeR.zero _, hn, hcp, hcp2, R, G⟩
 ·
  simp only [sb] at h1
  obtain ⟨h1a, h1b⟩ := h1
  obtain ⟨d, rfl⟩ : ∃ e, d = e + 1 := ⟨d - 1, by omega⟩
  obtain ⟨k, c, rfl⟩ : ∃ k c, xs = k :: c := by cases xs with | nil => simp at hn; omega | cons k c => exact ⟨_, _, rfl⟩
  have hk := hx k (by simp)
  simp only [inR] at hk
  simp only [List.length_cons] at hn
  have hxc : ∀ x ∈ c, inR .u8 x := fun x h_ => hx x (by simp [h_])
  have hlim := R.lim
  have hnc : n - 1 = c.length := by omega
  refine qZ 4 ?_
  refine stp (zH1 ((R.grow g0).grow G) rfl rfl ?_ ?_ ?_); omega; omega
  refine stp (zE8 (v := .int .u8 k) (m := 0) ((R.grow g0).grow G) rfl rfl ?_)
  refine qZ 5 ?_
  refine stp (qZ5 rfl rfl (by omega) (by omega) ?_)
  have R1 := R.sliceLH (l := 1) (m := n - 1) hcp (by omega) (by omega)
  rw [show ((1 : Int).toNat) = 1 from rfl]
  generalize (if cp = 1 then ad else ad.map (·.add (1 * 1))) = ad1 at R1 ⊢
  have R2 : RowAt w0 1 ad1 (n - 1) (c.map (.int .u8)) := by
   have e_ : (List.take ((n - 1) * 1) (List.drop (1 * 1) (List.map (Value.int .u8) (k :: c)))) = c.map (.int .u8) := by simp only [Nat.mul_one, List.map_cons, List.drop_succ_cons, List.drop_zero]; rw [List.take_of_length_le (by rw [List.length_map]; omega)]
   rw [e_] at R1; exact R1
  clear R1
  refine qZ 4 ?_
  refine stp (zB0 (v := .agg #[.int .i64 0, .int .i64 0, .slice none 0 0, .slice none 0 0, .slice none 0 0]) (fun w => by kernel_rfl) ?_)
  refine stp (zA8 ?_)
  intro b12 w13 hb14 hc15 g16
  refine stn (qS hc15 ?_)
  intro w17 hc18 u19
  have g20 := g16.upd u19 hb14
  have hge21 := Nat.le_trans G.size hb14
  have ne22 := qN hc4 hb14
  replace hc4 := g20.heap hc4
  replace G := G.tr g20
  clear u19 g16 hb14 hc15
  refine qZ 4 ?_
  refine stp (qO1 rfl rfl ?_ ?_ ?_ ?_); omega; omega; (constructor <;> omega)
  refine stp (zW0 rfl rfl ?_ ?_ ?_); omega; omega
  refine stp (zG7 rfl ?_ ?_); constructor <;> omega
  refine qZ 6 ?_
  refine stp (zW0 rfl rfl ?_ ?_ ?_); omega; omega
  refine qZ 4 ?_
  refine stp (zD5 rfl rfl ?_)
  refine qZ 2 ?_
  refine zA2 (b := (decide ((k % 8) = 0))) rfl (fun h2 => ?_) (fun h2 => ?_)
  ·
   replace h2 := qT h2
   have ht : zD7 (d + 1) (k :: c) = (.nil, c) := by simp only [zD7]; rw [if_pos h2]
   refine qZ 4 ?_
   refine stn (qS hc4 ?_)
   intro w23 hc24 u25
   replace hc18 := u25.heap hc18 ne22.symm
   replace G := G.upd u25 hge8
   clear u25 hc4
   refine qZ 3 ?_
   rw [ht]
   refine ret2 (zA5 rfl hc24 (by rfl)) (zA1 (v := .slice ad1 (n - 1) (cp - 1)) rfl) ⟨[_, _, _, _, _], _, _, _, rfl, NodeR.zero _, hnc, by omega, by omega, R2, G⟩
  ·
   replace h2 := qF h2
   refine qZ 3 ?_
   refine stp (zD5 rfl rfl ?_)
   refine qZ 2 ?_
   refine zA2 (b := (decide ((k % 8) = 1))) rfl (fun h3 => ?_) (fun h3 => ?_)
   ·
    replace h3 := qT h3
    refine qF6 ?_
    refine zY3 (show _ = Value.bool true from congrArg Value.bool (decide_eq_true h3)) ?_
    refine qZ 3 ?_
    refine stn (zC6 (v := .int .i64 2) rfl rfl (by rfl) hc18 (by rfl) (by rfl) ?_)
    intro w26 hc27 u28
    replace hc4 := u28.heap hc4 ne22
    replace G := G.upd u28 hge21
    clear u28 hc18
    refine qZ 4 ?_
    refine stn (zC6 (v := .int .i64 2) rfl rfl (by rfl) hc27 (by rfl) (by rfl) ?_)
    intro w29 hc30 u31
    replace hc4 := u31.heap hc4 ne22
    replace G := G.upd u31 hge21
    clear u31 hc27
    refine qZ 6 ?_
    refine zF4 (fun m_ e_ w_ => ∃ (m : Nat) (ad3 : Option Addr) (n3 : Nat) (c3 : Nat), m_ = ((3 * (k / 8 % 5) + k % 2)).toNat - m ∧ Fr [(0, .slice ad1 (n - 1) (cp - 1)), (4, .pointer (some ⟨b1, 0, none⟩)), (5, .slice none 0 0), (6, .int .u8 k), (7, .pointer (some ⟨b12, 0, none⟩)), (8, .int .i64 ((k / 8) % 5)), (9, .int .i64 (m : Int))] e_ ∧ ((m : Int) ≤ (3 * (k / 8 % 5) + k % 2)) ∧ (w_.heap[b1]? = some (.cells #[.int .i64 0, .int .i64 0, .slice none 0 0, .slice none 0 0, .slice none 0 0] 48 (0, 0))) ∧ (w_.heap[b12]? = some (.cells #[.int .i64 2, .int .i64 2, .slice none 0 0, .slice ad3 n3 c3, .slice none 0 0] 48 (0, 0))) ∧ (w_.ownsRow w.heap.size 5 1 (.slice ad3 n3 c3) m ((List.range m).map fun i => .int .u8 (qU4 k i))) ∧ Grow w w_) _ ⟨0, none, 0, 0, rfl, zD3 ⟨rfl, rfl, rfl, rfl, rfl, rfl, rfl, trivial⟩, by omega, hc4, hc30, World.ownsRow_nil _ _ _ _, G⟩ ?_
    clear hc4 hc30
    clear G
    rintro m_ e_ w32 ⟨m, ad3, n3, c3, rfl, ⟨e33, rfl⟩, hm, hc4, hc30, own, G⟩
    refine qZ 5 ?_
    refine stp (zY5 rfl rfl ?_ ?_); constructor <;> omega
    refine qZ 1 ?_
    refine stp (zW0 rfl rfl ?_ ?_ ?_); omega; omega
    refine stp (zG7 rfl ?_ ?_); constructor <;> omega
    refine stp (zB9 rfl rfl ?_ ?_); constructor <;> omega
    refine stp (zG5 rfl rfl ?_)
    refine zA6 ?_
    refine zA2 (b := (decide ((m : Int) < ((3 * ((k / 8) % 5)) + (k % 2))))) rfl (fun hlt => ?_) (fun hlt => ?_)
    ·
     replace hlt := qT hlt
     refine qZ 8 ?_
     refine stp (zG7 rfl ?_ ?_); constructor <;> omega
     refine stp (zF6 rfl rfl ?_)
     refine stp (zB5 (cs := #[.int .u8 (qU4 k m)]) (el := 5) (fun w => by kernel_rfl) ?_)
     intro bs34 w35 hb36 hc37 g38
     have hge39 := Nat.le_trans G.size hb36
     have ne40 := qN hc4 hb36
     have ne41 := qN hc30 hb36
     replace hc4 := g38.heap hc4
     replace hc30 := g38.heap hc30
     replace own := zB7 own g38
     replace G := G.tr g38
     clear g38
     refine stp (zF8 rfl rfl rfl rfl own (Row.of_block (n := 1) hc37 rfl rfl (by omega)) (fun q_ hq_ => by simp at hq_; subst hq_; rfl) (by simp only [maxLen]; omega) (by omega) G.size ?_)
     intro v42 w43 own6 gr6
     replace G := G.grown gr6 (zI3 own)
     replace hc4 := zH9 gr6 hc4 (zE6 own hc4 (by decide))
     replace hc30 := zH9 gr6 hc30 (zE6 own hc30 (by decide))
     clear own gr6
     obtain ⟨ad4, n4, c4, rfl⟩ := zD6 own6
     refine qZ 1 ?_
     refine stn (zC6 (v := .slice ad4 n4 c4) rfl rfl (by rfl) hc30 (by rfl) (by rfl) ?_)
     intro w44 hc45 u46
     replace hc4 := u46.heap hc4 ne22
     replace own6 := zF9 own6 u46 (zE6 own6 hc30 (by decide))
     replace G := G.upd u46 hge21
     clear u46 hc30
     refine qZ 3 ?_
     refine stp (zB9 rfl rfl ?_ ?_); constructor <;> omega
     refine qZ 2 ?_
     refine ⟨_, ?_, m + 1, ad4, n4, c4, rfl, zD3 ⟨rfl, rfl, rfl, rfl, rfl, rfl, congrArg (Value.int .i64) (by omega), trivial⟩, by omega, hc4, hc45, (by rw [List.range_succ, List.map_append]; exact own6), G⟩
     omega
    ·
     replace hlt := qF hlt
     have hm2 : m = (3 * (k / 8 % 5) + k % 2).toNat := by omega
     have ht : zD7 (d + 1) (k :: c) = (.mk 2 2 [] ((List.range (3 * (k / 8 % 5) + k % 2).toNat).map (qU4 k)) [], c) := by simp only [zD7]; rw [if_neg h2, if_pos (by omega)]
     refine qZ 5 ?_
     refine stn (qS hc4 ?_)
     intro w47 hc48 u49
     replace hc30 := u49.heap hc30 ne22.symm
     replace own := zF9 own u49 (zE6 own hc4 (by decide))
     replace G := G.upd u49 hge8
     clear u49 hc4
     refine qZ 3 ?_
     rw [ht]
     refine ret2 (zA5 rfl hc48 (by rfl)) (zA1 (v := .slice ad1 (n - 1) (cp - 1)) rfl) ⟨[_, _, _, _, _], _, _, _, rfl, .mk (by simp [inR]) (by simp [inR]) (Row.nil _ _) (by simp) (zN9 own hm2 (by omega)) (fun x hx_ => by obtain ⟨i, _, rfl⟩ := List.mem_map.1 hx_; exact yA3 _) (Row.nil _ _) .nil, hnc, (by omega), (by omega), R2, G⟩
   ·
    replace h3 := qF h3
    refine zY2 rfl ?_
    refine stp (zD5 rfl rfl ?_)
    refine qZ 2 ?_
    refine zA2 (b := (decide ((k % 8) = 2))) rfl (fun h4 => ?_) (fun h4 => ?_)
    ·
     replace h4 := qT h4
     refine qZ 3 ?_
     refine stn (zC6 (v := .int .i64 2) rfl rfl (by rfl) hc18 (by rfl) (by rfl) ?_)
     intro w50 hc51 u52
     replace hc4 := u52.heap hc4 ne22
     replace G := G.upd u52 hge21
     clear u52 hc18
     refine qZ 4 ?_
     refine stn (zC6 (v := .int .i64 2) rfl rfl (by rfl) hc51 (by rfl) (by rfl) ?_)
     intro w53 hc54 u55
     replace hc4 := u55.heap hc4 ne22
     replace G := G.upd u55 hge21
     clear u55 hc51
     refine qZ 6 ?_
     refine zF4 (fun m_ e_ w_ => ∃ (m : Nat) (ad3 : Option Addr) (n3 : Nat) (c3 : Nat), m_ = ((3 * (k / 8 % 5) + k % 2)).toNat - m ∧ Fr [(0, .slice ad1 (n - 1) (cp - 1)), (4, .pointer (some ⟨b1, 0, none⟩)), (5, .slice none 0 0), (6, .int .u8 k), (7, .pointer (some ⟨b12, 0, none⟩)), (8, .int .i64 ((k / 8) % 5)), (9, .int .i64 (m : Int))] e_ ∧ ((m : Int) ≤ (3 * (k / 8 % 5) + k % 2)) ∧ (w_.heap[b1]? = some (.cells #[.int .i64 0, .int .i64 0, .slice none 0 0, .slice none 0 0, .slice none 0 0] 48 (0, 0))) ∧ (w_.heap[b12]? = some (.cells #[.int .i64 2, .int .i64 2, .slice none 0 0, .slice ad3 n3 c3, .slice none 0 0] 48 (0, 0))) ∧ (w_.ownsRow w.heap.size 5 1 (.slice ad3 n3 c3) m ((List.range m).map fun i => .int .u8 (qU4 k i))) ∧ Grow w w_) _ ⟨0, none, 0, 0, rfl, zD3 ⟨rfl, rfl, rfl, rfl, rfl, rfl, rfl, trivial⟩, by omega, hc4, hc54, World.ownsRow_nil _ _ _ _, G⟩ ?_
     clear hc4 hc54
     clear G
     rintro m_ e_ w56 ⟨m, ad3, n3, c3, rfl, ⟨e57, rfl⟩, hm, hc4, hc54, own, G⟩
     refine qZ 5 ?_
     refine stp (zY5 rfl rfl ?_ ?_); constructor <;> omega
     refine qZ 1 ?_
     refine stp (zW0 rfl rfl ?_ ?_ ?_); omega; omega
     refine stp (zG7 rfl ?_ ?_); constructor <;> omega
     refine stp (zB9 rfl rfl ?_ ?_); constructor <;> omega
     refine stp (zG5 rfl rfl ?_)
     refine zA6 ?_
     refine zA2 (b := (decide ((m : Int) < ((3 * ((k / 8) % 5)) + (k % 2))))) rfl (fun hlt => ?_) (fun hlt => ?_)
     ·
      replace hlt := qT hlt
      refine qZ 8 ?_
      refine stp (zG7 rfl ?_ ?_); constructor <;> omega
      refine stp (zF6 rfl rfl ?_)
      refine stp (zB5 (cs := #[.int .u8 (qU4 k m)]) (el := 5) (fun w => by kernel_rfl) ?_)
      intro bs58 w59 hb60 hc61 g62
      have hge63 := Nat.le_trans G.size hb60
      have ne64 := qN hc4 hb60
      have ne65 := qN hc54 hb60
      replace hc4 := g62.heap hc4
      replace hc54 := g62.heap hc54
      replace own := zB7 own g62
      replace G := G.tr g62
      clear g62
      refine stp (zF8 rfl rfl rfl rfl own (Row.of_block (n := 1) hc61 rfl rfl (by omega)) (fun q_ hq_ => by simp at hq_; subst hq_; rfl) (by simp only [maxLen]; omega) (by omega) G.size ?_)
      intro v66 w67 own6 gr6
      replace G := G.grown gr6 (zI3 own)
      replace hc4 := zH9 gr6 hc4 (zE6 own hc4 (by decide))
      replace hc54 := zH9 gr6 hc54 (zE6 own hc54 (by decide))
      clear own gr6
      obtain ⟨ad4, n4, c4, rfl⟩ := zD6 own6
      refine qZ 1 ?_
      refine stn (zC6 (v := .slice ad4 n4 c4) rfl rfl (by rfl) hc54 (by rfl) (by rfl) ?_)
      intro w68 hc69 u70
      replace hc4 := u70.heap hc4 ne22
      replace own6 := zF9 own6 u70 (zE6 own6 hc54 (by decide))
      replace G := G.upd u70 hge21
      clear u70 hc54
      refine qZ 3 ?_
      refine stp (zB9 rfl rfl ?_ ?_); constructor <;> omega
      refine qZ 2 ?_
      refine ⟨_, ?_, m + 1, ad4, n4, c4, rfl, zD3 ⟨rfl, rfl, rfl, rfl, rfl, rfl, congrArg (Value.int .i64) (by omega), trivial⟩, by omega, hc4, hc69, (by rw [List.range_succ, List.map_append]; exact own6), G⟩
      omega
     ·
      replace hlt := qF hlt
      have hm2 : m = (3 * (k / 8 % 5) + k % 2).toNat := by omega
      have ht : zD7 (d + 1) (k :: c) = (.mk 2 2 [] ((List.range (3 * (k / 8 % 5) + k % 2).toNat).map (qU4 k)) [], c) := by simp only [zD7]; rw [if_neg h2, if_pos (by omega)]
      refine qZ 5 ?_
      refine stn (qS hc4 ?_)
      intro w71 hc72 u73
      replace hc54 := u73.heap hc54 ne22.symm
      replace own := zF9 own u73 (zE6 own hc4 (by decide))
      replace G := G.upd u73 hge8
      clear u73 hc4
      refine qZ 3 ?_
      rw [ht]
      refine ret2 (zA5 rfl hc72 (by rfl)) (zA1 (v := .slice ad1 (n - 1) (cp - 1)) rfl) ⟨[_, _, _, _, _], _, _, _, rfl, .mk (by simp [inR]) (by simp [inR]) (Row.nil _ _) (by simp) (zN9 own hm2 (by omega)) (fun x hx_ => by obtain ⟨i, _, rfl⟩ := List.mem_map.1 hx_; exact yA3 _) (Row.nil _ _) .nil, hnc, (by omega), (by omega), R2, G⟩
    ·
     replace h4 := qF h4
     refine qZ 2 ?_
     refine stp (zD5 rfl rfl ?_)
     refine qZ 2 ?_
     refine zA2 (b := (decide ((k % 8) = 3))) rfl (fun h5 => ?_) (fun h5 => ?_)
     ·
      replace h5 := qT h5
      refine qZ 3 ?_
      refine stn (zC6 (v := .int .i64 2) rfl rfl (by rfl) hc18 (by rfl) (by rfl) ?_)
      intro w74 hc75 u76
      replace hc4 := u76.heap hc4 ne22
      replace G := G.upd u76 hge21
      clear u76 hc18
      refine qZ 4 ?_
      refine stn (zC6 (v := .int .i64 5) rfl rfl (by rfl) hc75 (by rfl) (by rfl) ?_)
      intro w77 hc78 u79
      replace hc4 := u79.heap hc4 ne22
      replace G := G.upd u79 hge21
      clear u79 hc75
      refine qZ 6 ?_
      refine zF4 (fun m_ e_ w_ => ∃ (m : Nat) (ad3 : Option Addr) (n3 : Nat) (c3 : Nat), m_ = ((k / 8 % 5)).toNat - m ∧ Fr [(0, .slice ad1 (n - 1) (cp - 1)), (4, .pointer (some ⟨b1, 0, none⟩)), (5, .slice none 0 0), (6, .int .u8 k), (7, .pointer (some ⟨b12, 0, none⟩)), (8, .int .i64 ((k / 8) % 5)), (10, .int .i64 (m : Int))] e_ ∧ ((m : Int) ≤ (k / 8 % 5)) ∧ (w_.heap[b1]? = some (.cells #[.int .i64 0, .int .i64 0, .slice none 0 0, .slice none 0 0, .slice none 0 0] 48 (0, 0))) ∧ (w_.heap[b12]? = some (.cells #[.int .i64 2, .int .i64 5, .slice ad3 n3 c3, .slice none 0 0, .slice none 0 0] 48 (0, 0))) ∧ (w_.ownsRow w.heap.size 23 1 (.slice ad3 n3 c3) m ((List.range m).map fun i => .int .u64 (yA2 k i))) ∧ Grow w w_) _ ⟨0, none, 0, 0, rfl, zD3 ⟨rfl, rfl, rfl, rfl, rfl, rfl, rfl, trivial⟩, by omega, hc4, hc78, World.ownsRow_nil _ _ _ _, G⟩ ?_
      clear hc4 hc78
      clear G
      rintro m_ e_ w80 ⟨m, ad3, n3, c3, rfl, ⟨e81, rfl⟩, hm, hc4, hc78, own, G⟩
      refine qZ 5 ?_
      refine stp (zG5 rfl rfl ?_)
      refine zA6 ?_
      refine zA2 (b := (decide ((m : Int) < ((k / 8) % 5)))) rfl (fun hlt => ?_) (fun hlt => ?_)
      ·
       replace hlt := qT hlt
       refine qZ 7 ?_
       refine stp (zG7 rfl ?_ ?_); constructor <;> omega
       refine stp (zT8 rfl rfl ?_)
       refine qZ 1 ?_
       refine stp (zG7 rfl ?_ ?_); constructor <;> omega
       refine stp (zF6 rfl rfl ?_)
       refine stp (zB5 (cs := #[.int .u64 (yA2 k m)]) (el := 23) (fun w => by kernel_rfl) ?_)
       intro bs82 w83 hb84 hc85 g86
       have hge87 := Nat.le_trans G.size hb84
       have ne88 := qN hc4 hb84
       have ne89 := qN hc78 hb84
       replace hc4 := g86.heap hc4
       replace hc78 := g86.heap hc78
       replace own := zB7 own g86
       replace G := G.tr g86
       clear g86
       refine stp (zF8 rfl rfl rfl rfl own (Row.of_block (n := 1) hc85 rfl rfl (by omega)) (fun q_ hq_ => by simp at hq_; subst hq_; rfl) (by simp only [maxLen]; omega) (by omega) G.size ?_)
       intro v90 w91 own6 gr6
       replace G := G.grown gr6 (zI3 own)
       replace hc4 := zH9 gr6 hc4 (zE6 own hc4 (by decide))
       replace hc78 := zH9 gr6 hc78 (zE6 own hc78 (by decide))
       clear own gr6
       obtain ⟨ad4, n4, c4, rfl⟩ := zD6 own6
       refine qZ 1 ?_
       refine stn (zC6 (v := .slice ad4 n4 c4) rfl rfl (by rfl) hc78 (by rfl) (by rfl) ?_)
       intro w92 hc93 u94
       replace hc4 := u94.heap hc4 ne22
       replace own6 := zF9 own6 u94 (zE6 own6 hc78 (by decide))
       replace G := G.upd u94 hge21
       clear u94 hc78
       refine qZ 3 ?_
       refine stp (zB9 rfl rfl ?_ ?_); constructor <;> omega
       refine qZ 2 ?_
       refine ⟨_, ?_, m + 1, ad4, n4, c4, rfl, zD3 ⟨rfl, rfl, rfl, rfl, rfl, rfl, congrArg (Value.int .i64) (by omega), trivial⟩, by omega, hc4, hc93, (by rw [List.range_succ, List.map_append]; exact own6), G⟩
       omega
      ·
       replace hlt := qF hlt
       have hm2 : m = (k / 8 % 5).toNat := by omega
       have ht : zD7 (d + 1) (k :: c) = (.mk 2 5 ((List.range (k / 8 % 5).toNat).map (yA2 k)) [] [], c) := by simp only [zD7]; rw [if_neg h2, if_neg (by omega), if_pos h5]
       refine qZ 5 ?_
       refine stn (qS hc4 ?_)
       intro w95 hc96 u97
       replace hc78 := u97.heap hc78 ne22.symm
       replace own := zF9 own u97 (zE6 own hc4 (by decide))
       replace G := G.upd u97 hge8
       clear u97 hc4
       refine qZ 3 ?_
       rw [ht]
       refine ret2 (zA5 rfl hc96 (by rfl)) (zA1 (v := .slice ad1 (n - 1) (cp - 1)) rfl) ⟨[_, _, _, _, _], _, _, _, rfl, .mk (by simp [inR]) (by simp [inR]) (zN9 own hm2 (by omega)) (fun x hx_ => by obtain ⟨i, _, rfl⟩ := List.mem_map.1 hx_; exact qP4 _) (Row.nil _ _) (by simp) (Row.nil _ _) .nil, hnc, (by omega), (by omega), R2, G⟩
     ·
      replace h5 := qF h5
      refine qZ 3 ?_
      refine stn (zC6 (v := .int .i64 1) rfl rfl (by rfl) hc18 (by rfl) (by rfl) ?_)
      intro w98 hc99 u100
      replace hc4 := u100.heap hc4 ne22
      replace G := G.upd u100 hge21
      clear u100 hc18
      refine qZ 5 ?_
      refine stp (zW0 rfl rfl ?_ ?_ ?_); omega; omega
      refine stp (zQ5 rfl rfl ?_)
      refine zA6 ?_
      refine zA2 (b := (decide ((k % 8) > 6))) rfl (fun h6 => ?_) (fun h6 => ?_)
      ·
       replace h6 := qT h6
       refine qZ 3 ?_
       refine stn (zC6 (v := .int .i64 2) rfl rfl (by rfl) hc99 (by rfl) (by rfl) ?_)
       intro w101 hc102 u103
       replace hc4 := u103.heap hc4 ne22
       replace G := G.upd u103 hge21
       clear u103 hc99
       refine qZ 3 ?_
       refine stn (zC6 (v := .int .i64 6) rfl rfl (by rfl) hc102 (by rfl) (by rfl) ?_)
       intro w104 hc105 u106
       replace hc4 := u106.heap hc4 ne22
       replace G := G.upd u106 hge21
       clear u106 hc102
       refine qZ 7 ?_
       refine zF4 (fun m_ e_ w_ => m_ = 0 ∧ Fr [(0, .slice ad1 (n - 1) (cp - 1)), (1, .int .i64 ((d + 1 : Nat) : Int)), (4, .pointer (some ⟨b1, 0, none⟩)), (5, .slice none 0 0), (6, .int .u8 k), (7, .pointer (some ⟨b12, 0, none⟩)), (8, .int .i64 ((k / 8) % 5)), (11, .int .i64 0)] e_ ∧ (w_.heap[b1]? = some (.cells #[.int .i64 0, .int .i64 0, .slice none 0 0, .slice none 0 0, .slice none 0 0] 48 (0, 0))) ∧ (w_.heap[b12]? = some (.cells #[.int .i64 2, .int .i64 6, .slice none 0 0, .slice none 0 0, .slice none 0 0] 48 (0, 0))) ∧ Grow w w_) _ ⟨rfl, zD3 ⟨rfl, rfl, rfl, rfl, rfl, rfl, rfl, rfl, trivial⟩, hc4, hc105, G⟩ ?_
       clear hc4 hc105
       clear G
       rintro m_ e_ w107 ⟨rfl, ⟨e108, rfl⟩, hc4, hc105, G⟩
       refine qZ 5 ?_
       refine stp (qO1 rfl rfl ?_ ?_ ?_ ?_); omega; omega; (constructor <;> omega)
       refine stp (zG7 rfl ?_ ?_); constructor <;> omega
       refine stp (zG5 rfl rfl ?_)
       refine qZ 1 ?_
       refine qG 2 ?_
       refine zA3 (zB3 (s := .bool _) (v := .bool false) rfl (zF0 _) (fun hc111 => ?_) ?_)
       ·
        have hc111_ := qT hc111
        refine qG0 (gvt hc111) rfl (by decide) ?_
        exact ⟨rfl, rfl⟩
       refine stp (zH4 rfl rfl rfl ?_)
       refine zA6 ?_
       refine zQ4 (show _ = Value.bool false from congrArg Value.bool (by simp)) ?_
       refine qZ 6 ?_
       obtain ⟨B, hB⟩ : ∃ B, B = w107.heap.size := ⟨_, rfl⟩
       have hB7 : b12 < B := by rw [hB]; exact zC2 hc105
       have hwB : w.heap.size ≤ B := by rw [hB]; exact G.size
       have hBw : B ≤ w107.heap.size := by rw [hB]; exact Nat.le_refl _
       have hB4 : b1 < B := by rw [hB]; exact zC2 hc4
       clear hB
       have hc1 : (zF5 (zD7 d) 0 c).2 = c := rfl
       refine zF4 (fun m_ e_ w_ => ∃ (j : Nat) (ad5 : Option Addr) (n5 : Nat) (c5 : Nat) (ad6 : Option Addr) (n6 : Nat) (c6 : Nat) (kc : List Value) (V : Nat → Prop), m_ = (k / 8 % 5).toNat - j ∧ Fr [(1, .int .i64 ((d + 1 : Nat) : Int)), (4, .pointer (some ⟨b1, 0, none⟩)), (5, .slice none 0 0), (7, .pointer (some ⟨b12, 0, none⟩)), (8, .int .i64 ((k / 8) % 5)), (12, .int .i64 (j : Int)), (0, .slice ad5 n5 c5)] e_ ∧ ((j : Int) ≤ (k / 8 % 5)) ∧ (n5 = (zF5 (zD7 d) j c).2.length) ∧ (n5 ≤ c5) ∧ (c5 ≤ maxLen) ∧ (RowAt w0 1 ad5 n5 ((zF5 (zD7 d) j c).2.map (.int .u8))) ∧ (∀ x, (Value.slice ad6 n6 c6).ownBlock = some x → ¬ V x) ∧ (w_.heap[b1]? = some (.cells #[.int .i64 0, .int .i64 0, .slice none 0 0, .slice none 0 0, .slice none 0 0] 48 (0, 0))) ∧ (w_.heap[b12]? = some (.cells #[.int .i64 2, .int .i64 6, .slice none 0 0, .slice none 0 0, .slice ad6 n6 c6] 48 (0, 0))) ∧ (B ≤ w_.heap.size) ∧ (w_.ownsRow B 48 5 (.slice ad6 n6 c6) j kc) ∧ (∀ x, V x → B ≤ x ∧ x < w_.heap.size) ∧ (KidsR (see V w_) kc (zF5 (zD7 d) j c).1) ∧ Grow w w_) _ ⟨0, ad1, n - 1, cp - 1, none, 0, 0, [], fun _ => False, rfl, zD3 ⟨rfl, rfl, rfl, rfl, rfl, rfl, rfl, trivial⟩, by omega, hnc, by omega, by omega, R2, fun x _ h_ => h_, hc4, hc105, hBw, World.ownsRow_nil _ _ _ _, fun x h_ => h_.elim, .nil, G⟩ ?_
       clear hc4 hc105
       clear G
       rintro m_ e_ w112 ⟨j, ad5, n5, c5, ad6, n6, c6, kc, V, rfl, ⟨e113, rfl⟩, hj, hn5, hc5, hc52, hR5, hVo, hc4, hc105, hBw, ownk, hV, hK, G⟩
       refine qZ 5 ?_
       refine stp (zG5 rfl rfl ?_)
       refine zA6 ?_
       refine zA2 (b := (decide ((j : Int) < ((k / 8) % 5)))) rfl (fun hlt => ?_) (fun hlt => ?_)
       ·
        replace hlt := qT hlt
        refine qZ 7 ?_
        refine stp (zO6 rfl rfl ?_ ?_); constructor <;> omega
        refine stp ?_
        have hBw0 := hBw
        have hol := fun x hx_ => (ownk.lt x hx_).2
        have hcal := ih_ _ (d := d) hR5 (g0.tr G) hn5 (zX2 d j c hxc) hc5 hc52 (by omega) (by omega)
        rw [show ((d : Nat) : Int) = ((d + 1 : Nat) : Int) - 1 from by omega] at hcal
        refine zD2 rfl hcal ?_
        rintro v_ w114 ⟨cells, ad9, n9, c9, rfl, hT9, hn9, hc9, hc92, hR9, g_⟩
        have hsz9 := zC2 hc105
        replace hc4 := g_.heap hc4
        replace hc105 := g_.heap hc105
        replace hBw := Nat.le_trans hBw g_.size
        replace ownk := zB7 ownk g_
        replace hV := vlt hV g_.size
        replace hK := hK.sees (Sees.grow g_)
        replace G := G.tr g_
        clear g_
        obtain ⟨y0, y1, ya, yn, yc, za, zn, zc, ua, un, uc, rfl⟩ := hT9.cells
        have hT8 := hT9.sees (Sees.more (V' := fun x => V x ∨ (w112.heap.size ≤ x ∧ x < w114.heap.size)) w114 (fun x h1_ h2_ => .inr ⟨h2_, h1_⟩))
        clear hT9
        replace hK := hK.sees (Sees.more (V' := fun x => V x ∨ (w112.heap.size ≤ x ∧ x < w114.heap.size)) w114 (fun x _ h2_ => .inl h2_))
        have hV9 : ∀ x, (V x ∨ (w112.heap.size ≤ x ∧ x < w114.heap.size)) → B ≤ x ∧ x < w114.heap.size := fun x hx_ => hx_.elim (fun h_ => hV x h_) (fun h_ => ⟨Nat.le_trans hBw0 h_.1, h_.2⟩)
        have hVo9 : ∀ x, (Value.slice ad6 n6 c6).ownBlock = some x → ¬ (V x ∨ (w112.heap.size ≤ x ∧ x < w114.heap.size)) := fun x hx_ hv_ => hv_.elim (hVo x hx_) (fun h_ => by have := (hol x hx_); omega)
        clear hV hVo
        obtain ⟨V9, hV9e⟩ : ∃ V9 : Nat → Prop, V9 = fun x => V x ∨ (w112.heap.size ≤ x ∧ x < w114.heap.size) := ⟨_, rfl⟩
        rw [← hV9e] at hT8 hK
        have hV : ∀ x, V9 x → B ≤ x ∧ x < w114.heap.size := by rw [hV9e]; exact hV9
        have hVo : ∀ x, (Value.slice ad6 n6 c6).ownBlock = some x → ¬ V9 x := by rw [hV9e]; exact hVo9
        clear hV9 hVo9 hV9e hBw0 hol
        refine qZ 3 ?_
        refine stp (zA8 ?_)
        intro b115 w116 hb117 hc118 g119
        refine stn (qS hc118 ?_)
        intro w120 hc121 u122
        have g123 := g119.upd u122 hb117
        have hge124 := Nat.le_trans G.size hb117
        have ne125 := qN hc4 hb117
        have ne126 := qN hc105 hb117
        replace hc4 := g123.heap hc4
        replace hc105 := g123.heap hc105
        replace hBw := Nat.le_trans hBw g123.size
        replace ownk := zB7 ownk g123
        replace hK := hK.sees (Sees.grow g123)
        replace hT8 := hT8.sees (Sees.grow g123)
        replace hV := vlt hV g123.size
        replace G := G.tr g123
        clear u122 g119 hb117 hc118
        refine qZ 11 ?_
        refine stp (zB5 (cs := #[.int .i64 y0, .int .i64 y1, .slice ya yn yc, .slice za zn zc, .slice ua un uc]) (el := 48) (fun w => by kernel_rfl) ?_)
        intro bs127 w128 hb129 hc130 g131
        have hge132 := Nat.le_trans G.size hb129
        have ne133 := qN hc4 hb129
        have ne134 := qN hc105 hb129
        have ne135 := qN hc121 hb129
        replace hc4 := g131.heap hc4
        replace hc105 := g131.heap hc105
        replace hBw := Nat.le_trans hBw g131.size
        replace ownk := zB7 ownk g131
        replace hK := hK.sees (Sees.grow g131)
        replace hT8 := hT8.sees (Sees.grow g131)
        replace hV := vlt hV g131.size
        replace hc121 := g131.heap hc121
        replace G := G.tr g131
        clear g131
        refine stp (qG5 rfl rfl rfl rfl ownk (Row.of_block (n := 1) hc130 rfl rfl (by omega)) (fun q_ hq_ => by simp at hq_; rcases hq_ with rfl | rfl | rfl | rfl | rfl <;> rfl) (by simp only [maxLen]; omega) (by omega) hBw ?_)
        intro v136 w137 own6 gr6 hbk6
        have k6_ : Kp (Value.slice ad6 n6 c6).ownBlock.toList w128 w137 := Kp.of_grownBy gr6 (fun k_ hk_ => by rw [Option.mem_toList]; exact hk_)
        have hF6 : ∀ x ∈ (Value.slice ad6 n6 c6).ownBlock.toList, B ≤ x := fun x hx_ => zI3 ownk x (Option.mem_toList.1 hx_)
        have hF7 : ∀ x ∈ (Value.slice ad6 n6 c6).ownBlock.toList, ¬ V9 x := fun x hx_ => hVo x (Option.mem_toList.1 hx_)
        replace hT8 := hT8.sees (Sees.kp k6_ hF7)
        replace hK := hK.sees (Sees.kp k6_ hF7)
        have hVo6 : ∀ x, v136.ownBlock = some x → ¬ V9 x := fun x hx_ hv_ => hbk6.elim (fun h_ => hVo x (h_ ▸ hx_) hv_) (fun h_ => by rw [h_] at hx_; simp only [Option.some.injEq] at hx_; have := (hV x hv_).2; omega)
        replace hV := fun x hx_ => (⟨(hV x hx_).1, Nat.lt_of_lt_of_le (hV x hx_).2 k6_.size⟩ : B ≤ x ∧ x < w137.heap.size)
        replace G := G.trK k6_ (fun x hx_ => Nat.le_trans hwB (hF6 x hx_))
        clear hc121
        replace hc4 := k6_.heap hc4 (fun hm_ => by have h1_ := hF6 _ hm_; have := hB4; omega)
        replace hc105 := k6_.heap hc105 (fun hm_ => by have h1_ := hF6 _ hm_; omega)
        replace hBw := Nat.le_trans hBw k6_.size
        clear ownk gr6 hVo k6_ hF6 hF7 hbk6
        obtain ⟨ad7, n7, c7, rfl⟩ := zD6 own6
        refine qZ 1 ?_
        refine stn (zC6 (v := .slice ad7 n7 c7) rfl rfl (by rfl) hc105 (by rfl) (by rfl) ?_)
        intro w138 hc139 u140
        replace hc4 := u140.heap hc4 ne22
        replace own6 := zF9 own6 u140 (fun he_ => by have := zI3 own6 _ he_; omega)
        replace hT8 := hT8.sees (Sees.upd u140 (fun h_ => by have := (hV _ h_).1; omega))
        replace hK := hK.sees (Sees.upd u140 (fun h_ => by have := (hV _ h_).1; omega))
        replace hV := fun x hx_ => (⟨(hV x hx_).1, Nat.lt_of_lt_of_le (hV x hx_).2 (Nat.le_of_eq u140.size.symm)⟩ : B ≤ x ∧ x < w138.heap.size)
        replace hBw : B ≤ w138.heap.size := by rw [u140.size]; exact hBw
        replace G := G.upd u140 hge21
        clear hc105
        refine qZ 3 ?_
        refine stp (zB9 rfl rfl ?_ ?_); constructor <;> omega
        refine qZ 2 ?_
        refine ⟨_, ?_, j + 1, ad9, n9, c9, ad7, n7, c7, _, V9, rfl, zD3 ⟨rfl, rfl, rfl, rfl, rfl, congrArg (Value.int .i64) (by omega), rfl, trivial⟩, by omega, hn9, hc9, hc92, hR9, hVo6, hc4, hc139, hBw, own6, hV, (KidsR.append hK (by have := KidsR.cons hT8 .nil; simpa using this)), G⟩
        omega
       ·
        replace hlt := qF hlt
        have hj2 : j = (k / 8 % 5).toNat := by omega
        have hlk := zN0 (zD7 d) j c
        have hrk : Row (hide B w112) 5 (.slice ad6 n6 c6) (zF5 (zD7 d) j c).1.length kc := by rw [hlk]; exact zV5 ownk (by omega)
        have hK9 := hK.sees (Sees.more (V' := fun x => B ≤ x) _ (fun x _ hx_ => (hV x hx_).1))
        clear hK hV
        have ht : zD7 (d + 1) (k :: c) = (.mk 2 6 [] [] (zF5 (zD7 d) j c).1, (zF5 (zD7 d) j c).2) := by simp only [zD7]; rw [if_neg h2, if_neg (by omega), if_neg h5, if_pos h6, ← hj2]
        refine qZ 5 ?_
        refine stn (qS hc4 ?_)
        intro w141 hc142 u143
        replace hc105 := u143.heap hc105 ne22.symm
        replace hrk := hrk.sees (Sees.upd u143 (fun h_ => by omega))
        replace hK9 := hK9.sees (Sees.upd u143 (fun h_ => by omega))
        replace G := G.upd u143 hge8
        clear u143 hc4
        refine qZ 3 ?_
        rw [ht]
        refine ret2 (zA5 rfl hc142 (by rfl)) (zA1 (v := .slice ad5 n5 c5) rfl) ⟨[_, _, _, _, _], _, _, _, rfl, .mk (by simp [inR]) (by simp [inR]) (Row.nil _ _) (by simp) (Row.nil _ _) (by simp) (hrk.sees (Sees.low hwB _)) (hK9.sees (Sees.low hwB _)), hn5, hc5, hc52, hR5, G⟩
      ·
       replace h6 := qF h6
       have hkd6 : ¬ k % 8 > 6 := h6
       refine qZ 7 ?_
       refine zF4 (fun m_ e_ w_ => ∃ (m : Nat) (ad3 : Option Addr) (n3 : Nat) (c3 : Nat), m_ = ((k / 64)).toNat - m ∧ Fr [(0, .slice ad1 (n - 1) (cp - 1)), (1, .int .i64 ((d + 1 : Nat) : Int)), (4, .pointer (some ⟨b1, 0, none⟩)), (5, .slice none 0 0), (6, .int .u8 k), (7, .pointer (some ⟨b12, 0, none⟩)), (8, .int .i64 ((k / 8) % 5)), (11, .int .i64 (m : Int))] e_ ∧ ((m : Int) ≤ (k / 64)) ∧ (w_.heap[b1]? = some (.cells #[.int .i64 0, .int .i64 0, .slice none 0 0, .slice none 0 0, .slice none 0 0] 48 (0, 0))) ∧ (w_.heap[b12]? = some (.cells #[.int .i64 1, .int .i64 0, .slice ad3 n3 c3, .slice none 0 0, .slice none 0 0] 48 (0, 0))) ∧ (w_.ownsRow w.heap.size 23 1 (.slice ad3 n3 c3) m ((List.range m).map fun i => .int .u64 (qP3 k i))) ∧ Grow w w_) _ ⟨0, none, 0, 0, rfl, zD3 ⟨rfl, rfl, rfl, rfl, rfl, rfl, rfl, rfl, trivial⟩, by omega, hc4, hc99, World.ownsRow_nil _ _ _ _, G⟩ ?_
       clear hc4 hc99
       clear G
       rintro m_ e_ w144 ⟨m, ad3, n3, c3, rfl, ⟨e145, rfl⟩, hm, hc4, hc99, own, G⟩
       refine qZ 5 ?_
       refine stp (qO1 rfl rfl ?_ ?_ ?_ ?_); omega; omega; (constructor <;> omega)
       refine stp (zG7 rfl ?_ ?_); constructor <;> omega
       refine stp (zG5 rfl rfl ?_)
       refine qZ 1 ?_
       refine qG 2 ?_
       refine zA3 (zB3 (s := .bool _) (v := .bool true) rfl (zF0 _) (fun hc148 => ?_) ?_)
       ·
        have hc148_ := qT hc148
        refine zM0 (gvt hc148) rfl (by decide) ?_
        exact ⟨rfl, rfl⟩
       refine stp (zH4 rfl rfl rfl ?_)
       refine zA6 ?_
       refine zA2 (b := ((decide ((m : Int) < (k / 64))) && true)) rfl (fun hlt => ?_) (fun hlt => ?_)
       ·
        simp only [sb] at hlt
        refine qZ 7 ?_
        refine stp (zG7 rfl ?_ ?_); constructor <;> omega
        refine qZ 1 ?_
        refine stp (zY5 rfl rfl ?_ ?_); constructor <;> omega
        refine stp (zG7 rfl ?_ ?_); constructor <;> omega
        refine stp (yH6 rfl rfl ?_ ?_); omega
        refine qZ 1 ?_
        refine stp (zG7 rfl ?_ ?_); constructor <;> omega
        refine stp (zF6 rfl rfl ?_)
        refine stp (zB5 (cs := #[.int .u64 (qP3 k m)]) (el := 23) (fun w => by kernel_rfl) ?_)
        intro bs149 w150 hb151 hc152 g153
        have hge154 := Nat.le_trans G.size hb151
        have ne155 := qN hc4 hb151
        have ne156 := qN hc99 hb151
        replace hc4 := g153.heap hc4
        replace hc99 := g153.heap hc99
        replace own := zB7 own g153
        replace G := G.tr g153
        clear g153
        refine stp (zF8 rfl rfl rfl rfl own (Row.of_block (n := 1) hc152 rfl rfl (by omega)) (fun q_ hq_ => by simp at hq_; subst hq_; rfl) (by simp only [maxLen]; omega) (by omega) G.size ?_)
        intro v157 w158 own6 gr6
        replace G := G.grown gr6 (zI3 own)
        replace hc4 := zH9 gr6 hc4 (zE6 own hc4 (by decide))
        replace hc99 := zH9 gr6 hc99 (zE6 own hc99 (by decide))
        clear own gr6
        obtain ⟨ad4, n4, c4, rfl⟩ := zD6 own6
        refine qZ 1 ?_
        refine stn (zC6 (v := .slice ad4 n4 c4) rfl rfl (by rfl) hc99 (by rfl) (by rfl) ?_)
        intro w159 hc160 u161
        replace hc4 := u161.heap hc4 ne22
        replace own6 := zF9 own6 u161 (zE6 own6 hc99 (by decide))
        replace G := G.upd u161 hge21
        clear u161 hc99
        refine qZ 3 ?_
        refine stp (zB9 rfl rfl ?_ ?_); constructor <;> omega
        refine qZ 2 ?_
        refine ⟨_, ?_, m + 1, ad4, n4, c4, rfl, zD3 ⟨rfl, rfl, rfl, rfl, rfl, rfl, rfl, congrArg (Value.int .i64) (by omega), trivial⟩, by omega, hc4, hc160, (by rw [List.range_succ, List.map_append]; exact own6), G⟩
        omega
       ·
        simp only [sb] at hlt
        have hm2 : m = (k / 64).toNat := by omega
        refine qZ 6 ?_
        obtain ⟨B, hB⟩ : ∃ B, B = w144.heap.size := ⟨_, rfl⟩
        have hB7 : b12 < B := by rw [hB]; exact zC2 hc99
        have hwB : w.heap.size ≤ B := by rw [hB]; exact G.size
        have hBw : B ≤ w144.heap.size := by rw [hB]; exact Nat.le_refl _
        have hB4 : b1 < B := by rw [hB]; exact zC2 hc4
        clear hB
        have hc1 : (zF5 (zD7 d) 0 c).2 = c := rfl
        refine zF4 (fun m_ e_ w_ => ∃ (j : Nat) (ad5 : Option Addr) (n5 : Nat) (c5 : Nat) (ad6 : Option Addr) (n6 : Nat) (c6 : Nat) (kc : List Value) (V : Nat → Prop), m_ = (k / 8 % 5).toNat - j ∧ Fr [(1, .int .i64 ((d + 1 : Nat) : Int)), (4, .pointer (some ⟨b1, 0, none⟩)), (5, .slice none 0 0), (7, .pointer (some ⟨b12, 0, none⟩)), (8, .int .i64 ((k / 8) % 5)), (12, .int .i64 (j : Int)), (0, .slice ad5 n5 c5)] e_ ∧ ((j : Int) ≤ (k / 8 % 5)) ∧ (n5 = (zF5 (zD7 d) j c).2.length) ∧ (n5 ≤ c5) ∧ (c5 ≤ maxLen) ∧ (RowAt w0 1 ad5 n5 ((zF5 (zD7 d) j c).2.map (.int .u8))) ∧ (∀ x, (Value.slice ad6 n6 c6).ownBlock = some x → ¬ V x) ∧ (w_.heap[b1]? = some (.cells #[.int .i64 0, .int .i64 0, .slice none 0 0, .slice none 0 0, .slice none 0 0] 48 (0, 0))) ∧ (w_.ownsRow w.heap.size 23 1 (.slice ad3 n3 c3) m ((List.range m).map fun i => .int .u64 (qP3 k i))) ∧ (w_.heap[b12]? = some (.cells #[.int .i64 1, .int .i64 0, .slice ad3 n3 c3, .slice none 0 0, .slice ad6 n6 c6] 48 (0, 0))) ∧ (B ≤ w_.heap.size) ∧ (w_.ownsRow B 48 5 (.slice ad6 n6 c6) j kc) ∧ (∀ x, V x → B ≤ x ∧ x < w_.heap.size) ∧ (KidsR (see V w_) kc (zF5 (zD7 d) j c).1) ∧ Grow w w_) _ ⟨0, ad1, n - 1, cp - 1, none, 0, 0, [], fun _ => False, rfl, zD3 ⟨rfl, rfl, rfl, rfl, rfl, rfl, rfl, trivial⟩, by omega, hnc, by omega, by omega, R2, fun x _ h_ => h_, hc4, own, hc99, hBw, World.ownsRow_nil _ _ _ _, fun x h_ => h_.elim, .nil, G⟩ ?_
        clear hc4 hc99 own
        clear G
        rintro m_ e_ w162 ⟨j, ad5, n5, c5, ad6, n6, c6, kc, V, rfl, ⟨e163, rfl⟩, hj, hn5, hc5, hc52, hR5, hVo, hc4, own, hc99, hBw, ownk, hV, hK, G⟩
        refine qZ 5 ?_
        refine stp (zG5 rfl rfl ?_)
        refine zA6 ?_
        refine zA2 (b := (decide ((j : Int) < ((k / 8) % 5)))) rfl (fun hlt => ?_) (fun hlt => ?_)
        ·
         replace hlt := qT hlt
         refine qZ 7 ?_
         refine stp (zO6 rfl rfl ?_ ?_); constructor <;> omega
         refine stp ?_
         have hBw0 := hBw
         have hol := fun x hx_ => (ownk.lt x hx_).2
         have hcal := ih_ _ (d := d) hR5 (g0.tr G) hn5 (zX2 d j c hxc) hc5 hc52 (by omega) (by omega)
         rw [show ((d : Nat) : Int) = ((d + 1 : Nat) : Int) - 1 from by omega] at hcal
         refine zD2 rfl hcal ?_
         rintro v_ w164 ⟨cells, ad9, n9, c9, rfl, hT9, hn9, hc9, hc92, hR9, g_⟩
         have hsz9 := zC2 hc99
         replace hc4 := g_.heap hc4
         replace own := zB7 own g_
         replace hc99 := g_.heap hc99
         replace hBw := Nat.le_trans hBw g_.size
         replace ownk := zB7 ownk g_
         replace hV := vlt hV g_.size
         replace hK := hK.sees (Sees.grow g_)
         replace G := G.tr g_
         clear g_
         obtain ⟨y0, y1, ya, yn, yc, za, zn, zc, ua, un, uc, rfl⟩ := hT9.cells
         have hT8 := hT9.sees (Sees.more (V' := fun x => V x ∨ (w162.heap.size ≤ x ∧ x < w164.heap.size)) w164 (fun x h1_ h2_ => .inr ⟨h2_, h1_⟩))
         clear hT9
         replace hK := hK.sees (Sees.more (V' := fun x => V x ∨ (w162.heap.size ≤ x ∧ x < w164.heap.size)) w164 (fun x _ h2_ => .inl h2_))
         have hV9 : ∀ x, (V x ∨ (w162.heap.size ≤ x ∧ x < w164.heap.size)) → B ≤ x ∧ x < w164.heap.size := fun x hx_ => hx_.elim (fun h_ => hV x h_) (fun h_ => ⟨Nat.le_trans hBw0 h_.1, h_.2⟩)
         have hVo9 : ∀ x, (Value.slice ad6 n6 c6).ownBlock = some x → ¬ (V x ∨ (w162.heap.size ≤ x ∧ x < w164.heap.size)) := fun x hx_ hv_ => hv_.elim (hVo x hx_) (fun h_ => by have := (hol x hx_); omega)
         clear hV hVo
         obtain ⟨V9, hV9e⟩ : ∃ V9 : Nat → Prop, V9 = fun x => V x ∨ (w162.heap.size ≤ x ∧ x < w164.heap.size) := ⟨_, rfl⟩
         rw [← hV9e] at hT8 hK
         have hV : ∀ x, V9 x → B ≤ x ∧ x < w164.heap.size := by rw [hV9e]; exact hV9
         have hVo : ∀ x, (Value.slice ad6 n6 c6).ownBlock = some x → ¬ V9 x := by rw [hV9e]; exact hVo9
         clear hV9 hVo9 hV9e hBw0 hol
         refine qZ 3 ?_
         refine stp (zA8 ?_)
         intro b165 w166 hb167 hc168 g169
         refine stn (qS hc168 ?_)
         intro w170 hc171 u172
         have g173 := g169.upd u172 hb167
         have hge174 := Nat.le_trans G.size hb167
         have ne175 := qN hc4 hb167
         have ne176 := qN hc99 hb167
         replace hc4 := g173.heap hc4
         replace own := zB7 own g173
         replace hc99 := g173.heap hc99
         replace hBw := Nat.le_trans hBw g173.size
         replace ownk := zB7 ownk g173
         replace hK := hK.sees (Sees.grow g173)
         replace hT8 := hT8.sees (Sees.grow g173)
         replace hV := vlt hV g173.size
         replace G := G.tr g173
         clear u172 g169 hb167 hc168
         refine qZ 11 ?_
         refine stp (zB5 (cs := #[.int .i64 y0, .int .i64 y1, .slice ya yn yc, .slice za zn zc, .slice ua un uc]) (el := 48) (fun w => by kernel_rfl) ?_)
         intro bs177 w178 hb179 hc180 g181
         have hge182 := Nat.le_trans G.size hb179
         have ne183 := qN hc4 hb179
         have ne184 := qN hc99 hb179
         have ne185 := qN hc171 hb179
         replace hc4 := g181.heap hc4
         replace own := zB7 own g181
         replace hc99 := g181.heap hc99
         replace hBw := Nat.le_trans hBw g181.size
         replace ownk := zB7 ownk g181
         replace hK := hK.sees (Sees.grow g181)
         replace hT8 := hT8.sees (Sees.grow g181)
         replace hV := vlt hV g181.size
         replace hc171 := g181.heap hc171
         replace G := G.tr g181
         clear g181
         refine stp (qG5 rfl rfl rfl rfl ownk (Row.of_block (n := 1) hc180 rfl rfl (by omega)) (fun q_ hq_ => by simp at hq_; rcases hq_ with rfl | rfl | rfl | rfl | rfl <;> rfl) (by simp only [maxLen]; omega) (by omega) hBw ?_)
         intro v186 w187 own6 gr6 hbk6
         have k6_ : Kp (Value.slice ad6 n6 c6).ownBlock.toList w178 w187 := Kp.of_grownBy gr6 (fun k_ hk_ => by rw [Option.mem_toList]; exact hk_)
         have hF6 : ∀ x ∈ (Value.slice ad6 n6 c6).ownBlock.toList, B ≤ x := fun x hx_ => zI3 ownk x (Option.mem_toList.1 hx_)
         have hF7 : ∀ x ∈ (Value.slice ad6 n6 c6).ownBlock.toList, ¬ V9 x := fun x hx_ => hVo x (Option.mem_toList.1 hx_)
         replace hT8 := hT8.sees (Sees.kp k6_ hF7)
         replace hK := hK.sees (Sees.kp k6_ hF7)
         have hVo6 : ∀ x, v186.ownBlock = some x → ¬ V9 x := fun x hx_ hv_ => hbk6.elim (fun h_ => hVo x (h_ ▸ hx_) hv_) (fun h_ => by rw [h_] at hx_; simp only [Option.some.injEq] at hx_; have := (hV x hv_).2; omega)
         replace hV := fun x hx_ => (⟨(hV x hx_).1, Nat.lt_of_lt_of_le (hV x hx_).2 k6_.size⟩ : B ≤ x ∧ x < w187.heap.size)
         replace G := G.trK k6_ (fun x hx_ => Nat.le_trans hwB (hF6 x hx_))
         replace own := yT0 own ownk (by decide) gr6
         clear hc171
         replace hc4 := k6_.heap hc4 (fun hm_ => by have h1_ := hF6 _ hm_; have := hB4; omega)
         replace hc99 := k6_.heap hc99 (fun hm_ => by have h1_ := hF6 _ hm_; omega)
         replace hBw := Nat.le_trans hBw k6_.size
         clear ownk gr6 hVo k6_ hF6 hF7 hbk6
         obtain ⟨ad7, n7, c7, rfl⟩ := zD6 own6
         refine qZ 1 ?_
         refine stn (zC6 (v := .slice ad7 n7 c7) rfl rfl (by rfl) hc99 (by rfl) (by rfl) ?_)
         intro w188 hc189 u190
         replace hc4 := u190.heap hc4 ne22
         replace own := zF9 own u190 (zE6 own hc99 (by decide))
         replace own6 := zF9 own6 u190 (fun he_ => by have := zI3 own6 _ he_; omega)
         replace hT8 := hT8.sees (Sees.upd u190 (fun h_ => by have := (hV _ h_).1; omega))
         replace hK := hK.sees (Sees.upd u190 (fun h_ => by have := (hV _ h_).1; omega))
         replace hV := fun x hx_ => (⟨(hV x hx_).1, Nat.lt_of_lt_of_le (hV x hx_).2 (Nat.le_of_eq u190.size.symm)⟩ : B ≤ x ∧ x < w188.heap.size)
         replace hBw : B ≤ w188.heap.size := by rw [u190.size]; exact hBw
         replace G := G.upd u190 hge21
         clear hc99
         refine qZ 3 ?_
         refine stp (zB9 rfl rfl ?_ ?_); constructor <;> omega
         refine qZ 2 ?_
         refine ⟨_, ?_, j + 1, ad9, n9, c9, ad7, n7, c7, _, V9, rfl, zD3 ⟨rfl, rfl, rfl, rfl, rfl, congrArg (Value.int .i64) (by omega), rfl, trivial⟩, by omega, hn9, hc9, hc92, hR9, hVo6, hc4, own, hc189, hBw, own6, hV, (KidsR.append hK (by have := KidsR.cons hT8 .nil; simpa using this)), G⟩
         omega
        ·
         replace hlt := qF hlt
         have hj2 : j = (k / 8 % 5).toNat := by omega
         have hlk := zN0 (zD7 d) j c
         have hrk : Row (hide B w162) 5 (.slice ad6 n6 c6) (zF5 (zD7 d) j c).1.length kc := by rw [hlk]; exact zV5 ownk (by omega)
         have hK9 := hK.sees (Sees.more (V' := fun x => B ≤ x) _ (fun x _ hx_ => (hV x hx_).1))
         clear hK hV
         have ht : zD7 (d + 1) (k :: c) = (.mk 1 0 ((List.range (k / 64).toNat).map (qP3 k)) [] (zF5 (zD7 d) j c).1, (zF5 (zD7 d) j c).2) := by simp only [zD7]; rw [if_neg h2, if_neg (by omega), if_neg h5, if_neg h6, ← hj2]
         refine qZ 5 ?_
         refine stn (qS hc4 ?_)
         intro w191 hc192 u193
         replace own := zF9 own u193 (zE6 own hc4 (by decide))
         replace hc99 := u193.heap hc99 ne22.symm
         replace hrk := hrk.sees (Sees.upd u193 (fun h_ => by omega))
         replace hK9 := hK9.sees (Sees.upd u193 (fun h_ => by omega))
         replace G := G.upd u193 hge8
         clear u193 hc4
         refine qZ 3 ?_
         rw [ht]
         refine ret2 (zA5 rfl hc192 (by rfl)) (zA1 (v := .slice ad5 n5 c5) rfl) ⟨[_, _, _, _, _], _, _, _, rfl, .mk (by simp [inR]) (by simp [inR]) (zN9 own hm2 (by omega)) (fun x hx_ => by obtain ⟨i, _, rfl⟩ := List.mem_map.1 hx_; exact qP4 _) (Row.nil _ _) (by simp) (hrk.sees (Sees.low hwB _)) (hK9.sees (Sees.low hwB _)), hn5, hc5, hc52, hR5, G⟩
end Go.Proofs.YtkkbbhpbcfcplaaGreat.K
namespace Go.Proofs.YtkkbbhpbcfcplaaGreat.K
open Go Go.RowKit
theorem yW1 {p : Pt} (h : okP p) : decP (encR p) = p ∧ decE (encR p) = 0 := by
  have h1 := yS9 p h
  have h2 := (yV4 p h).2
  rw [h2]
  simp only [zR2, decide_eq_true_eq] at h1
  exact ⟨h1.2, h1.1⟩
theorem qQ9 {c : List Int} (hx : isU8 c) (j : Nat) : 0 ≤ zR3 c j ∧ zR3 c j ≤ 18446744073709551615 := by
  have h := qB6 ((c.drop (8 * j)).take 8) (fun x hx2 => hx x (List.mem_of_mem_drop (List.mem_of_mem_take hx2)))
  have hl : ((c.drop (8 * j)).take 8).length ≤ 8 := by rw [List.length_take]; omega
  have h2 : (256 : Int) ^ ((c.drop (8 * j)).take 8).length ≤ 256 ^ 8 := by
    generalize ((c.drop (8 * j)).take 8).length = n at hl
    have : n = 0 ∨ n = 1 ∨ n = 2 ∨ n = 3 ∨ n = 4 ∨ n = 5 ∨ n = 6 ∨ n = 7 ∨ n = 8 := by omega
    rcases this with rfl | rfl | rfl | rfl | rfl | rfl | rfl | rfl | rfl <;> decide
  have h3 : (256 : Int) ^ 8 = 18446744073709551616 := by decide
  unfold zR3
  omega
theorem qK7 : ∀ (xs : List Int) (i : Nat), (∀ x ∈ xs, inR .u8 x) → i < xs.length → getP xs / 256 ^ i % 256 = xs.getD i 0
  | [], i, _, h => by simp at h
  | x :: xs, 0, hx, _ => by
    have := hx x (by simp)
    simp only [inR] at this
    simp only [getP, List.getD_cons_zero, Int.pow_zero, Int.ediv_one]
    omega
  | x :: xs, i + 1, hx, h => by
    have h1 := hx x (by simp)
    simp only [inR] at h1
    have h2 := qK7 xs i (fun y hy => hx y (by simp [hy])) (by simpa using h)
    rw [List.getD_cons_succ, ← h2, Int.pow_succ, Int.mul_comm, ← Int.ediv_ediv_of_nonneg (by decide : (0 : Int) ≤ 256)]
    congr 2
    simp only [getP]
    omega
theorem qV8 {c : List Int} (hx : isU8 c) {i : Nat} (h : i < c.length) : zR3 c (i / 8) / 256 ^ (i % 8) % 256 = c.getD i 0 := by
  unfold zR3
  rw [qK7 _ _ (fun x hx2 => hx x (List.mem_of_mem_drop (List.mem_of_mem_take hx2))) (by rw [List.length_take, List.length_drop]; omega)]
  rw [List.getD_eq_getElem?_getD, List.getD_eq_getElem?_getD, List.getElem?_take_of_lt (by omega), List.getElem?_drop, show 8 * (i / 8) + i % 8 = i from by omega]
theorem jB0 (n : Nat) : (2 : Int) ^ (n * 8) = 256 ^ n := by rw [Nat.mul_comm, Int.pow_mul]; rfl
def Says (x : Int) (p : Pt) : Prop := decP x = p ∧ decE x = 0
theorem qF3 {p : Pt} (h : okP p) : Says (encR p) p := yW1 h
theorem qA2 {s : Src} {seg a x : Int} {p : Pt} (hp : Says x p) (hw : s.word seg a = (x, 0)) : ptrS s seg a = (p, 0) := by
  unfold ptrS
  rw [hw, if_neg (by simp), hp.1, hp.2]
/-! ### the three arenas -/
theorem qC4 {A : List (List Int)} {s i : Nat} (hs : s < A.length) (hi : i < len2 A s) : zG0 A (s : Int) (i : Int) = ((A.getD s []).getD i 0, 0) := by
  unfold zG0
  rw [if_pos (by refine ⟨by omega, by omega, by omega, ?_⟩; rw [Int.toNat_natCast]; omega)]
  simp only [Int.toNat_natCast]
theorem qA3 (p : Pt) : inR .u64 (encR p) := by
  obtain ⟨h0, h1⟩ := zO1 p
  unfold encR
  split
  · exact ⟨h0, h1⟩
  · simp [inR]
theorem qR0 {w : World} {b : Nat} {u v : Value} {q r : List Int} {T : TypeId} {fr : Nat × Nat} (hb : w.heap[b]? = some (.cells #[u, v] T fr)) (hu : Row w 1 u q.length (zI4 q)) (hv : Row w 1 v r.length (zI4 r)) : zF3 w (.slice (some ⟨b, 0, none⟩) 2 2) [q, r] := by
  refine ⟨[u, v], Row.of_block (n := 2) hb rfl rfl (by decide), fun i s hi => ?_⟩
  cases i with
  | zero => simp only [List.getElem?_cons_zero, Option.some.injEq] at hi; subst hi; exact ⟨u, rfl, hu⟩
  | succ i => cases i with
    | zero => simp only [List.getElem?_cons_succ, List.getElem?_cons_zero, Option.some.injEq] at hi; subst hi; exact ⟨v, rfl, hv⟩
    | succ i => simp at hi
def qH7 : Nd := .mk 1 0 [7] [] []
theorem yZ5 {x : Int × Nd × Int} {p : Int} {t : Nd} {e : Int} (h : (decide (x.1 = p) && x.2.1.beq t && decide (x.2.2 = e)) = true) : x = (p, t, e) := by
  simp only [Bool.and_eq_true, decide_eq_true_eq, Nd.beq_iff] at h
  obtain ⟨⟨h1, h2⟩, h3⟩ := h
  exact Prod.ext h1 (Prod.ext h2 h3)
theorem qV9 : zG6 (zB1 zR5) 32 0 0 0 = (2, qH7, 0) := yZ5 (by decide +kernel)
theorem yQ4 (t : Nd) : t.beq t = true := (Nd.beq_iff _ _).2 rfl
/-! ### nothing -/
/-! ### how many are set -/
theorem yQ5 {sz : List Int} {n k : Nat} (h : k < n) (hl : k < sz.length) : ((sz.map (Value.int .i64)).take (n * 1))[k * 1]? = some (.int .i64 (sz.getD k 0)) := by
  rw [Nat.mul_one, Nat.mul_one, List.getElem?_take_of_lt h, List.getElem?_map, List.getElem?_eq_getElem hl, List.getD_eq_getElem?_getD, List.getElem?_eq_getElem hl]
  rfl
/-! ### sizes -/
def sumL : List Int → Int
  | [] => 0
  | x :: xs => x + sumL xs
theorem zX8 : ∀ (a b : List Int), sumL (a ++ b) = sumL a + sumL b
  | [], b => by simp [sumL]
  | x :: a, b => by simp only [List.cons_append, sumL, zX8 a b]; omega
theorem zR8 {sz : List Int} {k : Nat} (h : k < sz.length) : sumL (sz.take (k + 1)) = sumL (sz.take k) + sz.getD k 0 := by
  rw [List.take_succ_eq_append_getElem h, zX8, List.getD_eq_getElem?_getD, List.getElem?_eq_getElem h]
  simp [sumL]
theorem qN0 : ∀ {sz : List Int}, (∀ x ∈ sz, 0 ≤ x) → 0 ≤ sumL sz
  | [], _ => by simp [sumL]
  | x :: sz, h => by have := qN0 (sz := sz) (fun y hy => h y (by simp [hy])); have := h x (by simp); simp only [sumL]; omega
theorem zK5 {sz : List Int} (h : ∀ x ∈ sz, 0 ≤ x) (k : Nat) : 0 ≤ sumL (sz.take k) ∧ sumL (sz.take k) ≤ sumL sz := by
  have h1 := zX8 (sz.take k) (sz.drop k)
  rw [List.take_append_drop] at h1
  have h2 := qN0 (sz := sz.take k) (fun x hx => h x (List.mem_of_mem_take hx))
  have h3 := qN0 (sz := sz.drop k) (fun x hx => h x (List.mem_of_mem_drop hx))
  omega
def zL5 (sz : List Int) : Bool := decide (1 ≤ sz.length ∧ sz.length ≤ 16 ∧ 1 ≤ sz.getD 0 0 ∧ (∀ x ∈ sz, 0 ≤ x) ∧ sumL sz ≤ 4096)
theorem zV7 {sz : List Int} (h : zL5 sz = true) : 1 ≤ sz.length ∧ sz.length ≤ 16 ∧ 1 ≤ sz.getD 0 0 ∧ (∀ x ∈ sz, 0 ≤ x) ∧ sumL sz ≤ 4096 := qT h
theorem zR9 {sz : List Int} (h : zL5 sz = true) (i : Nat) : 0 ≤ sz.getD i 0 ∧ sz.getD i 0 ≤ 4096 := by
  obtain ⟨-, -, -, h4, h5⟩ := zV7 h
  by_cases hi : i < sz.length
  · have e : sz.getD i 0 = sz[i] := by rw [List.getD_eq_getElem?_getD, List.getElem?_eq_getElem hi]; rfl
    have h1 := zR8 hi
    have h2 := zK5 h4 i
    have h3 := zK5 h4 (i + 1)
    have := h4 _ (List.getElem_mem hi)
    rw [← e] at this
    omega
  · rw [List.getD_eq_getElem?_getD, List.getElem?_eq_none (by omega)]; simp
theorem yQ6 {sz : List Int} (h1 : 1 ≤ sz.length) (h2 : sz.length ≤ 16) (h3 : 1 ≤ sz.getD 0 0) (hn : ∀ j, j < sz.length → 0 ≤ sz.getD j 0) (hs : sumL (sz.take sz.length) ≤ 4096) : zL5 sz = true := by
  rw [List.take_length] at hs
  refine decide_eq_true ⟨h1, h2, h3, fun x hx => ?_, hs⟩
  obtain ⟨j, hj, rfl⟩ := List.getElem_of_mem hx
  have := hn j hj
  rw [List.getD_eq_getElem?_getD, List.getElem?_eq_getElem hj] at this
  exact this
theorem yW2 {sz : List Int} {k : Nat} (hk : k < sz.length) (h : ¬ (0 ≤ sz.getD k 0 ∧ sumL (sz.take k) + sz.getD k 0 ≤ 4096)) : zL5 sz = false := by
  cases hf : zL5 sz with
  | false => rfl
  | true =>
    obtain ⟨-, -, -, h4, h5⟩ := zV7 hf
    have h6 := zR8 hk
    have h7 := zK5 h4 (k + 1)
    have h8 := zR9 hf k
    exact absurd ⟨h8.1, by omega⟩ h
theorem yL5 {sz : List Int} (h : ¬ (1 ≤ sz.length ∧ sz.length ≤ 16 ∧ 1 ≤ sz.getD 0 0)) : zL5 sz = false := decide_eq_false fun ⟨a, b, c, _⟩ => h ⟨a, b, c⟩
def zF7 (sz : List Int) (seg a : Int) : Int := if zL5 sz = true ∧ 0 ≤ seg ∧ seg < sz.length ∧ 0 ≤ a ∧ a < sz.getD seg.toNat 0 then a + sumL (sz.take seg.toNat) else -1
theorem yF3 {sz : List Int} (h : zL5 sz = true) {seg a : Int} : zE5 sz seg a 1 = decide (0 ≤ seg ∧ seg < sz.length ∧ 0 ≤ a ∧ a < sz.getD seg.toNat 0) := by
  have hs := zR9 h seg.toNat
  unfold zE5 zJ2
  rw [← Bool.decide_and]
  exact decide_eq_decide.2 (by omega)
/-! ### sums of bytes -/
def qA4 (sz : List Int) : Nat := if zL5 sz then (sumL sz).toNat else 0
theorem yL6 (sz : List Int) : qA4 sz ≤ 4096 := by
  unfold qA4
  split
  · rename_i h; have := (zV7 h).2.2.2.2; omega
  · omega
theorem qK8 {sz : List Int} (h : zL5 sz = true) : (qA4 sz : Int) = sumL sz ∧ 1 ≤ qA4 sz := by
  obtain ⟨h1, -, h3, h4, -⟩ := zV7 h
  have hn := qN0 h4
  have h5 := zK5 h4 1
  have h6 : sumL (sz.take 1) = sumL (sz.take 0) + sz.getD 0 0 := zR8 (by omega)
  simp only [List.take_zero, sumL, Int.zero_add] at h6
  unfold qA4
  rw [if_pos h]
  omega
def yL7 (sz : List Int) : Nat := (qA4 sz + 7) / 8
section
variable {P : Program} {e : Env} {w : World} {K : Value → World → Prop} {d : Option Nat} {ty : TypeId} {pos : String} {af : Array Edge} {g : Option (Nat × Bool)} {t : TypeId} {x y : Operand} {k : IntKind} {i : Int}
end
theorem zV8 : ∀ (A : List (List Int)), sumL (zC0 A) = zC1 A
  | [] => rfl
  | s :: A => by
    have ih := zV8 A
    simp only [zC0, List.map_cons, sumL, zC1] at ih ⊢
    omega
theorem qC5 (A : List (List Int)) : zL5 (zC0 A) = zD9 A := by
  unfold zL5 zD9
  refine decide_eq_decide.2 ?_
  rw [zK2, zO9, zV8]
  constructor
  · rintro ⟨a, b, c, -, e⟩; exact ⟨a, b, by omega, e⟩
  · rintro ⟨a, b, c, e⟩
    exact ⟨a, b, by omega, fun x hx => by obtain ⟨s, _, rfl⟩ := List.mem_map.1 hx; omega, e⟩
section
variable {TP TI TW TB : TypeId} {w w' : World} {base b g h : Nat} {ses sum : Int} {sz wl kb : List Int}
end
theorem yQ7 {sz : List Int} (h : zL5 sz = true) : ∀ x ∈ sz, inR .i64 x := fun x hx => by
  obtain ⟨i, hi, rfl⟩ := List.getElem_of_mem hx
  have := zR9 h i
  rw [List.getD_eq_getElem?_getD, List.getElem?_eq_getElem hi] at this
  simp only [Option.getD_some] at this
  simp only [inR]; omega
/-! ### what a part answers -/
theorem qR1 {sz : List Int} {seg a : Int} (h : 0 ≤ zF7 sz seg a) : zL5 sz = true ∧ 0 ≤ seg ∧ seg < sz.length ∧ 0 ≤ a ∧ a < sz.getD seg.toNat 0 ∧ zF7 sz seg a = a + sumL (sz.take seg.toNat) ∧ zF7 sz seg a < (qA4 sz : Int) := by
  unfold zF7 at h ⊢
  split at h
  · rename_i hc
    rw [if_pos hc]
    obtain ⟨h1, h2, h3, h4, h5⟩ := hc
    have hf := zV7 h1
    have h6 := zR8 (sz := sz) (k := seg.toNat) (by omega)
    have h7 := (zK5 hf.2.2.2.1 (seg.toNat + 1)).2
    have h8 := (qK8 h1).1
    exact ⟨h1, h2, h3, h4, h5, rfl, by omega⟩
  · omega
inductive Own2 (k z : Int) (w b : List Int) (ks : List Nd) (q a : Int) : Prop where
  | st (h1 : k = 1) (h2 : z = 0) (h3 : b = []) (h4 : objP ((Nd.mk k z w b ks).ptr 0) q a = ⟨1, q, a, w.length, ks.length, 0, 0⟩) (h5 : (Nd.mk k z w b ks).need = (w.length : Int) + ks.length) (h6 : w.length ≤ 100 ∧ ks.length ≤ 100)
  | bt (h1 : k = 2) (h2 : z = 2) (h3 : w = []) (h4 : ks = []) (h5 : objP ((Nd.mk k z w b ks).ptr 0) q a = ⟨2, q, a, 0, 0, 2, b.length⟩) (h6 : (Nd.mk k z w b ks).need = ((b.length : Int) + 7) / 8) (h7 : b.length ≤ 4096)
  | wd (h1 : k = 2) (h2 : z = 5) (h3 : b = []) (h4 : ks = []) (h5 : objP ((Nd.mk k z w b ks).ptr 0) q a = ⟨2, q, a, 0, 0, 5, w.length⟩) (h6 : (Nd.mk k z w b ks).need = (w.length : Int)) (h7 : w.length ≤ 4096)
  | pt (h1 : k = 2) (h2 : z = 6) (h3 : w = []) (h4 : b = []) (h5 : objP ((Nd.mk k z w b ks).ptr 0) q a = ⟨2, q, a, 0, 0, 6, ks.length⟩) (h6 : (Nd.mk k z w b ks).need = (ks.length : Int)) (h7 : ks.length ≤ 4096)
theorem own2 {k z : Int} {w b : List Int} {ks : List Nd} (ho : (Nd.mk k z w b ks).own = true) (hk : ¬ k = 0) (q a : Int) : Own2 k z w b ks q a := by
  simp only [Nd.own, if_neg hk] at ho
  split at ho
  · rename_i h1
    simp only [Bool.and_eq_true, decide_eq_true_eq] at ho
    obtain ⟨h2, h3, h4⟩ := ho
    have hb : b = [] := List.eq_nil_of_length_eq_zero (by omega)
    have hm : w.length ≤ 100 ∧ ks.length ≤ 100 := by split at h4 <;> omega
    subst hb
    subst h1
    exact .st rfl h2 rfl (by simp [Nd.ptr, objP]) (by simp [Nd.need]) hm
  · split at ho
    · rename_i h1 h2
      subst h2
      split at ho
      · rename_i h3
        simp only [Bool.and_eq_true, decide_eq_true_eq] at ho
        have hw : w = [] := List.eq_nil_of_length_eq_zero (by omega)
        have hks : ks = [] := List.eq_nil_of_length_eq_zero (by omega)
        subst hw; subst hks; subst h3
        exact .bt rfl rfl rfl rfl (by simp [Nd.ptr, objP]) (by simp [Nd.need]) (by omega)
      · split at ho
        · rename_i h3
          simp only [Bool.and_eq_true, decide_eq_true_eq] at ho
          have hb : b = [] := List.eq_nil_of_length_eq_zero (by omega)
          have hks : ks = [] := List.eq_nil_of_length_eq_zero (by omega)
          subst hb; subst hks; subst h3
          exact .wd rfl rfl rfl rfl (by simp [Nd.ptr, objP]) (by simp [Nd.need]) (by omega)
        · split at ho
          · rename_i h3
            simp only [Bool.and_eq_true, decide_eq_true_eq] at ho
            have hb : b = [] := List.eq_nil_of_length_eq_zero (by omega)
            have hw : w = [] := List.eq_nil_of_length_eq_zero (by omega)
            subst hb; subst hw; subst h3
            exact .pt rfl rfl rfl rfl (by simp [Nd.ptr, objP]) (by simp [Nd.need]) (by omega)
          · cases ho
    · cases ho
theorem qA5 (o : Ob) : zE9 o.pt = zE9 ⟨o.kind, 0, o.data, o.ptrs, o.size, o.count, 0, false⟩ := rfl
theorem qA6 (o : Ob) : zG2 o.pt = zG2 ⟨o.kind, 0, o.data, o.ptrs, o.size, o.count, 0, false⟩ := rfl
abbrev w2 (A : List (List Int)) (s i : Nat) : Int := (A.getD s []).getD i 0
theorem qE0 {A : List (List Int)} {s i : Nat} (x : Int) (hs : s < A.length) (hi : i < len2 A s) (q j : Nat) : w2 (setP A s i x) q j = if q = s ∧ j = i then x else w2 A q j := by
  simp only [w2, qO9 A s i q x hs]
  by_cases hq : q = s
  · subst hq
    rw [if_pos rfl, qE9 _ _ _ _ _ hi]
    by_cases hj : j = i
    · rw [if_pos hj, if_pos ⟨rfl, hj⟩]
    · rw [if_neg hj, if_neg (fun h => hj h.2)]
  · rw [if_neg hq, if_neg (fun h => hq h.1)]
theorem zT0 (u l : List Int) (j : Nat) : (u ++ l).getD j 0 = if u.length ≤ j then l.getD (j - u.length) 0 else u.getD j 0 := by
  simp only [List.getD_eq_getElem?_getD]
  split
  · rename_i h; rw [List.getElem?_append_right h]
  · rename_i h; rw [List.getElem?_append_left (by omega)]
theorem zX9 {A : List (List Int)} {q : Nat} (l : List Int) (hq : q ≤ A.length) (s j : Nat) : w2 (zL1 A q l) s j = if s = q ∧ len2 A q ≤ j then l.getD (j - len2 A q) 0 else w2 A s j := by
  simp only [w2, zH5 A q s l hq]
  by_cases hs : s = q
  · subst hs
    rw [if_pos rfl, zT0]
    by_cases hj : len2 A s ≤ j
    · rw [if_pos (show (A.getD s []).length ≤ j from hj), if_pos (show s = s ∧ len2 A s ≤ j from ⟨rfl, hj⟩)]
    · rw [if_neg (show ¬ (A.getD s []).length ≤ j from hj), if_neg (show ¬ (s = s ∧ len2 A s ≤ j) from fun h => hj h.2)]
  · rw [if_neg hs, if_neg (fun h => hs h.1)]
theorem zT1 {k z : Int} {w b : List Int} {ks : List Nd} (ho : (Nd.mk k z w b ks).own = true) (hk : ¬ k = 0) : (w ++ zC7 b).length + ks.length = (Nd.mk k z w b ks).need.toNat := by
  obtain ⟨hkd, hlw, hlb, hlk, hnn, hnm, hkn, hb1⟩ := Nd.own_b ho
  have hc := Nd.content_length (.mk k z w b ks) (by simp only [Nd.kind]; omega) (by simpa only [Nd.kind, Nd.bytes] using hb1)
  simp only [Nd.content, List.length_append, List.length_replicate] at hc
  rw [List.length_append]
  omega
def jB5 : Nd → List Int
  | .mk _ _ w b _ => w ++ zC7 b
def Pts (A : List (List Int)) (B : Nat → Nat) (t : Nd) (s i q a : Nat) : Prop :=
  (q = s ∧ w2 A s i = t.near ((a : Int) - i - 1)) ∨ (∃ p, t.need ≠ 0 ∧ p + 1 = a ∧ B q ≤ p ∧ p < len2 A q ∧ w2 A s i = farP q p ∧ w2 A q p = t.near 0)
mutual
def Rep (A : List (List Int)) (B : Nat → Nat) : Nd → Nat → Nat → Prop
  | .mk k z w b ks, s, i => i < len2 A s ∧ s < A.length ∧ (if k = 0 then w2 A s i = 0 else
    ∃ q a, Pts A B (.mk k z w b ks) s i q a ∧ q < A.length ∧ ((Nd.mk k z w b ks).need ≠ 0 → B q ≤ a) ∧ ((Nd.mk k z w b ks).need = 0 → k = 1 → q = s ∧ a = i) ∧ a + (Nd.mk k z w b ks).need.toNat ≤ len2 A q ∧ (∀ j, j < (w ++ zC7 b).length → w2 A q (a + j) = (w ++ zC7 b).getD j 0) ∧ Reps A B ks q (a + (w ++ zC7 b).length))
def Reps (A : List (List Int)) (B : Nat → Nat) : List Nd → Nat → Nat → Prop
  | [], _, _ => True
  | t :: ts, q, j => (B q ≤ j ∧ Rep A B t q j) ∧ Reps A B ts q (j + 1)
end
structure Kept (A A' : List (List Int)) (B : Nat → Nat) : Prop where
  len : A.length ≤ A'.length
  seg : ∀ q, len2 A q ≤ len2 A' q
  word : ∀ q j, B q ≤ j → j < len2 A q → w2 A' q j = w2 A q j
theorem yW3 {A : List (List Int)} {q j : Nat} (h : j < len2 A q) : q < A.length := by
  by_cases hq : q < A.length
  · exact hq
  · have := zO8 (A := A) (j := q) (by omega); omega
theorem zU7 {k s : Int} {w b : List Int} {ks : List Nd} (h : (Nd.mk k s w b ks).fine) : ∀ t ∈ ks, t.fine := by
  intro t ht
  obtain ⟨j, hj, rfl⟩ := List.getElem_of_mem ht
  exact Nd.fine_kid h hj
mutual
theorem Rep.keep {A A' : List (List Int)} {B B' : Nat → Nat} (hk : Kept A A' B) (hB : ∀ q, B' q ≤ B q) : ∀ (t : Nd) (s i : Nat), t.fine → w2 A' s i = w2 A s i → Rep A B t s i → Rep A' B' t s i
  | .mk k z w b ks, s, i, hf, hw, h => by
    have ho := Nd.fine_own hf
    obtain ⟨hkd, hlw, hlb, hlk, hnn, hnm, hkn, hb1⟩ := Nd.own_b ho
    rw [Rep] at h ⊢
    obtain ⟨h1, h2, h3⟩ := h
    refine ⟨Nat.lt_of_lt_of_le h1 (hk.seg s), Nat.lt_of_lt_of_le h2 hk.len, ?_⟩
    split
    · rename_i hk0
      rw [if_pos hk0] at h3
      rw [hw, h3]
    · rename_i hk0
      rw [if_neg hk0] at h3
      obtain ⟨q, a, hp, hq, hb, hz0, hl, hc, hr⟩ := h3
      have hbl := zT1 ho hk0
      have hok := zU7 hf
      refine ⟨q, a, ?_, Nat.lt_of_lt_of_le hq hk.len, fun hn => Nat.le_trans (hB q) (hb hn), hz0, Nat.le_trans hl (hk.seg q), fun j hj => ?_, Reps.keep hk hB ks q _ hok hr⟩
      · rcases hp with ⟨h4, h5⟩ | ⟨p, hne, h4, h5, h6, h7, h8⟩
        · exact .inl ⟨h4, by rw [hw, h5]⟩
        · exact .inr ⟨p, hne, h4, Nat.le_trans (hB q) h5, Nat.lt_of_lt_of_le h6 (hk.seg q), by rw [hw, h7], by rw [hk.word q p h5 h6, h8]⟩
      · rw [hk.word q (a + j) (Nat.le_trans (hb (by omega)) (Nat.le_add_right _ _)) (by omega), hc j hj]
theorem Reps.keep {A A' : List (List Int)} {B B' : Nat → Nat} (hk : Kept A A' B) (hB : ∀ q, B' q ≤ B q) : ∀ (ts : List Nd) (q j : Nat), (∀ t ∈ ts, t.fine) → Reps A B ts q j → Reps A' B' ts q j
  | [], _, _, _, _ => trivial
  | t :: ts, q, j, ho, h => by
    rw [Reps] at h ⊢
    obtain ⟨⟨h1, h2⟩, h3⟩ := h
    refine ⟨⟨Nat.le_trans (hB q) h1, Rep.keep hk hB t q j (ho t (by simp)) ?_ h2⟩, Reps.keep hk hB ts q (j + 1) (fun u hu => ho u (by simp [hu])) h3⟩
    refine hk.word q j h1 ?_
    cases t with
    | mk k z w b ks => rw [Rep] at h2; exact h2.1
end
theorem yW4 {A : List (List Int)} (h : 1 ≤ A.length) : zB4 A < A.length ∧ zB4 A + 1 = A.length := by unfold zB4; omega
theorem yF4 (size : Int) (t : Nd) (S : Lay) (s i : Nat) (h1 : 1 ≤ S.A.length) (hs : s < S.A.length) (hi : i < len2 S.A s) :
    (∀ q j, j < len2 S.A q → ¬ (q = s ∧ j = i) → w2 (zC5 size t S s i).S.A q j = w2 S.A q j) ∧
    (((zC5 size t S s i).seg = s ∧ w2 (zC5 size t S s i).S.A s i = t.near (((zC5 size t S s i).at_ : Int) - i - 1)) ∨
      (∃ p, p + 1 = (zC5 size t S s i).at_ ∧ len2 S.A (zC5 size t S s i).seg ≤ p ∧ p < len2 (zC5 size t S s i).S.A (zC5 size t S s i).seg ∧ w2 (zC5 size t S s i).S.A s i = farP (zC5 size t S s i).seg p ∧ w2 (zC5 size t S s i).S.A (zC5 size t S s i).seg p = t.near 0)) := by
  obtain ⟨hl, hl1⟩ := yW4 h1
  unfold zC5
  by_cases h : s = zB4 S.A ∧ (len2 S.A (zB4 S.A) : Int) + t.need ≤ size
  · simp only [if_pos h]
    refine ⟨fun q j hj hn => by rw [qE0 _ hs hi, if_neg hn], .inl ⟨h.1.symm, ?_⟩⟩
    rw [qE0 _ hs hi, if_pos ⟨rfl, rfl⟩]
  · by_cases hn : qP0 size t S.A s = true
    · simp only [if_neg h, if_pos hn, zI8]
      have hq : zB4 S.A + 1 ≤ (setP S.A s i (farP ((zB4 S.A : Int) + 1) 0)).length := by rw [zD1]; omega
      have hz : len2 (setP S.A s i (farP ((zB4 S.A : Int) + 1) 0)) (zB4 S.A + 1) = 0 := zO8 (by rw [zD1]; omega)
      refine ⟨fun q j hj hn2 => ?_, .inr ⟨0, rfl, ?_, ?_, ?_, ?_⟩⟩
      · have hql := yW3 hj
        rw [zX9 _ hq, if_neg (by omega), qE0 _ hs hi, if_neg hn2]
      · rw [zO8 (by omega)]; exact Nat.le_refl _
      · simp only [len2] at hz ⊢
        rw [zH5 _ _ _ _ hq, if_pos rfl, List.length_append, hz]
        simp
      · rw [zX9 _ hq, if_neg (by omega), qE0 _ hs hi, if_pos ⟨rfl, rfl⟩]
        rfl
      · rw [zX9 _ hq, if_pos ⟨rfl, by omega⟩, hz]
        rfl
    · simp only [if_neg h, if_neg hn, zI8]
      have hq : zB4 S.A ≤ (setP S.A s i (farP (zB4 S.A) (len2 S.A (zB4 S.A)))).length := by rw [zD1]; omega
      have hz := zL2 S.A s i (zB4 S.A) (farP (zB4 S.A) (len2 S.A (zB4 S.A)))
      refine ⟨fun q j hj hn2 => ?_, .inr ⟨len2 S.A (zB4 S.A), rfl, Nat.le_refl _, ?_, ?_, ?_⟩⟩
      · rw [zX9 _ hq, if_neg (by rw [hz]; rintro ⟨rfl, h9⟩; omega), qE0 _ hs hi, if_neg hn2]
      · have hg : len2 (zL1 (setP S.A s i (farP (zB4 S.A) (len2 S.A (zB4 S.A)))) (zB4 S.A) [t.near 0]) (zB4 S.A) = len2 S.A (zB4 S.A) + 1 := by
          have hz' : ((setP S.A s i (farP (zB4 S.A) (len2 S.A (zB4 S.A)))).getD (zB4 S.A) []).length = len2 S.A (zB4 S.A) := hz
          rw [len2, zH5 _ _ _ _ hq, if_pos rfl, List.length_append, hz']; rfl
        omega
      · rw [zX9 _ hq, if_neg (by rw [hz]; rintro ⟨rfl, h9⟩; omega), qE0 _ hs hi, if_pos ⟨rfl, rfl⟩]
      · rw [zX9 _ hq, if_pos ⟨rfl, by omega⟩, hz, Nat.sub_self]
        rfl
theorem qR2 {size : Int} {ts : List Nd} {S : Lay} {s i : Nat} (h : (Nd.lays size ts S s i).full = false) : S.full = false := by
  cases hS : S.full with
  | false => rfl
  | true => rw [Nd.lays_full hS] at h; rw [hS] at h; exact h
mutual
theorem Nd.lay_rep (size : Int) : ∀ (t : Nd) (S : Lay) (s i : Nat), t.fine → 1 ≤ S.A.length → s < S.A.length → i < len2 S.A s → w2 S.A s i = 0 → (t.lay size S s i).full = false →
    (∀ q j, j < len2 S.A q → ¬ (q = s ∧ j = i) → w2 (t.lay size S s i).A q j = w2 S.A q j) ∧ Rep (t.lay size S s i).A (len2 S.A) t s i
  | .mk k z w b ks, S, s, i, hf, h1, hs, hi, hz, hfull => by
    have ho := Nd.fine_own hf
    obtain ⟨hkd, hlw, hlb, hlk, hnn, hnm, hkn, hb1⟩ := Nd.own_b ho
    have hSf : S.full = false := by
      cases hS : S.full with
      | false => rfl
      | true => rw [Nd.lay_full hS] at hfull; rw [hS] at hfull; exact hfull
    by_cases hk : k = 0
    · have hl : (Nd.mk k z w b ks).lay size S s i = S := by simp only [Nd.lay]; rw [if_pos (.inl hk)]
      rw [hl]
      refine ⟨fun q j _ _ => rfl, ?_⟩
      rw [Rep, if_pos hk]
      exact ⟨hi, hs, hz⟩
    · have hbl := zT1 ho hk
      by_cases hn : (Nd.mk k z w b ks).need = 0
      · have hl : (Nd.mk k z w b ks).lay size S s i = ⟨setP S.A s i ((Nd.mk k z w b ks).near (if k = 1 then -1 else 0)), S.full⟩ := by
          simp only [Nd.lay]; rw [if_neg (by rw [hSf]; simp [hk]), if_pos hn]
        have hks : ks = [] := List.eq_nil_of_length_eq_zero (by omega)
        rw [hl]
        refine ⟨fun q j hj hn2 => by rw [qE0 _ hs hi, if_neg hn2], ?_⟩
        rw [Rep, if_neg hk]
        refine ⟨by rw [zL2]; exact hi, by rw [zD1]; exact hs, s, if k = 1 then i else i + 1, .inl ⟨rfl, ?_⟩, by rw [zD1]; exact hs, fun h => absurd hn h, fun _ h => ⟨rfl, if_pos h⟩, ?_, fun j hj => by omega, ?_⟩
        · rw [qE0 _ hs hi, if_pos ⟨rfl, rfl⟩]
          congr 1
          split <;> omega
        · rw [zL2, hn]
          split <;> (simp only [Int.toNat_zero, Nat.add_zero]; omega)
        · rw [hks]; trivial
      · obtain ⟨hkeep, hpts⟩ := yF4 size (.mk k z w b ks) S s i h1 hs hi
        have hpo := qG7 size (.mk k z w b ks) S s i h1
        have hl : (Nd.mk k z w b ks).lay size S s i = Nd.lays size ks (zI8 size (zC5 size (.mk k z w b ks) S s i).S (zC5 size (.mk k z w b ks) S s i).seg (Nd.mk k z w b ks).content) (zC5 size (.mk k z w b ks) S s i).seg ((zC5 size (.mk k z w b ks) S s i).at_ + ((Nd.mk k z w b ks).need.toNat - ks.length)) := by
          simp only [Nd.lay]; rw [if_neg (by rw [hSf]; simp [hk]), if_neg hn]
        rw [hl] at hfull ⊢
        obtain ⟨hg, hseg, hat, -, -⟩ := hpo
        generalize (zC5 size (.mk k z w b ks) S s i).S = P at *
        generalize (zC5 size (.mk k z w b ks) S s i).seg = sg at *
        generalize (zC5 size (.mk k z w b ks) S s i).at_ = at_ at *
        have hcl : (Nd.mk k z w b ks).content.length = (Nd.mk k z w b ks).need.toNat := by
          simp only [Nd.content, List.length_append, List.length_replicate]
          rw [List.length_append] at hbl
          omega
        have hwg : ∀ q j, w2 (zI8 size P sg (Nd.mk k z w b ks).content).A q j = if q = sg ∧ len2 P.A sg ≤ j then (Nd.mk k z w b ks).content.getD (j - len2 P.A sg) 0 else w2 P.A q j := fun q j => zX9 _ (Nat.le_of_lt hseg) q j
        have hgl : ∀ q, len2 (zI8 size P sg (Nd.mk k z w b ks).content).A q = if q = sg then len2 P.A sg + (Nd.mk k z w b ks).need.toNat else len2 P.A q := by
          intro q
          simp only [zI8, len2]
          rw [zH5 _ _ _ _ (Nat.le_of_lt hseg)]
          split
          · rw [List.length_append, hcl]
          · rfl
        have hgs : P.A.length ≤ (zI8 size P sg (Nd.mk k z w b ks).content).A.length := qG6 _ _ _
        have hslot : (Nd.mk k z w b ks).need.toNat - ks.length = (w ++ zC7 b).length := by omega
        rw [hslot] at hfull ⊢
        have hsl : len2 S.A sg ≤ at_ := by rw [hat]; exact hg.seg sg
        have hlen2 : ∀ q, len2 S.A q ≤ len2 (zI8 size P sg (Nd.mk k z w b ks).content).A q := fun q => by
          rw [hgl]
          have := hg.seg q
          split
          · subst_vars; omega
          · exact this
        have hco : ∀ j, (Nd.mk k z w b ks).content.getD j 0 = if (w ++ zC7 b).length ≤ j then 0 else (w ++ zC7 b).getD j 0 := by
          intro j
          simp only [Nd.content]
          rw [zT0]
          split
          · simp only [List.getD_eq_getElem?_getD, List.getElem?_replicate]
            split <;> rfl
          · rfl
        obtain ⟨hkeep2, hreps⟩ := Nd.lays_rep size ks (zI8 size P sg (Nd.mk k z w b ks).content) sg (at_ + (w ++ zC7 b).length) (zU7 hf) (Nat.le_trans (Nat.le_trans h1 hg.len) hgs) (Nat.lt_of_lt_of_le hseg hgs)
          (by rw [hgl, if_pos rfl, ← hat]; omega) (fun j hj => by rw [hwg, if_pos ⟨rfl, by omega⟩, hco, if_pos (by omega)]) hfull (len2 S.A) hlen2 (by omega)
        have hgr := (Nd.lays_ok size ks (zI8 size P sg (Nd.mk k z w b ks).content) sg (at_ + (w ++ zC7 b).length) (Nat.le_trans (Nat.le_trans h1 hg.len) hgs)).grew
        generalize (Nd.lays size ks (zI8 size P sg (Nd.mk k z w b ks).content) sg (at_ + (w ++ zC7 b).length)) = R at *
        have hold : ∀ q j, j < len2 P.A q → w2 R.A q j = w2 P.A q j := fun q j hj => by
          rw [hkeep2 q j (by rw [hgl]; split <;> (first | omega | (subst_vars; omega))) (by rintro ⟨rfl, h5, h6⟩; omega), hwg, if_neg (by rintro ⟨rfl, h5⟩; omega)]
        refine ⟨fun q j hj hn2 => ?_, ?_⟩
        · rw [hold q j (Nat.lt_of_lt_of_le hj (hg.seg q)), hkeep q j hj hn2]
        · rw [Rep, if_neg hk]
          have hi2 : i < len2 P.A s := Nat.lt_of_lt_of_le hi (hg.seg s)
          refine ⟨Nat.lt_of_lt_of_le hi2 (Nat.le_trans ?_ (hgr.seg s)), Nat.lt_of_lt_of_le hs (Nat.le_trans hg.len (Nat.le_trans hgs hgr.len)), sg, at_, ?_, Nat.lt_of_lt_of_le hseg (Nat.le_trans hgs hgr.len), fun _ => hsl, fun h => absurd h hn, ?_, fun j hj => ?_, hreps⟩
          · rw [hgl]; split
            · subst_vars; omega
            · exact Nat.le_refl _
          · rcases hpts with ⟨h5, h6⟩ | ⟨p, h5, h6, h7, h8, h9⟩
            · exact .inl ⟨h5, by rw [hold s i hi2, h6]⟩
            · exact .inr ⟨p, hn, h5, h6, Nat.lt_of_lt_of_le h7 (Nat.le_trans (by rw [hgl, if_pos rfl]; omega) (hgr.seg sg)), by rw [hold s i hi2, h8], by rw [hold sg p h7, h9]⟩
          · have := hgr.seg sg
            rw [hgl, if_pos rfl] at this
            omega
          · rw [hkeep2 sg (at_ + j) (by rw [hgl, if_pos rfl]; omega) (by rintro ⟨-, h5, h6⟩; omega), hwg, if_pos ⟨rfl, by omega⟩, hco, if_neg (by omega)]
            congr 1
            omega
theorem Nd.lays_rep (size : Int) : ∀ (ts : List Nd) (S : Lay) (s i : Nat), (∀ t ∈ ts, t.fine) → 1 ≤ S.A.length → s < S.A.length → i + ts.length ≤ len2 S.A s → (∀ j, j < ts.length → w2 S.A s (i + j) = 0) → (Nd.lays size ts S s i).full = false → ∀ (B : Nat → Nat), (∀ q, B q ≤ len2 S.A q) → B s ≤ i →
    (∀ q j, j < len2 S.A q → ¬ (q = s ∧ i ≤ j ∧ j < i + ts.length) → w2 (Nd.lays size ts S s i).A q j = w2 S.A q j) ∧ Reps (Nd.lays size ts S s i).A B ts s i
  | [], S, s, i, _, _, _, _, _, _, _, _, _ => ⟨fun _ _ _ _ => rfl, trivial⟩
  | t :: ts, S, s, i, hf, h1, hs, hi, hz, hfull, B, hB, hBs => by
    simp only [List.length_cons] at hi hz
    simp only [Nd.lays] at hfull ⊢
    have hf1 := qR2 hfull
    obtain ⟨k1, r1⟩ := Nd.lay_rep size t S s i (hf t (by simp)) h1 hs (by omega) (by simpa using hz 0 (by omega)) hf1
    have g1 := (Nd.lay_ok size t S s i h1).grew
    obtain ⟨k2, r2⟩ := Nd.lays_rep size ts (t.lay size S s i) s (i + 1) (fun u hu => hf u (by simp [hu])) (Nat.le_trans h1 g1.len) (Nat.lt_of_lt_of_le hs g1.len) (by have := g1.seg s; omega)
      (fun j hj => by rw [k1 s (i + 1 + j) (by omega) (by omega)]; have := hz (j + 1) (by omega); rw [← this]; congr 1; omega) hfull B (fun q => Nat.le_trans (hB q) (g1.seg q)) (by omega)
    have g2 := (Nd.lays_ok size ts (t.lay size S s i) s (i + 1) (Nat.le_trans h1 g1.len)).grew
    refine ⟨fun q j hj hn => ?_, ?_⟩
    · simp only [List.length_cons] at hn
      rw [k2 q j (Nat.lt_of_lt_of_le hj (g1.seg q)) (by omega), k1 q j hj (by omega)]
    · rw [Reps]
      refine ⟨⟨hBs, Rep.keep ⟨g2.len, g2.seg, fun q j h5 h6 => k2 q j h6 ?_⟩ hB t s i (hf t (by simp)) ?_ r1⟩, r2⟩
      · rintro ⟨rfl, h7, h8⟩; omega
      · exact k2 s i (Nat.lt_of_lt_of_le (by omega) (g1.seg s)) (by omega)
end
/-! ### decoding it -/
mutual
def Nd.cst : Nd → Int
  | .mk k z w b ks => 1 + (Nd.mk k z w b ks).need + Nd.cstL ks
def Nd.cstL : List Nd → Int
  | [] => 0
  | t :: ts => t.cst + Nd.cstL ts
end
mutual
theorem Nd.cst_pos : ∀ (t : Nd), 1 ≤ t.cst
  | .mk k z w b ks => by have := Nd.need_nn (.mk k z w b ks); have := Nd.cstL_nn ks; rw [Nd.cst]; omega
theorem Nd.cstL_nn : ∀ (ts : List Nd), 0 ≤ Nd.cstL ts
  | [] => by rw [Nd.cstL]; exact Int.le_refl _
  | t :: ts => by have := Nd.cst_pos t; have := Nd.cstL_nn ts; rw [Nd.cstL]; omega
end
theorem zM2 {f : Int → Int → Int × Nd × Int} {a p r : Int} {n : Nat} {ks : List Nd} (h : zE7 f a p n = (r, ks, 0)) : zE7 f a p (n + 1) = ((f (a + (n : Int)) r).1, ks ++ [(f (a + (n : Int)) r).2.1], (f (a + (n : Int)) r).2.2) := by
  rw [zE7, h, if_neg (by simp)]
theorem qC6 {f : Int → Int → Int × Nd × Int} {a p p1 : Int} {t : Nd} (h : f a p = (p1, t, 0)) : ∀ (n : Nat) (p2 : Int) (ts : List Nd), zE7 f (a + 1) p1 n = (p2, ts, 0) → zE7 f a p (n + 1) = (p2, t :: ts, 0)
  | 0, p2, ts, hk => by
    simp only [zE7, Prod.mk.injEq] at hk
    obtain ⟨rfl, rfl, -⟩ := hk
    rw [zM2 (show zE7 f a p 0 = (p, [], 0) from rfl), show a + ((0 : Nat) : Int) = a from by omega, h]
    rfl
  | n + 1, p2, ts, hk => by
    by_cases h0 : (zE7 f (a + 1) p1 n).2.2 ≠ 0
    · rw [zE7, if_pos h0] at hk; rw [hk] at h0; exact absurd rfl h0
    · have hr : zE7 f (a + 1) p1 n = ((zE7 f (a + 1) p1 n).1, (zE7 f (a + 1) p1 n).2.1, 0) := Prod.ext rfl (Prod.ext rfl (by simpa using h0))
      rw [zM2 hr] at hk
      have ih := qC6 h n _ _ hr
      rw [zM2 ih, show a + ((n + 1 : Nat) : Int) = a + 1 + (n : Int) from by omega]
      simp only [Prod.mk.injEq] at hk
      obtain ⟨h4, h5, h6⟩ := hk
      rw [h4, h6, ← h5]
      rfl
theorem qW0 {s : Src} {seg a x : Int} {p : Pt} (hx : Says x p) (h0 : s.word seg a = (x, 0)) (hn : zH0 p = true) (he : zG2 (objP p seg (a + 1 + p.off)).pt = 0) (hw : zE5 s.sizes seg (a + 1 + p.off) (zE9 (objP p seg (a + 1 + p.off)).pt) = true) : zA0 s seg a = (objP p seg (a + 1 + p.off), 0) := by
  have hp := qA2 hx h0
  have e1 : (ptrS s seg a).1 = p := by rw [hp]
  have e2 : (ptrS s seg a).2 = 0 := by rw [hp]
  unfold zA0
  rw [e1, e2]
  refine (if_neg ?_).trans ((if_pos hn).trans ?_)
  · have : p.kind = 1 ∨ p.kind = 2 := by simpa [zH0] using hn
    omega
  · unfold zA9
    rw [he, hw]
    rfl
theorem qW1 {s : Src} {seg a x y q pd : Int} {p : Pt} (hy : Says y ⟨3, pd, 0, 0, 0, 0, q, false⟩) (h0 : s.word seg a = (y, 0)) (hx : Says x p) (h1 : s.word q pd = (x, 0)) (hn : zH0 p = true) (he : zG2 (objP p q (pd + 1 + p.off)).pt = 0) (hw : zE5 s.sizes q (pd + 1 + p.off) (zE9 (objP p q (pd + 1 + p.off)).pt) = true) : zA0 s seg a = (objP p q (pd + 1 + p.off), 0) := by
  have hp := qA2 hy h0
  have hq := qA2 hx h1
  have e1 : (ptrS s seg a).1 = ⟨3, pd, 0, 0, 0, 0, q, false⟩ := by rw [hp]
  have e2 : (ptrS s seg a).2 = 0 := by rw [hp]
  have f1 : (ptrS s q pd).1 = p := by rw [hq]
  have f2 : (ptrS s q pd).2 = 0 := by rw [hq]
  unfold zA0
  rw [e1, e2]
  refine (if_neg (by simp)).trans ((if_neg (by simp [zH0])).trans ((if_neg (by simp)).trans ?_))
  unfold zC4
  show (if (ptrS s q pd).2 ≠ 0 then _ else if zH0 (ptrS s q pd).1 = false then _ else _) = _
  rw [f1, f2]
  refine (if_neg (by decide)).trans ((if_neg (by rw [hn]; decide)).trans ?_)
  unfold zA9
  show (if zG2 (objP p q (pd + 1 + p.off)).pt ≠ 0 then _ else if zE5 s.sizes q (pd + 1 + p.off) _ = false then _ else _) = _
  rw [he, hw]
  rfl
theorem qA7 (t : Nd) (off q a : Int) : objP (t.ptr off) q a = objP (t.ptr 0) q a := by
  cases t with
  | mk k z w b ks =>
    simp only [Nd.ptr]
    split
    · rfl
    · split <;> rfl
theorem qC7 {k z : Int} {w b : List Int} {ks : List Nd} {q a : Int} (h : Own2 k z w b ks q a) : zG2 (objP ((Nd.mk k z w b ks).ptr 0) q a).pt = 0 ∧ zE9 (objP ((Nd.mk k z w b ks).ptr 0) q a).pt = (Nd.mk k z w b ks).need ∧ zC8 (objP ((Nd.mk k z w b ks).ptr 0) q a) = (Nd.mk k z w b ks).need ∧
    kidN (objP ((Nd.mk k z w b ks).ptr 0) q a) = ks.length ∧ (ks = [] ∨ kidA (objP ((Nd.mk k z w b ks).ptr 0) q a) = a + ((w ++ zC7 b).length : Nat)) := by
  have key : ∀ (o : Ob) (n : Int), o.kind ≠ 3 → zG2 o.pt = 0 → zE9 o.pt = n → zG2 o.pt = 0 ∧ zE9 o.pt = n ∧ zC8 o = n := by
    intro o n h3 h1 h2
    exact ⟨h1, h2, by unfold zC8; rw [if_neg h3, h2]⟩
  cases h with
  | st h1 h2 h3 h4 h5 h6 =>
    rw [h4, h5]
    have := key ⟨1, q, a, w.length, ks.length, 0, 0⟩ ((w.length : Int) + ks.length) (by simp) (by rw [qA6, zU2]; rfl) (by rw [qA5, zR6, if_neg (by simp), if_pos rfl, zH2 (by simp only [inR]; omega)])
    refine ⟨this.1, this.2.1, this.2.2, rfl, ?_⟩
    subst h3
    exact .inr (by simp [kidA, zC7])
  | bt h1 h2 h3 h4 h5 h6 h7 =>
    rw [h5, h6]
    have := key ⟨2, q, a, 0, 0, 2, b.length⟩ (((b.length : Int) + 7) / 8) (by simp) (by rw [qA6, zU2]; rfl) (by
      rw [qA5, zR6, if_neg (by simp), if_neg (by simp), if_neg (by simp), if_pos rfl, if_pos rfl, zH2 (by simp only [inR]; omega : inR .i64 ((b.length : Int) + 8)), zH2 (by simp only [inR]; omega : inR .i64 ((b.length : Int) + 8 - 1)), Int.tdiv_eq_ediv_of_nonneg (by omega), zH2 (by simp only [inR]; omega : inR .i64 (((b.length : Int) + 8 - 1) / 8))]
      congr 1
      omega)
    subst h3; subst h4
    exact ⟨this.1, this.2.1, this.2.2, rfl, .inl rfl⟩
  | wd h1 h2 h3 h4 h5 h6 h7 =>
    rw [h5, h6]
    have := key ⟨2, q, a, 0, 0, 5, w.length⟩ (w.length : Int) (by simp) (by rw [qA6, zU2]; rfl) (by rw [qA5, zR6]; rfl)
    subst h3; subst h4
    exact ⟨this.1, this.2.1, this.2.2, rfl, .inl rfl⟩
  | pt h1 h2 h3 h4 h5 h6 h7 =>
    rw [h5, h6]
    have := key ⟨2, q, a, 0, 0, 6, ks.length⟩ (ks.length : Int) (by simp) (by rw [qA6, zU2]; rfl) (by rw [qA5, zR6]; rfl)
    subst h3; subst h4
    exact ⟨this.1, this.2.1, this.2.2, rfl, .inr (by simp [kidA, zC7])⟩
/-! ### words and bytes as they lie -/
mutual
def Nd.u8 : Nd → Prop
  | .mk _ _ _ b ks => (∀ x ∈ b, inR .u8 x) ∧ Nd.u8L ks
def Nd.u8L : List Nd → Prop
  | [] => True
  | t :: ts => t.u8 ∧ Nd.u8L ts
end
mutual
theorem NodeR.u8 {w : World} : ∀ {c : List Value} {t : Nd}, NodeR w c t → t.u8
  | _, _, .mk h1 h2 h3 h4 h5 h6 h7 h8 => ⟨h6, KidsR.u8 h8⟩
theorem KidsR.u8 {w : World} : ∀ {c : List Value} {t : List Nd}, KidsR w c t → Nd.u8L t
  | _, _, .nil => trivial
  | _, _, .cons h1 h2 => ⟨NodeR.u8 h1, KidsR.u8 h2⟩
end
theorem yL8 {A : List (List Int)} {q a : Nat} {l : List Int} (hq : q < A.length) (hl : a + l.length ≤ len2 A q) (h : ∀ j, j < l.length → w2 A q (a + j) = l.getD j 0) : zN4 (zB1 A) (q : Int) (a : Int) l.length = l := by
  refine List.ext_getElem (zI2 _ _ _ _) fun j h1 h2 => ?_
  have hw : zG0 A (q : Int) (((a + j : Nat)) : Int) = (w2 A q (a + j), 0) := qC4 hq (by omega)
  simp only [zN4, List.getElem_map, List.getElem_range]
  have e : ((a : Int) + (j : Int)) = ((a + j : Nat) : Int) := by omega
  show (zG0 A q ((a : Int) + (j : Int))).1 = _
  rw [e, hw, h j h2, zE4 h2]
theorem yA7 : ∀ (l : List Int) (i : Nat), i < 8 * l.length → (l.flatMap byt8).getD i 0 = byt1 (l.getD (i / 8) 0) (i % 8)
  | [], i, h => by simp at h
  | x :: l, i, h => by
    rw [List.flatMap_cons, zT0, qM5]
    simp only [List.length_cons] at h
    by_cases hi : 8 ≤ i
    · rw [if_pos hi, yA7 l (i - 8) (by omega), show i / 8 = (i - 8) / 8 + 1 from by omega, List.getD_cons_succ, show (i - 8) % 8 = i % 8 from by omega]
    · rw [if_neg hi, show i / 8 = 0 from by omega, List.getD_cons_zero, show i % 8 = i from by omega]
      have hl : i < (byt8 x).length := by rw [qM5]; omega
      rw [zE4 hl]
      simp [byt8]
theorem zV9 (b : List Int) : (zC7 b).length = (b.length + 7) / 8 := by simp [zC7]
theorem qR3 {b : List Int} (hb : isU8 b) : ((zC7 b).flatMap byt8).take b.length = b := by
  have hl : ((zC7 b).flatMap byt8).length = 8 * ((b.length + 7) / 8) := by rw [qH2, zV9]
  refine List.ext_getElem (by rw [List.length_take, hl]; omega) fun i h1 h2 => ?_
  have h3 : i < ((zC7 b).flatMap byt8).length := by rw [hl]; omega
  rw [List.getElem_take, ← zE4 h3, yA7 _ _ (by rw [zV9]; omega), ← zE4 h2, ← qV8 hb h2]
  have h4 : i / 8 < (zC7 b).length := by rw [zV9]; omega
  rw [zE4 h4]
  simp only [zC7, List.getElem_map, List.getElem_range, byt1]
  rw [show (2 : Int) ^ (8 * (i % 8)) = 256 ^ (i % 8) from by rw [← jB0, Nat.mul_comm]]
theorem yL9 {A : List (List Int)} {k z : Int} {w b : List Int} {ks : List Nd} {q a : Nat} (h : Own2 k z w b ks q a) (hb : isU8 b) (hq : q < A.length) (hl : a + (w ++ zC7 b).length ≤ len2 A q) (hw : ∀ j, j < (w ++ zC7 b).length → w2 A q (a + j) = (w ++ zC7 b).getD j 0) :
    nodL (zB1 A) (objP ((Nd.mk k z w b ks).ptr 0) q a) = w ∧ nodB (zB1 A) (objP ((Nd.mk k z w b ks).ptr 0) q a) = b ∧ (objP ((Nd.mk k z w b ks).ptr 0) q a).kind = k ∧ (objP ((Nd.mk k z w b ks).ptr 0) q a).size = z := by
  have all := yL8 hq hl hw
  cases h with
  | st h1 h2 h3 h4 h5 h6 =>
    subst h3
    rw [h4]
    simp only [zC7, List.length_nil, Nat.zero_add, Nat.reduceDiv, List.range_zero, List.map_nil, List.append_nil] at all
    exact ⟨all, rfl, h1.symm, h2.symm⟩
  | bt h1 h2 h3 h4 h5 h6 h7 =>
    subst h3
    rw [h5]
    simp only [List.nil_append] at all
    rw [zV9] at all
    refine ⟨rfl, ?_, h1.symm, h2.symm⟩
    show qH1 (zB1 A) q a ((b.length : Int)).toNat = b
    rw [Int.toNat_natCast, qH1, all, qR3 hb]
  | wd h1 h2 h3 h4 h5 h6 h7 =>
    subst h3
    rw [h5]
    simp only [zC7, List.length_nil, Nat.zero_add, Nat.reduceDiv, List.range_zero, List.map_nil, List.append_nil] at all
    exact ⟨all, rfl, h1.symm, h2.symm⟩
  | pt h1 h2 h3 h4 h5 h6 h7 =>
    subst h3; subst h4
    rw [h5]
    exact ⟨rfl, rfl, h1.symm, h2.symm⟩
theorem qW2 (t : Nd) (off : Int) : (t.ptr off).off = off := by
  cases t with
  | mk k z w b ks =>
    simp only [Nd.ptr]
    split
    · rfl
    · split <;> rfl
theorem qN1 {k z : Int} {w b : List Int} {ks : List Nd} {q a : Int} (h : Own2 k z w b ks q a) (off : Int) : zH0 ((Nd.mk k z w b ks).ptr off) = true := by
  have hk : k = 1 ∨ k = 2 := by cases h <;> simp [*]
  have : ((Nd.mk k z w b ks).ptr off).kind = k := by
    simp only [Nd.ptr]
    split
    · rfl
    · split <;> rfl
  simp [zH0, this, hk]
theorem yM0 {k z : Int} {w b : List Int} {ks : List Nd} {q a : Int} (h : Own2 k z w b ks q a) {off : Int} (h0 : -5000 ≤ off) (h1 : off ≤ 5000) (hz : (Nd.mk k z w b ks).need = 0 → k = 1 → off ≠ 0) : okP ((Nd.mk k z w b ks).ptr off) := by
  cases h with
  | st h2 h3 h4 h5 h6 h7 =>
    have hp : (Nd.mk k z w b ks).ptr off = ⟨1, off, w.length, ks.length, 0, 0, 0, false⟩ := by simp [Nd.ptr, h2]
    rw [hp]
    exact .inl ⟨rfl, by simp only []; omega, by simp only []; omega, by simp only []; omega, by simp only []; omega, by simp only []; omega, by simp only []; omega, by
      rintro ⟨g1, g2, g3⟩
      simp only [] at g1 g2 g3
      exact hz (by omega) h2 g1⟩
  | bt h2 h3 h4 h5 h6 h7 h8 =>
    have hp : (Nd.mk k z w b ks).ptr off = ⟨2, off, 0, 0, 2, b.length, 0, false⟩ := by simp [Nd.ptr, h2, h3, h4, h5]
    rw [hp]
    exact .inr (.inl ⟨rfl, by simp only []; omega, by simp only []; omega, by simp, by simp, by simp only []; omega, by simp only []; omega⟩)
  | wd h2 h3 h4 h5 h6 h7 h8 =>
    have hp : (Nd.mk k z w b ks).ptr off = ⟨2, off, 0, 0, 5, w.length, 0, false⟩ := by simp [Nd.ptr, h2, h3, h4, h5]
    rw [hp]
    exact .inr (.inl ⟨rfl, by simp only []; omega, by simp only []; omega, by simp, by simp, by simp only []; omega, by simp only []; omega⟩)
  | pt h2 h3 h4 h5 h6 h7 h8 =>
    have hp : (Nd.mk k z w b ks).ptr off = ⟨2, off, 0, 0, 6, ks.length, 0, false⟩ := by simp [Nd.ptr, h2, h3, h4, h5]
    rw [hp]
    exact .inr (.inl ⟨rfl, by simp only []; omega, by simp only []; omega, by simp, by simp, by simp only []; omega, by simp only []; omega⟩)
theorem qK9 {A : List (List Int)} {B : Nat → Nat} (hA : A.length ≤ 16) (hl : ∀ q, len2 A q ≤ 4096) {k z : Int} {w b : List Int} {ks : List Nd} (ho : (Nd.mk k z w b ks).own = true) (hk : ¬ k = 0) {s i q a : Nat} (hs : s < A.length) (hi : i < len2 A s) (hp : Pts A B (.mk k z w b ks) s i q a) (hq : q < A.length)
    (hz : (Nd.mk k z w b ks).need = 0 → k = 1 → q = s ∧ a = i) (hlen : a + (Nd.mk k z w b ks).need.toNat ≤ len2 A q) : zA0 (zB1 A) (s : Int) (i : Int) = (objP ((Nd.mk k z w b ks).ptr 0) q a, 0) := by
  obtain ⟨hkd, hlw, hlb, hlk, hnn, hnm, hkn, hb1⟩ := Nd.own_b ho
  have h2 := own2 ho hk (q : Int) (a : Int)
  obtain ⟨e1, e2, e3, e4, e5⟩ := qC7 h2
  have hlq := hl q
  have hls := hl s
  have hwi : zE5 (zB1 A).sizes (q : Int) (a : Int) (Nd.mk k z w b ks).need = true := by
    have hg : (zB1 A).sizes.getD q 0 = (len2 A q : Int) := by
      rw [zE4 (by simpa [zB1] using hq)]
      simp only [zB1, List.getElem_map, len2]
      rw [zE4 hq]
    unfold zE5 zJ2
    rw [Int.toNat_natCast, hg]
    simp only [Bool.and_eq_true, decide_eq_true_eq, zB1, List.length_map]
    omega
  rcases hp with ⟨rfl, hw⟩ | ⟨p, hne0, hpa, hBp, hpl, hw, hw2⟩
  · have hword : (zB1 A).word (q : Int) (i : Int) = (encR ((Nd.mk k z w b ks).ptr ((a : Int) - i - 1)), 0) := by
      have := qC4 hs hi
      show zG0 A _ _ = _
      rw [this]
      exact congrArg (fun x => (x, (0 : Int))) hw
    have hsay := qF3 (yM0 h2 (off := (a : Int) - i - 1) (by omega) (by omega) (fun g1 g2 => by have := (hz g1 g2).2; omega))
    have hat : (i : Int) + 1 + ((Nd.mk k z w b ks).ptr ((a : Int) - i - 1)).off = (a : Int) := by rw [qW2]; omega
    have := qW0 hsay hword (qN1 h2 _) (by rw [hat, qA7, e1]) (by rw [hat, qA7, e2]; exact hwi)
    rw [this, hat, qA7]
  · have hword : (zB1 A).word (s : Int) (i : Int) = (encR ⟨3, (p : Int), 0, 0, 0, 0, (q : Int), false⟩, 0) := by
      have := qC4 hs hi
      show zG0 A _ _ = _
      rw [this]
      exact congrArg (fun x => (x, (0 : Int))) hw
    have hword2 : (zB1 A).word (q : Int) (p : Int) = (encR ((Nd.mk k z w b ks).ptr 0), 0) := by
      have := qC4 hq hpl
      show zG0 A _ _ = _
      rw [this]
      exact congrArg (fun x => (x, (0 : Int))) hw2
    have hsay := qF3 (yM0 h2 (off := 0) (by omega) (by omega) (fun g1 _ => absurd g1 hne0))
    have hfar : Says (encR ⟨3, (p : Int), 0, 0, 0, 0, (q : Int), false⟩) ⟨3, (p : Int), 0, 0, 0, 0, (q : Int), false⟩ := qF3 (.inr (.inr (.inl ⟨rfl, by simp only []; omega, by simp only []; omega, by simp only []; omega, by simp only []; omega⟩)))
    have hat : (p : Int) + 1 + ((Nd.mk k z w b ks).ptr 0).off = (a : Int) := by rw [qW2]; omega
    have := qW1 hfar hword hsay hword2 (qN1 h2 _) (by rw [hat, e1]) (by rw [hat, e2]; exact hwi)
    rw [this, hat]
mutual
/-- What lies as it should is decoded as it is. -/
theorem qW3 {A : List (List Int)} {B : Nat → Nat} (hA : A.length ≤ 16) (hl : ∀ q, len2 A q ≤ 4096) : ∀ (t : Nd) (s i d : Nat) (p : Int), t.right d = true → t.u8 → Rep A B t s i → 0 ≤ p → p + t.cst ≤ 8192 → zG6 (zB1 A) d (s : Int) (i : Int) p = (p + t.cst, t, 0)
  | .mk k z w b ks, s, i, d, p, hr, hu, h, h0, h1 => by
    have hfine : (Nd.mk k z w b ks).fine := ⟨d, hr⟩
    have ho := Nd.fine_own hfine
    rw [Rep] at h
    obtain ⟨hi, hs, h⟩ := h
    rw [Nd.cst] at h1 ⊢
    have hcl := Nd.cstL_nn ks
    have hnn := Nd.need_nn (.mk k z w b ks)
    simp only [Nd.right, Bool.and_eq_true, Bool.not_eq_true', Bool.and_eq_false_iff, decide_eq_false_iff_not] at hr
    obtain ⟨⟨-, hr2⟩, hr3⟩ := hr
    rw [qF2]
    by_cases hk : k = 0
    · rw [if_pos hk] at h
      have hks : ks = [] := qE8 ho (by omega)
      have hf : zA0 (zB1 A) (s : Int) (i : Int) = (Ob0, 0) := by
        have hw := qC4 hs hi
        have hw' : zG0 A (s : Int) (i : Int) = (0, 0) := by rw [hw]; exact congrArg (fun x => (x, (0 : Int))) h
        have hp : ptrS (zB1 A) (s : Int) (i : Int) = (Pt0, 0) := by
          unfold ptrS
          show (if (zG0 A (s : Int) (i : Int)).2 ≠ 0 then _ else (decP (zG0 A (s : Int) (i : Int)).1, decE (zG0 A (s : Int) (i : Int)).1)) = _
          rw [hw']
          rfl
        unfold zA0
        rw [hp]
        exact if_pos (.inr rfl)
      simp only [Nd.own, if_pos hk, Bool.and_eq_true, decide_eq_true_eq] at ho
      have hw0 : w = [] := List.eq_nil_of_length_eq_zero (by omega)
      have hb0 : b = [] := List.eq_nil_of_length_eq_zero (by omega)
      have hz0 : z = 0 := ho.1
      subst hw0; subst hb0; subst hz0; subst hk; subst hks
      have hn0 : (Nd.mk 0 0 [] [] []).need = 0 := rfl
      have hc0 : Nd.cstL [] = 0 := by rw [Nd.cstL]
      rw [hn0, hc0] at h1 ⊢
      unfold qC2
      rw [hf]
      have hw1 : zC8 Ob0 = 0 := rfl
      rw [if_neg (by simp), if_neg (by simp [Ob0]), hw1, if_neg (by omega)]
      rfl
    · rw [if_neg hk] at h
      obtain ⟨q, a, hp, hq, -, hz, hlen, hwd, hreps⟩ := h
      have hbl := zT1 ho hk
      have hf := qK9 hA hl ho hk hs hi hp hq hz hlen
      have h2 := own2 ho hk (q : Int) (a : Int)
      obtain ⟨e1, e2, e3, e4, e5⟩ := qC7 h2
      rw [Nd.u8] at hu
      obtain ⟨f1, f2, f3, f4⟩ := yL9 h2 hu.1 hq (by omega) hwd
      obtain ⟨d1, rfl⟩ : ∃ e, d = e + 1 := ⟨d - 1, by rcases hr2 with h | h <;> omega⟩
      have hkids : zE7 (fun x y => zG6 (zB1 A) d1 (q : Int) x y) (kidA (objP ((Nd.mk k z w b ks).ptr 0) (q : Int) (a : Int))) (p + (1 + (Nd.mk k z w b ks).need)) ks.length = (p + (1 + (Nd.mk k z w b ks).need) + Nd.cstL ks, ks, 0) := by
        rcases e5 with e5 | e5
        · subst e5
          have hc0 : Nd.cstL [] = 0 := by rw [Nd.cstL]
          rw [hc0]
          simp [zE7]
        · rw [e5, show ((a : Int) + (((w ++ zC7 b).length : Nat) : Int)) = ((a + (w ++ zC7 b).length : Nat) : Int) from by omega]
          exact yA8 hA hl ks q _ d1 _ hr3 hu.2 hreps (by omega) (by omega)
      unfold qC2
      rw [hf]
      simp only [] at *
      rw [if_neg (by simp), if_neg (by simp), e3, if_neg (by omega), e4, Int.toNat_natCast]
      have hseg : (objP ((Nd.mk k z w b ks).ptr 0) (q : Int) (a : Int)).seg = q := rfl
      rw [hseg]
      have hF : qH3 (zB1 A) (d1 + 1) (q : Int) = fun x y => zG6 (zB1 A) d1 (q : Int) x y := rfl
      rw [hF, hkids, if_neg (by simp), f1, f2, f3, f4]
      exact Prod.ext (by simp only []; omega) rfl
theorem yA8 {A : List (List Int)} {B : Nat → Nat} (hA : A.length ≤ 16) (hl : ∀ q, len2 A q ≤ 4096) : ∀ (ts : List Nd) (q j d : Nat) (p : Int), Nd.rights ts d = true → Nd.u8L ts → Reps A B ts q j → 0 ≤ p → p + Nd.cstL ts ≤ 8192 → zE7 (fun x y => zG6 (zB1 A) d (q : Int) x y) (j : Int) p ts.length = (p + Nd.cstL ts, ts, 0)
  | [], q, j, d, p, _, _, _, _, _ => by rw [Nd.cstL, Int.add_zero]; rfl
  | t :: ts, q, j, d, p, hr, hu, h, h0, h1 => by
    rw [Nd.cstL] at h1 ⊢
    have hc := Nd.cst_pos t
    have hcl := Nd.cstL_nn ts
    rw [Reps] at h
    simp only [Nd.rights, Bool.and_eq_true] at hr
    rw [Nd.u8L] at hu
    have h2 := qW3 hA hl t q j d p hr.1 hu.1 h.1.2 h0 (by omega)
    have h3 := yA8 hA hl ts q (j + 1) d (p + t.cst) hr.2 hu.2 h.2 (by omega) (by omega)
    rw [List.length_cons, ← Int.add_assoc]
    exact qC6 (f := fun x y => zG6 (zB1 A) d (q : Int) x y) h2 ts.length _ ts h3
end
mutual
theorem Nd.cst_needs : ∀ (t : Nd) (l : Nat), t.right l = true → t.cst ≤ 1 + 2 * t.needs
  | .mk k z w b ks, l, h => by
    simp only [Nd.right, Bool.and_eq_true] at h
    obtain ⟨hkd, hlw, hlb, hlk, hnn, hnm, hkn, hb1⟩ := Nd.own_b h.1.1
    have hk := Nd.cstL_needs ks _ h.2
    have h0 : (ks.length : Int) ≤ (Nd.mk k z w b ks).need := by
      by_cases hk0 : k = 0
      · have hks : ks = [] := qE8 h.1.1 (by omega)
        subst hks; simpa using hnn
      · exact hkn hk0
    rw [Nd.cst, Nd.needs]
    omega
theorem Nd.cstL_needs : ∀ (ts : List Nd) (l : Nat), Nd.rights ts l = true → Nd.cstL ts ≤ ts.length + 2 * Nd.needsL ts
  | [], _, _ => by simp [Nd.cstL, Nd.needsL]
  | t :: ts, l, h => by
    simp only [Nd.rights, Bool.and_eq_true] at h
    have h1 := Nd.cst_needs t l h.1
    have h2 := Nd.cstL_needs ts l h.2
    rw [Nd.cstL, Nd.needsL, List.length_cons]
    omega
end
theorem yQ8 {t : Nd} {size : Int} (hu : t.u8) (hn : t.needs ≤ 4000) (h : (t.build size).2 = 0) : zG6 (zB1 (t.build size).1) 32 0 0 0 = (t.cst, t, 0) := by
  have hfit := Nd.build_fit h
  unfold Nd.build at h hfit ⊢
  by_cases h1 : size < 1 ∨ size > 4096 ∨ t.right 32 = false
  · rw [if_pos h1] at h; exact absurd h (by decide)
  · rw [if_neg h1] at h hfit ⊢
    have hr : t.right 32 = true := by
      cases hc : t.right 32 with
      | true => rfl
      | false => exact absurd (.inr (.inr hc)) h1
    by_cases h2 : (t.lay size ⟨[[0]], false⟩ 0 0).full = true
    · rw [if_pos h2] at h; exact absurd h (by decide)
    · rw [if_neg h2] at h hfit ⊢
      obtain ⟨-, hrep⟩ := Nd.lay_rep size t ⟨[[0]], false⟩ 0 0 ⟨32, hr⟩ (by simp) (by simp) (by simp [len2]) (by simp [w2]) (by simpa using h2)
      have hc := Nd.cst_needs t 32 hr
      have hs4 : size ≤ 4096 := by omega
      replace hfit : Fit size (t.lay size ⟨[[0]], false⟩ 0 0).A := hfit
      have := qW3 (A := (t.lay size ⟨[[0]], false⟩ 0 0).A) hfit.most (fun q => by have := hfit.seg q; omega) t 0 0 32 0 hr hu hrep (by omega) (by omega)
      rw [Int.zero_add] at this
      exact this
/-! ### what is built are words -/
def AllU (A : List (List Int)) : Prop := ∀ q ∈ A, ∀ x ∈ q, inR .u64 x
mutual
def Nd.u64 : Nd → Prop
  | .mk _ _ w _ ks => (∀ x ∈ w, inR .u64 x) ∧ Nd.u64L ks
def Nd.u64L : List Nd → Prop
  | [] => True
  | t :: ts => t.u64 ∧ Nd.u64L ts
end
mutual
theorem NodeR.u64 {w : World} : ∀ {c : List Value} {t : Nd}, NodeR w c t → t.u64
  | _, _, .mk h1 h2 h3 h4 h5 h6 h7 h8 => ⟨h4, KidsR.u64 h8⟩
theorem KidsR.u64 {w : World} : ∀ {c : List Value} {t : List Nd}, KidsR w c t → Nd.u64L t
  | _, _, .nil => trivial
  | _, _, .cons h1 h2 => ⟨NodeR.u64 h1, KidsR.u64 h2⟩
end
theorem AllU.getD {A : List (List Int)} (h : AllU A) (s : Nat) : ∀ x ∈ A.getD s [], inR .u64 x := by
  by_cases hs : s < A.length
  · rw [zE4 hs]; exact h _ (List.getElem_mem hs)
  · rw [List.getD_eq_getElem?_getD, List.getElem?_eq_none (by omega)]; intro x hx; simp at hx
theorem AllU.set {A : List (List Int)} (h : AllU A) (s i : Nat) {x : Int} (hx : inR .u64 x) : AllU (setP A s i x) := by
  intro q hq y hy
  rcases List.mem_or_eq_of_mem_set hq with hq | rfl
  · exact h q hq y hy
  · rcases List.mem_or_eq_of_mem_set hy with hy | rfl
    · exact h.getD s y hy
    · exact hx
theorem AllU.growB {A : List (List Int)} (h : AllU A) (q : Nat) : AllU (growB A q) := by
  unfold K.growB
  split
  · intro p hp y hy
    rcases List.mem_append.1 hp with hp | hp
    · exact h p hp y hy
    · simp only [List.mem_singleton] at hp; subst hp; simp at hy
  · exact h
theorem AllU.grow {A : List (List Int)} (h : AllU A) (q : Nat) {l : List Int} (hl : ∀ x ∈ l, inR .u64 x) : AllU (zL1 A q l) := by
  intro p hp y hy
  unfold zL1 at hp
  rcases List.mem_or_eq_of_mem_set hp with hp | rfl
  · exact (h.growB q) p hp y hy
  · rcases List.mem_append.1 hy with hy | hy
    · exact (h.growB q).getD q y hy
    · exact hl y hy
theorem qW4 {k z : Int} {w b : List Int} {ks : List Nd} (hw : ∀ x ∈ w, inR .u64 x) (hb : isU8 b) : ∀ x ∈ (Nd.mk k z w b ks).content, inR .u64 x := by
  intro x hx
  simp only [Nd.content, List.mem_append, zC7, List.mem_map, List.mem_replicate] at hx
  rcases hx with (hx | ⟨j, -, rfl⟩) | ⟨-, rfl⟩
  · exact hw x hx
  · have := qQ9 hb j
    simp only [inR]; omega
  · simp [inR]
theorem yM1 (size : Int) (t : Nd) (S : Lay) (s i : Nat) (h : AllU S.A) : AllU (zC5 size t S s i).S.A := by
  have h1 : ∀ x ∈ [t.near 0], inR .u64 x := fun x hx => by simp only [List.mem_singleton] at hx; subst hx; exact qA3 _
  unfold zC5
  split
  · exact h.set _ _ (qA3 _)
  · split
    · exact (h.set _ _ (qA3 _)).grow _ h1
    · exact (h.set _ _ (qA3 _)).grow _ h1
mutual
theorem yM2 (size : Int) : ∀ (t : Nd) (S : Lay) (s i : Nat), t.u64 → t.u8 → AllU S.A → AllU (t.lay size S s i).A
  | .mk k z w b ks, S, s, i, hw, hb, h => by
    rw [Nd.u64] at hw
    rw [Nd.u8] at hb
    simp only [Nd.lay]
    split
    · exact h
    · split
      · exact h.set _ _ (qA3 _)
      · exact yA9 size ks _ _ _ hw.2 hb.2 ((yM1 size _ S s i h).grow _ (qW4 hw.1 hb.1))
theorem yA9 (size : Int) : ∀ (ts : List Nd) (S : Lay) (s i : Nat), Nd.u64L ts → Nd.u8L ts → AllU S.A → AllU (Nd.lays size ts S s i).A
  | [], S, s, i, _, _, h => h
  | t :: ts, S, s, i, hw, hb, h => by
    rw [Nd.u64L] at hw
    rw [Nd.u8L] at hb
    simp only [Nd.lays]
    exact yA9 size ts _ _ _ hw.2 hb.2 (yM2 size t S s i hw.1 hb.1 h)
end
theorem yM3 {t : Nd} (size : Int) (hw : t.u64) (hb : t.u8) : ∀ q ∈ (t.build size).1, ∀ x ∈ q, inR .u64 x := by
  unfold Nd.build
  split
  · intro q hq; simp at hq
  · split
    · intro q hq; simp at hq
    · refine yM2 size t _ 0 0 hw hb ?_
      intro q hq x hx
      simp only [List.mem_singleton] at hq
      subst hq
      simp only [List.mem_singleton] at hx
      subst hx
      simp [inR]
theorem qW5 {t : Nd} {size : Int} (h : (t.build size).2 = 0) : zD9 (t.build size).1 = true := by
  have hf := Nd.build_fit h
  have h0 : 1 ≤ len2 (t.build size).1 0 := by
    unfold Nd.build at h ⊢
    by_cases h1 : size < 1 ∨ size > 4096 ∨ t.right 32 = false
    · rw [if_pos h1] at h; exact absurd h (by decide)
    · rw [if_neg h1] at h ⊢
      by_cases h2 : (t.lay size ⟨[[0]], false⟩ 0 0).full = true
      · rw [if_pos h2] at h; exact absurd h (by decide)
      · rw [if_neg h2]
        exact Nat.le_trans (by decide : 1 ≤ len2 [[0]] 0) ((Nd.lay_ok size t ⟨[[0]], false⟩ 0 0 (by simp)).grew.seg 0)
  unfold zD9
  exact decide_eq_true ⟨hf.one, hf.most, h0, hf.all⟩
theorem yM4 {t : Nd} {size : Int} (hu : t.u8) (hn : t.needs ≤ 4000) (h : (t.build size).2 = 0) : decT (t.build size).1 = (t, 0) := by
  unfold decT
  rw [qW5 h, if_neg (by simp), yQ8 hu hn h]
/-! ### chunks of an arena, as words -/
theorem yB0 : ∀ (A : List (List Int)), ((A.flatten.length : Nat) : Int) = zC1 A
  | [] => rfl
  | s :: A => by have := yB0 A; rw [List.flatten_cons, List.length_append]; simp only [zC1]; omega
theorem qW6 {A : List (List Int)} (h : zD9 A = true) : qA4 (zC0 A) = A.flatten.length ∧ 1 ≤ yL7 (zC0 A) := by
  have hf : zL5 (zC0 A) = true := by rw [qC5]; exact h
  have h1 := qK8 hf
  rw [zV8] at h1
  have h2 := yB0 A
  have hc : yL7 (zC0 A) = (qA4 (zC0 A) + 7) / 8 := rfl
  omega
/-! ### the chapter's example -/
/-! ### what law12.Arena makes of choices -/
section
variable {s s' : Src}
end
/-! ### the words of an arena, one behind the other -/
theorem yB1 : ∀ (A : List (List Int)) (i j : Nat), i < A.length → j < len2 A i → (A.flatten).getD (j + (zC1 (A.take i)).toNat) 0 = (A.getD i []).getD j 0
  | [], i, j, h, _ => by simp at h
  | s :: A, 0, j, _, hj => by
    simp only [len2, List.getD_cons_zero] at hj
    simp only [List.take_zero, zC1, Int.toNat_zero, Nat.add_zero, List.flatten_cons, List.getD_cons_zero]
    rw [List.getD_eq_getElem?_getD, List.getD_eq_getElem?_getD, List.getElem?_append_left hj]
  | s :: A, i + 1, j, h, hj => by
    have hj' : j < len2 A i := by simpa [len2] using hj
    have ih := yB1 A i j (by simpa using h) hj'
    have hn := zO7 (A.take i)
    simp only [List.take_succ_cons, zC1, List.flatten_cons, List.getD_cons_succ]
    rw [← ih, List.getD_eq_getElem?_getD, List.getD_eq_getElem?_getD, List.getElem?_append_right (by omega), show j + ((s.length : Int) + zC1 (A.take i)).toNat - s.length = j + (zC1 (A.take i)).toNat from by omega]
theorem qW7 {A : List (List Int)} (h : zD9 A = true) (seg a : Int) : (zF7 (zC0 A) seg a < 0 ∧ zG0 A seg a = (0, 20)) ∨ ∃ k : Nat, zF7 (zC0 A) seg a = (k : Int) ∧ k < A.flatten.length ∧ zG0 A seg a = (A.flatten.getD k 0, 0) := by
  have hf : zL5 (zC0 A) = true := by rw [qC5]; exact h
  have hsl := zK2 A
  have hg := zO9 A seg.toNat
  by_cases hc : 0 ≤ seg ∧ seg < A.length ∧ 0 ≤ a ∧ a < len2 A seg.toNat
  · right
    have hp : zF7 (zC0 A) seg a = a + sumL ((zC0 A).take seg.toNat) := by unfold zF7; rw [if_pos ⟨hf, by omega, by omega, by omega, by omega⟩]
    have hst : sumL ((zC0 A).take seg.toNat) = zC1 (A.take seg.toNat) := by
      rw [← zV8]; unfold zC0; rw [List.map_take]
    have hn := zO7 (A.take seg.toNat)
    have hfg := yB1 A seg.toNat a.toNat (by omega) (by omega)
    have hl := (qR1 (sz := zC0 A) (seg := seg) (a := a) (by omega)).2.2.2.2.2.2
    have hw := (qW6 h).1
    refine ⟨a.toNat + (zC1 (A.take seg.toNat)).toNat, by omega, by omega, ?_⟩
    unfold zG0
    rw [if_pos hc, hfg]
  · left
    refine ⟨?_, by unfold zG0; rw [if_neg hc]⟩
    unfold zF7
    rw [if_neg (by omega)]
    decide
abbrev Spn := Int × Int
def encS (s : Spn) : List Value := [.int .i64 s.1, .int .i64 s.2]
def encL (L : List Spn) : List Value := L.flatMap encS
theorem zJ5 (L : List Spn) : (encL L).length = L.length * 2 := by
  induction L with
  | nil => rfl
  | cons s L ih => simp only [encL, List.flatMap_cons, List.length_append, List.length_cons] at ih ⊢; rw [ih]; simp [encS]; omega
theorem zJ8 (A B : List Spn) : encL (A ++ B) = encL A ++ encL B := by simp [encL]
theorem qW8 : ∀ {L : List Spn} {i : Nat} (h : i < L.length), ((encL L).drop (i * 2)).take 2 = encS L[i]
  | [], i, h => by simp at h
  | s :: L, 0, _ => by simp [encL, encS]
  | s :: L, i + 1, h => by
    have := qW8 (L := L) (i := i) (by simpa using h)
    rw [show (i + 1) * 2 = i * 2 + 1 + 1 from by omega]
    simpa [encL, encS] using this
theorem yQ9 {L : List Spn} : ∀ q ∈ encL L, q.oneCell' = true := by
  intro q hq
  obtain ⟨s, -, h⟩ := List.mem_flatMap.1 hq
  simp only [encS, List.mem_cons, List.not_mem_nil, or_false] at h
  rcases h with rfl | rfl <;> rfl
def zT2 (s : Spn) : Bool := decide (s.2 ≤ s.1)
def inS (L : List Spn) (n : Int) : Prop := ∃ s ∈ L, s.1 ≤ n ∧ n < s.2
theorem qW9 (n : Int) : ¬ inS [] n := fun ⟨_, h, _⟩ => by simp at h
theorem zJ7 (s : Spn) (L : List Spn) (n : Int) : inS (s :: L) n ↔ (s.1 ≤ n ∧ n < s.2) ∨ inS L n := by simp [inS]
theorem qL0 (A B : List Spn) (n : Int) : inS (A ++ B) n ↔ inS A n ∨ inS B n := by
  unfold inS
  constructor
  · rintro ⟨s, h, h2⟩
    rcases List.mem_append.1 h with h | h
    · exact .inl ⟨s, h, h2⟩
    · exact .inr ⟨s, h, h2⟩
  · rintro (⟨s, h, h2⟩ | ⟨s, h, h2⟩)
    · exact ⟨s, List.mem_append_left _ h, h2⟩
    · exact ⟨s, List.mem_append_right _ h, h2⟩
theorem yB2 {A B : List Spn} (h : A.Perm B) (n : Int) : inS A n ↔ inS B n := by
  unfold inS
  constructor
  · rintro ⟨s, hs, h2⟩; exact ⟨s, h.mem_iff.1 hs, h2⟩
  · rintro ⟨s, hs, h2⟩; exact ⟨s, h.mem_iff.2 hs, h2⟩
theorem yF5 (L : List Spn) (n : Int) : inS (L.filter fun s => !zT2 s) n ↔ inS L n := by
  unfold inS
  constructor
  · rintro ⟨s, hs, h2⟩; exact ⟨s, (List.mem_filter.1 hs).1, h2⟩
  · rintro ⟨s, hs, h2⟩
    exact ⟨s, List.mem_filter.2 ⟨hs, by simp only [zT2, Bool.not_eq_true', decide_eq_false_iff_not]; omega⟩, h2⟩
def zQ2 : List Spn → Prop
  | [] => True
  | s :: L => s.1 < s.2 ∧ (∀ t ∈ L, s.2 < t.1) ∧ zQ2 L
theorem zQ2.lo : ∀ {L : List Spn} {s : Spn}, zQ2 (s :: L) → ∀ n, inS (s :: L) n → s.1 ≤ n
  | L, s, ⟨h1, h2, h3⟩, n, h => by
    rcases (zJ7 s L n).1 h with h | ⟨t, ht, h4, h5⟩
    · exact h.1
    · have := h2 t ht; omega
theorem qL1 : ∀ (A B : List Spn), zQ2 A → zQ2 B → (∀ n, inS A n ↔ inS B n) → A = B
  | [], [], _, _, _ => rfl
  | [], t :: B, _, hB, h => absurd ((h t.1).2 ⟨t, by simp, Int.le_refl _, hB.1⟩) (qW9 _)
  | s :: A, [], hA, _, h => absurd ((h s.1).1 ⟨s, by simp, Int.le_refl _, hA.1⟩) (qW9 _)
  | s :: A, t :: B, hA, hB, h => by
    have h1 : s.1 = t.1 := by
      have g1 := hB.lo s.1 ((h s.1).1 ⟨s, by simp, Int.le_refl _, hA.1⟩)
      have g2 := hA.lo t.1 ((h t.1).2 ⟨t, by simp, Int.le_refl _, hB.1⟩)
      omega
    have key : ∀ {s t : Spn} {A B : List Spn}, zQ2 (s :: A) → zQ2 (t :: B) → (∀ n, inS (s :: A) n ↔ inS (t :: B) n) → s.1 = t.1 → t.2 ≤ s.2 := by
      intro s t A B hA hB h h1
      by_cases hlt : s.2 < t.2
      · exfalso
        have g := (h s.2).2 ⟨t, by simp, by have := hA.1; omega, hlt⟩
        rcases (zJ7 s A s.2).1 g with g | ⟨u, hu, g1, g2⟩
        · omega
        · have := hA.2.1 u hu; omega
      · omega
    have h2 : s.2 = t.2 := by
      have g1 := key hA hB h h1
      have g2 := key hB hA (fun n => (h n).symm) h1.symm
      omega
    have h3 : s = t := Prod.ext h1 h2
    subst h3
    congr 1
    refine qL1 A B hA.2.2 hB.2.2 fun n => ?_
    have g := h n
    rw [zJ7, zJ7] at g
    constructor
    · intro hn
      obtain ⟨u, hu, g1, g2⟩ := hn
      have g3 := hA.2.1 u hu
      rcases g.1 (.inr ⟨u, hu, g1, g2⟩) with g4 | g4
      · omega
      · exact g4
    · intro hn
      obtain ⟨u, hu, g1, g2⟩ := hn
      have g3 := hB.2.1 u hu
      rcases g.2 (.inr ⟨u, hu, g1, g2⟩) with g4 | g4
      · omega
      · exact g4
/-! ### Norm: what is sorted is joined; the last one is at the list's head here -/
def zN3 (out : List Spn) (s : Spn) : List Spn := match out with
  | [] => [s]
  | t :: r => if s.1 ≤ t.2 then (t.1, max t.2 s.2) :: r else s :: t :: r
def yM5 (L : List Spn) : List Spn := L.foldl zN3 []
def RevR : List Spn → Prop
  | [] => True
  | s :: L => s.1 < s.2 ∧ (∀ t ∈ L, t.2 < s.1) ∧ RevR L
theorem qL2 : ∀ {L : List Spn}, RevR L → ∀ {R : List Spn}, zQ2 R → (∀ t ∈ L, ∀ u ∈ R, t.2 < u.1) → zQ2 (L.reverse ++ R)
  | [], _, R, hR, _ => by simpa using hR
  | s :: L, h, R, hR, hs => by
    rw [List.reverse_cons, List.append_assoc]
    refine qL2 h.2.2 ⟨h.1, fun t ht => hs s (by simp) t ht, hR⟩ ?_
    intro t ht u hu
    rcases List.mem_cons.1 hu with rfl | hu
    · exact h.2.1 t ht
    · exact hs t (by simp [ht]) u hu
theorem yW5 {out : List Spn} {s : Spn} (h : RevR out) (hs : s.1 < s.2) (hle : ∀ t ∈ out, t.1 ≤ s.1) : RevR (zN3 out s) ∧ (∀ t ∈ zN3 out s, t.1 ≤ s.1) ∧ ∀ n, inS (zN3 out s) n ↔ inS out n ∨ (s.1 ≤ n ∧ n < s.2) := by
  cases out with
  | nil => exact ⟨⟨hs, fun t ht => by simp at ht, trivial⟩, fun t ht => by simp [zN3] at ht; subst ht; exact Int.le_refl _, fun n => by simp [zN3, inS]⟩
  | cons t r =>
    obtain ⟨h1, h2, h3⟩ := h
    have h4 := hle t (by simp)
    unfold zN3
    by_cases hc : s.1 ≤ t.2
    · simp only [if_pos hc]
      refine ⟨⟨by simp only []; omega, h2, h3⟩, fun u hu => ?_, fun n => ?_⟩
      · rcases List.mem_cons.1 hu with rfl | hu
        · exact h4
        · exact hle u (by simp [hu])
      · rw [zJ7, zJ7]
        simp only []
        constructor
        · rintro (g | g)
          · by_cases hn : n < t.2
            · exact .inl (.inl ⟨g.1, hn⟩)
            · exact .inr ⟨by omega, by omega⟩
          · exact .inl (.inr g)
        · rintro ((g | g) | g)
          · exact .inl ⟨g.1, by omega⟩
          · exact .inr g
          · exact .inl ⟨by omega, by omega⟩
    · simp only [if_neg hc]
      refine ⟨⟨hs, fun u hu => ?_, h1, h2, h3⟩, fun u hu => ?_, fun n => ?_⟩
      · rcases List.mem_cons.1 hu with rfl | hu
        · omega
        · have := h2 u hu; omega
      · rcases List.mem_cons.1 hu with rfl | hu
        · exact Int.le_refl _
        · exact hle u hu
      · rw [zJ7 s]; exact or_comm
theorem yM6 : ∀ (L out : List Spn), RevR out → (∀ s ∈ L, s.1 < s.2) → (∀ t ∈ out, ∀ s ∈ L, t.1 ≤ s.1) → L.Pairwise (fun a b => a.1 ≤ b.1) → RevR (L.foldl zN3 out) ∧ ∀ n, inS (L.foldl zN3 out) n ↔ inS out n ∨ inS L n
  | [], out, h, _, _, _ => ⟨h, fun n => by simp [inS]⟩
  | s :: L, out, h, hs, hle, hp => by
    obtain ⟨g1, g2, g3⟩ := yW5 h (hs s (by simp)) (fun t ht => hle t ht s (by simp))
    obtain ⟨hp1, hp2⟩ := List.pairwise_cons.1 hp
    obtain ⟨k1, k2⟩ := yM6 L (zN3 out s) g1 (fun t ht => hs t (by simp [ht])) (fun t ht u hu => Int.le_trans (g2 t ht) (hp1 u hu)) hp2
    refine ⟨k1, fun n => ?_⟩
    show inS (L.foldl zN3 (zN3 out s)) n ↔ _
    rw [k2, g3, zJ7]
    exact or_assoc
def qX0 (L : List Spn) : List Spn := (yM5 L).reverse
theorem yR0 {L : List Spn} (hs : ∀ s ∈ L, s.1 < s.2) (hp : L.Pairwise (fun a b => a.1 ≤ b.1)) : zQ2 (qX0 L) ∧ ∀ n, inS (qX0 L) n ↔ inS L n := by
  obtain ⟨h1, h2⟩ := yM6 L [] trivial hs (fun t ht => by simp at ht) hp
  refine ⟨by have := qL2 h1 (R := []) trivial (fun t _ u hu => by simp at hu); simpa [qX0, yM5] using this, fun n => ?_⟩
  rw [qX0, yB2 (List.reverse_perm _), yM5, h2]
  exact ⟨fun h => h.resolve_left (qW9 n), .inr⟩
structure NormOf (L N : List Spn) : Prop where
  right : zQ2 N
  pts : ∀ n, inS N n ↔ inS L n
theorem NormOf.same {L M A B : List Spn} (h : NormOf L A) (k : NormOf M B) (hp : ∀ n, inS L n ↔ inS M n) : A = B := qL1 A B h.right k.right fun n => by rw [h.pts, k.pts, hp]
theorem yM7 {L d : List Spn} (hperm : d.Perm (L.filter fun s => !zT2 s)) (hp : d.Pairwise (fun a b => a.1 ≤ b.1)) : NormOf L (qX0 d) := by
  have hs : ∀ s ∈ d, s.1 < s.2 := fun s hs => by
    have := (List.mem_filter.1 (hperm.mem_iff.1 hs)).2
    simp only [zT2, Bool.not_eq_true', decide_eq_false_iff_not] at this
    omega
  obtain ⟨h1, h2⟩ := yR0 hs hp
  exact ⟨h1, fun n => by rw [h2, yB2 hperm, yF5]⟩
/-! ### holes -/
def putS (f t : Int) : List Spn := if f < t then [(f, t)] else []
def yT1 : List Spn → Int → Int → List Spn
  | [], f, t => putS f t
  | a :: N, f, t => putS f (min a.1 t) ++ yT1 N (max f a.2) t
theorem yB3 {L : List Spn} {i c : Nat} (hi : i < L.length) (hc : c < 2) : (encL L)[i * 2 + c]? = (encS L[i])[c]? := by
  have := congrArg (fun l : List Value => l[c]?) (qW8 hi)
  simp only [List.getElem?_take, hc, if_true, List.getElem?_drop] at this
  exact this
theorem qA8 {w : World} {base n m c sz : Nat} {T : TypeId} {ad : Option Addr} {xs : List Value} (h : w.ownsRow base T sz (.slice ad n c) m xs) : n = m := by
  rcases h.2 with ⟨hv, hm⟩ | ⟨q, cap, cur, hv, _⟩
  · simp only [Value.slice.injEq] at hv
    omega
  · simp only [Value.slice.injEq] at hv
    exact hv.2.1
abbrev gS (L : List Spn) (i : Nat) : Spn := L.getD i (0, 0)
theorem qE1 {L : List Spn} {i : Nat} (h : i < L.length) : gS L i = L[i] := by simp [gS, List.getD_eq_getElem?_getD, h]
theorem yT2 {w : World} {ad : Option Addr} {n i : Nat} {L : List Spn} (R : RowAt w 2 ad n (encL L)) (h : i < n) : ((encL L).drop (i * 2)).take 2 = [.int .i64 (gS L i).1, .int .i64 (gS L i).2] := by
  have hl := R.len
  rw [zJ5] at hl
  rw [qW8 (show i < L.length by omega), qE1 (show i < L.length by omega)]; rfl
theorem yB4 {w : World} {ad : Option Addr} {n : Nat} {L : List Spn} (R : RowAt w 2 ad n (encL L)) : L.length = n := by
  have hl := R.len
  rw [zJ5] at hl
  omega
def addG : List Spn → Spn → Bool → List Spn
  | [], s, laid => if laid then [] else [s]
  | t :: r, s, laid => if t.2 < s.1 then t :: addG r s laid else if t.1 > s.2 then (if laid then t :: addG r s laid else s :: t :: addG r s true) else addG r (min s.1 t.1, max s.2 t.2) laid
def addS (L : List Spn) (s : Spn) : List Spn := if zT2 s then L else addG L s false
theorem qR4 : ∀ {L : List Spn} {s : Spn}, zQ2 L → s.1 < s.2 → (∀ t ∈ L, s.2 < t.1) → addG L s true = L
  | [], _, _, _, _ => rfl
  | t :: r, s, h, hs, hl => by
    have h1 := hl t (by simp)
    have h2 := h.1
    rw [addG, if_neg (by omega), if_pos h1, if_pos rfl, qR4 h.2.2 hs (fun u hu => hl u (by simp [hu]))]
theorem qX1 : ∀ {L : List Spn} {s : Spn}, zQ2 L → s.1 < s.2 → zQ2 (addG L s false) ∧ (∀ n, inS (addG L s false) n ↔ inS L n ∨ (s.1 ≤ n ∧ n < s.2)) ∧ ∀ b, (b < s.1 ∧ ∀ t ∈ L, b < t.1) → ∀ t ∈ addG L s false, b < t.1
  | [], s, h, hs => by
    simp only [addG, Bool.false_eq_true, if_false]
    exact ⟨⟨hs, fun t ht => by simp at ht, trivial⟩, fun n => by simp [inS], fun b hb t ht => by simp at ht; subst ht; exact hb.1⟩
  | t :: r, s, h, hs => by
    obtain ⟨h1, h2, h3⟩ := h
    rw [addG]
    by_cases c1 : t.2 < s.1
    · rw [if_pos c1]
      obtain ⟨g1, g2, g3⟩ := qX1 h3 hs
      refine ⟨⟨h1, g3 t.2 ⟨c1, h2⟩, g1⟩, fun n => ?_, fun b hb u hu => ?_⟩
      · rw [zJ7, g2, zJ7, or_assoc]
      · rcases List.mem_cons.1 hu with rfl | hu
        · exact hb.2 u (by simp)
        · exact g3 b ⟨hb.1, fun v hv => hb.2 v (by simp [hv])⟩ u hu
    · rw [if_neg c1]
      by_cases c2 : t.1 > s.2
      · rw [if_pos c2, if_neg (by simp), qR4 h3 hs (fun u hu => by have := h2 u hu; omega)]
        refine ⟨⟨hs, fun u hu => ?_, h1, h2, h3⟩, fun n => ?_, fun b hb u hu => ?_⟩
        · rcases List.mem_cons.1 hu with rfl | hu
          · exact c2
          · have := h2 u hu; omega
        · rw [zJ7 s]; exact or_comm
        · rcases List.mem_cons.1 hu with rfl | hu
          · exact hb.1
          · exact hb.2 u hu
      · rw [if_neg c2]
        obtain ⟨g1, g2, g3⟩ := qX1 (s := (min s.1 t.1, max s.2 t.2)) h3 (by simp only []; omega)
        refine ⟨g1, fun n => ?_, fun b hb u hu => ?_⟩
        · rw [g2, zJ7]
          simp only []
          constructor
          · rintro (g | g)
            · exact .inl (.inr g)
            · by_cases hn : t.1 ≤ n ∧ n < t.2
              · exact .inl (.inl hn)
              · exact .inr (by omega)
          · rintro ((g | g) | g)
            · exact .inr (by omega)
            · exact .inl g
            · exact .inr (by omega)
        · have hbt := hb.2 t (by simp)
          exact g3 b ⟨by simp only []; omega, fun v hv => hb.2 v (by simp [hv])⟩ u hu
theorem yW6 {L O : List Spn} {s : Spn} (h : NormOf L O) : NormOf (L ++ [s]) (addS O s) := by
  unfold addS zT2
  by_cases hs : s.2 ≤ s.1
  · rw [if_pos (by simpa using hs)]
    refine ⟨h.right, fun n => ?_⟩
    rw [h.pts, qL0]
    exact ⟨.inl, fun g => g.elim id fun ⟨u, hu, g1, g2⟩ => by simp at hu; subst hu; omega⟩
  · rw [if_neg (by simpa using hs)]
    obtain ⟨g1, g2, -⟩ := qX1 h.right (show s.1 < s.2 by omega)
    refine ⟨g1, fun n => ?_⟩
    rw [g2, h.pts, qL0]
    simp [inS]
theorem yR1 : NormOf [] [] := ⟨trivial, fun _ => Iff.rfl⟩
theorem yB5 : ∀ (L : List Spn) (s : Spn) (b : Bool), (addG L s b).length ≤ L.length + 1
  | [], s, b => by unfold addG; cases b <;> simp
  | t :: r, s, b => by
    have h1 := fun s b => yB5 r s b
    unfold addG
    split
    · simp only [List.length_cons]; have := h1 s b; omega
    · split
      · split
        · simp only [List.length_cons]; have := h1 s b; omega
        · rename_i h2 h3
          simp only [List.length_cons]
          have hl : ∀ (r : List Spn) (s : Spn), (addG r s true).length ≤ r.length := by
            intro r
            induction r with
            | nil => intro s; simp [addG]
            | cons u r ih =>
              intro s
              unfold addG
              split
              · simp only [List.length_cons]; have := ih s; omega
              · split
                · simp only [if_true, List.length_cons]; have := ih s; omega
                · have := ih (min s.1 u.1, max s.2 u.2); simp only [List.length_cons]; omega
          have := hl r s
          omega
      · have := h1 (min s.1 t.1, max s.2 t.2) b; simp only [List.length_cons]; omega
theorem yR2 (L : List Spn) (s : Spn) : (addS L s).length ≤ L.length + 1 := by
  unfold addS
  split
  · omega
  · exact yB5 _ _ _
theorem yR3 {w : World} {base : Nat} {T : TypeId} {v : Value} {O : List Spn} {s : Spn} (h : w.ownsRow base T 2 v (O.length + 1) (encL O ++ [.int .i64 s.1, .int .i64 s.2])) : w.ownsRow base T 2 v (O ++ [s]).length (encL (O ++ [s])) := by
  rw [List.length_append, zJ8]
  exact h
def nrm (L : List Spn) : List Spn := L.foldl addS []
theorem yR4 (L : List Spn) (s : Spn) : nrm (L ++ [s]) = addS (nrm L) s := by unfold nrm; rw [List.foldl_append]; rfl
theorem yR5 {L : List Spn} {k : Nat} (h : k < L.length) : addS (nrm (L.take k)) (gS L k) = nrm (L.take (k + 1)) := by
  rw [List.take_succ_eq_append_getElem h, yR4, qE1 h]
theorem qN2 : ∀ (L : List Spn) (k : Nat), k ≤ L.length → NormOf (L.take k) (nrm (L.take k)) ∧ (nrm (L.take k)).length ≤ k
  | L, 0, _ => by rw [List.take_zero]; exact ⟨yR1, Nat.le_refl _⟩
  | L, k + 1, h => by
    obtain ⟨h1, h2⟩ := qN2 L k (by omega)
    have h3 := yR2 (nrm (L.take k)) (gS L k)
    rw [← yR5 (show k < L.length by omega)]
    refine ⟨?_, by omega⟩
    rw [List.take_succ_eq_append_getElem (show k < L.length by omega), ← qE1]
    exact yW6 h1
theorem yZ6 (L : List Spn) : NormOf L (nrm L) := by have := (qN2 L L.length (Nat.le_refl _)).1; rwa [List.take_length] at this
theorem yW7 (L : List Spn) : (nrm L).length ≤ L.length := by have := (qN2 L L.length (Nat.le_refl _)).2; rwa [List.take_length] at this
def pwT (A : List (List Int)) (seg a : Int) : Pt := decP (zG0 A seg a).1
def zK7 (A : List (List Int)) (l : List Spn) (seg a : Int) : List Spn := if zF7 (zC0 A) seg a < 0 then l else l ++ [(zF7 (zC0 A) seg a, zF7 (zC0 A) seg a + 1)]
def zG1 (A : List (List Int)) (l : List Spn) (seg a : Int) : List Spn :=
  if (pwT A seg a).kind ≠ 3 then zK7 A l seg a
  else if (pwT A seg a).dbl = true then zK7 A (zK7 A (zK7 A l seg a) (pwT A seg a).seg (pwT A seg a).off) (pwT A seg a).seg ((pwT A seg a).off + 1)
  else zK7 A (zK7 A l seg a) (pwT A seg a).seg (pwT A seg a).off
def atT (o : Ob) (k : Int) : Int := if o.kind = 1 then o.at_ + k + o.data else o.at_ + k
def goT (A : List (List Int)) : List Int → List Spn → Ob → List Spn × Ob
  | [], l, o => (l, o)
  | k :: ks, l, o => if o.kind = 0 ∨ (o.kind = 1 ∧ k ≥ o.ptrs) then goT A ks l Ob0 else goT A ks (zG1 A l o.seg (atT o k)) (zA0 (zB1 A) o.seg (atT o k)).1
def endT (A : List (List Int)) (l : List Spn) (o : Ob) (k : Int) : List Spn :=
  if k < 0 ∨ o.kind = 0 ∨ (o.kind = 1 ∧ k ≥ o.data) then l else zK7 A l o.seg (o.at_ + if o.kind = 2 ∧ o.size = 2 then k / 8 else k)
def zW3 (A : List (List Int)) (ks : List Int) (a : Int) : List Spn :=
  endT A (goT A ks (zG1 A [] 0 0) (zA0 (zB1 A) 0 0).1).1 (goT A ks (zG1 A [] 0 0) (zA0 (zB1 A) 0 0).1).2 a
/-! ### each span is one word of the arena -/
def oneW (A : List (List Int)) (l : List Spn) : Prop := ∀ s ∈ l, ∃ k : Nat, s = ((k : Int), (k : Int) + 1) ∧ k < A.flatten.length
theorem oneW.note {A : List (List Int)} (h : zD9 A = true) {l : List Spn} (hl : oneW A l) (seg a : Int) : oneW A (zK7 A l seg a) ∧ (zK7 A l seg a).length ≤ l.length + 1 := by
  unfold zK7
  rcases qW7 h seg a with ⟨h1, h2⟩ | ⟨k, h1, h2, h3⟩
  · rw [if_pos h1]; exact ⟨hl, by omega⟩
  · have hn : ¬ zF7 (zC0 A) seg a < 0 := by omega
    rw [if_neg hn, h1]
    refine ⟨fun s hs => ?_, by simp⟩
    rcases List.mem_append.1 hs with hs | hs
    · exact hl s hs
    · simp only [List.mem_singleton] at hs; exact ⟨k, hs, h2⟩
theorem oneW.follow {A : List (List Int)} (h : zD9 A = true) {l : List Spn} (hl : oneW A l) (seg a : Int) : oneW A (zG1 A l seg a) ∧ (zG1 A l seg a).length ≤ l.length + 3 := by
  unfold zG1
  obtain ⟨h1, h2⟩ := hl.note h seg a
  obtain ⟨h3, h4⟩ := h1.note h (pwT A seg a).seg (pwT A seg a).off
  obtain ⟨h5, h6⟩ := h3.note h (pwT A seg a).seg ((pwT A seg a).off + 1)
  split
  · exact ⟨h1, by omega⟩
  · split
    · exact ⟨h5, by omega⟩
    · exact ⟨h3, by omega⟩
theorem oneW.go {A : List (List Int)} (h : zD9 A = true) : ∀ (ks : List Int) {l : List Spn} (o : Ob), oneW A l → oneW A (goT A ks l o).1 ∧ (goT A ks l o).1.length ≤ l.length + 3 * ks.length
  | [], l, o, hl => ⟨hl, by simp [goT]⟩
  | k :: ks, l, o, hl => by
    rw [goT]
    split
    · obtain ⟨h1, h2⟩ := oneW.go h ks Ob0 hl; exact ⟨h1, by simp only [List.length_cons]; omega⟩
    · obtain ⟨h1, h2⟩ := hl.follow h o.seg (atT o k)
      obtain ⟨h3, h4⟩ := oneW.go h ks (zA0 (zB1 A) o.seg (atT o k)).1 h1
      exact ⟨h3, by simp only [List.length_cons]; omega⟩
theorem oneW.end_ {A : List (List Int)} (h : zD9 A = true) {l : List Spn} (hl : oneW A l) (o : Ob) (k : Int) : oneW A (endT A l o k) ∧ (endT A l o k).length ≤ l.length + 1 := by
  unfold endT
  split
  · exact ⟨hl, by omega⟩
  · exact hl.note h _ _
theorem yM8 {A : List (List Int)} (h : zD9 A = true) (ks : List Int) (a : Int) : oneW A (zW3 A ks a) ∧ (zW3 A ks a).length ≤ 3 * ks.length + 4 := by
  unfold zW3
  obtain ⟨h1, h2⟩ := oneW.follow h (l := []) (fun s hs => by simp at hs) 0 0
  obtain ⟨h3, h4⟩ := oneW.go h ks (zA0 (zB1 A) 0 0).1 h1
  obtain ⟨h5, h6⟩ := h3.end_ h (goT A ks (zG1 A [] 0 0) (zA0 (zB1 A) 0 0).1).2 a
  simp only [List.length_nil] at h2
  exact ⟨h5, by omega⟩
/-! ### where the touched words are there, the answer is the whole's -/
section
variable {A : List (List Int)} {wl kb : List Int}
end
/-! ### the chunks of the spans -/
theorem jB1 {s : Src} {ks : List Int} {a c : Int} (h : (zJ6 s ks a c).2 = 0) : (∀ k ∈ ks, 0 ≤ k) ∧ ks.length ≤ 32 ∧ ∃ left, (qM3 s a ks (zA0 s 0 0).1 left).2 = 0 := by
  unfold zJ6 at h
  by_cases h1 : ∃ k ∈ ks, k < 0
  · rw [if_pos h1] at h; simp at h
  · rw [if_neg h1] at h
    by_cases h2 : (ks.length : Int) > 32
    · rw [if_pos h2] at h; simp at h
    · rw [if_neg h2] at h
      by_cases h3 : (zA0 s 0 0).2 ≠ 0
      · rw [if_pos h3] at h; exact absurd h h3
      · rw [if_neg h3] at h
        by_cases h4 : max c (-1) - (1 + zC8 (zA0 s 0 0).1) < 0
        · rw [if_pos h4] at h; simp at h
        · rw [if_neg h4] at h
          exact ⟨fun k hk => by by_cases g : k < 0; exact absurd ⟨k, hk, g⟩ h1; omega, by omega, _, h⟩
theorem zS0 (A : List (List Int)) (l : List Spn) (seg a : Int) : (zK7 A l seg a).length ≤ l.length + 1 := by unfold zK7; split <;> simp
/-! ### a step, and what is there -/
/-! ### a path -/
theorem yW8 (s : Src) {o : Ob} (hk : ObK o) (k : Int) : ObK (zH6 s o k).1 := by
  unfold zH6
  (repeat' split) <;> first | exact .inl rfl | exact hk | exact zU3 _ _ _
theorem yW9 {s : Src} (hf : ∀ seg a, ObR (zA0 s seg a).1) {o : Ob} (ho : ObR o) (k : Int) : ObR (zH6 s o k).1 := by
  unfold zH6
  (repeat' split) <;> first | exact zE1 | exact ho | exact hf _ _
/-! ### what a path costs -/
/-! ### an arena as a source -/
theorem qR5 {A : List (List Int)} {seg a n : Int} (h : zE5 (zB1 A).sizes seg a n = true) : 0 ≤ seg ∧ seg < A.length ∧ 0 ≤ a ∧ 0 ≤ n ∧ a + n ≤ len2 A seg.toNat := by
  unfold zE5 zJ2 at h
  simp only [Bool.and_eq_true, decide_eq_true_eq] at h
  obtain ⟨⟨h3, h4⟩, h5, h6, h7, h8⟩ := h
  have hl : (zB1 A).sizes.length = A.length := by simp [zB1]
  have hz : (zB1 A).sizes.getD seg.toNat 0 = (len2 A seg.toNat : Int) := zO9 A seg.toNat
  rw [hl] at h4
  rw [hz] at h7 h8
  omega
/-! ### small things -/
theorem zY0 {A : List (List Int)} (hA : A.length ≤ 16) (hl : ∀ q, len2 A q ≤ 4096) {p : Pt} (hp : PtR p) (hn : zH0 p = true) (seg a : Int) : ObR (zA9 (zB1 A) p seg a).1 := by
  unfold zA9
  split
  · exact zE1
  · split
    · exact zE1
    · rename_i hw
      obtain ⟨h1, h2, h3, h4, h5⟩ := qR5 (by simpa using hw)
      have h6 := hl seg.toNat
      have hk : p.kind = 1 ∨ p.kind = 2 := by simpa [zH0] using hn
      exact ⟨by show 0 ≤ p.kind ∧ p.kind ≤ 2; omega, by show 0 ≤ seg ∧ seg ≤ _; omega, by show 0 ≤ a ∧ a ≤ _; omega, hp.data, hp.ptrs, hp.size, hp.count⟩
theorem yM9 {A : List (List Int)} (hA : A.length ≤ 16) (hl : ∀ q, len2 A q ≤ 4096) (hx : ∀ q ∈ A, ∀ x ∈ q, inR .u64 x) (seg a : Int) : ObR (zA0 (zB1 A) seg a).1 := by
  have hp : ∀ seg a, PtR (ptrS (zB1 A) seg a).1 := fun seg a => by
    obtain ⟨h1, h2, -, -⟩ := zZ8 hx seg a
    unfold ptrS
    split
    · exact qG8
    · exact zJ3 _ h1 h2
  unfold zA0
  split
  · exact zE1
  · split
    · rename_i h; exact zY0 hA hl (hp _ _) h _ _
    · split
      · unfold zC9
        split
        · exact zE1
        · split
          · exact zE1
          · split
            · exact zE1
            · split
              · exact zE1
              · split
                · exact zE1
                · rename_i h
                  obtain ⟨n1, n2, -, -⟩ := zZ8 hx (ptrS (zB1 A) seg a).1.seg ((ptrS (zB1 A) seg a).1.off + 1)
                  refine zY0 hA hl (zJ3 _ n1 n2) ?_ _ _
                  cases hq : zH0 (decP (zG0 A (ptrS (zB1 A) seg a).1.seg ((ptrS (zB1 A) seg a).1.off + 1)).1) with
                  | true => rfl
                  | false => exact absurd (.inr (.inr (.inl hq))) h
      · unfold zC4
        split
        · exact zE1
        · split
          · exact zE1
          · rename_i h
            exact zY0 hA hl (hp _ _) (by simpa using h) _ _
theorem zO2 {A : List (List Int)} (h : zD9 A = true) : A.length ≤ 16 ∧ ∀ q, len2 A q ≤ 4096 := by
  unfold zD9 at h
  obtain ⟨-, h2, -, h4⟩ := qT h
  exact ⟨h2, fun q => by have := zQ1 A q; omega⟩
def decV (A : List (List Int)) : Nd × Int := if (decT A).2 ≠ 0 then (.nil, (decT A).2) else if (decT A).1.right 32 = false then (.nil, 23) else ((decT A).1, 0)
def canT (A : List (List Int)) : List (List Int) × Int := if (decV A).2 ≠ 0 then ([], (decV A).2) else (decV A).1.build 4096
def eqT (A B : List (List Int)) : Bool := decide ((decV A).2 = 0) && (decide ((decV B).2 = 0) && (decV A).1.beq (decV B).1)
theorem qX2 : decT zR5 = (qH7, 0) := by
  unfold decT
  rw [if_neg (by decide), qV9]
theorem qH8 : decV zR5 = (qH7, 0) := by
  unfold decV
  rw [qX2, if_neg (by decide), if_neg (by decide +kernel)]
theorem yR6 : decV [] = (.nil, 1) := rfl
theorem yF6 : eqT zR5 zR5 = true := by unfold eqT; rw [qH8]; simp [yQ4]
theorem qR6 : nrm (zW3 zR5 [] 0) = [(0, 2)] := by decide +kernel
theorem qH9 : (zJ6 (zB1 zR5) [] 0 8192).2 = 0 := by decide +kernel
theorem qR7 : zD9 zR5 = true := by decide
theorem qF4 : AllU zR5 := by
  intro q hq x hx
  simp only [zR5, List.mem_singleton] at hq
  subst hq
  simp only [List.mem_cons, List.not_mem_nil, or_false] at hx
  rcases hx with rfl | rfl <;> simp [inR]
theorem yF7 {t : Nd} {n : Int} (hR : t.right 32 = true) (hu : t.u8) (hn : t.needs ≤ 4000) (h : (t.build n).2 = 0) : decV (t.build n).1 = (t, 0) ∧ canT (t.build n).1 = t.build 4096 := by
  have hd : decV (t.build n).1 = (t, 0) := by
    unfold decV
    rw [yM4 hu hn h, if_neg (by simp), hR, if_neg (by simp)]
  exact ⟨hd, by unfold canT; rw [hd, if_neg (by simp)]⟩
end Go.Proofs.YtkkbbhpbcfcplaaGreat.K
