/- Plain laws, rules and walks of this claim's functions, laid together. -/
import Derived.Test.YtkkbbhpbcfcplaaGreatX4
import Derived.Shelf.SlSortCmp.InsertionK
import Derived.Shelf.SlSortCmp.NoneTotal
set_option linter.unusedVariables false
set_option linter.unusedSimpArgs false
set_option maxRecDepth 100000
namespace Go.Proofs.YtkkbbhpbcfcplaaGreat.K
open Go Go.RowKit Go.Proofs
attribute [local irreducible] Run1 OpG WL W AO zB8
theorem zY4 (w : World) {w0 : World} {u : Value} {A : List (List Int)} (hA : zG5 w0 u A) (hr : zD1 A = true) (hx : AllU A) {s : Src} (hs : s = zB7 A) (g0 : Grow w0 w) {bn : Nat} (hbn : w0.heap.size ≤ bn) {L : List Spn} (st : NtS 110 79 61 w0.heap.size w u bn L) (hL : L.length ≤ 150000) (seg a : Int) : Calls Tryz.prog 88 #[.iface 74 (.pointer (some ⟨bn, 0, none⟩)), .int .i64 seg, .int .i64 a] w (Ret fun v w' => v = .tuple #[.agg #[.int .i64 ((ptrS s seg a).1.kind), .int .i64 ((ptrS s seg a).1.off), .int .i64 ((ptrS s seg a).1.data), .int .i64 ((ptrS s seg a).1.ptrs), .int .i64 ((ptrS s seg a).1.size), .int .i64 ((ptrS s seg a).1.count), .int .i64 ((ptrS s seg a).1.seg), .bool ((ptrS s seg a).1.dbl)], .int .u16 ((ptrS s seg a).2)] ∧ NtS 110 79 61 w0.heap.size w' u bn (zL5 A L seg a) ∧ NkP [bn] 61 w0.heap.size w w') := by
 have K := NkP.refl [bn] 61 w0.heap.size w
 have g0w := g0.size
 refine zC2 Tryz.func88 Tryz.ntmps88 Tryz.results88 rfl rfl ?_
 refine qZ 2 ?_
 refine stp (zA8 ?_)
 intro b1 w2 hb3 hc4 g5
 refine qZ 7 ?_
 have hge6 := Nat.le_trans K.size hb3
 replace K := K.tr (NkP.of_grow g5)
 replace g0 := g0.tr g5
 replace st := st.grow g5
 clear g5 hb3
 refine stp (zO1 (a := .int .i64 seg) (b := .int .i64 a) zP4 rfl rfl rfl (zN2 _ hA hr hx hs g0 hbn st (by have := hL; omega) seg a) ?_)
 rintro v_ w7 ⟨rfl, st2_, rel_⟩
 replace hc4 := rel_.hpN st hc4 (by decide) (by decide)
 replace g0 := NkP.to_grow rel_ g0 (fun x_ hx_ => by simp only [List.mem_cons, List.mem_singleton, List.not_mem_nil, or_false] at hx_; (first | (subst hx_; first | assumption | exact hbn) | (rcases hx_ with rfl | rfl <;> assumption)))  (Nat.le_refl _)
 replace K := K.new_nk rel_ (fun x_ hx_ => by simp only [List.mem_cons, List.mem_singleton, List.not_mem_nil, or_false] at hx_; (first | (rcases hx_ with rfl | rfl <;> first | (right; simp; done) | (left; assumption)) | (subst hx_; first | (right; simp; done) | (left; assumption))))
 clear rel_ st
 have st := st2_
 clear st2_
 refine qZ 10 ?_
 refine stp (zG1 rfl rfl ?_)
 refine zA6 ?_
 refine zA2 (b := (decide (((s.word seg a).2) ≠ 0))) rfl (fun h1 => ?_) (fun h1 => ?_)
 ·
  replace h1 := qT h1
  refine qZ 2 ?_
  refine stp (zA7 (v := .agg #[.int .i64 0, .int .i64 0, .int .i64 0, .int .i64 0, .int .i64 0, .int .i64 0, .int .i64 0, .bool false]) (fun w => by kernel_rfl) ?_)
  refine qZ 1 ?_
  refine stn (qS hc4 ?_)
  intro w8 hc9 u10
  replace g0 := (by first | exact Grow.upd g0 u10 (Nat.le_trans g0w (by assumption)) | exact Grow.upd g0 u10 hbn | exact Grow.upd g0 u10 hb0)
  replace K := (by first | exact K.upd_new u10 (by assumption) | exact K.tr (NkP.of_upd u10 (by simp)))
  replace st := st.upd u10 hc4 (by decide) (by decide)
  clear u10 hc4
  refine qZ 3 ?_
  have h9 : ptrS s seg a = (Pt0, (s.word seg a).2) := by unfold ptrS; rw [if_pos h1]
  refine ret2 (zA5 rfl hc9 (by rfl)) (zA1 (v := .int .u16 ((s.word seg a).2)) rfl) ⟨by rw [h9]; rfl, st, K⟩
 ·
  replace h1 := qF h1
  refine qZ 4 ?_
  refine stp (zA4 (v := .tuple #[.agg #[.int .i64 ((decP (s.word seg a).1).kind), .int .i64 ((decP (s.word seg a).1).off), .int .i64 ((decP (s.word seg a).1).data), .int .i64 ((decP (s.word seg a).1).ptrs), .int .i64 ((decP (s.word seg a).1).size), .int .i64 ((decP (s.word seg a).1).count), .int .i64 ((decP (s.word seg a).1).seg), .bool ((decP (s.word seg a).1).dbl)], .int .u16 (decE (s.word seg a).1)]) rfl (zL2 _ _ (num9 hs hx seg a).1 (num9 hs hx seg a).2.1) ?_)
  intro w11 g12
  replace hc4 := g12.heap hc4
  replace g0 := g0.tr g12
  replace K := K.tr (NkP.of_grow g12)
  replace st := st.grow g12
  clear g12
  refine qZ 2 ?_
  refine stn (qS hc4 ?_)
  intro w13 hc14 u15
  replace g0 := (by first | exact Grow.upd g0 u15 (Nat.le_trans g0w (by assumption)) | exact Grow.upd g0 u15 hbn | exact Grow.upd g0 u15 hb0)
  replace K := (by first | exact K.upd_new u15 (by assumption) | exact K.tr (NkP.of_upd u15 (by simp)))
  replace st := st.upd u15 hc4 (by decide) (by decide)
  clear u15 hc4
  refine qZ 3 ?_
  have h9 : ptrS s seg a = (decP (s.word seg a).1, decE (s.word seg a).1) := by unfold ptrS; rw [if_neg h1]
  refine ret2 (zA5 rfl hc14 (by rfl)) (zA1 (v := .int .u16 (decE (s.word seg a).1)) rfl) ⟨by rw [h9], st, K⟩
theorem zW5 (w : World) {w0 : World} {u : Value} {A : List (List Int)} (hA : zG5 w0 u A) (hr : zD1 A = true) (hx : AllU A) {s : Src} (hs : s = zB7 A) (g0 : Grow w0 w) {bn : Nat} (hbn : w0.heap.size ≤ bn) {L : List Spn} (st : NtS 110 79 61 w0.heap.size w u bn L) (hL : L.length ≤ 400000) (p : Pt) (seg a : Int) (hp : PtR p) (ha : inR .i64 a) : zB8 Tryz.prog 90 #[.iface 74 (.pointer (some ⟨bn, 0, none⟩)), .agg #[.int .i64 p.kind, .int .i64 p.off, .int .i64 p.data, .int .i64 p.ptrs, .int .i64 p.size, .int .i64 p.count, .int .i64 p.seg, .bool p.dbl], .int .i64 seg, .int .i64 a] w (.tuple #[.agg #[.int .i64 ((zB6 s p seg a).1.kind), .int .i64 ((zB6 s p seg a).1.seg), .int .i64 ((zB6 s p seg a).1.at_), .int .i64 ((zB6 s p seg a).1.data), .int .i64 ((zB6 s p seg a).1.ptrs), .int .i64 ((zB6 s p seg a).1.size), .int .i64 ((zB6 s p seg a).1.count)], .int .u16 ((zB6 s p seg a).2)]) := by
 have hw9 := zR3 hp.of
 obtain ⟨hlen16, -⟩ := zN1 hr
 have st0 := st
 have g00 := g0
 have G := Grow.rfl' w
 refine zA9 Tryz.func90 Tryz.ntmps90 Tryz.results90 rfl rfl ?_
 refine qZ 2 ?_
 refine stp ?_
 refine qC ?_
 intro b1 w2 hb3 hc4 g5
 have hge6 := Nat.le_trans G.size hb3
 replace G := G.tr g5
 clear g5 hb3
 refine stp (zA8 ?_)
 intro b7 w8 hb9 hc10 g11
 refine qZ 5 ?_
 have hge12 := Nat.le_trans G.size hb9
 have ne13 := qN hc4 hb9
 replace hc4 := g11.heap hc4
 replace G := G.tr g11
 clear g11 hb9
 refine qZ 11 ?_
 refine stp (zA7 (v := .agg #[.int .i64 p.kind, .int .i64 seg, .int .i64 a, .int .i64 p.data, .int .i64 p.ptrs, .int .i64 p.size, .int .i64 p.count]) (fun w => by kernel_rfl) ?_)
 refine stp (zA8 ?_)
 intro b14 w15 hb16 hc17 g18
 refine stn (qS hc17 ?_)
 intro w19 hc20 u21
 have g22 := g18.upd u21 hb16
 have hge23 := Nat.le_trans G.size hb16
 have ne24 := qN hc4 hb16
 have ne25 := qN hc10 hb16
 replace hc4 := g22.heap hc4
 replace hc10 := g22.heap hc10
 replace G := G.tr g22
 clear u21 g18 hb16 hc17
 refine qZ 4 ?_
 refine stp (zA4 (v := .agg #[.int .i64 p.kind, .int .i64 0, .int .i64 p.data, .int .i64 p.ptrs, .int .i64 p.size, .int .i64 p.count, .int .i64 0, .bool false]) rfl (qP2 _ ⟨p.kind, seg, a, p.data, p.ptrs, p.size, p.count⟩) ?_)
 intro w26 g27
 replace hc4 := g27.heap hc4
 replace hc10 := g27.heap hc10
 replace hc20 := g27.heap hc20
 replace G := G.tr g27
 clear g27
 refine stp (zA4 (v := .tuple #[.int .i64 (zF3 ⟨p.kind, 0, p.data, p.ptrs, p.size, p.count, 0, false⟩), .int .u16 (zG4 ⟨p.kind, 0, p.data, p.ptrs, p.size, p.count, 0, false⟩)]) rfl (zZ8 _ ⟨p.kind, 0, p.data, p.ptrs, p.size, p.count, 0, false⟩) ?_)
 intro w28 g29
 replace hc4 := g29.heap hc4
 replace hc10 := g29.heap hc10
 replace hc20 := g29.heap hc20
 replace G := G.tr g29
 clear g29
 refine qZ 11 ?_
 refine stp (zG1 rfl rfl ?_)
 refine qZ 2 ?_
 refine zA2 (b := (decide ((zG4 ⟨p.kind, 0, p.data, p.ptrs, p.size, p.count, 0, false⟩) ≠ 0))) rfl (fun h1 => ?_) (fun h1 => ?_)
 ·
  replace h1 := qT h1
  refine qZ 2 ?_
  refine stp (zA7 (v := .agg #[.int .i64 0, .int .i64 0, .int .i64 0, .int .i64 0, .int .i64 0, .int .i64 0, .int .i64 0]) (fun w => by kernel_rfl) ?_)
  refine qZ 1 ?_
  refine stn (qS hc10 ?_)
  intro w30 hc31 u32
  replace hc4 := u32.heap hc4 ne13
  replace hc20 := u32.heap hc20 ne25.symm
  replace G := G.upd u32 hge12
  clear u32 hc10
  refine qZ 3 ?_
  refine ret2 (zA5 rfl hc31 (by rfl)) (zA1 (v := .int .u16 (zG4 ⟨p.kind, 0, p.data, p.ptrs, p.size, p.count, 0, false⟩)) rfl) ⟨?_, G⟩
  have h9 : zB6 s p seg a = (Ob0, zG4 ⟨p.kind, 0, p.data, p.ptrs, p.size, p.count, 0, false⟩) := by unfold zB6; exact if_pos h1
  rw [h9]; rfl
 ·
  replace h1 := qF h1
  refine qZ 3 ?_
  refine stp ?_
  obtain ⟨ad0_, c0_, hn_, -⟩ := st0.grow G
  refine jG4 (off := 0) (v' := .agg #[u]) yB9 rfl hn_ rfl (qG5 _ (hA.grow (g00.tr G)) (by omega)) ?_
  rintro v_ w33 ⟨adz, cz, rfl, hcz, Rz, g_⟩
  clear hn_
  replace hc4 := g_.heap hc4
  replace hc10 := g_.heap hc10
  replace hc20 := g_.heap hc20
  replace G := G.tr g_
  clear g_
  rw [← jA6 hs] at Rz hcz
  rw [← jA6 hs]
  refine qZ 3 ?_
  refine stp (zA4 (v := .bool (zG3 s.sizes seg a (zF3 ⟨p.kind, 0, p.data, p.ptrs, p.size, p.count, 0, false⟩))) rfl (qG0 _ Rz (jH7 hs hr) ha (by simp only [inR]; omega)) ?_)
  intro w34 g35
  replace hc4 := g35.heap hc4
  replace hc10 := g35.heap hc10
  replace hc20 := g35.heap hc20
  replace Rz := Rz.grow g35
  replace G := G.tr g35
  clear g35
  refine stp (zN7 rfl ?_)
  refine qZ 2 ?_
  refine zA2 (b := (!(zG3 s.sizes seg a (zF3 ⟨p.kind, 0, p.data, p.ptrs, p.size, p.count, 0, false⟩)))) rfl (fun h2 => ?_) (fun h2 => ?_)
  ·
   simp only [sb] at h2
   refine qZ 2 ?_
   refine stp (zA7 (v := .agg #[.int .i64 0, .int .i64 0, .int .i64 0, .int .i64 0, .int .i64 0, .int .i64 0, .int .i64 0]) (fun w => by kernel_rfl) ?_)
   refine stn (qS hc10 ?_)
   intro w36 hc37 u38
   replace hc4 := u38.heap hc4 ne13
   replace hc20 := u38.heap hc20 ne25.symm
   replace G := G.upd u38 hge12
   clear u38 hc10
   refine qZ 3 ?_
   refine ret2 (zA5 rfl hc37 (by rfl)) (zA1 (v := .int .u16 20) rfl) ⟨?_, G⟩
   have h9 : zB6 s p seg a = (Ob0, 20) := by unfold zB6; exact (if_neg h1).trans (if_pos (show zG3 s.sizes seg a (zF3 ⟨p.kind, 0, p.data, p.ptrs, p.size, p.count, 0, false⟩) = false from by simpa using h2))
   rw [h9]; rfl
  ·
   simp only [sb] at h2
   refine qZ 4 ?_
   refine stn (qS hc10 ?_)
   intro w39 hc40 u41
   replace hc4 := u41.heap hc4 ne13
   replace hc20 := u41.heap hc20 ne25.symm
   replace G := G.upd u41 hge12
   clear u41 hc10
   refine qZ 3 ?_
   refine ret2 (zA5 rfl hc40 (by rfl)) (zA1 (v := .int .u16 0) rfl) ⟨?_, G⟩
   have h9 : zB6 s p seg a = (objP p seg a, 0) := by unfold zB6; exact (if_neg h1).trans (if_neg (show ¬ zG3 s.sizes seg a (zF3 ⟨p.kind, 0, p.data, p.ptrs, p.size, p.count, 0, false⟩) = false from by simpa using h2))
   rw [h9]; rfl
theorem qQ6 (w : World) {w0 : World} {u : Value} {A : List (List Int)} (hA : zG5 w0 u A) (hr : zD1 A = true) (hx : AllU A) {s : Src} (hs : s = zB7 A) (g0 : Grow w0 w) {bn : Nat} (hbn : w0.heap.size ≤ bn) {L : List Spn} (st : NtS 110 79 61 w0.heap.size w u bn L) (hL : L.length ≤ 100000) (p : Pt) (hp : PtR p) : Calls Tryz.prog 92 #[.iface 74 (.pointer (some ⟨bn, 0, none⟩)), .agg #[.int .i64 p.kind, .int .i64 p.off, .int .i64 p.data, .int .i64 p.ptrs, .int .i64 p.size, .int .i64 p.count, .int .i64 p.seg, .bool p.dbl]] w (Ret fun v w' => v = .tuple #[.agg #[.int .i64 ((zD3 s p).1.kind), .int .i64 ((zD3 s p).1.seg), .int .i64 ((zD3 s p).1.at_), .int .i64 ((zD3 s p).1.data), .int .i64 ((zD3 s p).1.ptrs), .int .i64 ((zD3 s p).1.size), .int .i64 ((zD3 s p).1.count)], .int .u16 ((zD3 s p).2)] ∧ NtS 110 79 61 w0.heap.size w' u bn (zL5 A L p.seg p.off) ∧ NkP [bn] 61 w0.heap.size w w') := by
 have K := NkP.refl [bn] 61 w0.heap.size w
 have g0w := g0.size
 have hq := ptr9 hs hx p.seg p.off
 have hqo := hq.off
 have hpo := hp.off
 refine zC2 Tryz.func92 Tryz.ntmps92 Tryz.results92 rfl rfl ?_
 refine qZ 2 ?_
 refine stp ?_
 refine qC ?_
 intro b1 w2 hb3 hc4 g5
 have hge6 := Nat.le_trans K.size hb3
 replace K := K.tr (NkP.of_grow g5)
 replace g0 := g0.tr g5
 replace st := st.grow g5
 clear g5 hb3
 refine stp (zA8 ?_)
 intro b7 w8 hb9 hc10 g11
 refine qZ 6 ?_
 have hge12 := Nat.le_trans K.size hb9
 have ne13 := qN hc4 hb9
 replace K := K.tr (NkP.of_grow g11)
 replace g0 := g0.tr g11
 replace st := st.grow g11
 replace hc4 := g11.heap hc4
 clear g11 hb9
 refine qZ 3 ?_
 refine stp ?_
 refine zD6 rfl (zY4 _ hA hr hx hs g0 hbn st (by have := hL; omega) p.seg p.off) ?_
 rintro v_ w14 ⟨rfl, st2_, rel_⟩
 replace hc4 := rel_.hpN st hc4 (by decide) (by decide)
 replace hc10 := rel_.hpN st hc10 (by decide) (by decide)
 replace g0 := NkP.to_grow rel_ g0 (fun x_ hx_ => by simp only [List.mem_cons, List.mem_singleton, List.not_mem_nil, or_false] at hx_; (first | (subst hx_; first | assumption | exact hbn) | (rcases hx_ with rfl | rfl <;> assumption)))  (Nat.le_refl _)
 replace K := K.new_nk rel_ (fun x_ hx_ => by simp only [List.mem_cons, List.mem_singleton, List.not_mem_nil, or_false] at hx_; (first | (rcases hx_ with rfl | rfl <;> first | (right; simp; done) | (left; assumption)) | (subst hx_; first | (right; simp; done) | (left; assumption))))
 clear rel_ st
 have st := st2_
 clear st2_
 have hl_w14 := zT2 A L p.seg p.off
 refine qZ 3 ?_
 refine stp (zA8 ?_)
 intro b15 w16 hb17 hc18 g19
 refine stn (qS hc18 ?_)
 intro w20 hc21 u22
 have g23 := g19.upd u22 hb17
 have hge24 := Nat.le_trans K.size hb17
 have ne25 := qN hc4 hb17
 have ne26 := qN hc10 hb17
 replace hc4 := g23.heap hc4
 replace hc10 := g23.heap hc10
 replace g0 := g0.tr g23
 replace K := K.tr (NkP.of_grow g23)
 replace st := st.grow g23
 clear u22 g19 hb17 hc18
 refine qZ 7 ?_
 refine stp (zG1 rfl rfl ?_)
 refine qZ 2 ?_
 refine zA2 (b := (decide (((ptrS s p.seg p.off).2) ≠ 0))) rfl (fun h1 => ?_) (fun h1 => ?_)
 ·
  replace h1 := qT h1
  refine qZ 2 ?_
  refine stp (zA7 (v := .agg #[.int .i64 0, .int .i64 0, .int .i64 0, .int .i64 0, .int .i64 0, .int .i64 0, .int .i64 0]) (fun w => by kernel_rfl) ?_)
  refine qZ 1 ?_
  refine stn (qS hc10 ?_)
  intro w27 hc28 u29
  replace hc4 := u29.heap hc4 ne13
  replace g0 := (by first | exact Grow.upd g0 u29 (Nat.le_trans g0w (by assumption)) | exact Grow.upd g0 u29 hbn | exact Grow.upd g0 u29 hb0)
  replace K := (by first | exact K.upd_new u29 (by assumption) | exact K.tr (NkP.of_upd u29 (by simp)))
  replace st := st.upd u29 hc10 (by decide) (by decide)
  replace hc21 := u29.heap hc21 ne26.symm
  clear u29 hc10
  refine qZ 3 ?_
  have h9 : zD3 s p = (Ob0, (ptrS s p.seg p.off).2) := by unfold zD3; rw [if_pos h1]
  refine ret2 (zA5 rfl hc28 (by rfl)) (zA1 (v := .int .u16 ((ptrS s p.seg p.off).2)) rfl) ⟨by rw [h9] <;> rfl, st, K⟩
 ·
  replace h1 := qF h1
  refine qZ 3 ?_
  refine stp (zA4 (v := .bool (zI3 ((ptrS s p.seg p.off).1))) rfl (zL3 _ ((ptrS s p.seg p.off).1)) ?_)
  intro w30 g31
  replace hc4 := g31.heap hc4
  replace hc10 := g31.heap hc10
  replace g0 := g0.tr g31
  replace K := K.tr (NkP.of_grow g31)
  replace st := st.grow g31
  replace hc21 := g31.heap hc21
  clear g31
  refine stp (zN7 rfl ?_)
  refine qZ 2 ?_
  refine zA2 (b := (!(zI3 ((ptrS s p.seg p.off).1)))) rfl (fun h2 => ?_) (fun h2 => ?_)
  ·
   simp only [sb] at h2
   refine qZ 2 ?_
   refine stp (zA7 (v := .agg #[.int .i64 0, .int .i64 0, .int .i64 0, .int .i64 0, .int .i64 0, .int .i64 0, .int .i64 0]) (fun w => by kernel_rfl) ?_)
   refine stn (qS hc10 ?_)
   intro w32 hc33 u34
   replace hc4 := u34.heap hc4 ne13
   replace g0 := (by first | exact Grow.upd g0 u34 (Nat.le_trans g0w (by assumption)) | exact Grow.upd g0 u34 hbn | exact Grow.upd g0 u34 hb0)
   replace K := (by first | exact K.upd_new u34 (by assumption) | exact K.tr (NkP.of_upd u34 (by simp)))
   replace st := st.upd u34 hc10 (by decide) (by decide)
   replace hc21 := u34.heap hc21 ne26.symm
   clear u34 hc10
   refine qZ 3 ?_
   have h9 : zD3 s p = (Ob0, 23) := by unfold zD3; rw [if_neg h1, if_pos (by simpa using h2)]
   refine ret2 (zA5 rfl hc33 (by rfl)) (zA1 (v := .int .u16 23) rfl) ⟨by rw [h9] <;> rfl, st, K⟩
  ·
   simp only [sb] at h2
   refine qZ 9 ?_
   refine stp (zB5 rfl rfl ?_ ?_); constructor <;> omega
   refine qZ 2 ?_
   refine stp (zB5 rfl rfl ?_ ?_); constructor <;> omega
   refine stp (zA4 (v := .tuple #[.agg #[.int .i64 ((zB6 s ((ptrS s p.seg p.off).1) p.seg ((p.off + 1) + ((ptrS s p.seg p.off).1.off))).1.kind), .int .i64 ((zB6 s ((ptrS s p.seg p.off).1) p.seg ((p.off + 1) + ((ptrS s p.seg p.off).1.off))).1.seg), .int .i64 ((zB6 s ((ptrS s p.seg p.off).1) p.seg ((p.off + 1) + ((ptrS s p.seg p.off).1.off))).1.at_), .int .i64 ((zB6 s ((ptrS s p.seg p.off).1) p.seg ((p.off + 1) + ((ptrS s p.seg p.off).1.off))).1.data), .int .i64 ((zB6 s ((ptrS s p.seg p.off).1) p.seg ((p.off + 1) + ((ptrS s p.seg p.off).1.off))).1.ptrs), .int .i64 ((zB6 s ((ptrS s p.seg p.off).1) p.seg ((p.off + 1) + ((ptrS s p.seg p.off).1.off))).1.size), .int .i64 ((zB6 s ((ptrS s p.seg p.off).1) p.seg ((p.off + 1) + ((ptrS s p.seg p.off).1.off))).1.count)], .int .u16 ((zB6 s ((ptrS s p.seg p.off).1) p.seg ((p.off + 1) + ((ptrS s p.seg p.off).1.off))).2)]) rfl (zW5 _ hA hr hx hs g0 hbn st (by omega) ((ptrS s p.seg p.off).1) p.seg ((p.off + 1) + ((ptrS s p.seg p.off).1.off)) hq (by simp only [inR]; omega)) ?_)
   intro w35 g36
   replace hc4 := g36.heap hc4
   replace hc10 := g36.heap hc10
   replace g0 := g0.tr g36
   replace K := K.tr (NkP.of_grow g36)
   replace st := st.grow g36
   replace hc21 := g36.heap hc21
   clear g36
   refine qZ 2 ?_
   refine stn (qS hc10 ?_)
   intro w37 hc38 u39
   replace hc4 := u39.heap hc4 ne13
   replace g0 := (by first | exact Grow.upd g0 u39 (Nat.le_trans g0w (by assumption)) | exact Grow.upd g0 u39 hbn | exact Grow.upd g0 u39 hb0)
   replace K := (by first | exact K.upd_new u39 (by assumption) | exact K.tr (NkP.of_upd u39 (by simp)))
   replace st := st.upd u39 hc10 (by decide) (by decide)
   replace hc21 := u39.heap hc21 ne26.symm
   clear u39 hc10
   refine qZ 3 ?_
   have h9 : zD3 s p = zB6 s (ptrS s p.seg p.off).1 p.seg (p.off + 1 + (ptrS s p.seg p.off).1.off) := by unfold zD3; rw [if_neg h1, if_neg (by simpa using h2)]
   refine ret2 (zA5 rfl hc38 (by rfl)) (zA1 (v := .int .u16 ((zB6 s ((ptrS s p.seg p.off).1) p.seg ((p.off + 1) + ((ptrS s p.seg p.off).1.off))).2)) rfl) ⟨by rw [h9] <;> rfl, st, K⟩
theorem qW2 (w : World) {w0 : World} {u : Value} {A : List (List Int)} (hA : zG5 w0 u A) (hr : zD1 A = true) (hx : AllU A) {s : Src} (hs : s = zB7 A) (g0 : Grow w0 w) {bn : Nat} (hbn : w0.heap.size ≤ bn) {L : List Spn} (st : NtS 110 79 61 w0.heap.size w u bn L) (hL : L.length ≤ 100000) (p : Pt) (hp : PtR p) : Calls Tryz.prog 91 #[.iface 74 (.pointer (some ⟨bn, 0, none⟩)), .agg #[.int .i64 p.kind, .int .i64 p.off, .int .i64 p.data, .int .i64 p.ptrs, .int .i64 p.size, .int .i64 p.count, .int .i64 p.seg, .bool p.dbl]] w (Ret fun v w' => v = .tuple #[.agg #[.int .i64 ((zE0 s p).1.kind), .int .i64 ((zE0 s p).1.seg), .int .i64 ((zE0 s p).1.at_), .int .i64 ((zE0 s p).1.data), .int .i64 ((zE0 s p).1.ptrs), .int .i64 ((zE0 s p).1.size), .int .i64 ((zE0 s p).1.count)], .int .u16 ((zE0 s p).2)] ∧ ∃ L2, ((zE0 s p).2 = 0 → L2 = (zL5 A (zL5 A L p.seg p.off) p.seg (p.off + 1))) ∧ L2.length ≤ L.length + 2 ∧ NtS 110 79 61 w0.heap.size w' u bn L2 ∧ NkP [bn] 61 w0.heap.size w w') := by
 have K := NkP.refl [bn] 61 w0.heap.size w
 have g0w := g0.size
 have hpo := hp.off
 obtain ⟨n1, n2, -, -⟩ := num9 hs hx p.seg p.off
 obtain ⟨n3, n4, -, -⟩ := num9 hs hx p.seg (p.off + 1)
 have hq := zI1 _ n1 n2
 have hr9 := zI1 _ n3 n4
 have hqo := hq.off
 have hl1 := zT2 A L p.seg p.off
 have hl2 := zT2 A (zL5 A L p.seg p.off) p.seg (p.off + 1)
 refine zC2 Tryz.func91 Tryz.ntmps91 Tryz.results91 rfl rfl ?_
 refine qZ 2 ?_
 refine stp ?_
 refine qC ?_
 intro b1 w2 hb3 hc4 g5
 have hge6 := Nat.le_trans K.size hb3
 replace K := K.tr (NkP.of_grow g5)
 replace g0 := g0.tr g5
 replace st := st.grow g5
 clear g5 hb3
 refine stp (zA8 ?_)
 intro b7 w8 hb9 hc10 g11
 refine qZ 6 ?_
 have hge12 := Nat.le_trans K.size hb9
 have ne13 := qN hc4 hb9
 replace K := K.tr (NkP.of_grow g11)
 replace g0 := g0.tr g11
 replace st := st.grow g11
 replace hc4 := g11.heap hc4
 clear g11 hb9
 refine qZ 3 ?_
 refine stp (zO1 (a := .int .i64 p.seg) (b := .int .i64 p.off) zP4 rfl rfl rfl (zN2 _ hA hr hx hs g0 hbn st (by have := hl1; omega) p.seg p.off) ?_)
 rintro v_ w14 ⟨rfl, st2_, rel_⟩
 replace hc4 := rel_.hpN st hc4 (by decide) (by decide)
 replace hc10 := rel_.hpN st hc10 (by decide) (by decide)
 replace g0 := NkP.to_grow rel_ g0 (fun x_ hx_ => by simp only [List.mem_cons, List.mem_singleton, List.not_mem_nil, or_false] at hx_; (first | (subst hx_; first | assumption | exact hbn) | (rcases hx_ with rfl | rfl <;> assumption)))  (Nat.le_refl _)
 replace K := K.new_nk rel_ (fun x_ hx_ => by simp only [List.mem_cons, List.mem_singleton, List.not_mem_nil, or_false] at hx_; (first | (rcases hx_ with rfl | rfl <;> first | (right; simp; done) | (left; assumption)) | (subst hx_; first | (right; simp; done) | (left; assumption))))
 clear rel_ st
 have st := st2_
 clear st2_
 refine qZ 10 ?_
 refine stp (zG1 rfl rfl ?_)
 refine zA6 ?_
 refine zA2 (b := (decide (((s.word p.seg p.off).2) ≠ 0))) rfl (fun h1 => ?_) (fun h1 => ?_)
 ·
  replace h1 := qT h1
  refine qZ 2 ?_
  refine stp (zA7 (v := .agg #[.int .i64 0, .int .i64 0, .int .i64 0, .int .i64 0, .int .i64 0, .int .i64 0, .int .i64 0]) (fun w => by kernel_rfl) ?_)
  refine qZ 1 ?_
  refine stn (qS hc10 ?_)
  intro w15 hc16 u17
  replace hc4 := u17.heap hc4 ne13
  replace g0 := (by first | exact Grow.upd g0 u17 (Nat.le_trans g0w (by assumption)) | exact Grow.upd g0 u17 hbn | exact Grow.upd g0 u17 hb0)
  replace K := (by first | exact K.upd_new u17 (by assumption) | exact K.tr (NkP.of_upd u17 (by simp)))
  replace st := st.upd u17 hc10 (by decide) (by decide)
  clear u17 hc10
  refine qZ 3 ?_
  have h9 : zE0 s p = (Ob0, (s.word p.seg p.off).2) := by unfold zE0; rw [if_pos h1]
  refine ret2 (zA5 rfl hc16 (by rfl)) (zA1 (v := .int .u16 ((s.word p.seg p.off).2)) rfl) ⟨by rw [h9] <;> rfl, _, fun h_ => absurd h_ (by rw [h9]; exact h1), by omega, st, K⟩
 ·
  replace h1 := qF h1
  refine qZ 8 ?_
  refine stp (zB5 rfl rfl ?_ ?_); constructor <;> omega
  refine stp (zO1 (a := .int .i64 p.seg) (b := .int .i64 (p.off + 1)) zP4 rfl rfl rfl (zN2 _ hA hr hx hs g0 hbn st (by have := hl1; omega) p.seg (p.off + 1)) ?_)
  rintro v_ w18 ⟨rfl, st2_, rel_⟩
  replace hc4 := rel_.hpN st hc4 (by decide) (by decide)
  replace hc10 := rel_.hpN st hc10 (by decide) (by decide)
  replace g0 := NkP.to_grow rel_ g0 (fun x_ hx_ => by simp only [List.mem_cons, List.mem_singleton, List.not_mem_nil, or_false] at hx_; (first | (subst hx_; first | assumption | exact hbn) | (rcases hx_ with rfl | rfl <;> assumption)))  (Nat.le_refl _)
  replace K := K.new_nk rel_ (fun x_ hx_ => by simp only [List.mem_cons, List.mem_singleton, List.not_mem_nil, or_false] at hx_; (first | (rcases hx_ with rfl | rfl <;> first | (right; simp; done) | (left; assumption)) | (subst hx_; first | (right; simp; done) | (left; assumption))))
  clear rel_ st
  have st := st2_
  clear st2_
  refine qZ 10 ?_
  refine stp (zG1 rfl rfl ?_)
  refine zA6 ?_
  refine zA2 (b := (decide (((s.word p.seg (p.off + 1)).2) ≠ 0))) rfl (fun h2 => ?_) (fun h2 => ?_)
  ·
   replace h2 := qT h2
   refine qZ 2 ?_
   refine stp (zA7 (v := .agg #[.int .i64 0, .int .i64 0, .int .i64 0, .int .i64 0, .int .i64 0, .int .i64 0, .int .i64 0]) (fun w => by kernel_rfl) ?_)
   refine qZ 1 ?_
   refine stn (qS hc10 ?_)
   intro w19 hc20 u21
   replace hc4 := u21.heap hc4 ne13
   replace g0 := (by first | exact Grow.upd g0 u21 (Nat.le_trans g0w (by assumption)) | exact Grow.upd g0 u21 hbn | exact Grow.upd g0 u21 hb0)
   replace K := (by first | exact K.upd_new u21 (by assumption) | exact K.tr (NkP.of_upd u21 (by simp)))
   replace st := st.upd u21 hc10 (by decide) (by decide)
   clear u21 hc10
   refine qZ 3 ?_
   have h9 : zE0 s p = (Ob0, (s.word p.seg (p.off + 1)).2) := by unfold zE0; rw [if_neg h1, if_pos h2]
   refine ret2 (zA5 rfl hc20 (by rfl)) (zA1 (v := .int .u16 ((s.word p.seg (p.off + 1)).2)) rfl) ⟨by rw [h9] <;> rfl, _, fun _ => rfl, by omega, st, K⟩
  ·
   replace h2 := qF h2
   refine qZ 4 ?_
   refine stp (zA4 (v := .tuple #[.agg #[.int .i64 ((decP (s.word p.seg p.off).1).kind), .int .i64 ((decP (s.word p.seg p.off).1).off), .int .i64 ((decP (s.word p.seg p.off).1).data), .int .i64 ((decP (s.word p.seg p.off).1).ptrs), .int .i64 ((decP (s.word p.seg p.off).1).size), .int .i64 ((decP (s.word p.seg p.off).1).count), .int .i64 ((decP (s.word p.seg p.off).1).seg), .bool ((decP (s.word p.seg p.off).1).dbl)], .int .u16 (decE (s.word p.seg p.off).1)]) rfl (zL2 _ _ (num9 hs hx p.seg p.off).1 (num9 hs hx p.seg p.off).2.1) ?_)
   intro w22 g23
   replace hc4 := g23.heap hc4
   replace hc10 := g23.heap hc10
   replace g0 := g0.tr g23
   replace K := K.tr (NkP.of_grow g23)
   replace st := st.grow g23
   clear g23
   refine qZ 3 ?_
   refine stp (zA8 ?_)
   intro b24 w25 hb26 hc27 g28
   refine stn (qS hc27 ?_)
   intro w29 hc30 u31
   have g32 := g28.upd u31 hb26
   have hge33 := Nat.le_trans K.size hb26
   have ne34 := qN hc4 hb26
   have ne35 := qN hc10 hb26
   replace hc4 := g32.heap hc4
   replace hc10 := g32.heap hc10
   replace g0 := g0.tr g32
   replace K := K.tr (NkP.of_grow g32)
   replace st := st.grow g32
   clear u31 g28 hb26 hc27
   refine qZ 6 ?_
   refine stp (zG1 rfl rfl ?_)
   refine zA6 ?_
   refine zA2 (b := (decide ((decE (s.word p.seg p.off).1) ≠ 0))) rfl (fun h3 => ?_) (fun h3 => ?_)
   ·
    replace h3 := qT h3
    refine qZ 2 ?_
    refine stp (zA7 (v := .agg #[.int .i64 0, .int .i64 0, .int .i64 0, .int .i64 0, .int .i64 0, .int .i64 0, .int .i64 0]) (fun w => by kernel_rfl) ?_)
    refine qZ 1 ?_
    refine stn (qS hc10 ?_)
    intro w36 hc37 u38
    replace hc4 := u38.heap hc4 ne13
    replace g0 := (by first | exact Grow.upd g0 u38 (Nat.le_trans g0w (by assumption)) | exact Grow.upd g0 u38 hbn | exact Grow.upd g0 u38 hb0)
    replace K := (by first | exact K.upd_new u38 (by assumption) | exact K.tr (NkP.of_upd u38 (by simp)))
    replace st := st.upd u38 hc10 (by decide) (by decide)
    replace hc30 := u38.heap hc30 ne35.symm
    clear u38 hc10
    refine qZ 3 ?_
    have h9 : zE0 s p = (Ob0, decE (s.word p.seg p.off).1) := by unfold zE0; rw [if_neg h1, if_neg h2, if_pos h3]
    refine ret2 (zA5 rfl hc37 (by rfl)) (zA1 (v := .int .u16 (decE (s.word p.seg p.off).1)) rfl) ⟨by rw [h9] <;> rfl, _, fun _ => rfl, by omega, st, K⟩
   ·
    replace h3 := qF h3
    refine qZ 4 ?_
    refine stp (zA4 (v := .tuple #[.agg #[.int .i64 ((decP (s.word p.seg (p.off + 1)).1).kind), .int .i64 ((decP (s.word p.seg (p.off + 1)).1).off), .int .i64 ((decP (s.word p.seg (p.off + 1)).1).data), .int .i64 ((decP (s.word p.seg (p.off + 1)).1).ptrs), .int .i64 ((decP (s.word p.seg (p.off + 1)).1).size), .int .i64 ((decP (s.word p.seg (p.off + 1)).1).count), .int .i64 ((decP (s.word p.seg (p.off + 1)).1).seg), .bool ((decP (s.word p.seg (p.off + 1)).1).dbl)], .int .u16 (decE (s.word p.seg (p.off + 1)).1)]) rfl (zL2 _ _ (num9 hs hx p.seg (p.off + 1)).1 (num9 hs hx p.seg (p.off + 1)).2.1) ?_)
    intro w39 g40
    replace hc4 := g40.heap hc4
    replace hc10 := g40.heap hc10
    replace g0 := g0.tr g40
    replace K := K.tr (NkP.of_grow g40)
    replace st := st.grow g40
    replace hc30 := g40.heap hc30
    clear g40
    refine qZ 3 ?_
    refine stp (zA8 ?_)
    intro b41 w42 hb43 hc44 g45
    refine stn (qS hc44 ?_)
    intro w46 hc47 u48
    have g49 := g45.upd u48 hb43
    have hge50 := Nat.le_trans K.size hb43
    have ne51 := qN hc4 hb43
    have ne52 := qN hc10 hb43
    have ne53 := qN hc30 hb43
    replace hc4 := g49.heap hc4
    replace hc10 := g49.heap hc10
    replace g0 := g0.tr g49
    replace K := K.tr (NkP.of_grow g49)
    replace st := st.grow g49
    replace hc30 := g49.heap hc30
    clear u48 g45 hb43 hc44
    refine qZ 7 ?_
    refine stp (zG1 rfl rfl ?_)
    refine qZ 2 ?_
    refine zA2 (b := (decide ((decE (s.word p.seg (p.off + 1)).1) ≠ 0))) rfl (fun h4 => ?_) (fun h4 => ?_)
    ·
     replace h4 := qT h4
     refine qZ 2 ?_
     refine stp (zA7 (v := .agg #[.int .i64 0, .int .i64 0, .int .i64 0, .int .i64 0, .int .i64 0, .int .i64 0, .int .i64 0]) (fun w => by kernel_rfl) ?_)
     refine qZ 1 ?_
     refine stn (qS hc10 ?_)
     intro w54 hc55 u56
     replace hc4 := u56.heap hc4 ne13
     replace g0 := (by first | exact Grow.upd g0 u56 (Nat.le_trans g0w (by assumption)) | exact Grow.upd g0 u56 hbn | exact Grow.upd g0 u56 hb0)
     replace K := (by first | exact K.upd_new u56 (by assumption) | exact K.tr (NkP.of_upd u56 (by simp)))
     replace st := st.upd u56 hc10 (by decide) (by decide)
     replace hc30 := u56.heap hc30 ne35.symm
     replace hc47 := u56.heap hc47 ne52.symm
     clear u56 hc10
     refine qZ 3 ?_
     have h9 : zE0 s p = (Ob0, decE (s.word p.seg (p.off + 1)).1) := by unfold zE0; rw [if_neg h1, if_neg h2, if_neg h3, if_pos h4]
     refine ret2 (zA5 rfl hc55 (by rfl)) (zA1 (v := .int .u16 (decE (s.word p.seg (p.off + 1)).1)) rfl) ⟨by rw [h9] <;> rfl, _, fun _ => rfl, by omega, st, K⟩
    ·
     replace h4 := qF h4
     refine qZ 4 ?_
     refine stp (zG1 rfl rfl ?_)
     refine qZ 1 ?_
     refine qG 2 ?_
     refine stp (zH6 rfl rfl rfl ?_)
     refine qZ 1 ?_
     refine zA3 (zB0 (s := .bool _) (v := .agg #[.int .i64 ((decP (s.word p.seg (p.off + 1)).1).kind), .int .i64 ((decP (s.word p.seg (p.off + 1)).1).off), .int .i64 ((decP (s.word p.seg (p.off + 1)).1).data), .int .i64 ((decP (s.word p.seg (p.off + 1)).1).ptrs), .int .i64 ((decP (s.word p.seg (p.off + 1)).1).size), .int .i64 ((decP (s.word p.seg (p.off + 1)).1).count), .int .i64 ((decP (s.word p.seg (p.off + 1)).1).seg), .bool ((decP (s.word p.seg (p.off + 1)).1).dbl)]) rfl (zE2 _) (fun hc59 => ?_) ?_)
     ·
      have hc59_ := hc59
      try simp only [sb] at hc59_
      refine zD2 rfl hc47 (by rfl) ?_
      exact ⟨rfl, rfl⟩
     refine zA3 (zY2 (s := .bool ((decide (((decP (s.word p.seg p.off).1).kind) ≠ 3)) || ((decP (s.word p.seg p.off).1).dbl))) (b := false) (v := .bool (zI3 (decP (s.word p.seg (p.off + 1)).1))) rfl (zE2 _) (fun hc60 => ?_) ?_)
     ·
      have hc60_ := hc60
      try simp only [sb] at hc60_
      exact zN5 (l := ([.agg #[.int .i64 ((decP (s.word p.seg (p.off + 1)).1).kind), .int .i64 ((decP (s.word p.seg (p.off + 1)).1).off), .int .i64 ((decP (s.word p.seg (p.off + 1)).1).data), .int .i64 ((decP (s.word p.seg (p.off + 1)).1).ptrs), .int .i64 ((decP (s.word p.seg (p.off + 1)).1).size), .int .i64 ((decP (s.word p.seg (p.off + 1)).1).count), .int .i64 ((decP (s.word p.seg (p.off + 1)).1).seg), .bool ((decP (s.word p.seg (p.off + 1)).1).dbl)]] : List Value)) rfl (by show ([gv (!((decide (((decP (s.word p.seg p.off).1).kind) ≠ 3)) || ((decP (s.word p.seg p.off).1).dbl))) (.agg #[.int .i64 ((decP (s.word p.seg (p.off + 1)).1).kind), .int .i64 ((decP (s.word p.seg (p.off + 1)).1).off), .int .i64 ((decP (s.word p.seg (p.off + 1)).1).data), .int .i64 ((decP (s.word p.seg (p.off + 1)).1).ptrs), .int .i64 ((decP (s.word p.seg (p.off + 1)).1).size), .int .i64 ((decP (s.word p.seg (p.off + 1)).1).count), .int .i64 ((decP (s.word p.seg (p.off + 1)).1).seg), .bool ((decP (s.word p.seg (p.off + 1)).1).dbl)])] : List Value) = _; rw [gvt hc60]) (zL3 _ (decP (s.word p.seg (p.off + 1)).1)) (fun w2_ g2_ => ⟨rfl, g2_⟩)
     intro w61 g62
     replace hc4 := g62.heap hc4
     replace hc10 := g62.heap hc10
     replace g0 := g0.tr g62
     replace K := K.tr (NkP.of_grow g62)
     replace st := st.grow g62
     replace hc30 := g62.heap hc30
     replace hc47 := g62.heap hc47
     clear g62
     refine zA3 (zB0 (s := .bool _) (v := .bool (!(zI3 (decP (s.word p.seg (p.off + 1)).1)))) rfl (zE2 _) (fun hc63 => ?_) ?_)
     ·
      have hc63_ := hc63
      try simp only [sb] at hc63_
      refine zN7 (gvt hc63) ?_
      exact ⟨rfl, rfl⟩
     refine stp (zH6 rfl rfl rfl ?_)
     refine qZ 1 ?_
     refine qG 2 ?_
     refine zA3 (zB0 (s := .bool _) (v := .bool (decide (((decP (s.word p.seg (p.off + 1)).1).off) ≠ 0))) rfl (zE2 _) (fun hc66 => ?_) ?_)
     ·
      have hc66_ := hc66
      try simp only [sb] at hc66_
      refine zG1 (gvt hc66) rfl ?_
      exact ⟨rfl, rfl⟩
     refine stp (zH6 rfl rfl rfl ?_)
     refine qZ 2 ?_
     refine zA2 (b := ((((decide (((decP (s.word p.seg p.off).1).kind) ≠ 3)) || ((decP (s.word p.seg p.off).1).dbl)) || (!(zI3 (decP (s.word p.seg (p.off + 1)).1)))) || (decide (((decP (s.word p.seg (p.off + 1)).1).off) ≠ 0)))) rfl (fun h5 => ?_) (fun h5 => ?_)
     ·
      simp only [sb] at h5
      have h8 : (decP (s.word p.seg p.off).1).kind ≠ 3 ∨ (decP (s.word p.seg p.off).1).dbl = true ∨ zI3 (decP (s.word p.seg (p.off + 1)).1) = false ∨ (decP (s.word p.seg (p.off + 1)).1).off ≠ 0 := by simpa [or_assoc] using h5
      refine qZ 2 ?_
      refine stp (zA7 (v := .agg #[.int .i64 0, .int .i64 0, .int .i64 0, .int .i64 0, .int .i64 0, .int .i64 0, .int .i64 0]) (fun w => by kernel_rfl) ?_)
      refine stn (qS hc10 ?_)
      intro w67 hc68 u69
      replace hc4 := u69.heap hc4 ne13
      replace g0 := (by first | exact Grow.upd g0 u69 (Nat.le_trans g0w (by assumption)) | exact Grow.upd g0 u69 hbn | exact Grow.upd g0 u69 hb0)
      replace K := (by first | exact K.upd_new u69 (by assumption) | exact K.tr (NkP.of_upd u69 (by simp)))
      replace st := st.upd u69 hc10 (by decide) (by decide)
      replace hc30 := u69.heap hc30 ne35.symm
      replace hc47 := u69.heap hc47 ne52.symm
      clear u69 hc10
      refine qZ 3 ?_
      have h9 : zE0 s p = (Ob0, 23) := by unfold zE0; rw [if_neg h1, if_neg h2, if_neg h3, if_neg h4, if_pos h8]
      refine ret2 (zA5 rfl hc68 (by rfl)) (zA1 (v := .int .u16 23) rfl) ⟨by rw [h9] <;> rfl, _, fun _ => rfl, by omega, st, K⟩
     ·
      simp only [sb] at h5
      have h8 : ¬ ((decP (s.word p.seg p.off).1).kind ≠ 3 ∨ (decP (s.word p.seg p.off).1).dbl = true ∨ zI3 (decP (s.word p.seg (p.off + 1)).1) = false ∨ (decP (s.word p.seg (p.off + 1)).1).off ≠ 0) := by simpa [and_assoc] using h5
      refine qZ 9 ?_
      refine stp (zA4 (v := .tuple #[.agg #[.int .i64 ((zB6 s (decP (s.word p.seg (p.off + 1)).1) ((decP (s.word p.seg p.off).1).seg) ((decP (s.word p.seg p.off).1).off)).1.kind), .int .i64 ((zB6 s (decP (s.word p.seg (p.off + 1)).1) ((decP (s.word p.seg p.off).1).seg) ((decP (s.word p.seg p.off).1).off)).1.seg), .int .i64 ((zB6 s (decP (s.word p.seg (p.off + 1)).1) ((decP (s.word p.seg p.off).1).seg) ((decP (s.word p.seg p.off).1).off)).1.at_), .int .i64 ((zB6 s (decP (s.word p.seg (p.off + 1)).1) ((decP (s.word p.seg p.off).1).seg) ((decP (s.word p.seg p.off).1).off)).1.data), .int .i64 ((zB6 s (decP (s.word p.seg (p.off + 1)).1) ((decP (s.word p.seg p.off).1).seg) ((decP (s.word p.seg p.off).1).off)).1.ptrs), .int .i64 ((zB6 s (decP (s.word p.seg (p.off + 1)).1) ((decP (s.word p.seg p.off).1).seg) ((decP (s.word p.seg p.off).1).off)).1.size), .int .i64 ((zB6 s (decP (s.word p.seg (p.off + 1)).1) ((decP (s.word p.seg p.off).1).seg) ((decP (s.word p.seg p.off).1).off)).1.count)], .int .u16 ((zB6 s (decP (s.word p.seg (p.off + 1)).1) ((decP (s.word p.seg p.off).1).seg) ((decP (s.word p.seg p.off).1).off)).2)]) rfl (zW5 _ hA hr hx hs g0 hbn st (by omega) (decP (s.word p.seg (p.off + 1)).1) ((decP (s.word p.seg p.off).1).seg) ((decP (s.word p.seg p.off).1).off) hr9 (by simp only [inR]; omega)) ?_)
      intro w70 g71
      replace hc4 := g71.heap hc4
      replace hc10 := g71.heap hc10
      replace g0 := g0.tr g71
      replace K := K.tr (NkP.of_grow g71)
      replace st := st.grow g71
      replace hc30 := g71.heap hc30
      replace hc47 := g71.heap hc47
      clear g71
      refine qZ 2 ?_
      refine stn (qS hc10 ?_)
      intro w72 hc73 u74
      replace hc4 := u74.heap hc4 ne13
      replace g0 := (by first | exact Grow.upd g0 u74 (Nat.le_trans g0w (by assumption)) | exact Grow.upd g0 u74 hbn | exact Grow.upd g0 u74 hb0)
      replace K := (by first | exact K.upd_new u74 (by assumption) | exact K.tr (NkP.of_upd u74 (by simp)))
      replace st := st.upd u74 hc10 (by decide) (by decide)
      replace hc30 := u74.heap hc30 ne35.symm
      replace hc47 := u74.heap hc47 ne52.symm
      clear u74 hc10
      refine qZ 3 ?_
      have h9 : zE0 s p = zB6 s (decP (s.word p.seg (p.off + 1)).1) (decP (s.word p.seg p.off).1).seg (decP (s.word p.seg p.off).1).off := by unfold zE0; rw [if_neg h1, if_neg h2, if_neg h3, if_neg h4, if_neg h8]
      refine ret2 (zA5 rfl hc73 (by rfl)) (zA1 (v := .int .u16 ((zB6 s (decP (s.word p.seg (p.off + 1)).1) ((decP (s.word p.seg p.off).1).seg) ((decP (s.word p.seg p.off).1).off)).2)) rfl) ⟨by rw [h9] <;> rfl, _, fun _ => rfl, by omega, st, K⟩
theorem zU5 (w : World) {w0 : World} {u : Value} {A : List (List Int)} (hA : zG5 w0 u A) (hr : zD1 A = true) (hx : AllU A) {s : Src} (hs : s = zB7 A) (g0 : Grow w0 w) {bn : Nat} (hbn : w0.heap.size ≤ bn) {L : List Spn} (st : NtS 110 79 61 w0.heap.size w u bn L) (hL : L.length ≤ 99000) (seg a : Int) : Calls Tryz.prog 52 #[.iface 74 (.pointer (some ⟨bn, 0, none⟩)), .int .i64 seg, .int .i64 a] w (Ret fun v w' => v = .tuple #[.agg #[.int .i64 ((zA0 s seg a).1.kind), .int .i64 ((zA0 s seg a).1.seg), .int .i64 ((zA0 s seg a).1.at_), .int .i64 ((zA0 s seg a).1.data), .int .i64 ((zA0 s seg a).1.ptrs), .int .i64 ((zA0 s seg a).1.size), .int .i64 ((zA0 s seg a).1.count)], .int .u16 ((zA0 s seg a).2)] ∧ ∃ L2, ((zA0 s seg a).2 = 0 → L2 = zH9 A L seg a) ∧ L2.length ≤ L.length + 3 ∧ NtS 110 79 61 w0.heap.size w' u bn L2 ∧ NkP [bn] 61 w0.heap.size w w') := by
 have K := NkP.refl [bn] 61 w0.heap.size w
 have g0w := g0.size
 have hq := ptr9 hs hx seg a
 have hqo := hq.off
 have hqk := hq.kind
 have hln := zT2 A L seg a
 refine zC2 Tryz.func52 Tryz.ntmps52 Tryz.results52 rfl rfl ?_
 refine qZ 2 ?_
 refine stp (zA8 ?_)
 intro b1 w2 hb3 hc4 g5
 refine qZ 6 ?_
 refine stp (yE5 (T := 74) (v := .pointer (some ⟨bn, 0, none⟩)) rfl rfl ?_)
 refine zA6 ?_
 have hge6 := Nat.le_trans K.size hb3
 replace K := K.tr (NkP.of_grow g5)
 replace g0 := g0.tr g5
 replace st := st.grow g5
 clear g5 hb3
 refine zM3 rfl ?_
 refine qZ 6 ?_
 refine stp ?_
 refine zD6 rfl (zY4 _ hA hr hx hs g0 hbn st (by have := hL; omega) seg a) ?_
 rintro v_ w7 ⟨rfl, st2_, rel_⟩
 replace hc4 := rel_.hpN st hc4 (by decide) (by decide)
 replace g0 := NkP.to_grow rel_ g0 (fun x_ hx_ => by simp only [List.mem_cons, List.mem_singleton, List.not_mem_nil, or_false] at hx_; (first | (subst hx_; first | assumption | exact hbn) | (rcases hx_ with rfl | rfl <;> assumption)))  (Nat.le_refl _)
 replace K := K.new_nk rel_ (fun x_ hx_ => by simp only [List.mem_cons, List.mem_singleton, List.not_mem_nil, or_false] at hx_; (first | (rcases hx_ with rfl | rfl <;> first | (right; simp; done) | (left; assumption)) | (subst hx_; first | (right; simp; done) | (left; assumption))))
 clear rel_ st
 have st := st2_
 clear st2_
 have hl_w7 := zT2 A L seg a
 refine qZ 3 ?_
 refine stp (zA8 ?_)
 intro b8 w9 hb10 hc11 g12
 refine stn (qS hc11 ?_)
 intro w13 hc14 u15
 have g16 := g12.upd u15 hb10
 have hge17 := Nat.le_trans K.size hb10
 have ne18 := qN hc4 hb10
 replace hc4 := g16.heap hc4
 replace g0 := g0.tr g16
 replace K := K.tr (NkP.of_grow g16)
 replace st := st.grow g16
 clear u15 g12 hb10 hc11
 refine qZ 7 ?_
 refine stp (zG1 rfl rfl ?_)
 refine qZ 1 ?_
 refine qG 2 ?_
 refine zA3 (zB0 (s := .bool _) (v := .bool (decide (((ptrS s seg a).1.kind) = 0))) rfl (zE2 _) (fun hc21 => ?_) ?_)
 ·
  have hc21_ := hc21
  try simp only [sb] at hc21_
  refine zC7 (gvt hc21) rfl ?_
  exact ⟨rfl, rfl⟩
 refine stp (zH6 rfl rfl rfl ?_)
 refine qZ 2 ?_
 refine zA2 (b := ((decide (((ptrS s seg a).2) ≠ 0)) || (decide (((ptrS s seg a).1.kind) = 0)))) rfl (fun h1 => ?_) (fun h1 => ?_)
 ·
  simp only [sb] at h1
  refine qZ 2 ?_
  refine stp (zA7 (v := .agg #[.int .i64 0, .int .i64 0, .int .i64 0, .int .i64 0, .int .i64 0, .int .i64 0, .int .i64 0]) (fun w => by kernel_rfl) ?_)
  refine qZ 1 ?_
  refine stn (qS hc4 ?_)
  intro w22 hc23 u24
  replace g0 := (by first | exact Grow.upd g0 u24 (Nat.le_trans g0w (by assumption)) | exact Grow.upd g0 u24 hbn | exact Grow.upd g0 u24 hb0)
  replace K := (by first | exact K.upd_new u24 (by assumption) | exact K.tr (NkP.of_upd u24 (by simp)))
  replace st := st.upd u24 hc4 (by decide) (by decide)
  replace hc14 := u24.heap hc14 ne18.symm
  clear u24 hc4
  refine qZ 3 ?_
  have h9 : zA0 s seg a = (Ob0, (ptrS s seg a).2) := by unfold zA0; rw [if_pos h1]
  refine ret2 (zA5 rfl hc23 (by rfl)) (zA1 (v := .int .u16 ((ptrS s seg a).2)) rfl) ⟨by rw [h9] <;> rfl, _, fun h_ => by rw [h9] at h_; exact (yT1 hs h_ (by have h_ : (ptrS s seg a).2 = 0 := h_; omega) L).symm, by omega, st, K⟩
 ·
  simp only [sb] at h1
  have hz : (ptrS s seg a).2 = 0 := by omega
  have hb := jG5 hs hr hz
  have h1n : ¬ ((ptrS s seg a).2 ≠ 0 ∨ (ptrS s seg a).1.kind = 0) := by omega
  refine qZ 3 ?_
  refine stp (zA4 (v := .bool (zI3 ((ptrS s seg a).1))) rfl (zL3 _ ((ptrS s seg a).1)) ?_)
  intro w25 g26
  replace hc4 := g26.heap hc4
  replace g0 := g0.tr g26
  replace K := K.tr (NkP.of_grow g26)
  replace st := st.grow g26
  replace hc14 := g26.heap hc14
  clear g26
  refine qZ 2 ?_
  refine zA2 (b := (zI3 ((ptrS s seg a).1))) rfl (fun h2 => ?_) (fun h2 => ?_)
  ·
   have hkn : (ptrS s seg a).1.kind ≠ 3 := by intro h_; simp [zI3, h_] at h2
   refine qZ 6 ?_
   refine stp (zB5 rfl rfl ?_ ?_); constructor <;> omega
   refine qZ 2 ?_
   refine stp (zB5 rfl rfl ?_ ?_); constructor <;> omega
   refine stp (zA4 (v := .tuple #[.agg #[.int .i64 ((zB6 s ((ptrS s seg a).1) seg ((a + 1) + ((ptrS s seg a).1.off))).1.kind), .int .i64 ((zB6 s ((ptrS s seg a).1) seg ((a + 1) + ((ptrS s seg a).1.off))).1.seg), .int .i64 ((zB6 s ((ptrS s seg a).1) seg ((a + 1) + ((ptrS s seg a).1.off))).1.at_), .int .i64 ((zB6 s ((ptrS s seg a).1) seg ((a + 1) + ((ptrS s seg a).1.off))).1.data), .int .i64 ((zB6 s ((ptrS s seg a).1) seg ((a + 1) + ((ptrS s seg a).1.off))).1.ptrs), .int .i64 ((zB6 s ((ptrS s seg a).1) seg ((a + 1) + ((ptrS s seg a).1.off))).1.size), .int .i64 ((zB6 s ((ptrS s seg a).1) seg ((a + 1) + ((ptrS s seg a).1.off))).1.count)], .int .u16 ((zB6 s ((ptrS s seg a).1) seg ((a + 1) + ((ptrS s seg a).1.off))).2)]) rfl (zW5 _ hA hr hx hs g0 hbn st (by omega) ((ptrS s seg a).1) seg ((a + 1) + ((ptrS s seg a).1.off)) hq (by simp only [inR]; omega)) ?_)
   intro w27 g28
   replace hc4 := g28.heap hc4
   replace g0 := g0.tr g28
   replace K := K.tr (NkP.of_grow g28)
   replace st := st.grow g28
   replace hc14 := g28.heap hc14
   clear g28
   refine qZ 2 ?_
   refine stn (qS hc4 ?_)
   intro w29 hc30 u31
   replace g0 := (by first | exact Grow.upd g0 u31 (Nat.le_trans g0w (by assumption)) | exact Grow.upd g0 u31 hbn | exact Grow.upd g0 u31 hb0)
   replace K := (by first | exact K.upd_new u31 (by assumption) | exact K.tr (NkP.of_upd u31 (by simp)))
   replace st := st.upd u31 hc4 (by decide) (by decide)
   replace hc14 := u31.heap hc14 ne18.symm
   clear u31 hc4
   refine qZ 3 ?_
   have h9 : zA0 s seg a = zB6 s (ptrS s seg a).1 seg (a + 1 + (ptrS s seg a).1.off) := by unfold zA0; rw [if_neg h1n, if_pos h2]
   refine ret2 (zA5 rfl hc30 (by rfl)) (zA1 (v := .int .u16 ((zB6 s ((ptrS s seg a).1) seg ((a + 1) + ((ptrS s seg a).1.off))).2)) rfl) ⟨by rw [h9] <;> rfl, _, fun _ => (yT1 hs hz hkn L).symm, by omega, st, K⟩
  ·
   have hk3 : (ptrS s seg a).1.kind = 3 := by have h_ : ¬ ((ptrS s seg a).1.kind = 1 ∨ (ptrS s seg a).1.kind = 2) := (by simpa [zI3] using h2); omega
   refine qZ 6 ?_
   refine zA2 (b := ((ptrS s seg a).1.dbl)) rfl (fun h3 => ?_) (fun h3 => ?_)
   ·
    refine qZ 4 ?_
    refine stp ?_
    refine zD6 rfl (qW2 _ hA hr hx hs g0 hbn st (by omega) (ptrS s seg a).1 hq) ?_
    rintro v_ w32 ⟨rfl, L2, he2, hl2, st2_, rel_⟩
    replace hc4 := rel_.hpN st hc4 (by decide) (by decide)
    replace hc14 := rel_.hpN st hc14 (by decide) (by decide)
    replace g0 := NkP.to_grow rel_ g0 (fun x_ hx_ => by simp only [List.mem_cons, List.mem_singleton, List.not_mem_nil, or_false] at hx_; (first | (subst hx_; first | assumption | exact hbn) | (rcases hx_ with rfl | rfl <;> assumption)))  (Nat.le_refl _)
    replace K := K.new_nk rel_ (fun x_ hx_ => by simp only [List.mem_cons, List.mem_singleton, List.not_mem_nil, or_false] at hx_; (first | (rcases hx_ with rfl | rfl <;> first | (right; simp; done) | (left; assumption)) | (subst hx_; first | (right; simp; done) | (left; assumption))))
    clear rel_ st
    have st := st2_
    clear st2_
    refine qZ 2 ?_
    refine stn (qS hc4 ?_)
    intro w33 hc34 u35
    replace hc14 := u35.heap hc14 ne18.symm
    replace g0 := (by first | exact Grow.upd g0 u35 (Nat.le_trans g0w (by assumption)) | exact Grow.upd g0 u35 hbn | exact Grow.upd g0 u35 hb0)
    replace K := (by first | exact K.upd_new u35 (by assumption) | exact K.tr (NkP.of_upd u35 (by simp)))
    replace st := st.upd u35 hc4 (by decide) (by decide)
    clear u35 hc4
    refine qZ 3 ?_
    have h9 : zA0 s seg a = zE0 s (ptrS s seg a).1 := by unfold zA0; rw [if_neg h1n, if_neg (by simp [h2]), if_pos h3]
    refine ret2 (zA5 rfl hc34 (by rfl)) (zA1 (v := .int .u16 ((zE0 s (ptrS s seg a).1).2)) rfl) ⟨by rw [h9] <;> rfl, _, fun h_ => by rw [he2 (by rw [h9] at h_; exact h_), jD8 hs hz hk3 h3], by omega, st, K⟩
   ·
    refine qZ 5 ?_
    refine stp ?_
    refine zD6 rfl (qQ6 _ hA hr hx hs g0 hbn st (by omega) (ptrS s seg a).1 hq) ?_
    rintro v_ w36 ⟨rfl, st2_, rel_⟩
    replace hc4 := rel_.hpN st hc4 (by decide) (by decide)
    replace hc14 := rel_.hpN st hc14 (by decide) (by decide)
    replace g0 := NkP.to_grow rel_ g0 (fun x_ hx_ => by simp only [List.mem_cons, List.mem_singleton, List.not_mem_nil, or_false] at hx_; (first | (subst hx_; first | assumption | exact hbn) | (rcases hx_ with rfl | rfl <;> assumption)))  (Nat.le_refl _)
    replace K := K.new_nk rel_ (fun x_ hx_ => by simp only [List.mem_cons, List.mem_singleton, List.not_mem_nil, or_false] at hx_; (first | (rcases hx_ with rfl | rfl <;> first | (right; simp; done) | (left; assumption)) | (subst hx_; first | (right; simp; done) | (left; assumption))))
    clear rel_ st
    have st := st2_
    clear st2_
    have hl3 := zT2 A (zL5 A L seg a) (ptrS s seg a).1.seg (ptrS s seg a).1.off
    refine qZ 2 ?_
    refine stn (qS hc4 ?_)
    intro w37 hc38 u39
    replace hc14 := u39.heap hc14 ne18.symm
    replace g0 := (by first | exact Grow.upd g0 u39 (Nat.le_trans g0w (by assumption)) | exact Grow.upd g0 u39 hbn | exact Grow.upd g0 u39 hb0)
    replace K := (by first | exact K.upd_new u39 (by assumption) | exact K.tr (NkP.of_upd u39 (by simp)))
    replace st := st.upd u39 hc4 (by decide) (by decide)
    clear u39 hc4
    refine qZ 3 ?_
    have h9 : zA0 s seg a = zD3 s (ptrS s seg a).1 := by unfold zA0; rw [if_neg h1n, if_neg (by simp [h2]), if_neg (by simp [h3])]
    refine ret2 (zA5 rfl hc38 (by rfl)) (zA1 (v := .int .u16 ((zD3 s (ptrS s seg a).1).2)) rfl) ⟨by rw [h9] <;> rfl, _, fun _ => (yY7 hs hz hk3 (by simp [h3]) L).symm, by omega, st, K⟩
theorem yC0 (w : World) {w0 : World} {u : Value} {A : List (List Int)} (hA : zG5 w0 u A) (hr : zD1 A = true) (hx : AllU A) {s : Src} (hs : s = zB7 A) (g0 : Grow w0 w) {bn : Nat} (hbn : w0.heap.size ≤ bn) {L : List Spn} (st : NtS 110 79 61 w0.heap.size w u bn L) (hL : L.length ≤ 99000) {b : Nat} {o : Ob} {left k : Int} (hb0 : w0.heap.size ≤ b) (hb : w.heap[b]? = some (.cells #[.iface 74 (.pointer (some ⟨bn, 0, none⟩)), .int .i64 o.kind, .int .i64 o.seg, .int .i64 o.at_, .int .i64 o.data, .int .i64 o.ptrs, .int .i64 o.size, .int .i64 o.count, .int .i64 left] 117 (0, 0))) (ho : ObR o) (hok : ObK o) (hk : 0 ≤ k) : Calls Tryz.prog 54 #[.pointer (some ⟨b, 0, none⟩), .int .i64 k] w (Ret fun v w' => v = .int .u16 (zF8 s o k).2 ∧ ∃ L2, ((zF8 s o k).2 = 0 → L2 = yK2 A L o k) ∧ L2.length ≤ L.length + 3 ∧ w'.heap[b]? = some (.cells #[.iface 74 (.pointer (some ⟨bn, 0, none⟩)), .int .i64 ((zF8 s o k).1.kind), .int .i64 ((zF8 s o k).1.seg), .int .i64 ((zF8 s o k).1.at_), .int .i64 ((zF8 s o k).1.data), .int .i64 ((zF8 s o k).1.ptrs), .int .i64 ((zF8 s o k).1.size), .int .i64 ((zF8 s o k).1.count), .int .i64 left] 117 (0, 0)) ∧ NtS 110 79 61 w0.heap.size w' u bn L2 ∧ NkP [bn, b] 61 w0.heap.size w w') := by
 obtain ⟨rk, rs, ra, rd, rp, rz, rc⟩ := ho
 have K := NkP.refl [bn, b] 61 w0.heap.size w
 have g0w := g0.size
 have hblt := zB3 hb
 refine zC2 Tryz.func54 Tryz.ntmps54 Tryz.results54 rfl rfl ?_
 refine qZ 9 ?_
 refine stp (zH8 rfl hb (by rfl) (by rfl) ?_)
 refine stp (zA8 ?_)
 intro b1 w2 hb3 hc4 g5
 refine stn (qS hc4 ?_)
 intro w6 hc7 u8
 have g9 := g5.upd u8 hb3
 have hge10 := Nat.le_trans K.size hb3
 have ne11 := qN hb hb3
 replace K := K.tr (NkP.of_grow g9)
 replace g0 := g0.tr g9
 replace st := st.grow g9
 replace hb := g9.heap hb
 clear u8 g5 hb3 hc4
 refine qZ 6 ?_
 refine stp (zH0 rfl rfl ?_)
 obtain ⟨at9, hat9⟩ : ∃ x, x = IntKind.i64.wrap (o.at_ + k) := ⟨_, rfl⟩
 rw [← hat9]
 refine qZ 8 ?_
 refine stp (zC7 rfl rfl ?_)
 refine qZ 1 ?_
 refine qG 2 ?_
 refine zA3 (zB0 (s := .bool _) (v := .bool (decide (o.kind = 1))) rfl (zE2 _) (fun hc14 => ?_) ?_)
 ·
  have hc14_ := hc14
  try simp only [sb] at hc14_
  refine zC7 (gvt hc14) rfl ?_
  exact ⟨rfl, rfl⟩
 refine qG 1 ?_
 refine zA3 (zB0 (s := gv (!(decide (o.kind = 0))) (.bool (decide (o.kind = 1)))) (b := true) (v := .int .i64 k) rfl (zI0 _ _) (fun hc16 => ?_) ?_)
 ·
  obtain ⟨hc16a, hc16b⟩ := and_t hc16
  have hc16a_ := hc16a
  try simp only [sb] at hc16a_
  have hc16b_ := qT hc16b
  refine zC8 rfl ?_
  exact ⟨rfl, rfl⟩
 refine zA3 (zB0 (s := gv (!(decide (o.kind = 0))) (.bool (decide (o.kind = 1)))) (b := true) (v := .pointer (some ⟨b1, 4, none⟩)) rfl (zI0 _ _) (fun hc17 => ?_) ?_)
 ·
  obtain ⟨hc17a, hc17b⟩ := and_t hc17
  have hc17a_ := hc17a
  try simp only [sb] at hc17a_
  have hc17b_ := qT hc17b
  refine zD0 rfl ?_
  exact ⟨rfl, rfl⟩
 refine zA3 (zB0 (s := gv (!(decide (o.kind = 0))) (.bool (decide (o.kind = 1)))) (b := true) (v := .int .i64 o.ptrs) rfl (zI0 _ _) (fun hc18 => ?_) ?_)
 ·
  obtain ⟨hc18a, hc18b⟩ := and_t hc18
  have hc18a_ := hc18a
  try simp only [sb] at hc18a_
  have hc18b_ := qT hc18b
  refine zG2 (v := .int .i64 o.ptrs) (gvt hc18) hc7 rfl ?_
  exact ⟨rfl, rfl⟩
 refine zA3 (zB0 (s := gv (!(decide (o.kind = 0))) (.bool (decide (o.kind = 1)))) (b := true) (v := .bool (decide (k ≥ o.ptrs))) rfl (zI0 _ _) (fun hc19 => ?_) ?_)
 ·
  obtain ⟨hc19a, hc19b⟩ := and_t hc19
  have hc19a_ := hc19a
  try simp only [sb] at hc19a_
  have hc19b_ := qT hc19b
  refine zO4 (gvt hc19) (gvt hc19) ?_
  exact ⟨rfl, rfl⟩
 refine zA3 (zB0 (s := .bool _) (v := .bool ((decide (o.kind = 1)) && (decide (k ≥ o.ptrs)))) rfl (zE2 _) (fun hc20 => ?_) ?_)
 ·
  have hc20_ := hc20
  try simp only [sb] at hc20_
  refine zV5 hc20 (gvt hc20) rfl rfl ?_
  exact ⟨rfl, rfl⟩
 refine stp (zH6 rfl rfl rfl ?_)
 refine qZ 2 ?_
 refine zA2 (b := ((decide (o.kind = 0)) || ((decide (o.kind = 1)) && (decide (k ≥ o.ptrs))))) rfl (fun h1 => ?_) (fun h1 => ?_)
 ·
  simp only [sb] at h1
  refine qZ 3 ?_
  refine stp (zA7 (v := .agg #[.int .i64 0, .int .i64 0, .int .i64 0, .int .i64 0, .int .i64 0, .int .i64 0, .int .i64 0]) (fun w => by kernel_rfl) ?_)
  refine qZ 2 ?_
  refine stn (zZ0 (cs' := #[.iface 74 (.pointer (some ⟨bn, 0, none⟩)), .int .i64 0, .int .i64 0, .int .i64 0, .int .i64 0, .int .i64 0, .int .i64 0, .int .i64 0, .int .i64 left]) rfl rfl (by rfl) hb (by rfl) (by rfl) (by rfl) (by rfl) ?_)
  intro w21 hc22 u23
  replace K := (by first | exact K.upd_new u23 (by assumption) | exact K.tr (NkP.of_upd u23 (by simp)))
  replace g0 := (by first | exact Grow.upd g0 u23 (Nat.le_trans g0w (by assumption)) | exact Grow.upd g0 u23 hbn | exact Grow.upd g0 u23 hb0)
  replace st := st.upd u23 hb (by decide) (by decide)
  replace hc7 := u23.heap hc7 ne11.symm
  clear u23 hb
  refine qZ 6 ?_
  have h9 : zF8 s o k = (Ob0, 0) := by unfold zF8; rw [if_pos h1]
  refine ret1 (zA1 (v := .int .u16 0) rfl) ⟨by rw [h9], _, fun _ => by unfold yK2; rw [if_pos h1], by omega, by rw [h9]; exact hc22, st, K⟩
 ·
  simp only [sb] at h1
  have h1n : ¬ (o.kind = 0 ∨ o.kind = 1 ∧ k ≥ o.ptrs) := by omega
  refine qZ 4 ?_
  refine stp (zC7 rfl rfl ?_)
  refine qZ 2 ?_
  refine zA2 (b := (decide (o.kind = 1))) rfl (fun h2 => ?_) (fun h2 => ?_)
  ·
   replace h2 := qT h2
   have hat8 : at9 = o.at_ + k := by rw [hat9]; exact zI4 (by simp only [inR]; omega)
   refine qZ 4 ?_
   refine stp (zB5 rfl rfl ?_ ?_); constructor <;> omega
   refine qZ 3 ?_
   have kb_hc7 : ∀ w_, (nkR [bn, b] 61 w0.heap.size).r w6 w_ → w_.heap[b1]? = some (.cells #[.int .i64 o.kind, .int .i64 o.seg, .int .i64 o.at_, .int .i64 o.data, .int .i64 o.ptrs, .int .i64 o.size, .int .i64 o.count] 112 (0, 0)) := fun w_ k_ => NkP.hpN2 k_ st hb hc7 (by decide) (by decide) (by decide)
   have kb_g0 : ∀ w_, (nkR [bn, b] 61 w0.heap.size).r w6 w_ → Grow w0 w_ := fun w_ k_ => NkP.to_grow k_ g0 (fun x_ hx_ => by simp only [List.mem_cons, List.not_mem_nil, or_false] at hx_; rcases hx_ with rfl | rfl <;> assumption) (Nat.le_refl _)
   have kb_K : ∀ w_, (nkR [bn, b] 61 w0.heap.size).r w6 w_ → NkP [bn, b] 61 w0.heap.size w w_ := fun w_ k_ => K.tr k_
   refine qM4 15 [[], [], [0], [1, 0], [2, 1, 0], [], [0], [], [6, 5, 4, 3, 2, 1, 0], [7, 6, 5, 4, 3, 2, 1, 0], [8, 7, 6, 5, 4, 3, 2, 1, 0], [9, 8, 7, 6, 5, 4, 3, 2, 1], [11, 10, 9, 8, 7, 6, 5, 4, 3, 2, 1], [12, 11, 10, 9, 8, 7, 6, 5, 4, 3, 2, 0], [13, 12, 11, 10, 9, 8, 7, 6, 5, 4, 3, 1, 0]] [4, 8, 14] (nkR [bn, b] 61 w0.heap.size) (fun k_ w_ => match k_ with | 0 => w_.heap[b]? = some (.cells #[.iface 74 (.pointer (some ⟨bn, 0, none⟩)), .int .i64 o.kind, .int .i64 o.seg, .int .i64 o.at_, .int .i64 o.data, .int .i64 o.ptrs, .int .i64 o.size, .int .i64 o.count, .int .i64 left] 117 (0, 0)) ∧ NtS 110 79 61 w0.heap.size w_ u bn L | 1 => w_.heap[b]? = some (.cells #[.iface 74 (.pointer (some ⟨bn, 0, none⟩)), .int .i64 o.kind, .int .i64 o.seg, .int .i64 o.at_, .int .i64 o.data, .int .i64 o.ptrs, .int .i64 o.size, .int .i64 o.count, .int .i64 left] 117 (0, 0)) ∧ NtS 110 79 61 w0.heap.size w_ u bn L | 2 => (∃ L2, (((zA0 s o.seg (at9 + o.data))).2 = 0 → L2 = zH9 A L o.seg (at9 + o.data)) ∧ L2.length ≤ L.length + 3 ∧ w_.heap[b]? = some (.cells #[.iface 74 (.pointer (some ⟨bn, 0, none⟩)), .int .i64 o.kind, .int .i64 o.seg, .int .i64 o.at_, .int .i64 o.data, .int .i64 o.ptrs, .int .i64 o.size, .int .i64 o.count, .int .i64 left] 117 (0, 0)) ∧ NtS 110 79 61 w0.heap.size w_ u bn L2) | _ => (∃ L2, (((zA0 s o.seg (at9 + o.data))).2 = 0 → L2 = zH9 A L o.seg (at9 + o.data)) ∧ L2.length ≤ L.length + 3 ∧ w_.heap[b]? = some (.cells #[.iface 74 (.pointer (some ⟨bn, 0, none⟩)), .int .i64 ((zA0 s o.seg (at9 + o.data)).1.kind), .int .i64 ((zA0 s o.seg (at9 + o.data)).1.seg), .int .i64 ((zA0 s o.seg (at9 + o.data)).1.at_), .int .i64 ((zA0 s o.seg (at9 + o.data)).1.data), .int .i64 ((zA0 s o.seg (at9 + o.data)).1.ptrs), .int .i64 ((zA0 s o.seg (at9 + o.data)).1.size), .int .i64 ((zA0 s o.seg (at9 + o.data)).1.count), .int .i64 left] 117 (0, 0)) ∧ NtS 110 79 61 w0.heap.size w_ u bn L2)) mixed (by kernel_rfl) (by kernel_rfl) (by kernel_rfl) (by kernel_rfl) (fun k_ w_ w2_ g_ h_ => match k_, h_ with | 0, h_ => ⟨g_.heap h_.1, h_.2.grow g_⟩ | 1, h_ => ⟨g_.heap h_.1, h_.2.grow g_⟩ | 2, ⟨L2_, a_, b_, c_, d_⟩ => ⟨L2_, a_, b_, g_.heap c_, d_.grow g_⟩ | n_ + 3, ⟨L2_, a_, b_, c_, d_⟩ => ⟨L2_, a_, b_, g_.heap c_, d_.grow g_⟩) (fun w_ g_ => ⟨g_.heap hb, st.grow g_⟩) ?_
   intro w24 g25
   replace kb_hc7 : ∀ w_, (nkR [bn, b] 61 w0.heap.size).r w24 w_ → w_.heap[b1]? = some (.cells #[.int .i64 o.kind, .int .i64 o.seg, .int .i64 o.at_, .int .i64 o.data, .int .i64 o.ptrs, .int .i64 o.size, .int .i64 o.count] 112 (0, 0)) := fun w_ k_ => kb_hc7 w_ ((nkR [bn, b] 61 w0.heap.size).tr ((nkR [bn, b] 61 w0.heap.size).grow g25) k_)
   replace kb_g0 : ∀ w_, (nkR [bn, b] 61 w0.heap.size).r w24 w_ → Grow w0 w_ := fun w_ k_ => kb_g0 w_ ((nkR [bn, b] 61 w0.heap.size).tr ((nkR [bn, b] 61 w0.heap.size).grow g25) k_)
   replace kb_K : ∀ w_, (nkR [bn, b] 61 w0.heap.size).r w24 w_ → NkP [bn, b] 61 w0.heap.size w w_ := fun w_ k_ => kb_K w_ ((nkR [bn, b] 61 w0.heap.size).tr ((nkR [bn, b] 61 w0.heap.size).grow g25) k_)
   have k0_ : (nkR [bn, b] 61 w0.heap.size).r w6 w24 := ((nkR [bn, b] 61 w0.heap.size).grow g25)
   refine qM 4 ?_
   apply zR7 0 (hm := by rfl)
   ·intro w_ g_ s_
    refine og rfl ?_
    refine zG2 (v := .iface 74 (.pointer (some ⟨bn, 0, none⟩))) rfl s_.1 rfl ?_
    exact ⟨NkP.refl _ _ _ _, s_, rfl⟩
   refine qM 1 ?_
   apply zN8 (hm := by rfl)
   ·intro w_ g_; exact og rfl (zG2 (v := .int .i64 o.seg) rfl (kb_hc7 _ g_) rfl qX)
   refine qM 1 ?_
   apply zR7 1 (hm := by rfl)
   ·intro w_ g_ s_
    refine og rfl ?_
    obtain ⟨hbx_, stx_⟩ := s_
    refine zD6 rfl (zU5 _ hA hr hx hs (kb_g0 _ g_) hbn stx_ hL o.seg (at9 + o.data)) ?_
    rintro v_ w2_ ⟨rfl, L2_, he2_, hl2_, st2_, rel_⟩
    exact ⟨NkP.mono rel_ (fun x_ hx_ => by simp only [List.mem_singleton] at hx_; subst hx_; simp), ⟨L2_, he2_, hl2_, rel_.hpN stx_ hbx_ (by decide) (by decide), st2_⟩, rfl⟩
   refine qM 5 ?_
   apply zR7 2 (hm := by rfl)
   ·intro w_ g_ s_
    refine og rfl ?_
    obtain ⟨L2_, he2_, hl2_, hbx_, stx_⟩ := s_
    refine zZ0 (cs' := #[.iface 74 (.pointer (some ⟨bn, 0, none⟩)), .int .i64 ((zA0 s o.seg (at9 + o.data)).1.kind), .int .i64 ((zA0 s o.seg (at9 + o.data)).1.seg), .int .i64 ((zA0 s o.seg (at9 + o.data)).1.at_), .int .i64 ((zA0 s o.seg (at9 + o.data)).1.data), .int .i64 ((zA0 s o.seg (at9 + o.data)).1.ptrs), .int .i64 ((zA0 s o.seg (at9 + o.data)).1.size), .int .i64 ((zA0 s o.seg (at9 + o.data)).1.count), .int .i64 left]) rfl rfl (by rfl) hbx_ (by rfl) (by rfl) (by rfl) (by rfl) ?_
    intro w2_ s2_ u_
    exact ⟨NkP.of_upd u_ (by simp), ⟨L2_, he2_, hl2_, s2_, stx_.upd u_ hbx_ (by decide) (by decide)⟩, rfl⟩
   refine qD8 ?_
   intro w26 g27 S_
   replace k0_ := ((nkR [bn, b] 61 w0.heap.size).tr k0_ g27)
   obtain ⟨L2, he2, hl2, hb9, st2_⟩ := S_
   clear st hb
   have st := st2_
   clear st2_
   replace hc7 := kb_hc7 _ g27
   clear kb_hc7
   replace g0 := kb_g0 _ g27
   clear kb_g0
   replace K := kb_K _ g27
   clear kb_K
   refine qZ 8 ?_
   have h9 : zF8 s o k = zA0 s o.seg (at9 + o.data) := by unfold zF8; rw [if_neg h1n, if_pos h2, hat8]
   refine ret1 (zA1 (v := .int .u16 ((zA0 s o.seg (at9 + o.data)).2)) rfl) ⟨by rw [h9], _, fun h_ => by rw [he2 (by rw [h9] at h_; exact h_)]; unfold yK2 atT; rw [if_neg h1n, if_pos h2, hat8], by omega, by rw [h9]; exact hb9, st, K⟩
  ·
   replace h2 := qF h2
   refine qZ 4 ?_
   refine stp (zG1 rfl rfl ?_)
   refine qZ 2 ?_
   refine zA2 (b := (decide (o.size ≠ 6))) rfl (fun h3 => ?_) (fun h3 => ?_)
   ·
    replace h3 := qT h3
    refine qZ 5 ?_
    have h9 : zF8 s o k = (o, 23) := by unfold zF8; rw [if_neg h1n, if_neg h2, if_pos h3]
    refine ret1 (zA1 (v := .int .u16 23) rfl) ⟨by rw [h9], _, fun h_ => by rw [h9] at h_; simp at h_, by omega, by rw [h9]; exact hb, st, K⟩
   ·
    replace h3 := qF h3
    refine qZ 5 ?_
    refine stp (zO4 rfl rfl ?_)
    refine qZ 2 ?_
    refine zA2 (b := (decide (k ≥ o.count))) rfl (fun h4 => ?_) (fun h4 => ?_)
    ·
     replace h4 := qT h4
     refine qZ 5 ?_
     have h9 : zF8 s o k = (o, 20) := by unfold zF8; rw [if_neg h1n, if_neg h2, if_neg h3, if_pos h4]
     refine ret1 (zA1 (v := .int .u16 20) rfl) ⟨by rw [h9], _, fun h_ => by rw [h9] at h_; simp at h_, by omega, by rw [h9]; exact hb, st, K⟩
    ·
     replace h4 := qF h4
     have hat8 : at9 = o.at_ + k := by rw [hat9]; exact zI4 (by simp only [inR]; omega)
     refine qZ 2 ?_
     have kb_hc7 : ∀ w_, (nkR [bn, b] 61 w0.heap.size).r w6 w_ → w_.heap[b1]? = some (.cells #[.int .i64 o.kind, .int .i64 o.seg, .int .i64 o.at_, .int .i64 o.data, .int .i64 o.ptrs, .int .i64 o.size, .int .i64 o.count] 112 (0, 0)) := fun w_ k_ => NkP.hpN2 k_ st hb hc7 (by decide) (by decide) (by decide)
     have kb_g0 : ∀ w_, (nkR [bn, b] 61 w0.heap.size).r w6 w_ → Grow w0 w_ := fun w_ k_ => NkP.to_grow k_ g0 (fun x_ hx_ => by simp only [List.mem_cons, List.not_mem_nil, or_false] at hx_; rcases hx_ with rfl | rfl <;> assumption) (Nat.le_refl _)
     have kb_K : ∀ w_, (nkR [bn, b] 61 w0.heap.size).r w6 w_ → NkP [bn, b] 61 w0.heap.size w w_ := fun w_ k_ => K.tr k_
     refine qM4 15 [[], [], [0], [1, 0], [2, 1, 0], [], [0], [], [6, 5, 4, 3, 2, 1, 0], [7, 6, 5, 4, 3, 2, 1, 0], [8, 7, 6, 5, 4, 3, 2, 1, 0], [9, 8, 7, 6, 5, 4, 3, 2, 1], [11, 10, 9, 8, 7, 6, 5, 4, 3, 2, 1], [12, 11, 10, 9, 8, 7, 6, 5, 4, 3, 2, 0], [13, 12, 11, 10, 9, 8, 7, 6, 5, 4, 3, 1, 0]] [4, 8, 14] (nkR [bn, b] 61 w0.heap.size) (fun k_ w_ => match k_ with | 0 => w_.heap[b]? = some (.cells #[.iface 74 (.pointer (some ⟨bn, 0, none⟩)), .int .i64 o.kind, .int .i64 o.seg, .int .i64 o.at_, .int .i64 o.data, .int .i64 o.ptrs, .int .i64 o.size, .int .i64 o.count, .int .i64 left] 117 (0, 0)) ∧ NtS 110 79 61 w0.heap.size w_ u bn L | 1 => w_.heap[b]? = some (.cells #[.iface 74 (.pointer (some ⟨bn, 0, none⟩)), .int .i64 o.kind, .int .i64 o.seg, .int .i64 o.at_, .int .i64 o.data, .int .i64 o.ptrs, .int .i64 o.size, .int .i64 o.count, .int .i64 left] 117 (0, 0)) ∧ NtS 110 79 61 w0.heap.size w_ u bn L | 2 => (∃ L2, (((zA0 s o.seg at9)).2 = 0 → L2 = zH9 A L o.seg at9) ∧ L2.length ≤ L.length + 3 ∧ w_.heap[b]? = some (.cells #[.iface 74 (.pointer (some ⟨bn, 0, none⟩)), .int .i64 o.kind, .int .i64 o.seg, .int .i64 o.at_, .int .i64 o.data, .int .i64 o.ptrs, .int .i64 o.size, .int .i64 o.count, .int .i64 left] 117 (0, 0)) ∧ NtS 110 79 61 w0.heap.size w_ u bn L2) | _ => (∃ L2, (((zA0 s o.seg at9)).2 = 0 → L2 = zH9 A L o.seg at9) ∧ L2.length ≤ L.length + 3 ∧ w_.heap[b]? = some (.cells #[.iface 74 (.pointer (some ⟨bn, 0, none⟩)), .int .i64 ((zA0 s o.seg at9).1.kind), .int .i64 ((zA0 s o.seg at9).1.seg), .int .i64 ((zA0 s o.seg at9).1.at_), .int .i64 ((zA0 s o.seg at9).1.data), .int .i64 ((zA0 s o.seg at9).1.ptrs), .int .i64 ((zA0 s o.seg at9).1.size), .int .i64 ((zA0 s o.seg at9).1.count), .int .i64 left] 117 (0, 0)) ∧ NtS 110 79 61 w0.heap.size w_ u bn L2)) mixed (by kernel_rfl) (by kernel_rfl) (by kernel_rfl) (by kernel_rfl) (fun k_ w_ w2_ g_ h_ => match k_, h_ with | 0, h_ => ⟨g_.heap h_.1, h_.2.grow g_⟩ | 1, h_ => ⟨g_.heap h_.1, h_.2.grow g_⟩ | 2, ⟨L2_, a_, b_, c_, d_⟩ => ⟨L2_, a_, b_, g_.heap c_, d_.grow g_⟩ | n_ + 3, ⟨L2_, a_, b_, c_, d_⟩ => ⟨L2_, a_, b_, g_.heap c_, d_.grow g_⟩) (fun w_ g_ => ⟨g_.heap hb, st.grow g_⟩) ?_
     intro w28 g29
     replace kb_hc7 : ∀ w_, (nkR [bn, b] 61 w0.heap.size).r w28 w_ → w_.heap[b1]? = some (.cells #[.int .i64 o.kind, .int .i64 o.seg, .int .i64 o.at_, .int .i64 o.data, .int .i64 o.ptrs, .int .i64 o.size, .int .i64 o.count] 112 (0, 0)) := fun w_ k_ => kb_hc7 w_ ((nkR [bn, b] 61 w0.heap.size).tr ((nkR [bn, b] 61 w0.heap.size).grow g29) k_)
     replace kb_g0 : ∀ w_, (nkR [bn, b] 61 w0.heap.size).r w28 w_ → Grow w0 w_ := fun w_ k_ => kb_g0 w_ ((nkR [bn, b] 61 w0.heap.size).tr ((nkR [bn, b] 61 w0.heap.size).grow g29) k_)
     replace kb_K : ∀ w_, (nkR [bn, b] 61 w0.heap.size).r w28 w_ → NkP [bn, b] 61 w0.heap.size w w_ := fun w_ k_ => kb_K w_ ((nkR [bn, b] 61 w0.heap.size).tr ((nkR [bn, b] 61 w0.heap.size).grow g29) k_)
     have k0_ : (nkR [bn, b] 61 w0.heap.size).r w6 w28 := ((nkR [bn, b] 61 w0.heap.size).grow g29)
     refine qM 4 ?_
     apply zR7 0 (hm := by rfl)
     ·intro w_ g_ s_
      refine og rfl ?_
      refine zG2 (v := .iface 74 (.pointer (some ⟨bn, 0, none⟩))) rfl s_.1 rfl ?_
      exact ⟨NkP.refl _ _ _ _, s_, rfl⟩
     refine qM 1 ?_
     apply zN8 (hm := by rfl)
     ·intro w_ g_; exact og rfl (zG2 (v := .int .i64 o.seg) rfl (kb_hc7 _ g_) rfl qX)
     refine qM 1 ?_
     apply zR7 1 (hm := by rfl)
     ·intro w_ g_ s_
      refine og rfl ?_
      obtain ⟨hbx_, stx_⟩ := s_
      refine zD6 rfl (zU5 _ hA hr hx hs (kb_g0 _ g_) hbn stx_ hL o.seg at9) ?_
      rintro v_ w2_ ⟨rfl, L2_, he2_, hl2_, st2_, rel_⟩
      exact ⟨NkP.mono rel_ (fun x_ hx_ => by simp only [List.mem_singleton] at hx_; subst hx_; simp), ⟨L2_, he2_, hl2_, rel_.hpN stx_ hbx_ (by decide) (by decide), st2_⟩, rfl⟩
     refine qM 5 ?_
     apply zR7 2 (hm := by rfl)
     ·intro w_ g_ s_
      refine og rfl ?_
      obtain ⟨L2_, he2_, hl2_, hbx_, stx_⟩ := s_
      refine zZ0 (cs' := #[.iface 74 (.pointer (some ⟨bn, 0, none⟩)), .int .i64 ((zA0 s o.seg at9).1.kind), .int .i64 ((zA0 s o.seg at9).1.seg), .int .i64 ((zA0 s o.seg at9).1.at_), .int .i64 ((zA0 s o.seg at9).1.data), .int .i64 ((zA0 s o.seg at9).1.ptrs), .int .i64 ((zA0 s o.seg at9).1.size), .int .i64 ((zA0 s o.seg at9).1.count), .int .i64 left]) rfl rfl (by rfl) hbx_ (by rfl) (by rfl) (by rfl) (by rfl) ?_
      intro w2_ s2_ u_
      exact ⟨NkP.of_upd u_ (by simp), ⟨L2_, he2_, hl2_, s2_, stx_.upd u_ hbx_ (by decide) (by decide)⟩, rfl⟩
     refine qD8 ?_
     intro w30 g31 S_
     replace k0_ := ((nkR [bn, b] 61 w0.heap.size).tr k0_ g31)
     obtain ⟨L2, he2, hl2, hb9, st2_⟩ := S_
     clear st hb
     have st := st2_
     clear st2_
     replace hc7 := kb_hc7 _ g31
     clear kb_hc7
     replace g0 := kb_g0 _ g31
     clear kb_g0
     replace K := kb_K _ g31
     clear kb_K
     refine qZ 8 ?_
     have h9 : zF8 s o k = zA0 s o.seg at9 := by unfold zF8; rw [if_neg h1n, if_neg h2, if_neg h3, if_neg h4, hat8]
     refine ret1 (zA1 (v := .int .u16 ((zA0 s o.seg at9).2)) rfl) ⟨by rw [h9], _, fun h_ => by rw [he2 (by rw [h9] at h_; exact h_)]; unfold yK2 atT; rw [if_neg h1n, if_neg h2, hat8], by omega, by rw [h9]; exact hb9, st, K⟩
theorem qW3 (w : World) {w0 : World} {u : Value} {A : List (List Int)} (hA : zG5 w0 u A) (hr : zD1 A = true) (hx : AllU A) {s : Src} (hs : s = zB7 A) (g0 : Grow w0 w) {bn : Nat} (hbn : w0.heap.size ≤ bn) {L : List Spn} (st : NtS 110 79 61 w0.heap.size w u bn L) (hL : L.length ≤ 150000) {b : Nat} {o : Ob} {left k : Int} (hb0 : w0.heap.size ≤ b) (hb : w.heap[b]? = some (.cells #[.iface 74 (.pointer (some ⟨bn, 0, none⟩)), .int .i64 o.kind, .int .i64 o.seg, .int .i64 o.at_, .int .i64 o.data, .int .i64 o.ptrs, .int .i64 o.size, .int .i64 o.count, .int .i64 left] 117 (0, 0))) (ho : ObR o) (hok : ObK o) (hk : 0 ≤ k) (hk2 : k ≤ 9223372036854775807) : Calls Tryz.prog 56 #[.pointer (some ⟨b, 0, none⟩), .int .i64 k] w (Ret fun v w' => v = .tuple #[.int .u64 ((atS s o k).1), .int .u16 ((atS s o k).2)] ∧ ∃ L2, ((atS s o k).2 = 0 → L2 = endT A L o k) ∧ NtS 110 79 61 w0.heap.size w' u bn L2 ∧ NkP [bn] 61 w0.heap.size w w') := by
 obtain ⟨rk, rs, ra, rd, rp, rz, rc⟩ := ho
 have K := NkP.refl [bn] 61 w0.heap.size w
 have g0w := g0.size
 obtain ⟨n1, n2, -, -⟩ := num9 hs hx o.seg (o.at_ + k / 8)
 have hblt := zB3 hb
 refine zC2 Tryz.func56 Tryz.ntmps56 Tryz.results56 rfl rfl ?_
 refine qZ 10 ?_
 refine stp (zH8 rfl hb (by rfl) (by rfl) ?_)
 refine stp (zA8 ?_)
 intro b1 w2 hb3 hc4 g5
 refine stn (qS hc4 ?_)
 intro w6 hc7 u8
 have g9 := g5.upd u8 hb3
 have hge10 := Nat.le_trans K.size hb3
 have ne11 := qN hb hb3
 replace K := K.tr (NkP.of_grow g9)
 replace g0 := g0.tr g9
 replace st := st.grow g9
 replace hb := g9.heap hb
 clear u8 g5 hb3 hc4
 refine qZ 8 ?_
 refine stp (zC7 rfl rfl ?_)
 refine qZ 2 ?_
 refine zA2 (b := (decide (o.kind = 0))) rfl (fun h1 => ?_) (fun h1 => ?_)
 ·
  replace h1 := qT h1
  refine zU9 ?_
  refine zS1 (show _ = Value.bool true from congrArg Value.bool (decide_eq_true h1)) ?_
  refine qZ 6 ?_
  have h9 : atS s o k = (0, 0) := by unfold atS; rw [if_pos (.inl h1)]
  refine ret2 (zA1 (v := .int .u64 0) rfl) (zA1 (v := .int .u16 0) rfl) ⟨by rw [h9] <;> rfl, _, fun _ => by unfold endT; rw [if_pos (.inr (.inl h1))], st, K⟩
 ·
  replace h1 := qF h1
  refine qZ 3 ?_
  refine stp (zC7 rfl rfl ?_)
  refine qZ 1 ?_
  refine qG 3 ?_
  refine zA3 (zB0 (s := .bool _) (v := .bool (decide (k ≥ o.data))) rfl (zE1 _) (fun hc15 => ?_) ?_)
  ·
   have hc15_ := qT hc15
   refine zO4 (gvt hc15) (gvt hc15) ?_
   exact ⟨rfl, rfl⟩
  refine stp (zE8 rfl rfl rfl ?_)
  refine qZ 2 ?_
  refine zA2 (b := ((decide (o.kind = 1)) && (decide (k ≥ o.data)))) rfl (fun h2 => ?_) (fun h2 => ?_)
  ·
   simp only [sb] at h2
   refine qZ 6 ?_
   have h9 : atS s o k = (0, 0) := by unfold atS; rw [if_pos (.inr h2)]
   refine ret2 (zA1 (v := .int .u64 0) rfl) (zA1 (v := .int .u16 0) rfl) ⟨by rw [h9] <;> rfl, _, fun _ => by unfold endT; rw [if_pos (.inr (.inr h2))], st, K⟩
  ·
   simp only [sb] at h2
   have h1n : ¬ (o.kind = 0 ∨ o.kind = 1 ∧ k ≥ o.data) := by omega
   have h1m : ¬ (k < 0 ∨ o.kind = 0 ∨ (o.kind = 1 ∧ k ≥ o.data)) := by omega
   refine qZ 4 ?_
   refine stp (zC7 rfl rfl ?_)
   refine qZ 2 ?_
   refine zA2 (b := (decide (o.kind = 1))) rfl (fun h3 => ?_) (fun h3 => ?_)
   ·
    replace h3 := qT h3
    refine qA7 ?_
    have kb_hc7 : ∀ w_, (nkR [bn] 61 w0.heap.size).r w6 w_ → w_.heap[b1]? = some (.cells #[.int .i64 o.kind, .int .i64 o.seg, .int .i64 o.at_, .int .i64 o.data, .int .i64 o.ptrs, .int .i64 o.size, .int .i64 o.count] 112 (0, 0)) := fun w_ k_ => NkP.hpN k_ st hc7 (by decide) (by decide)
    have kb_hb : ∀ w_, (nkR [bn] 61 w0.heap.size).r w6 w_ → w_.heap[b]? = some (.cells #[.iface 74 (.pointer (some ⟨bn, 0, none⟩)), .int .i64 o.kind, .int .i64 o.seg, .int .i64 o.at_, .int .i64 o.data, .int .i64 o.ptrs, .int .i64 o.size, .int .i64 o.count, .int .i64 left] 117 (0, 0)) := fun w_ k_ => NkP.hpN k_ st hb (by decide) (by decide)
    have kb_g0 : ∀ w_, (nkR [bn] 61 w0.heap.size).r w6 w_ → Grow w0 w_ := fun w_ k_ => NkP.to_grow k_ g0 (fun x_ hx_ => by simp only [List.mem_singleton] at hx_; subst hx_; exact hbn) (Nat.le_refl _)
    have kb_K : ∀ w_, (nkR [bn] 61 w0.heap.size).r w6 w_ → NkP [bn] 61 w0.heap.size w w_ := fun w_ k_ => K.tr k_
    refine qM4 15 [[], [0], [1, 0], [2, 1, 0], [], [0], [], [0], [], [2, 1, 0], [9, 8, 7, 6, 5, 4, 3, 2, 1, 0], [10, 9, 8, 7, 6, 5, 4, 3, 2, 1, 0], [11, 10, 9, 8, 7, 6, 5, 4, 3, 2, 1], [12, 11, 10, 9, 8, 7, 6, 5, 4, 3, 2, 1, 0], [13, 12, 11, 10, 9, 8, 7, 6, 5, 4, 3, 2, 1, 0]] [10] (nkR [bn] 61 w0.heap.size) (fun k_ w_ => match k_ with | 0 => NtS 110 79 61 w0.heap.size w_ u bn L | _ => NtS 110 79 61 w0.heap.size w_ u bn (zL5 A L o.seg (o.at_ + k))) mixed (by kernel_rfl) (by kernel_rfl) (by kernel_rfl) (by kernel_rfl) (fun k_ w_ w2_ g_ h_ => match k_, h_ with | 0, h_ => h_.grow g_ | n_ + 1, h_ => h_.grow g_) (fun w_ g_ => st.grow g_) ?_
    intro w16 g17
    replace kb_hc7 : ∀ w_, (nkR [bn] 61 w0.heap.size).r w16 w_ → w_.heap[b1]? = some (.cells #[.int .i64 o.kind, .int .i64 o.seg, .int .i64 o.at_, .int .i64 o.data, .int .i64 o.ptrs, .int .i64 o.size, .int .i64 o.count] 112 (0, 0)) := fun w_ k_ => kb_hc7 w_ ((nkR [bn] 61 w0.heap.size).tr ((nkR [bn] 61 w0.heap.size).grow g17) k_)
    replace kb_hb : ∀ w_, (nkR [bn] 61 w0.heap.size).r w16 w_ → w_.heap[b]? = some (.cells #[.iface 74 (.pointer (some ⟨bn, 0, none⟩)), .int .i64 o.kind, .int .i64 o.seg, .int .i64 o.at_, .int .i64 o.data, .int .i64 o.ptrs, .int .i64 o.size, .int .i64 o.count, .int .i64 left] 117 (0, 0)) := fun w_ k_ => kb_hb w_ ((nkR [bn] 61 w0.heap.size).tr ((nkR [bn] 61 w0.heap.size).grow g17) k_)
    replace kb_g0 : ∀ w_, (nkR [bn] 61 w0.heap.size).r w16 w_ → Grow w0 w_ := fun w_ k_ => kb_g0 w_ ((nkR [bn] 61 w0.heap.size).tr ((nkR [bn] 61 w0.heap.size).grow g17) k_)
    replace kb_K : ∀ w_, (nkR [bn] 61 w0.heap.size).r w16 w_ → NkP [bn] 61 w0.heap.size w w_ := fun w_ k_ => kb_K w_ ((nkR [bn] 61 w0.heap.size).tr ((nkR [bn] 61 w0.heap.size).grow g17) k_)
    have k0_ : (nkR [bn] 61 w0.heap.size).r w6 w16 := ((nkR [bn] 61 w0.heap.size).grow g17)
    refine qM 3 ?_
    apply zN8 (hm := by rfl)
    ·intro w_ g_; exact og rfl (zG2 (v := .iface 74 (.pointer (some ⟨bn, 0, none⟩))) rfl (kb_hb _ g_) rfl qX)
    refine qM 1 ?_
    apply zN8 (hm := by rfl)
    ·intro w_ g_; exact og rfl (zG2 (v := .int .i64 o.seg) rfl (kb_hc7 _ g_) rfl qX)
    refine qM 1 ?_
    apply zN8 (hm := by rfl)
    ·intro w_ g_; exact og rfl (zG2 (v := .int .i64 o.at_) rfl (kb_hc7 _ g_) rfl qX)
    refine qM 1 ?_
    apply zN8 (hm := by rfl)
    ·intro w_ g_; refine og rfl ?_; refine zB5 rfl rfl ?_ ?_; constructor <;> omega; exact qX
    apply zR7 0 (hm := by rfl)
    ·intro w_ g_ s_
     refine og rfl ?_
     refine zO1 (a := .int .i64 o.seg) (b := .int .i64 (o.at_ + k)) zP4 rfl rfl rfl (zN2 _ hA hr hx hs (kb_g0 _ g_) hbn s_ (by omega) o.seg (o.at_ + k)) ?_
     rintro v_ w2_ ⟨rfl, st2_, rel_⟩
     exact ⟨rel_, st2_, rfl⟩
    refine qM 4 ?_
    refine qD8 ?_
    intro w18 g19 S_
    replace k0_ := ((nkR [bn] 61 w0.heap.size).tr k0_ g19)
    have st2_ := S_
    clear S_ st
    have st := st2_
    clear st2_
    replace hc7 := kb_hc7 _ g19
    clear kb_hc7
    replace hb := kb_hb _ g19
    clear kb_hb
    replace g0 := kb_g0 _ g19
    clear kb_g0
    replace K := kb_K _ g19
    clear kb_K
    refine qZ 2 ?_
    have h9 : atS s o k = s.word o.seg (o.at_ + k) := by unfold atS; rw [if_neg h1n, if_pos h3]
    refine ret2 (zA1 (v := .int .u64 ((s.word o.seg (o.at_ + k)).1)) rfl) (zA1 (v := .int .u16 ((s.word o.seg (o.at_ + k)).2)) rfl) ⟨by rw [h9] <;> rfl, _, fun _ => by unfold endT; rw [if_neg h1m, if_neg (by omega)], st, K⟩
   ·
    replace h3 := qF h3
    refine qZ 4 ?_
    refine stp (zC7 rfl rfl ?_)
    refine qZ 2 ?_
    refine zA2 (b := (decide (o.size = 6))) rfl (fun h4 => ?_) (fun h4 => ?_)
    ·
     replace h4 := qT h4
     refine qZ 6 ?_
     have h9 : atS s o k = (0, 23) := by unfold atS; rw [if_neg h1n, if_neg h3, if_pos h4]
     refine ret2 (zA1 (v := .int .u64 0) rfl) (zA1 (v := .int .u16 23) rfl) ⟨by rw [h9] <;> rfl, _, fun h_ => by rw [h9] at h_; simp at h_, st, K⟩
    ·
     replace h4 := qF h4
     refine qZ 5 ?_
     refine stp (zO4 rfl rfl ?_)
     refine qZ 2 ?_
     refine zA2 (b := (decide (k ≥ o.count))) rfl (fun h5 => ?_) (fun h5 => ?_)
     ·
      replace h5 := qT h5
      refine qZ 6 ?_
      have h9 : atS s o k = (0, 20) := by unfold atS; rw [if_neg h1n, if_neg h3, if_neg h4, if_pos h5]
      refine ret2 (zA1 (v := .int .u64 0) rfl) (zA1 (v := .int .u16 20) rfl) ⟨by rw [h9] <;> rfl, _, fun h_ => by rw [h9] at h_; simp at h_, st, K⟩
     ·
      replace h5 := qF h5
      refine qZ 4 ?_
      refine stp (zC7 rfl rfl ?_)
      refine qZ 2 ?_
      refine zA2 (b := (decide (o.size = 5))) rfl (fun h6 => ?_) (fun h6 => ?_)
      ·
       replace h6 := qT h6
       refine qA7 ?_
       have kb_hc7 : ∀ w_, (nkR [bn] 61 w0.heap.size).r w6 w_ → w_.heap[b1]? = some (.cells #[.int .i64 o.kind, .int .i64 o.seg, .int .i64 o.at_, .int .i64 o.data, .int .i64 o.ptrs, .int .i64 o.size, .int .i64 o.count] 112 (0, 0)) := fun w_ k_ => NkP.hpN k_ st hc7 (by decide) (by decide)
       have kb_hb : ∀ w_, (nkR [bn] 61 w0.heap.size).r w6 w_ → w_.heap[b]? = some (.cells #[.iface 74 (.pointer (some ⟨bn, 0, none⟩)), .int .i64 o.kind, .int .i64 o.seg, .int .i64 o.at_, .int .i64 o.data, .int .i64 o.ptrs, .int .i64 o.size, .int .i64 o.count, .int .i64 left] 117 (0, 0)) := fun w_ k_ => NkP.hpN k_ st hb (by decide) (by decide)
       have kb_g0 : ∀ w_, (nkR [bn] 61 w0.heap.size).r w6 w_ → Grow w0 w_ := fun w_ k_ => NkP.to_grow k_ g0 (fun x_ hx_ => by simp only [List.mem_singleton] at hx_; subst hx_; exact hbn) (Nat.le_refl _)
       have kb_K : ∀ w_, (nkR [bn] 61 w0.heap.size).r w6 w_ → NkP [bn] 61 w0.heap.size w w_ := fun w_ k_ => K.tr k_
       refine qM4 15 [[], [0], [1, 0], [2, 1, 0], [], [0], [], [0], [], [2, 1, 0], [9, 8, 7, 6, 5, 4, 3, 2, 1, 0], [10, 9, 8, 7, 6, 5, 4, 3, 2, 1, 0], [11, 10, 9, 8, 7, 6, 5, 4, 3, 2, 1], [12, 11, 10, 9, 8, 7, 6, 5, 4, 3, 2, 1, 0], [13, 12, 11, 10, 9, 8, 7, 6, 5, 4, 3, 2, 1, 0]] [10] (nkR [bn] 61 w0.heap.size) (fun k_ w_ => match k_ with | 0 => NtS 110 79 61 w0.heap.size w_ u bn L | _ => NtS 110 79 61 w0.heap.size w_ u bn (zL5 A L o.seg (o.at_ + k))) mixed (by kernel_rfl) (by kernel_rfl) (by kernel_rfl) (by kernel_rfl) (fun k_ w_ w2_ g_ h_ => match k_, h_ with | 0, h_ => h_.grow g_ | n_ + 1, h_ => h_.grow g_) (fun w_ g_ => st.grow g_) ?_
       intro w20 g21
       replace kb_hc7 : ∀ w_, (nkR [bn] 61 w0.heap.size).r w20 w_ → w_.heap[b1]? = some (.cells #[.int .i64 o.kind, .int .i64 o.seg, .int .i64 o.at_, .int .i64 o.data, .int .i64 o.ptrs, .int .i64 o.size, .int .i64 o.count] 112 (0, 0)) := fun w_ k_ => kb_hc7 w_ ((nkR [bn] 61 w0.heap.size).tr ((nkR [bn] 61 w0.heap.size).grow g21) k_)
       replace kb_hb : ∀ w_, (nkR [bn] 61 w0.heap.size).r w20 w_ → w_.heap[b]? = some (.cells #[.iface 74 (.pointer (some ⟨bn, 0, none⟩)), .int .i64 o.kind, .int .i64 o.seg, .int .i64 o.at_, .int .i64 o.data, .int .i64 o.ptrs, .int .i64 o.size, .int .i64 o.count, .int .i64 left] 117 (0, 0)) := fun w_ k_ => kb_hb w_ ((nkR [bn] 61 w0.heap.size).tr ((nkR [bn] 61 w0.heap.size).grow g21) k_)
       replace kb_g0 : ∀ w_, (nkR [bn] 61 w0.heap.size).r w20 w_ → Grow w0 w_ := fun w_ k_ => kb_g0 w_ ((nkR [bn] 61 w0.heap.size).tr ((nkR [bn] 61 w0.heap.size).grow g21) k_)
       replace kb_K : ∀ w_, (nkR [bn] 61 w0.heap.size).r w20 w_ → NkP [bn] 61 w0.heap.size w w_ := fun w_ k_ => kb_K w_ ((nkR [bn] 61 w0.heap.size).tr ((nkR [bn] 61 w0.heap.size).grow g21) k_)
       have k0_ : (nkR [bn] 61 w0.heap.size).r w6 w20 := ((nkR [bn] 61 w0.heap.size).grow g21)
       refine qM 3 ?_
       apply zN8 (hm := by rfl)
       ·intro w_ g_; exact og rfl (zG2 (v := .iface 74 (.pointer (some ⟨bn, 0, none⟩))) rfl (kb_hb _ g_) rfl qX)
       refine qM 1 ?_
       apply zN8 (hm := by rfl)
       ·intro w_ g_; exact og rfl (zG2 (v := .int .i64 o.seg) rfl (kb_hc7 _ g_) rfl qX)
       refine qM 1 ?_
       apply zN8 (hm := by rfl)
       ·intro w_ g_; exact og rfl (zG2 (v := .int .i64 o.at_) rfl (kb_hc7 _ g_) rfl qX)
       refine qM 1 ?_
       apply zN8 (hm := by rfl)
       ·intro w_ g_; refine og rfl ?_; refine zB5 rfl rfl ?_ ?_; constructor <;> omega; exact qX
       apply zR7 0 (hm := by rfl)
       ·intro w_ g_ s_
        refine og rfl ?_
        refine zO1 (a := .int .i64 o.seg) (b := .int .i64 (o.at_ + k)) zP4 rfl rfl rfl (zN2 _ hA hr hx hs (kb_g0 _ g_) hbn s_ (by omega) o.seg (o.at_ + k)) ?_
        rintro v_ w2_ ⟨rfl, st2_, rel_⟩
        exact ⟨rel_, st2_, rfl⟩
       refine qM 4 ?_
       refine qD8 ?_
       intro w22 g23 S_
       replace k0_ := ((nkR [bn] 61 w0.heap.size).tr k0_ g23)
       have st2_ := S_
       clear S_ st
       have st := st2_
       clear st2_
       replace hc7 := kb_hc7 _ g23
       clear kb_hc7
       replace hb := kb_hb _ g23
       clear kb_hb
       replace g0 := kb_g0 _ g23
       clear kb_g0
       replace K := kb_K _ g23
       clear kb_K
       refine qZ 2 ?_
       have h9 : atS s o k = s.word o.seg (o.at_ + k) := by unfold atS; rw [if_neg h1n, if_neg h3, if_neg h4, if_neg h5, if_pos h6]
       refine ret2 (zA1 (v := .int .u64 ((s.word o.seg (o.at_ + k)).1)) rfl) (zA1 (v := .int .u16 ((s.word o.seg (o.at_ + k)).2)) rfl) ⟨by rw [h9] <;> rfl, _, fun _ => by unfold endT; rw [if_neg h1m, if_neg (by omega)], st, K⟩
      ·
       replace h6 := qF h6
       have hz2 : o.kind = 2 ∧ o.size = 2 := by rcases hok with rfl | g_ | g_; exact absurd rfl h1; exact absurd g_.1 h3; (obtain ⟨g1_, -, -, g2_⟩ := g_; omega)
       refine qZ 2 ?_
       have kb_hc7 : ∀ w_, (nkR [bn] 61 w0.heap.size).r w6 w_ → w_.heap[b1]? = some (.cells #[.int .i64 o.kind, .int .i64 o.seg, .int .i64 o.at_, .int .i64 o.data, .int .i64 o.ptrs, .int .i64 o.size, .int .i64 o.count] 112 (0, 0)) := fun w_ k_ => NkP.hpN k_ st hc7 (by decide) (by decide)
       have kb_hb : ∀ w_, (nkR [bn] 61 w0.heap.size).r w6 w_ → w_.heap[b]? = some (.cells #[.iface 74 (.pointer (some ⟨bn, 0, none⟩)), .int .i64 o.kind, .int .i64 o.seg, .int .i64 o.at_, .int .i64 o.data, .int .i64 o.ptrs, .int .i64 o.size, .int .i64 o.count, .int .i64 left] 117 (0, 0)) := fun w_ k_ => NkP.hpN k_ st hb (by decide) (by decide)
       have kb_g0 : ∀ w_, (nkR [bn] 61 w0.heap.size).r w6 w_ → Grow w0 w_ := fun w_ k_ => NkP.to_grow k_ g0 (fun x_ hx_ => by simp only [List.mem_singleton] at hx_; subst hx_; exact hbn) (Nat.le_refl _)
       have kb_K : ∀ w_, (nkR [bn] 61 w0.heap.size).r w6 w_ → NkP [bn] 61 w0.heap.size w w_ := fun w_ k_ => K.tr k_
       refine qM4 17 [[], [0], [1, 0], [2, 1, 0], [], [0], [], [0], [], [0], [3, 2, 1, 0], [10, 9, 8, 7, 6, 5, 4, 3, 2, 1, 0], [11, 10, 9, 8, 7, 6, 5, 4, 3, 2, 1, 0], [12, 11, 10, 9, 8, 7, 6, 5, 4, 3, 2, 1, 0], [13, 12, 11, 10, 9, 8, 7, 6, 5, 4, 3, 2, 1], [14, 13, 12, 11, 10, 9, 8, 7, 6, 5, 4, 3, 2, 1], [15, 14, 13, 12, 11, 10, 9, 8, 7, 6, 5, 4, 3, 2, 1, 0]] [11] (nkR [bn] 61 w0.heap.size) (fun k_ w_ => match k_ with | 0 => NtS 110 79 61 w0.heap.size w_ u bn L | _ => NtS 110 79 61 w0.heap.size w_ u bn (zL5 A L o.seg (o.at_ + k / 8))) mixed (by kernel_rfl) (by kernel_rfl) (by kernel_rfl) (by kernel_rfl) (fun k_ w_ w2_ g_ h_ => match k_, h_ with | 0, h_ => h_.grow g_ | n_ + 1, h_ => h_.grow g_) (fun w_ g_ => st.grow g_) ?_
       intro w24 g25
       replace kb_hc7 : ∀ w_, (nkR [bn] 61 w0.heap.size).r w24 w_ → w_.heap[b1]? = some (.cells #[.int .i64 o.kind, .int .i64 o.seg, .int .i64 o.at_, .int .i64 o.data, .int .i64 o.ptrs, .int .i64 o.size, .int .i64 o.count] 112 (0, 0)) := fun w_ k_ => kb_hc7 w_ ((nkR [bn] 61 w0.heap.size).tr ((nkR [bn] 61 w0.heap.size).grow g25) k_)
       replace kb_hb : ∀ w_, (nkR [bn] 61 w0.heap.size).r w24 w_ → w_.heap[b]? = some (.cells #[.iface 74 (.pointer (some ⟨bn, 0, none⟩)), .int .i64 o.kind, .int .i64 o.seg, .int .i64 o.at_, .int .i64 o.data, .int .i64 o.ptrs, .int .i64 o.size, .int .i64 o.count, .int .i64 left] 117 (0, 0)) := fun w_ k_ => kb_hb w_ ((nkR [bn] 61 w0.heap.size).tr ((nkR [bn] 61 w0.heap.size).grow g25) k_)
       replace kb_g0 : ∀ w_, (nkR [bn] 61 w0.heap.size).r w24 w_ → Grow w0 w_ := fun w_ k_ => kb_g0 w_ ((nkR [bn] 61 w0.heap.size).tr ((nkR [bn] 61 w0.heap.size).grow g25) k_)
       replace kb_K : ∀ w_, (nkR [bn] 61 w0.heap.size).r w24 w_ → NkP [bn] 61 w0.heap.size w w_ := fun w_ k_ => kb_K w_ ((nkR [bn] 61 w0.heap.size).tr ((nkR [bn] 61 w0.heap.size).grow g25) k_)
       have k0_ : (nkR [bn] 61 w0.heap.size).r w6 w24 := ((nkR [bn] 61 w0.heap.size).grow g25)
       refine qM 3 ?_
       apply zN8 (hm := by rfl)
       ·intro w_ g_; exact og rfl (zG2 (v := .iface 74 (.pointer (some ⟨bn, 0, none⟩))) rfl (kb_hb _ g_) rfl qX)
       refine qM 1 ?_
       apply zN8 (hm := by rfl)
       ·intro w_ g_; exact og rfl (zG2 (v := .int .i64 o.seg) rfl (kb_hc7 _ g_) rfl qX)
       refine qM 1 ?_
       apply zN8 (hm := by rfl)
       ·intro w_ g_; exact og rfl (zG2 (v := .int .i64 o.at_) rfl (kb_hc7 _ g_) rfl qX)
       refine qM 1 ?_
       apply zN8 (hm := by rfl)
       ·intro w_ g_; refine og rfl ?_; refine zY0 rfl rfl ?_ ?_ ?_ ?_; omega; omega; (constructor <;> omega); exact qX
       apply zN8 (hm := by rfl)
       ·intro w_ g_; refine og rfl ?_; refine zB5 rfl rfl ?_ ?_; constructor <;> omega; exact qX
       apply zR7 0 (hm := by rfl)
       ·intro w_ g_ s_
        refine og rfl ?_
        refine zO1 (a := .int .i64 o.seg) (b := .int .i64 (o.at_ + k / 8)) zP4 rfl rfl rfl (zN2 _ hA hr hx hs (kb_g0 _ g_) hbn s_ (by omega) o.seg (o.at_ + k / 8)) ?_
        rintro v_ w2_ ⟨rfl, st2_, rel_⟩
        exact ⟨rel_, st2_, rfl⟩
       refine qM 5 ?_
       refine qD8 ?_
       intro w26 g27 S_
       replace k0_ := ((nkR [bn] 61 w0.heap.size).tr k0_ g27)
       have st2_ := S_
       clear S_ st
       have st := st2_
       clear st2_
       replace hc7 := kb_hc7 _ g27
       clear kb_hc7
       replace hb := kb_hb _ g27
       clear kb_hb
       replace g0 := kb_g0 _ g27
       clear kb_g0
       replace K := kb_K _ g27
       clear kb_K
       refine qZ 5 ?_
       refine stp (zO7 rfl rfl ?_ ?_ ?_); omega; omega
       refine stp (zY9 rfl rfl ?_ ?_); constructor <;> omega
       refine stp (yU8 rfl rfl ?_ ?_); omega
       refine stp ?_
       refine jF1 rfl rfl ?_
       rw [show (IntKind.bits .u64) = 64 from rfl, yV5 _ (k % 8 * 8) n1 n2 (by omega) (by omega)]
       refine qZ 5 ?_
       have h9 : atS s o k = ((s.word o.seg (o.at_ + k / 8)).1 / 2 ^ (k % 8 * 8).toNat % 256, (s.word o.seg (o.at_ + k / 8)).2) := by unfold atS; rw [if_neg h1n, if_neg h3, if_neg h4, if_neg h5, if_neg h6]
       refine ret2 (zA1 (v := .int .u64 ((s.word o.seg (o.at_ + k / 8)).1 / 2 ^ (k % 8 * 8).toNat % 256)) rfl) (zA1 (v := .int .u16 ((s.word o.seg (o.at_ + k / 8)).2)) rfl) ⟨by rw [h9] <;> rfl, _, fun _ => by unfold endT; rw [if_neg h1m, if_pos hz2], st, K⟩
theorem yC1 (w : World) {w0 : World} {u : Value} {A : List (List Int)} (hA : zG5 w0 u A) (hr : zD1 A = true) (hx : AllU A) {s : Src} (hs : s = zB7 A) (g0 : Grow w0 w) {bn : Nat} (hbn : w0.heap.size ≤ bn) {L : List Spn} (st : NtS 110 79 61 w0.heap.size w u bn L) (hL : L.length ≤ 90000) {ad : Option Addr} {c : Nat} {steps : List Int} {a cost : Int} (R : RowAt w0 1 ad steps.length (steps.map (.int .i64))) (ha : inR .i64 a) (hc : inR .i64 cost) : Calls Tryz.prog 32 #[.iface 74 (.pointer (some ⟨bn, 0, none⟩)), .agg #[.slice ad steps.length c, .int .i64 a], .int .i64 cost] w (Ret fun v w' => v = .tuple #[.agg #[.int .i64 ((zF9 s steps a cost).1.kind), .int .i64 ((zF9 s steps a cost).1.size), .int .i64 ((zF9 s steps a cost).1.words), .int .i64 ((zF9 s steps a cost).1.kids), .int .u64 ((zF9 s steps a cost).1.word)], .int .u16 ((zF9 s steps a cost).2)] ∧ ∃ L2, ((zF9 s steps a cost).2 = 0 → L2 = (endT A (goT A steps (zH9 A L 0 0) (zA0 s 0 0).1).1 (goT A steps (zH9 A L 0 0) (zA0 s 0 0).1).2 a)) ∧ NtS 110 79 61 w0.heap.size w' u bn L2 ∧ NkP [bn] 61 w0.heap.size w w') := by
 have K := NkP.refl [bn] 61 w0.heap.size w
 have g0w := g0.size
 have ll := R.lim
 simp only [inR] at ha hc
 refine zC2 Tryz.func32 Tryz.ntmps32 Tryz.results32 rfl rfl ?_
 refine qZ 2 ?_
 refine stp ?_
 refine qC ?_
 intro b1 w2 hb3 hc4 g5
 have hge6 := Nat.le_trans K.size hb3
 replace K := K.tr (NkP.of_grow g5)
 replace g0 := g0.tr g5
 replace st := st.grow g5
 clear g5 hb3
 refine stp (zA8 ?_)
 intro b7 w8 hb9 hc10 g11
 refine qZ 2 ?_
 refine jC5 ?_
 refine qZ 4 ?_
 have hge12 := Nat.le_trans K.size hb9
 have ne13 := qN hc4 hb9
 replace K := K.tr (NkP.of_grow g11)
 replace g0 := g0.tr g11
 replace st := st.grow g11
 replace hc4 := g11.heap hc4
 clear g11 hb9
 refine qZ 5 ?_
 refine zF2 (fun m_ e_ w_ => ∃ (k : Nat), m_ = steps.length - k ∧ Fr [(0, .iface 74 (.pointer (some ⟨bn, 0, none⟩))), (2, .int .i64 cost), (4, .pointer (some ⟨b1, 0, none⟩)), (6, .pointer (some ⟨b7, 0, none⟩)), (20, .slice ad steps.length c), (21, .int .i64 (steps.length : Int)), (22, .int .i64 (k : Int))] e_ ∧ (k ≤ steps.length) ∧ (∀ j, j < k → 0 ≤ steps.getD j 0) ∧ (NkP [bn] 61 w0.heap.size w w_) ∧ (Grow w0 w_) ∧ (NtS 110 79 61 w0.heap.size w_ u bn L) ∧ (w_.heap[b1]? = some (.cells #[.slice ad steps.length c, .int .i64 a] 30 (0, 0))) ∧ (w_.heap[b7]? = some (.cells #[.int .i64 0, .int .i64 0, .int .i64 0, .int .i64 0, .int .u64 0] 40 (0, 0)))) _ ⟨0, rfl, zC3 ⟨rfl, rfl, rfl, rfl, rfl, rfl, rfl, trivial⟩, by omega, fun j hj => by omega, K, g0, st, hc4, hc10⟩ ?_
 clear K g0 st hc4 hc10
 rintro m_ e_ w14 ⟨k, rfl, ⟨e15, rfl⟩, hk2, hnn, K, g0, st, hc4, hc10⟩
 refine qZ 2 ?_
 refine stp (zF1 rfl rfl ?_)
 refine qZ 2 ?_
 refine zA2 (b := (decide ((k : Int) < (steps.length : Int)))) rfl (fun hlt1 => ?_) (fun hlt1 => ?_)
 ·
  replace hlt1 := qT hlt1
  have hi : k < steps.length := by omega
  refine qZ 5 ?_
  refine stp (zD5 (R.grow g0) rfl rfl ?_ ?_); omega
  refine stp (zC6 (v := .int .i64 (steps.getD k 0)) (m := 0) (R.grow g0) rfl (zE4 0 (by omega)) ?_)
  refine qZ 5 ?_
  refine stp (zF1 rfl rfl ?_)
  refine zA6 ?_
  refine zA2 (b := (decide ((steps.getD k 0) < 0))) rfl (fun h2 => ?_) (fun h2 => ?_)
  ·
   replace h2 := qT h2
   refine qZ 2 ?_
   refine stp (zA7 (v := .agg #[.int .i64 0, .int .i64 0, .int .i64 0, .int .i64 0, .int .u64 0]) (fun w => by kernel_rfl) ?_)
   refine stn (qS hc10 ?_)
   intro w16 hc17 u18
   replace K := (by first | exact K.upd_new u18 (by assumption) | exact K.tr (NkP.of_upd u18 (by simp)))
   replace g0 := (by first | exact Grow.upd g0 u18 (Nat.le_trans g0w (by assumption)) | exact Grow.upd g0 u18 hbn | exact Grow.upd g0 u18 hb0)
   replace st := st.upd u18 hc10 (by decide) (by decide)
   replace hc4 := u18.heap hc4 ne13
   clear u18 hc10
   refine qZ 3 ?_
   have h9 : (zF9 s steps a cost) = (Vl0, 1) := by unfold zF9; rw [if_pos ⟨_, qC4 hi, h2⟩]
   refine ret2 (zA5 rfl hc17 (by rfl)) (zA1 (v := .int .u16 1) rfl) ⟨by rw [h9] <;> rfl, _, fun h_ => absurd h_ (by rw [h9]; first | decide | (simp; done) | assumption | omega), st, K⟩
  ·
   replace h2 := qF h2
   refine qZ 2 ?_
   refine stp (zB5 rfl rfl ?_ ?_); constructor <;> omega
   refine qZ 2 ?_
   refine ⟨_, ?_, k + 1, rfl, zC3 ⟨rfl, rfl, rfl, rfl, rfl, rfl, rfl, trivial⟩, by omega, fun j hj => by rcases Nat.lt_succ_iff_lt_or_eq.1 hj with h_ | h_; exact hnn j h_; subst h_; omega, K, g0, st, hc4, hc10⟩
   omega
 ·
  replace hlt1 := qF hlt1
  replace hnn : ∀ j, j < steps.length → 0 ≤ steps.getD j 0 := fun j hj => hnn j (by omega)
  have hno : ¬ ∃ k ∈ steps, k < 0 := fun ⟨x_, hx_, hlt_⟩ => by obtain ⟨j_, hj_, he_⟩ := List.getElem_of_mem hx_; have := hnn j_ hj_; rw [zE5 hj_] at this; omega
  refine qZ 7 ?_
  refine stp (zM7 rfl rfl ?_)
  refine zA6 ?_
  refine zA2 (b := (decide ((steps.length : Int) > 32))) rfl (fun h3 => ?_) (fun h3 => ?_)
  ·
   replace h3 := qT h3
   refine qZ 2 ?_
   refine stp (zA7 (v := .agg #[.int .i64 0, .int .i64 0, .int .i64 0, .int .i64 0, .int .u64 0]) (fun w => by kernel_rfl) ?_)
   refine stn (qS hc10 ?_)
   intro w19 hc20 u21
   replace K := (by first | exact K.upd_new u21 (by assumption) | exact K.tr (NkP.of_upd u21 (by simp)))
   replace g0 := (by first | exact Grow.upd g0 u21 (Nat.le_trans g0w (by assumption)) | exact Grow.upd g0 u21 hbn | exact Grow.upd g0 u21 hb0)
   replace st := st.upd u21 hc10 (by decide) (by decide)
   replace hc4 := u21.heap hc4 ne13
   clear u21 hc10
   refine qZ 3 ?_
   have h9 : (zF9 s steps a cost) = (Vl0, 3) := by unfold zF9; rw [if_neg hno, if_pos h3]
   refine ret2 (zA5 rfl hc20 (by rfl)) (zA1 (v := .int .u16 3) rfl) ⟨by rw [h9] <;> rfl, _, fun h_ => absurd h_ (by rw [h9]; first | decide | (simp; done) | assumption | omega), st, K⟩
  ·
   replace h3 := qF h3
   refine qZ 4 ?_
   refine stp ?_
   refine zD6 rfl (zU5 _ hA hr hx hs g0 hbn st (by omega) 0 0) ?_
   rintro v_ w22 ⟨rfl, L1, he1, hl1, st2_, rel_⟩
   replace hc4 := rel_.hpN st hc4 (by decide) (by decide)
   replace hc10 := rel_.hpN st hc10 (by decide) (by decide)
   replace g0 := NkP.to_grow rel_ g0 (fun x_ hx_ => by simp only [List.mem_cons, List.mem_singleton, List.not_mem_nil, or_false] at hx_; (first | (subst hx_; first | assumption | exact hbn) | (rcases hx_ with rfl | rfl <;> assumption)))  (Nat.le_refl _)
   replace K := K.new_nk rel_ (fun x_ hx_ => by simp only [List.mem_cons, List.mem_singleton, List.not_mem_nil, or_false] at hx_; (first | (rcases hx_ with rfl | rfl <;> first | (right; simp; done) | (left; assumption)) | (subst hx_; first | (right; simp; done) | (left; assumption))))
   clear rel_ st
   have st := st2_
   clear st2_
   refine qZ 3 ?_
   refine stp (zA8 ?_)
   intro b23 w24 hb25 hc26 g27
   refine stn (qS hc26 ?_)
   intro w28 hc29 u30
   have g31 := g27.upd u30 hb25
   have hge32 := Nat.le_trans K.size hb25
   have ne33 := qN hc4 hb25
   have ne34 := qN hc10 hb25
   replace hc4 := g31.heap hc4
   replace hc10 := g31.heap hc10
   replace g0 := g0.tr g31
   replace K := K.tr (NkP.of_grow g31)
   replace st := st.grow g31
   clear u30 g27 hb25 hc26
   refine qZ 6 ?_
   refine stp (zG1 rfl rfl ?_)
   refine zA6 ?_
   refine zA2 (b := (decide (((zA0 s 0 0).2) ≠ 0))) rfl (fun h4 => ?_) (fun h4 => ?_)
   ·
    replace h4 := qT h4
    refine qZ 2 ?_
    refine stp (zA7 (v := .agg #[.int .i64 0, .int .i64 0, .int .i64 0, .int .i64 0, .int .u64 0]) (fun w => by kernel_rfl) ?_)
    refine qZ 1 ?_
    refine stn (qS hc10 ?_)
    intro w35 hc36 u37
    replace hc4 := u37.heap hc4 ne13
    replace g0 := (by first | exact Grow.upd g0 u37 (Nat.le_trans g0w (by assumption)) | exact Grow.upd g0 u37 hbn | exact Grow.upd g0 u37 hb0)
    replace K := (by first | exact K.upd_new u37 (by assumption) | exact K.tr (NkP.of_upd u37 (by simp)))
    replace st := st.upd u37 hc10 (by decide) (by decide)
    replace hc29 := u37.heap hc29 ne34.symm
    clear u37 hc10
    refine qZ 3 ?_
    have h9 : (zF9 s steps a cost) = (Vl0, (zA0 s 0 0).2) := by unfold zF9; rw [if_neg hno, if_neg h3, if_pos h4]
    refine ret2 (zA5 rfl hc36 (by rfl)) (zA1 (v := .int .u16 ((zA0 s 0 0).2)) rfl) ⟨by rw [h9] <;> rfl, _, fun h_ => absurd h_ (by rw [h9]; first | decide | (simp; done) | assumption | omega), st, K⟩
   ·
    replace h4 := qF h4
    have hr0_ := fol9 hs hr hx 0 0
    refine qZ 6 ?_
    refine stp ?_
    refine qR7 rfl rfl rfl ?_
    rw [show (if (-1 : Int) > cost then -1 else cost) = max cost (-1) from by split <;> omega]
    obtain ⟨left0, hl0⟩ : ∃ x, x = max cost (-1) := ⟨_, rfl⟩
    rw [← hl0]
    refine stp (zA7 (v := .agg #[.iface 74 (.pointer (some ⟨bn, 0, none⟩)), .int .i64 ((zA0 s 0 0).1.kind), .int .i64 ((zA0 s 0 0).1.seg), .int .i64 ((zA0 s 0 0).1.at_), .int .i64 ((zA0 s 0 0).1.data), .int .i64 ((zA0 s 0 0).1.ptrs), .int .i64 ((zA0 s 0 0).1.size), .int .i64 ((zA0 s 0 0).1.count), .int .i64 left0]) (fun w => by kernel_rfl) ?_)
    refine stp ?_
    refine qC ?_
    intro b38 w39 hb40 hc41 g42
    have hge43 := Nat.le_trans K.size hb40
    have ne44 := qN hc4 hb40
    have ne45 := qN hc10 hb40
    have ne46 := qN hc29 hb40
    replace hc4 := g42.heap hc4
    replace hc10 := g42.heap hc10
    replace g0 := g0.tr g42
    replace K := K.tr (NkP.of_grow g42)
    replace st := st.grow g42
    replace hc29 := g42.heap hc29
    clear g42 hb40
    refine qZ 2 ?_
    have hwb : w.heap.size ≤ b38 := hge43
    have hb0 : w0.heap.size ≤ b38 := Nat.le_trans g0w hwb
    refine qZ 3 ?_
    refine stp (qM1 (vs := [.pointer (some ⟨b38, 0, none⟩)]) (us := []) rfl rfl ?_)
    refine qZ 6 ?_
    refine stp ?_
    refine zD6 rfl (qU4 _ hc41 (by omega) (zI6 hr0_)) ?_
    rintro v_ w47 ⟨rfl, hb48, K_⟩
    replace st := st.kp K_ hc41 (by decide) (by decide)
    replace hc4 := K_.heap hc4 (fun hm_ => by simp only [List.mem_singleton] at hm_; exact zQ1 hc4 hc41 (by decide) hm_)
    replace hc10 := K_.heap hc10 (fun hm_ => by simp only [List.mem_singleton] at hm_; exact zQ1 hc10 hc41 (by decide) hm_)
    replace hc29 := K_.heap hc29 (fun hm_ => by simp only [List.mem_singleton] at hm_; exact zQ1 hc29 hc41 (by decide) hm_)
    replace g0 := g0.trK K_ (fun x_ hx_ => by simp only [List.mem_singleton] at hx_; subst hx_; exact hb0)
    replace K := K.new_kp K_ (fun x_ hx_ => by simp only [List.mem_singleton] at hx_; subst hx_; exact .inl hwb)
    clear K_ hc41
    obtain ⟨e49, he49⟩ : ∃ x, x = (if left0 - (1 + zB2 (zA0 s 0 0).1) < 0 then (22 : Int) else 0) := ⟨_, rfl⟩
    rw [← he49]
    have hqe49 : (left0 - (1 + zB2 (zA0 s 0 0).1) < 0 ∧ e49 = 22) ∨ (¬ left0 - (1 + zB2 (zA0 s 0 0).1) < 0 ∧ e49 = 0) := by rw [he49]; split <;> omega
    refine qZ 5 ?_
    refine stp (zG1 rfl rfl ?_)
    refine zA6 ?_
    refine zA2 (b := (decide (e49 ≠ 0))) rfl (fun h5 => ?_) (fun h5 => ?_)
    ·
     replace h5 := qT h5
     have he_ : e49 = 22 := by omega
     refine qZ 2 ?_
     refine stp (zA7 (v := .agg #[.int .i64 0, .int .i64 0, .int .i64 0, .int .i64 0, .int .u64 0]) (fun w => by kernel_rfl) ?_)
     refine qZ 1 ?_
     refine stn (qS hc10 ?_)
     intro w50 hc51 u52
     replace hc4 := u52.heap hc4 ne13
     replace g0 := (by first | exact Grow.upd g0 u52 (Nat.le_trans g0w (by assumption)) | exact Grow.upd g0 u52 hbn | exact Grow.upd g0 u52 hb0)
     replace K := (by first | exact K.upd_new u52 (by assumption) | exact K.tr (NkP.of_upd u52 (by simp)))
     replace st := st.upd u52 hc10 (by decide) (by decide)
     replace hc29 := u52.heap hc29 ne34.symm
     replace hb48 := u52.heap hb48 ne45.symm
     clear u52 hc10
     refine qZ 3 ?_
     have h9 : (zF9 s steps a cost) = (Vl0, 22) := by unfold zF9; rw [if_neg hno, if_neg h3, if_neg h4, ← hl0, if_pos (by omega)]
     refine ret2 (zA5 rfl hc51 (by rfl)) (zA1 (v := .int .u16 e49) rfl) ⟨by rw [h9, he_] <;> rfl, _, fun h_ => absurd h_ (by rw [h9]; simp), st, K⟩
    ·
     replace h5 := qF h5
     have hw0 : (zF9 s steps a cost) = zZ4 s a (steps.drop 0) (zA0 s 0 0).1 (left0 - (1 + zB2 (zA0 s 0 0).1)) := by unfold zF9; rw [if_neg hno, if_neg h3, if_neg h4, ← hl0, if_neg (by omega)]; rfl
     have hL1 : L1 = (zH9 A L 0 0) := he1 (by omega)
     refine qZ 12 ?_
     have hlw := zI6 hr0_
     have hst32 : steps.length ≤ 32 := by omega
     refine zF2 (fun m_ e_ w_ => ∃ (k : Nat) (o : Ob) (left : Int) (l : List Spn), m_ = steps.length - k ∧ Fr [(4, .pointer (some ⟨b1, 0, none⟩)), (6, .pointer (some ⟨b7, 0, none⟩)), (11, .int .u16 ((zA0 s 0 0).2)), (12, .pointer (some ⟨b38, 0, none⟩)), (13, .func (.func 53) #[.pointer (some ⟨b38, 0, none⟩)] #[]), (59, .slice ad steps.length c), (60, .int .i64 (steps.length : Int)), (61, .int .i64 (k : Int))] e_ ∧ (k ≤ steps.length) ∧ (ObR o) ∧ (ObK o) ∧ (0 ≤ left ∧ left ≤ 9223372036854775807) ∧ ((zF9 s steps a cost) = zZ4 s a (steps.drop k) o left) ∧ (l.length ≤ L.length + 3 + 3 * k) ∧ ((endT A (goT A steps (zH9 A L 0 0) (zA0 s 0 0).1).1 (goT A steps (zH9 A L 0 0) (zA0 s 0 0).1).2 a) = endT A (goT A (steps.drop k) l o).1 (goT A (steps.drop k) l o).2 a) ∧ (w_.heap[b1]? = some (.cells #[.slice ad steps.length c, .int .i64 a] 30 (0, 0))) ∧ (w_.heap[b7]? = some (.cells #[.int .i64 0, .int .i64 0, .int .i64 0, .int .i64 0, .int .u64 0] 40 (0, 0))) ∧ (Grow w0 w_) ∧ (NkP [bn] 61 w0.heap.size w w_) ∧ (w_.heap[b23]? = some (.cells #[.int .i64 ((zA0 s 0 0).1.kind), .int .i64 ((zA0 s 0 0).1.seg), .int .i64 ((zA0 s 0 0).1.at_), .int .i64 ((zA0 s 0 0).1.data), .int .i64 ((zA0 s 0 0).1.ptrs), .int .i64 ((zA0 s 0 0).1.size), .int .i64 ((zA0 s 0 0).1.count)] 112 (0, 0))) ∧ (w_.heap[b38]? = some (.cells #[.iface 74 (.pointer (some ⟨bn, 0, none⟩)), .int .i64 o.kind, .int .i64 o.seg, .int .i64 o.at_, .int .i64 o.data, .int .i64 o.ptrs, .int .i64 o.size, .int .i64 o.count, .int .i64 left] 117 (0, 0))) ∧ (NtS 110 79 61 w0.heap.size w_ u bn l)) _ ⟨0, (zA0 s 0 0).1, (left0 - (1 + zB2 (zA0 s 0 0).1)), L1, rfl, zC3 ⟨rfl, rfl, rfl, rfl, rfl, rfl, rfl, rfl, trivial⟩, by omega, hr0_, zL1 s 0 0, by omega, hw0, by omega, by rw [hL1]; rfl, hc4, hc10, g0, K, hc29, hb48, st⟩ ?_
     clear hc4 hc10 g0 K st hc29 hb48
     rintro m_ e_ w53 ⟨k, o, left, l, rfl, ⟨e54, rfl⟩, hk2, ho, hok, hlf, hw, hll, htt, hc4, hc10, g0, K, hc29, hb48, st⟩
     refine qZ 2 ?_
     refine stp (zF1 rfl rfl ?_)
     refine qZ 2 ?_
     refine zA2 (b := (decide ((k : Int) < (steps.length : Int)))) rfl (fun hlt => ?_) (fun hlt => ?_)
     ·
      replace hlt := qT hlt
      have hi : k < steps.length := by omega
      have hdr : steps.drop k = (steps.getD k 0) :: steps.drop (k + 1) := by rw [List.drop_eq_getElem_cons hi, zE5 hi]
      have hkk := hnn k hi
      have hso := yS9 (fun x_ y_ => fol9 hs hr hx x_ y_) ho (steps.getD k 0)
      have hsw := zI6 hso
      refine qZ 5 ?_
      refine stp (zD5 (R.grow g0) rfl rfl ?_ ?_); omega
      refine stp (zC6 (v := .int .i64 (steps.getD k 0)) (m := 0) (R.grow g0) rfl (zE4 0 (by omega)) ?_)
      refine qZ 6 ?_
      refine stp ?_
      refine zD6 rfl (yC0 _ hA hr hx hs g0 hbn st (by omega) hb0 hb48 ho hok hkk) ?_
      rintro v_ w55 ⟨rfl, L2, he2, hl2, hb56, st2_, rel_⟩
      replace hc4 := rel_.hpN2 st hb48 hc4 (by decide) (by decide) (by decide)
      replace hc10 := rel_.hpN2 st hb48 hc10 (by decide) (by decide) (by decide)
      replace hc29 := rel_.hpN2 st hb48 hc29 (by decide) (by decide) (by decide)
      replace g0 := NkP.to_grow rel_ g0 (fun x_ hx_ => by simp only [List.mem_cons, List.mem_singleton, List.not_mem_nil, or_false] at hx_; (first | (subst hx_; first | assumption | exact hbn) | (rcases hx_ with rfl | rfl <;> assumption)))  (Nat.le_refl _)
      replace K := K.new_nk rel_ (fun x_ hx_ => by simp only [List.mem_cons, List.mem_singleton, List.not_mem_nil, or_false] at hx_; (first | (rcases hx_ with rfl | rfl <;> first | (right; simp; done) | (left; assumption)) | (subst hx_; first | (right; simp; done) | (left; assumption))))
      clear rel_ st hb48
      have st := st2_
      clear st2_
      refine qZ 6 ?_
      refine stp (zC7 rfl rfl ?_)
      refine zA6 ?_
      refine zA2 (b := (decide (((zF8 s o (steps.getD k 0)).2) = 0))) rfl (fun h7 => ?_) (fun h7 => ?_)
      ·
       replace h7 := qT h7
       refine qZ 2 ?_
       refine stp ?_
       refine zD6 rfl (qU4 _ hb56 (by omega) (zI6 hso)) ?_
       rintro v_ w57 ⟨rfl, hb58, K_⟩
       replace st := st.kp K_ hb56 (by decide) (by decide)
       replace hc4 := K_.heap hc4 (fun hm_ => by simp only [List.mem_singleton] at hm_; exact zQ1 hc4 hb56 (by decide) hm_)
       replace hc10 := K_.heap hc10 (fun hm_ => by simp only [List.mem_singleton] at hm_; exact zQ1 hc10 hb56 (by decide) hm_)
       replace hc29 := K_.heap hc29 (fun hm_ => by simp only [List.mem_singleton] at hm_; exact zQ1 hc29 hb56 (by decide) hm_)
       replace g0 := g0.trK K_ (fun x_ hx_ => by simp only [List.mem_singleton] at hx_; subst hx_; exact hb0)
       replace K := K.new_kp K_ (fun x_ hx_ => by simp only [List.mem_singleton] at hx_; subst hx_; exact .inl hwb)
       clear K_ hb56
       obtain ⟨e59, he59⟩ : ∃ x, x = (if left - (1 + zB2 (zF8 s o (steps.getD k 0)).1) < 0 then (22 : Int) else 0) := ⟨_, rfl⟩
       rw [← he59]
       have hqe59 : (left - (1 + zB2 (zF8 s o (steps.getD k 0)).1) < 0 ∧ e59 = 22) ∨ (¬ left - (1 + zB2 (zF8 s o (steps.getD k 0)).1) < 0 ∧ e59 = 0) := by rw [he59]; split <;> omega
       refine qZ 6 ?_
       refine stp (zC7 rfl rfl ?_)
       refine zA6 ?_
       refine zA2 (b := (decide (e59 = 0))) rfl (fun h8 => ?_) (fun h8 => ?_)
       ·
        replace h8 := qT h8
        refine qZ 2 ?_
        refine stp (zB5 rfl rfl ?_ ?_); constructor <;> omega
        refine qZ 2 ?_
        have hz7 : (zF8 s o (steps.getD k 0)).2 = 0 := by omega
        refine ⟨_, ?_, k + 1, (zF8 s o (steps.getD k 0)).1, left - (1 + zB2 (zF8 s o (steps.getD k 0)).1), L2, rfl, zC3 ⟨rfl, rfl, rfl, rfl, rfl, rfl, rfl, rfl, trivial⟩, by omega, hso, yS8 s hok _, by omega, by rw [hw, hdr, zZ4, if_neg (by omega), if_neg (by omega)], by omega, by rw [htt, hdr, yY8 hs hz7, he2 hz7], hc4, hc10, g0, K, hc29, hb58, st⟩
        omega
       ·
        replace h8 := qF h8
        have he_ : e59 = 22 := by omega
        refine qZ 3 ?_
        refine stp (zA7 (v := .agg #[.int .i64 0, .int .i64 0, .int .i64 0, .int .i64 0, .int .u64 0]) (fun w => by kernel_rfl) ?_)
        refine qZ 1 ?_
        refine stn (qS hc10 ?_)
        intro w60 hc61 u62
        replace hc4 := u62.heap hc4 ne13
        replace hc29 := u62.heap hc29 ne34.symm
        replace g0 := (by first | exact Grow.upd g0 u62 (Nat.le_trans g0w (by assumption)) | exact Grow.upd g0 u62 hbn | exact Grow.upd g0 u62 hb0)
        replace K := (by first | exact K.upd_new u62 (by assumption) | exact K.tr (NkP.of_upd u62 (by simp)))
        replace st := st.upd u62 hc10 (by decide) (by decide)
        replace hb58 := u62.heap hb58 ne45.symm
        clear u62 hc10
        refine qZ 3 ?_
        have h9 : (zF9 s steps a cost) = (Vl0, 22) := by rw [hw, hdr, zZ4, if_neg (by omega), if_pos (by omega)]
        refine ret2 (zA5 rfl hc61 (by rfl)) (zA1 (v := .int .u16 e59) rfl) ⟨by rw [h9, he_] <;> rfl, _, fun h_ => absurd h_ (by rw [h9]; simp), st, K⟩
      ·
       replace h7 := qF h7
       refine qZ 5 ?_
       refine stp (qO5 rfl rfl (by omega) ?_)
       refine zA6 ?_
       refine zM3 rfl ?_
       refine qZ 3 ?_
       refine stp (zA7 (v := .agg #[.int .i64 0, .int .i64 0, .int .i64 0, .int .i64 0, .int .u64 0]) (fun w => by kernel_rfl) ?_)
       refine qZ 1 ?_
       refine stn (qS hc10 ?_)
       intro w63 hc64 u65
       replace hc4 := u65.heap hc4 ne13
       replace hc29 := u65.heap hc29 ne34.symm
       replace g0 := (by first | exact Grow.upd g0 u65 (Nat.le_trans g0w (by assumption)) | exact Grow.upd g0 u65 hbn | exact Grow.upd g0 u65 hb0)
       replace K := (by first | exact K.upd_new u65 (by assumption) | exact K.tr (NkP.of_upd u65 (by simp)))
       replace st := st.upd u65 hc10 (by decide) (by decide)
       replace hb56 := u65.heap hb56 ne45.symm
       clear u65 hc10
       refine qZ 3 ?_
       have h9 : (zF9 s steps a cost) = (Vl0, (zF8 s o (steps.getD k 0)).2) := by rw [hw, hdr, zZ4, if_pos h7]
       refine ret2 (zA5 rfl hc64 (by rfl)) (zA1 (v := .int .u16 ((zF8 s o (steps.getD k 0)).2)) rfl) ⟨by rw [h9] <;> rfl, _, fun h_ => absurd h_ (by rw [h9]; first | decide | (simp; done) | assumption | omega), st, K⟩
     ·
      replace hlt := qF hlt
      have hk9 : k = steps.length := by omega
      have hv : (zF9 s steps a cost) = valS s o a := by rw [hw, hk9, List.drop_length, zZ4]
      rw [hk9, List.drop_length, goT] at htt
      refine qZ 6 ?_
      refine stp (zF1 rfl rfl ?_)
      refine zA6 ?_
      refine zA2 (b := (decide (a < 0))) rfl (fun h6 => ?_) (fun h6 => ?_)
      ·
       replace h6 := qT h6
       refine qZ 3 ?_
       refine stp (zA4 (v := .agg #[.int .i64 ((isS o).kind), .int .i64 ((isS o).size), .int .i64 ((isS o).words), .int .i64 ((isS o).kids), .int .u64 ((isS o).word)]) rfl (yW4 _ hb48) ?_)
       intro w66 g67
       replace hc4 := g67.heap hc4
       replace hc10 := g67.heap hc10
       replace g0 := g0.tr g67
       replace K := K.tr (NkP.of_grow g67)
       replace hc29 := g67.heap hc29
       replace hb48 := g67.heap hb48
       replace st := st.grow g67
       clear g67
       refine stn (qS hc10 ?_)
       intro w68 hc69 u70
       replace hc4 := u70.heap hc4 ne13
       replace g0 := (by first | exact Grow.upd g0 u70 (Nat.le_trans g0w (by assumption)) | exact Grow.upd g0 u70 hbn | exact Grow.upd g0 u70 hb0)
       replace K := (by first | exact K.upd_new u70 (by assumption) | exact K.tr (NkP.of_upd u70 (by simp)))
       replace hc29 := u70.heap hc29 ne34.symm
       replace hb48 := u70.heap hb48 ne45.symm
       replace st := st.upd u70 hc10 (by decide) (by decide)
       clear u70 hc10
       refine qZ 3 ?_
       have h9 : (zF9 s steps a cost) = (isS o, 0) := by rw [hv, valS, if_pos h6]
       refine ret2 (zA5 rfl hc69 (by rfl)) (zA1 (v := .int .u16 0) rfl) ⟨by rw [h9] <;> rfl, _, fun _ => by rw [htt]; unfold endT; rw [if_pos (.inl h6)], st, K⟩
      ·
       replace h6 := qF h6
       refine qZ 6 ?_
       refine stp ?_
       refine zD6 rfl (qW3 _ hA hr hx hs g0 hbn st (by omega) hb0 hb48 ho hok (by omega) (by omega)) ?_
       rintro v_ w71 ⟨rfl, L3, he3, st2_, rel_⟩
       replace hc4 := rel_.hpN st hc4 (by decide) (by decide)
       replace hc10 := rel_.hpN st hc10 (by decide) (by decide)
       replace hc29 := rel_.hpN st hc29 (by decide) (by decide)
       replace hb48 := rel_.hpN st hb48 (by decide) (by decide)
       replace g0 := NkP.to_grow rel_ g0 (fun x_ hx_ => by simp only [List.mem_cons, List.mem_singleton, List.not_mem_nil, or_false] at hx_; (first | (subst hx_; first | assumption | exact hbn) | (rcases hx_ with rfl | rfl <;> assumption)))  (Nat.le_refl _)
       replace K := K.new_nk rel_ (fun x_ hx_ => by simp only [List.mem_cons, List.mem_singleton, List.not_mem_nil, or_false] at hx_; (first | (rcases hx_ with rfl | rfl <;> first | (right; simp; done) | (left; assumption)) | (subst hx_; first | (right; simp; done) | (left; assumption))))
       clear rel_ st
       have st := st2_
       clear st2_
       refine qZ 10 ?_
       refine stp (zG1 rfl rfl ?_)
       refine zA6 ?_
       refine zA2 (b := (decide (((atS s o a).2) ≠ 0))) rfl (fun h7 => ?_) (fun h7 => ?_)
       ·
        replace h7 := qT h7
        refine qZ 2 ?_
        refine stp (zA7 (v := .agg #[.int .i64 0, .int .i64 0, .int .i64 0, .int .i64 0, .int .u64 0]) (fun w => by kernel_rfl) ?_)
        refine qZ 1 ?_
        refine stn (qS hc10 ?_)
        intro w72 hc73 u74
        replace hc4 := u74.heap hc4 ne13
        replace hc29 := u74.heap hc29 ne34.symm
        replace hb48 := u74.heap hb48 ne45.symm
        replace g0 := (by first | exact Grow.upd g0 u74 (Nat.le_trans g0w (by assumption)) | exact Grow.upd g0 u74 hbn | exact Grow.upd g0 u74 hb0)
        replace K := (by first | exact K.upd_new u74 (by assumption) | exact K.tr (NkP.of_upd u74 (by simp)))
        replace st := st.upd u74 hc10 (by decide) (by decide)
        clear u74 hc10
        refine qZ 3 ?_
        have h9 : (zF9 s steps a cost) = (Vl0, (atS s o a).2) := by rw [hv, valS, if_neg h6, if_pos h7]
        refine ret2 (zA5 rfl hc73 (by rfl)) (zA1 (v := .int .u16 ((atS s o a).2)) rfl) ⟨by rw [h9] <;> rfl, _, fun h_ => absurd h_ (by rw [h9]; first | decide | (simp; done) | assumption | omega), st, K⟩
       ·
        replace h7 := qF h7
        refine qZ 9 ?_
        refine stp (zA7 (v := .agg #[.int .i64 o.kind, .int .i64 0, .int .i64 0, .int .i64 0, .int .u64 ((atS s o a).1)]) (fun w => by kernel_rfl) ?_)
        refine stn (qS hc10 ?_)
        intro w75 hc76 u77
        replace hc4 := u77.heap hc4 ne13
        replace hc29 := u77.heap hc29 ne34.symm
        replace hb48 := u77.heap hb48 ne45.symm
        replace g0 := (by first | exact Grow.upd g0 u77 (Nat.le_trans g0w (by assumption)) | exact Grow.upd g0 u77 hbn | exact Grow.upd g0 u77 hb0)
        replace K := (by first | exact K.upd_new u77 (by assumption) | exact K.tr (NkP.of_upd u77 (by simp)))
        replace st := st.upd u77 hc10 (by decide) (by decide)
        clear u77 hc10
        refine qZ 3 ?_
        have h9 : (zF9 s steps a cost) = (⟨o.kind, 0, 0, 0, (atS s o a).1⟩, 0) := by rw [hv, valS, if_neg h6, if_neg h7]
        refine ret2 (zA5 rfl hc76 (by rfl)) (zA1 (v := .int .u16 0) rfl) ⟨by rw [h9] <;> rfl, _, fun _ => by rw [htt]; exact he3 (by omega), st, K⟩
end Go.Proofs.YtkkbbhpbcfcplaaGreat.K
namespace Go.Proofs.YtkkbbhpbcfcplaaGreat.K
open Go Go.RowKit
def OblQ (P : Program) (ops : Array Oper) (F : KpQ) (S : Nat → World → Prop) (w0 : World) (e : Env) (o : Oper) (s : Sp) (l : List (Option Nat × Sp)) : Option Nat → Prop
  | none => ∀ w, F.r w0 w → OblEnv l e w fun e' => OpG P ops o e' w fun v w' => F.g w w' ∧ s.holds w' v
  | some k => ∀ w, F.r w0 w → S k w → OblEnv l e w fun e' => OpG P ops o e' w fun v w' => F.r w w' ∧ S (k + 1) w' ∧ s.holds w' v
def AOQ (P : Program) (ops : Array Oper) (F : KpQ) (S : Nat → World → Prop) (ms : List Nat) (w0 : World) (e : Env) (K : List Dn → Prop) : List Oper → List (List Nat) → List Dn → Prop
  | [], _, rdone => K rdone.reverse
  | o :: r, an, rdone => ∃ s : Sp, s.StabQ F ∧ OblQ P ops F S w0 e o s (selB rdone (an.headD [])) (zK6 ms 0 rdone.length) ∧
      AOQ P ops F S ms w0 e K r an.tail (⟨o, s, an.headD []⟩ :: rdone)
section
variable {P : Program} {ops : Array Oper} {F : KpQ} {S : Nat → World → Prop} {ms : List Nat} {w0 : World} {e : Env} {K : List Dn → Prop} {o : Oper} {r : List Oper} {a : List Nat} {an : List (List Nat)} {rdone : List Dn}
theorem zY5 (x : Value) (hm : zK6 ms 0 rdone.length = none) (h : ∀ w, F.r w0 w → OblEnv (selB rdone a) e w fun e' => OpG P ops o e' w fun v w' => F.g w w' ∧ v = x)
    (next : AOQ P ops F S ms w0 e K r an (⟨o, .ex x, a⟩ :: rdone)) : AOQ P ops F S ms w0 e K (o :: r) (a :: an) rdone := ⟨.ex x, trivial, by rw [hm]; exact h, next⟩
theorem jD9 {an : List (List Nat)} (h : K rdone.reverse) : AOQ P ops F S ms w0 e K [] an rdone := h
end
def jE0 (P : Program) (ops : Array Oper) (F : KpQ) (S : Nat → World → Prop) (ms : List Nat) (w0 : World) (e : Env) (D : List Dn) : Prop :=
  ∀ i d, D[i]? = some d → d.s.StabQ F ∧ OblQ P ops F S w0 e d.o d.s (selB (D.take i).reverse d.anc) (zK6 ms 0 i)
theorem yT2 {P : Program} {ops : Array Oper} {F : KpQ} {S : Nat → World → Prop} {ms : List Nat} {w0 : World} {e : Env} {K : List Dn → Prop} : ∀ (r : List Oper) (an : List (List Nat)) (rdone : List Dn), r.length = an.length →
    AOQ P ops F S ms w0 e K r an rdone → jE0 P ops F S ms w0 e rdone.reverse → ∃ D, K D ∧ jE0 P ops F S ms w0 e D ∧ D.map Dn.o = rdone.reverse.map Dn.o ++ r ∧ D.map Dn.anc = rdone.reverse.map Dn.anc ++ an
  | [], [], rdone, _, h, hg => ⟨rdone.reverse, h, hg, by simp, by simp⟩
  | [], _ :: _, _, hl, _, _ => by simp at hl
  | _ :: _, [], _, hl, _, _ => by simp at hl
  | o :: r, a :: an, rdone, hl, ⟨s, hs, ho, hn⟩, hg => by
    simp only [List.headD_cons, List.tail_cons] at ho hn
    obtain ⟨D, hK, hG, hD, hA⟩ := yT2 r an (⟨o, s, a⟩ :: rdone) (by simpa using hl) hn (by
      intro i d hd
      simp only [List.reverse_cons] at hd ⊢
      rcases Nat.lt_or_ge i rdone.reverse.length with hi | hi
      · rw [List.getElem?_append_left hi] at hd
        rw [List.take_append_of_le_length (by omega)]
        exact hg i d hd
      · rw [List.getElem?_append_right hi] at hd
        have h0 : i - rdone.reverse.length = 0 := by
          rcases Nat.eq_zero_or_pos (i - rdone.reverse.length) with h | h
          · exact h
          · rw [List.getElem?_eq_none (by simp only [List.length_cons, List.length_nil]; omega)] at hd; cases hd
        rw [h0] at hd
        have hi' : i = rdone.reverse.length := by omega
        subst hi'
        simp only [List.getElem?_cons_zero, Option.some.injEq] at hd
        subst hd
        have ht : (rdone.reverse ++ [(⟨o, s, a⟩ : Dn)]).take rdone.reverse.length = rdone.reverse := by simp
        rw [ht, List.reverse_reverse]
        rw [List.length_reverse]
        exact ⟨hs, ho⟩)
    exact ⟨D, hK, hG, by rw [hD]; simp, by rw [hA]; simp⟩
section main
variable {P : Program} {N : Nat} {hd tl : List Oper} {Q : Ex → Env → World → Prop} {F : KpQ} {S : Nat → World → Prop} {ms : List Nat}
structure InvQ (F : KpQ) (S : Nat → World → Prop) (ms : List Nat) (P : Program) (hd tl : List Oper) (D : List Dn) (w0 : World) (e : Env) (L : Array Bool) (E : Env) (w : World) : Prop where
  msro : E.ms = e.ms ∧ E.ro = e.ro
  down : Down (hd ++ tl) L
  head : ∀ i, Ls L i → i < hd.length
  grow : F.r w0 w
  st : ∃ k, k ≤ ms.length ∧ S k w ∧ ∀ (j p : Nat), ms[j]? = some p → (Ls L p ↔ j < k)
  got : ∀ (i : Nat) (d : Dn), D[i]? = some d → Ls L i → ∃ v, d.s.holds w v ∧ ∀ t, d.o.dst = some t → E t = v
  off : ∀ u, (∀ (i : Nat) (o : Oper), (hd ++ tl)[i]? = some o → Ls L i → o.dst ≠ some u) → E u = e u
theorem jE1 (sh : Shape hd tl) {D : List Dn} {w0 : World} {e : Env} (hD : D.map Dn.o = hd) (hA : D.map Dn.anc = ancB (hd ++ tl) hd.length) (hg : jE0 P (hd ++ tl).toArray F S ms w0 e D)
    (hS : ∀ k w w', F.g w w' → S k w → S k w') (hmo : qL4 (ancL (hd ++ tl) []) [] ms = true) (hml : ∀ (j p : Nat), ms[j]? = some p → p < hd.length)
    (hfin : ∀ w, F.r w0 w → S ms.length w → Fin (fun e w => WL P (hd ++ tl).toArray Q tl e w) D e w) : ∀ (fuel : Nat) (L : Array Bool) (E : Env) (w : World),
    InvQ F S ms P hd tl D w0 e L E w → left L ≤ fuel → AnyE P (hd ++ tl).toArray Q fuel L E w := by
  have hlen : D.length = hd.length := by rw [← hD]; simp
  have hDo : ∀ (i : Nat) (d : Dn), D[i]? = some d → (hd ++ tl)[i]? = some d.o := fun i d h => by
    have hi : i < D.length := (List.getElem?_eq_some_iff.1 h).1
    rw [List.getElem?_append_left (by omega), ← hD]; simp [h]
  have hanc := qO4 sh hlen hA
  -- with all of the head listed, what follows stands
  have fin : ∀ (L : Array Bool) (E : Env) (w : World), InvQ F S ms P hd tl D w0 e L E w → (∀ i, i < hd.length → Ls L i) → WL P (hd ++ tl).toArray Q tl E w := by
    intro L E w inv hall
    have hSl : S ms.length w := by
      obtain ⟨k0, hk0, hSk, hch⟩ := inv.st
      rcases Nat.lt_or_ge k0 ms.length with hlt | hge
      · have hp := List.getElem?_eq_getElem hlt
        have := (hch k0 _ hp).1 (hall _ (hml k0 _ hp))
        omega
      · rw [show ms.length = k0 from by omega]; exact hSk
    obtain ⟨e', hG, hmr, hu⟩ := qA9 E D e (hfin w inv.grow hSl) (fun d hd' => by
      obtain ⟨i, hi, rfl⟩ := List.getElem_of_mem hd'
      exact inv.got i _ (List.getElem?_eq_getElem hi) (hall i (by omega)))
    have : e' = E := by
      refine Env.ext' (fun u => ?_) (by rw [hmr.1, inv.msro.1]) (by rw [hmr.2, inv.msro.2])
      by_cases hin : ∃ d ∈ D, d.o.dst = some u
      · exact (hu u).1 hin
      · rw [(hu u).2 (fun d hd' he => hin ⟨d, hd', he⟩)]
        refine (inv.off u fun i o ho hl hou => hin ?_).symm
        have hi := inv.head i hl
        have hiD : i < D.length := by omega
        have := hDo i _ (List.getElem?_eq_getElem hiD)
        rw [ho] at this
        exact ⟨D[i], List.getElem_mem hiD, by rw [← Option.some.inj this]; exact hou⟩
    rw [← this]; exact hG
  -- and so the rest of the region
  have rest : ∀ (fuel : Nat) (L : Array Bool) (E : Env) (w : World), InvQ F S ms P hd tl D w0 e L E w → (∀ i, i < hd.length → Ls L i) → left L ≤ fuel →
      AnyE P (hd ++ tl).toArray Q fuel L E w := by
    intro fuel L E w inv hall hf
    refine yD4 sh fuel hd.length L E w inv.down (fun i => ⟨inv.head i, hall i⟩) (Nat.le_refl _) (by simp) hf ?_
    rw [List.drop_left]
    exact fin L E w inv hall
  intro fuel
  induction fuel with
  | zero =>
    intro L E w inv hf
    refine rest 0 L E w inv (fun i hi => ?_) hf
    by_cases hl : Ls L i
    · exact hl
    · have := zN3 (L := L) (i := i) (by rw [inv.down.size]; simp; omega) hl; omega
  | succ fuel ih =>
    intro L E w inv hf
    by_cases hall : ∀ i, i < hd.length → Ls L i
    · exact rest _ L E w inv hall hf
    refine ⟨fun hr => absurd (fun i hi => zS2 inv.down.size sh.back hr i (by simp; omega)) hall, fun i hi o' ho' => ?_⟩
    obtain ⟨hn, o, ho, hedge⟩ := (zP6 inv.down.size).1 hi
    have hin : i < (hd ++ tl).length := (List.getElem?_eq_some_iff.1 ho).1
    have hal := zI9 inv.down i o ho hedge
    have hih : i < hd.length := by
      rcases Nat.lt_or_ge i hd.length with h' | h'
      · exact h'
      · exact absurd (fun j hj => hal j (sh.tail i h' hin j (by omega))) hall
    have hi' : i < L.size := by rw [inv.down.size]; exact hin
    have hiD : i < D.length := by omega
    have hd' := List.getElem?_eq_getElem hiD
    generalize hdd : D[i] = d at hd'
    have hod : d.o = o := by have := hDo i d hd'; rw [ho] at this; exact (Option.some.inj this).symm
    obtain ⟨hst, hob⟩ := hg i d hd'
    have ha := hanc i d hd'
    rw [ha] at hob
    have hanI : (ancL (hd ++ tl) []).getD i [] = ancI (hd ++ tl) i := rfl
    have step : OblEnv (sel (D.take i) (ancI (hd ++ tl) i)) e w fun e' => OpG P (hd ++ tl).toArray d.o e' w fun v w' => F.r w w' ∧ (zK6 ms 0 i = none → F.g w w') ∧ (∃ k, k ≤ ms.length ∧ S k w' ∧ ∀ (j p : Nat), ms[j]? = some p → (Ls (L.setIfInBounds i true) p ↔ j < k)) ∧ d.s.holds w' v := by
      obtain ⟨k0, hk0, hSk, hch⟩ := inv.st
      cases hmu : zK6 ms 0 i with
      | none =>
        rw [hmu] at hob
        refine zM8 (fun e' h => h.mono fun v w' ⟨g, hv⟩ => ⟨F.grow g, fun _ => g, ⟨k0, hk0, hS _ _ _ g hSk, fun j p hj => ?_⟩, hv⟩) _ _ (hob w inv.grow)
        rw [zJ3 hi', ← hch j p hj]
        have : p ≠ i := fun h => zX2 hmu j (h ▸ hj)
        simp [this]
      | some k =>
        rw [hmu] at hob
        obtain ⟨_, hms⟩ := zP2 hmu
        rw [Nat.sub_zero] at hms
        have hkl : k < ms.length := (List.getElem?_eq_some_iff.1 hms).1
        have hkk : k0 = k := by
          have h1 : ¬ k < k0 := fun h => hn ((hch k i hms).2 h)
          rcases Nat.lt_or_ge k0 k with hlt | hge
          · have hq := List.getElem?_eq_getElem (show k0 < ms.length by omega)
            have h2 := (zR0 hmo k i hms).2 k0 _ hlt hq
            rw [hanI] at h2
            have := (hch k0 _ hq).1 (hal _ h2)
            omega
          · omega
        subst hkk
        refine zM8 (fun e' h => h.mono fun v w' ⟨g, hs', hv⟩ => ⟨g, nofun, ⟨k0 + 1, hkl, hs', fun j p hj => ?_⟩, hv⟩) _ _ (hob w inv.grow hSk)
        rw [zJ3 hi', hch j p hj]
        have anc_lt : ∀ q, q ∈ ancI (hd ++ tl) i → q < i := fun q hq => ((zL7 ho).1 hq).1
        constructor
        · rintro (rfl | h)
          · rcases Nat.lt_trichotomy j k0 with h | h | h
            · omega
            · omega
            · have h2 := (zR0 hmo j p hj).2 k0 p h hms
              exact absurd (anc_lt p h2) (by omega)
          · omega
        · intro h
          rcases Nat.lt_or_ge j k0 with h' | h'
          · exact .inr h'
          · have : j = k0 := by omega
            subst this
            rw [hms] at hj
            exact .inl (Option.some.inj hj).symm
    -- the obligation, at the frame that is there
    obtain ⟨e', hG, hu⟩ := zM4 E _ e (by
      intro p hp
      unfold sel at hp
      rw [List.mem_filterMap] at hp
      obtain ⟨j, hj, hp⟩ := hp
      rw [List.getElem?_take] at hp
      split at hp
      · cases hdj : D[j]? with
        | none => rw [hdj] at hp; simp at hp
        | some dj =>
          rw [hdj] at hp
          simp only [Option.map_some, Option.some.injEq] at hp
          subst hp
          exact inv.got j dj hdj (hal j hj)
      · simp at hp) step
    have hmem : ∀ u, (∃ p ∈ sel (D.take i) (ancI (hd ++ tl) i), p.1 = some u) ↔ ∃ j ∈ ancI (hd ++ tl) i, ∃ dj, D[j]? = some dj ∧ dj.o.dst = some u := by
      intro u
      unfold sel
      constructor
      · rintro ⟨p, hp, hpu⟩
        rw [List.mem_filterMap] at hp
        obtain ⟨j, hj, hp⟩ := hp
        rw [List.getElem?_take] at hp
        split at hp
        · cases hdj : D[j]? with
          | none => rw [hdj] at hp; simp at hp
          | some dj =>
            rw [hdj] at hp
            simp only [Option.map_some, Option.some.injEq] at hp
            subst hp
            exact ⟨j, hj, dj, hdj, hpu⟩
        · simp at hp
      · rintro ⟨j, hj, dj, hdj, hdu⟩
        refine ⟨(dj.o.dst, dj.s), ?_, hdu⟩
        rw [List.mem_filterMap]
        refine ⟨j, hj, ?_⟩
        rw [List.getElem?_take, if_pos ((zL7 ho).1 hj).1, hdj]
        rfl
    have hG2 : OpG P (hd ++ tl).toArray o E w fun v w' => F.r w w' ∧ (zK6 ms 0 i = none → F.g w w') ∧ (∃ k, k ≤ ms.length ∧ S k w' ∧ ∀ (j p : Nat), ms[j]? = some p → (Ls (L.setIfInBounds i true) p ↔ j < k)) ∧ d.s.holds w' v := by
      rw [hod] at hG
      refine zV0 (sh.nosel i o ho) (fun u hu' => ?_) hG
      by_cases hin' : ∃ p ∈ sel (D.take i) (ancI (hd ++ tl) i), p.1 = some u
      · exact (hu u).1 hin'
      · rw [(hu u).2 (fun p hp he => hin' ⟨p, hp, he⟩)]
        refine (inv.off u fun k p hp hl hpu => ?_).symm
        have hki : i ≠ k := fun h => hn (h ▸ hl)
        rcases sh.read i k o p ho hp hki u hpu hu' with h | h
        · refine hin' ((hmem u).2 ⟨k, h, ?_⟩)
          have hk := inv.head k hl
          have hkD : k < D.length := by omega
          have := hDo k _ (List.getElem?_eq_getElem hkD)
          rw [hp] at this
          exact ⟨_, List.getElem?_eq_getElem hkD, by rw [← Option.some.inj this]; exact hpu⟩
        · exact hn (zI9 inv.down k p hp (inv.down.down k p hp hl) i h)
    have hoo : o = o' := by rw [List.getElem?_toArray, ho] at ho'; exact Option.some.inj ho'
    subst hoo
    refine OpG.mono ?_ hG2
    rintro v w' ⟨hgr, hgw, hst', hv⟩
    refine ih _ _ w' ⟨⟨by rw [qR4]; exact inv.msro.1, by rw [qR5]; exact inv.msro.2⟩, inv.down.set ho hedge, fun j hj => ?_, F.tr inv.grow hgr, hst', fun j dj hdj hl => ?_, fun u hu' => ?_⟩ (by have := zN3 hi' hn; omega)
    · rw [zJ3 hi'] at hj
      rcases hj with rfl | hj
      · exact hih
      · exact inv.head j hj
    · rw [zJ3 hi'] at hl
      by_cases hji : j = i
      · subst hji
        rw [hd'] at hdj
        cases hdj
        refine ⟨v, hv, fun t ht => ?_⟩
        rw [hod] at ht
        rw [ht]; exact zQ3 _ _ _
      · have hlj := hl.resolve_left hji
        obtain ⟨vj, hvj, htj⟩ := inv.got j dj hdj hlj
        have hkeep : dj.s.holds w' vj := by
          have hsj := (hg j dj hdj).1
          exact Sp.keepQ hsj hgr hvj
        refine ⟨vj, hkeep, fun t ht => ?_⟩
        rw [← htj t ht]
        cases hdst' : o.dst with
        | none => rfl
        | some t' =>
          refine zS0 _ _ fun htt => ?_
          exact sh.uniq i j o dj.o ho (hDo j dj hdj) (Ne.symm hji) t' hdst' (by rw [ht, htt])
    · have hne : o.dst ≠ some u := hu' i o ho ((zJ3 hi').2 (.inl rfl))
      have : E.put o.dst v u = E u := by
        cases hdst' : o.dst with
        | none => rfl
        | some t' => exact zS0 _ _ fun htt => hne (by rw [hdst', htt])
      rw [this]
      exact inv.off u fun k p hp hl => hu' k p hp ((zJ3 hi').2 (.inr hl))
theorem jG6 {id : Nat} {e : Env} {w : World} {l : List Oper} (m : Nat) (an : List (List Nat)) (ms : List Nat) (F : KpQ) (S : Nat → World → Prop) (hm : P.follows .mixedOrders = true) (hsh : zY8 (l.take m) (l.drop m) = true)
    (han : ancB l (l.take m).length = an) (hdst : qO2 N l = true) (hmo : (qL4 (ancL l []) [] ms && ms.all fun p => Nat.blt p (l.take m).length) = true) (hS : ∀ k w w', F.g w w' → S k w → S k w') (h0 : ∀ w0, F.g w w0 → S 0 w0)
    (h : ∀ w0, F.g w w0 → AOQ P l.toArray F S ms w0 e (fun D => ∀ w', F.r w0 w' → S ms.length w' → Fin (fun e w => WL P l.toArray Q (l.drop m) e w) D e w') (l.take m) an []) :
    W P N (.region id l.toArray true) Q e w := by
  have hl := List.take_append_drop m l
  generalize hhd : l.take m = hd at *
  generalize htl : l.drop m = tl at *
  subst hl
  have h := h { w with drawn := w.drawn + 1 } (F.gdrew w)
  have h0 := h0 { w with drawn := w.drawn + 1 } (F.gdrew w)
  simp only [Bool.and_eq_true, List.all_eq_true] at hmo
  have hml : ∀ (j p : Nat), ms[j]? = some p → p < hd.length := fun j p hj => by
    have := hmo.2 p (List.mem_of_getElem? hj)
    simpa [Nat.blt_eq] using this
  intro b a k cs hs he
  subst he
  have sh := qH1 hsh
  obtain ⟨D, hK, hG, hDo, hDa⟩ := yT2 _ _ _ (by rw [← han]; simp [ancB, zK5]) h (fun i d hd' => by simp at hd')
  have hDo' : D.map Dn.o = hd := by simpa using hDo
  have hDa' : D.map Dn.anc = ancB (hd ++ tl) hd.length := by rw [hDa, han]; simp
  have hno : ∀ i, ¬ Ls (Array.replicate (hd ++ tl).toArray.size false) i := fun i => by simp [Ls, Array.getD_eq_getD_getElem?, Array.getElem?_replicate]; split <;> simp
  have hany : AnyE P (hd ++ tl).toArray Q (hd ++ tl).toArray.size (Array.replicate (hd ++ tl).toArray.size false) (env b.roundOf a) { w with drawn := w.drawn + 1 } := by
    refine jE1 sh hDo' hDa' hG hS hmo.1 hml hK _ _ _ _ ⟨⟨rfl, rfl⟩, ⟨by simp, fun i o ho hl => absurd hl (hno i)⟩, fun i hl => absurd hl (hno i), F.refl _, ⟨0, Nat.zero_le _, h0, fun j p hj => ⟨fun hl => absurd hl (hno p), fun h => by omega⟩⟩, fun i d hd' hl => absurd hl (hno i), fun u _ => rfl⟩ ?_
    unfold Go.Proofs.YtkkbbhpbcfcplaaGreat.K.left
    have := List.countP_le_length (p := (!·)) (l := (Array.replicate (hd ++ tl).toArray.size false).toList)
    simpa using this
  have hs2 := zW7 _ ((w.tape w.drawn (.order b.fn id))) _ _ _ hany
  obtain ⟨x, a', w', h1, h2, h3⟩ := zP5 hdst (k := k) (cs := cs) _ a _ hs hs2
  refine ⟨x, a', w', h1, h2, .of (.one stepR_region_draw) ?_⟩
  simp only [Region.schedule, hm, Bool.true_or, if_true]
  exact h3
end main
def Exa (w w' : World) : Prop := ∃ q os, w' = Sort.grow (w.drewN q) os
theorem Exa.refl (w : World) : Exa w w := ⟨0, #[], by simp [Sort.grow, World.drewN]⟩
theorem Exa.tr {a b c : World} (h : Exa a b) (k : Exa b c) : Exa a c := by
  obtain ⟨q, os, rfl⟩ := h
  obtain ⟨p, ps, rfl⟩ := k
  exact ⟨q + p, os ++ ps, by simp [Sort.grow, World.drewN, Array.append_assoc, Nat.add_assoc]⟩
theorem Exa.drew (w : World) : Exa w { w with drawn := w.drawn + 1 } := ⟨1, #[], by rw [Sort.grow_empty]; rfl⟩
theorem Exa.alloc (w : World) (o : Obj) : Exa w (w.alloc o) := ⟨0, #[o], by
  show w.alloc o = { w with heap := w.heap ++ #[o] }
  rw [show w.heap ++ #[o] = w.heap.push o from by simp]
  rfl⟩
theorem Exa.grow {w w' : World} (h : Exa w w') : Grow w w' := by
  obtain ⟨q, os, rfl⟩ := h
  refine ⟨rfl, rfl, rfl, by simp [Sort.grow, World.drewN], fun k hk => ?_⟩
  simp only [Sort.grow, World.drewN]
  rw [Array.getElem?_append_left hk]
abbrev exQ : KpQ := ⟨Exa, Exa, Exa.drew, Exa.refl, Exa.tr, id⟩
section
variable {P : Program} {e : Env} {w : World} {K : Value → World → Prop} {d : Option Nat} {ty : TypeId} {pos : String} {af : Array Edge} {g : Option (Nat × Bool)} {t : TypeId} {x y : Operand}
theorem jA7 {cs : Array Value} (hx : ev e x = .agg cs)
    (h : ∀ (b : Nat) (w' : World), w.heap.size ≤ b → w'.heap[b]? = some (.cells cs t (0, 0)) → Exa w w' → K (.pointer (some ⟨b, 0, none⟩)) w') : Run1 P ⟨d, .box t x, ty, pos, af, g⟩ e w K := by
  refine zE3 (v := .pointer (some ⟨w.heap.size, 0, none⟩)) (w' := w.alloc (.cells cs t (0, 0))) ?_ (h _ _ (Nat.le_refl _) (heap_alloc_new w _) (Exa.alloc w _))
  simp [execOp, Instr.box, newVar, newRow, newObj, Sem.run, hx, Value.cells]
theorem qQ7 {parts : Array (Nat × Operand)} {n : Nat} {cs : Array Value} {el : TypeId}
    (hv : ∀ w : World, (Instr.buildSlice t n (parts.map fun (i, x) => (i, ev e x))).run P w = .ok (.slice (some ⟨w.heap.size, 0, none⟩) n n) (w.alloc (.cells cs el (0, 0))))
    (h : ∀ (b : Nat) (w' : World), w.heap.size ≤ b → w'.heap[b]? = some (.cells cs el (0, 0)) → Exa w w' → K (.slice (some ⟨b, 0, none⟩) n n) w') : Run1 P ⟨d, .buildSlice t n parts, ty, pos, af, g⟩ e w K :=
  zE3 (v := .slice (some ⟨w.heap.size, 0, none⟩) n n) (w' := w.alloc (.cells cs el (0, 0))) (by simp only [execOp, Sem.run_bind]; rw [hv w]; rfl) (h _ _ (Nat.le_refl _) (heap_alloc_new w _) (Exa.alloc w _))
theorem jE2 {xs_ : Array Operand} {at_ : Array TypeId} (hxs : xs_ = #[x]) (hat : at_ = #[t]) {el T : TypeId} {sz by_ : Nat} {z : Value} [hz : ElzI P t el sz by_ z] {ad : Option Addr} {b o n c : Nat} {cs : Array Value}
    (hx : ev e x = .slice ad n c) (had : n ≠ 0 → ad = some ⟨b, o, none⟩) (hb : w.heap[b]? = some (.cells cs T (0, 0))) (hf : o + n * sz ≤ cs.size) (hzs : z.cells.size = sz) (h1 : ∀ q ∈ z.cells.toList, q.oneCell' = true)
    (h : ∀ (w' : World) (cs' : Array Value), w'.heap[b]? = some (.cells cs' T (0, 0)) → cs'.size = cs.size → cs'.toList.take o = cs.toList.take o → Upd b w w' → K (.tuple #[]) w') : Run1 P ⟨d, .call ⟨.builtin .clear, xs_, at_⟩, ty, pos, af, g⟩ e w K := by
  subst hxs hat
  obtain ⟨h1t, i, h2, hzz, h3, h4, h5, h6⟩ := qM3 hz.h
  by_cases hn : n = 0
  · subst hn
    refine zE3 (v := .tuple #[]) (w' := w) ?_ (h w cs hb rfl rfl ⟨rfl, rfl, rfl, rfl, fun _ _ => rfl⟩)
    simp only [execOp, resolve, invoke, Sem.run_bind, Sem.run_pure, Result.andThen_ok]
    cases ad <;> simp [builtin, Builtin.clear_, hx, run_underlying h1t]
  · have := had hn
    subst this
    have hzc : (Builtin.zeroCells z.cells n).size = n * sz := by simp [Builtin.zeroCells, hzs]
    have ho : ∀ q ∈ (Builtin.zeroCells z.cells n).toList, q.oneCell' = true := by
      intro q hq
      simp only [Builtin.zeroCells, Array.toList_map, List.mem_map, Array.mem_toList_iff, Array.mem_range] at hq
      obtain ⟨j, hj, rfl⟩ := hq
      refine h1 _ ?_
      have hpos : 0 < z.cells.size := by
        rcases Nat.eq_zero_or_pos z.cells.size with h0 | h0
        · rw [h0] at hj; omega
        · exact h0
      have hlt := Nat.mod_lt j hpos
      rw [getElem!_pos z.cells _ hlt]
      exact Array.getElem_mem_toList hlt
    have hst := run_storeCells_at P b o T (Builtin.zeroCells z.cells n).toList 0 cs w hb (by rw [Array.length_toList, hzc]; omega) ho
    simp only [Nat.add_zero, Array.length_toList] at hst
    refine zE3 (v := .tuple #[]) (w' := w.setRow b (cs.toList.take o ++ (Builtin.zeroCells z.cells n).toList ++ cs.toList.drop (o + (Builtin.zeroCells z.cells n).size)).toArray) ?_ (h _ _ (setRow_heap w b cs _ T (0, 0) hb) ?_ ?_ ⟨rfl, rfl, rfl, by simp, fun k hk => ?_⟩)
    · obtain ⟨m, rfl⟩ : ∃ m, n = m + 1 := ⟨n - 1, by omega⟩
      simp only [execOp, resolve, invoke, Sem.run_bind, Sem.run_pure, Result.andThen_ok]
      simp [builtin, Builtin.clear_, hx, run_underlying h1t, zeroValue, typeInfo, program, Sem.run, h2, hzz, hst]
    · simp only [List.size_toArray, List.length_append, List.length_take, Array.length_toList, List.length_drop, hzc]; omega
    · simp only [List.append_assoc]
      rw [List.take_append_of_le_length (by simp; omega), List.take_take, Nat.min_self]
    · simp only [World.setRow, Array.getElem?_modify]
      rw [if_neg (fun h => hk h.symm)]
end
def cmpI (a b : Int) : Int := if a < b then -1 else if a > b then 1 else 0
def orS : List Int → Int
  | [] => 0
  | x :: r => if x ≠ 0 then x else orS r
def cfS (x y : Spn) : Int := orS [cmpI x.1 y.1, cmpI x.2 y.2]
theorem jG7 (x y : Spn) : cfS x y < 0 ↔ x.1 < y.1 ∨ (x.1 = y.1 ∧ x.2 < y.2) := by
  unfold cfS orS orS orS cmpI
  by_cases h1 : x.1 < y.1
  · simp [h1]
  · by_cases h2 : x.1 > y.1
    · simp [h1, h2]; omega
    · by_cases h3 : x.2 < y.2
      · simp [h1, h2, h3]; omega
      · by_cases h4 : x.2 > y.2
        · simp [h1, h2, h3, h4]
        · simp [h1, h2, h3, h4]
theorem ltS (x y : Spn) : ltOf cfS x y = decide (x.1 < y.1 ∨ (x.1 = y.1 ∧ x.2 < y.2)) := by
  unfold ltOf
  exact decide_eq_decide.2 (jG7 x y)
theorem swoS : Sort.SWO (ltOf cfS) where
  irrefl x := by rw [ltS]; simp
  trans x y z h1 h2 := by rw [ltS] at *; simp only [decide_eq_true_eq] at *; omega
  ntrans x y z h1 h2 := by rw [ltS] at *; simp only [decide_eq_false_iff_not] at *; omega
theorem jE3 {d d' : Array Spn} (h : Sort.PermIn 0 d.size d d') : d'.toList.Perm d.toList := by
  have h2 := h.2.2
  rw [show d'.extract 0 d.size = d' from by rw [← h.1]; simp, show d.extract 0 d.size = d from by simp] at h2
  exact h2
theorem jE4 {d d' : Array Spn} (hs : d'.size = d.size) (h : Sort.SortedIn (ltOf cfS) 0 d.size d') : d'.toList.Pairwise (fun a b => a.1 ≤ b.1) := by
  rw [List.pairwise_iff_getElem]
  intro i j hi hj hij
  simp only [Array.length_toList] at hi hj
  have := h i j (Nat.zero_le _) hij (by omega)
  rw [getElem!_pos d' j hj, getElem!_pos d' i hi, ltS] at this
  simp only [decide_eq_false_iff_not] at this
  simp only [Array.getElem_toList]
  omega
theorem yG3 (d : Array Spn) : (Sort.flatK encS 2 d).toList = encL d.toList := by
  refine List.ext_getElem? fun t => ?_
  rcases Nat.lt_or_ge t (d.size * 2) with ht | ht
  · have h1 := Sort.get_flatK encS 2 d t ht
    have hs : t < (Sort.flatK encS 2 d).size := by simpa using ht
    have hi : t / 2 < d.size := by omega
    have hc : t % 2 < 2 := by omega
    rw [Array.getElem?_toList, Array.getElem?_eq_getElem hs, ← getElem!_pos _ t hs, h1, getElem!_pos d _ hi]
    have h2 := yF8 (L := d.toList) (i := t / 2) (c := t % 2) (by simpa using hi) hc
    rw [show t / 2 * 2 + t % 2 = t from by omega] at h2
    rw [h2, Array.getElem_toList]
    have h3 : t % 2 < (encS d[t / 2]).length := hc
    rw [List.getElem?_eq_getElem h3, getElem!_pos (encS d[t / 2]) _ h3]
  · rw [List.getElem?_eq_none (by simpa using ht), List.getElem?_eq_none (by rw [zK3]; simpa using ht)]
theorem yK4 {w : World} {b : Nat} {T : TypeId} {cur : Array Value} {d : Array Spn} (hb : w.heap[b]? = some (.cells cur T (0, 0))) (h : cur.toList.take (d.size * 2) = encL d.toList) : Sort.HoldsK encS 2 w b 0 d := by
  intro j hj
  have hj' : j < d.size * 2 := by simpa using hj
  constructor
  · rw [Nat.zero_add, zV2 hb, getElem!_pos _ j hj]
    have h2 : (cur.toList.take (d.size * 2))[j]? = (encL d.toList)[j]? := by rw [h]
    rw [List.getElem?_take, if_pos hj', Array.getElem?_toList] at h2
    rw [h2, ← yG3, Array.getElem?_toList, Array.getElem?_eq_getElem hj]; rfl
  · simp [World.frozen?, hb]
theorem yK5 {w : World} {b n : Nat} {T : TypeId} {cur : Array Value} {d : Array Spn} {os : Array Obj} (hb : w.heap[b]? = some (.cells cur T (0, 0))) (hf : d.size * 2 ≤ cur.size) :
    ∃ cur' : Array Value, (sortWorldK encS 2 w b 0 n d os).heap[b]? = some (.cells cur' T (0, 0)) ∧ cur'.size = cur.size ∧ cur'.toList.take (d.size * 2) = encL d.toList ∧ Kp [b] w (sortWorldK encS 2 w b 0 n d os) := by
  have hlt := zB3 hb
  have hheap : ∀ k, k < w.heap.size → (sortWorldK encS 2 w b 0 n d os).heap[k]? = (w.heap.modify b (Sort.onCells (Sort.putCells id 0 (Sort.flatK encS 2 d))))[k]? := by
    intro k hk
    show ((w.heap.modify b (Sort.onCells (Sort.putCells id 0 (Sort.flatK encS 2 d)))) ++ os)[k]? = _
    rw [Array.getElem?_append_left (by simpa using hk)]
  refine ⟨Sort.putCells id 0 (Sort.flatK encS 2 d) cur, ?_, ?_, ?_, ⟨rfl, rfl, rfl, ?_, ?_⟩⟩
  · rw [hheap b hlt, Array.getElem?_modify, if_pos rfl, hb]; rfl
  · simp [Sort.putCells]
  · rw [← yG3]
    refine List.ext_getElem? fun t => ?_
    rw [List.getElem?_take]
    split
    · rename_i ht
      have hs : t < (Sort.flatK encS 2 d).size := by simpa using ht
      have hc : t < cur.size := by omega
      rw [Array.getElem?_toList, Array.getElem?_toList, Array.getElem?_eq_getElem hs]
      simp only [Sort.putCells, Array.getElem?_mapIdx, Array.getElem?_eq_getElem hc, Option.map_some]
      rw [if_pos ⟨Nat.zero_le _, by omega⟩, Nat.sub_zero, getElem!_pos _ t hs]; rfl
    · rename_i ht
      rw [List.getElem?_eq_none (by simp; omega)]
  · show w.heap.size ≤ ((w.heap.modify b (Sort.onCells (Sort.putCells id 0 (Sort.flatK encS 2 d)))) ++ os).size
    simp
  · intro k hk hne
    rw [hheap k hk, Array.getElem?_modify, if_neg (fun h => hne (by simp [h]))]
theorem qK5 {cs vs : Array Value} {o : Nat} (h : o + vs.size ≤ cs.size) : (zU7 cs o vs).toList.take (o + vs.size) = cs.toList.take o ++ vs.toList := by
  unfold zU7
  simp only []
  rw [List.take_append_of_le_length (by simp; omega), List.take_of_length_le (by simp; omega)]
theorem yC2 {cs vs : Array Value} {o m : Nat} (h : o + vs.size ≤ cs.size) (hm : o + vs.size ≤ m) : (zU7 cs o vs).toList.drop m = cs.toList.drop m := by
  unfold zU7
  simp only [List.drop_append, List.length_append, List.length_take, Array.length_toList, Nat.min_eq_left (show o ≤ cs.size by omega)]
  rw [List.drop_eq_nil_of_le (by simp; omega), List.drop_eq_nil_of_le (by simp; omega), List.nil_append, List.nil_append, List.drop_drop]
  congr 1; omega
abbrev keepS (s : Spn) : Bool := !zU3 s
structure DelSt (L : List Spn) (cap j : Nat) (K : List Spn) (cur : Array Value) : Prop where
  hj : j ≤ L.length
  hK : K = (L.take j).filter keepS
  lt : K.length < j
  sz : cur.size = cap * 2
  cap : L.length ≤ cap
  hd : cur.toList.take (K.length * 2) = encL K
  tl : (cur.toList.drop (j * 2)).take ((L.length - j) * 2) = encL (L.drop j)
theorem DelSt.load {L K : List Spn} {cap j : Nat} {cur : Array Value} (h : DelSt L cap j K cur) (hj : j < L.length) : ((cur.toList.take (L.length * 2)).drop (j * 2)).take 2 = [.int .i64 (gS L j).1, .int .i64 (gS L j).2] := by
  have h1 : ((cur.toList.drop (j * 2)).take ((L.length - j) * 2)).take 2 = (encL (L.drop j)).take 2 := by rw [h.tl]
  rw [List.take_take, Nat.min_eq_left (by omega), List.drop_eq_getElem_cons hj] at h1
  rw [List.drop_take, List.take_take, Nat.min_eq_left (by omega), h1, qG3 hj]
  rfl
theorem DelSt.tail {L K : List Spn} {cap j : Nat} {cur : Array Value} (h : DelSt L cap j K cur) (hj : j < L.length) : (cur.toList.drop ((j + 1) * 2)).take ((L.length - (j + 1)) * 2) = encL (L.drop (j + 1)) := by
  have h1 : ((cur.toList.drop (j * 2)).take ((L.length - j) * 2)).drop 2 = (encL (L.drop j)).drop 2 := by rw [h.tl]
  rw [List.drop_eq_getElem_cons hj, List.drop_take, List.drop_drop] at h1
  rw [show (j + 1) * 2 = j * 2 + 2 from by omega, show (L.length - (j + 1)) * 2 = (L.length - j) * 2 - 2 from by omega, h1]
  rfl
theorem qA4 {L : List Spn} {j : Nat} (hj : j < L.length) : (L.take (j + 1)).filter keepS = (L.take j).filter keepS ++ (if keepS (gS L j) then [gS L j] else []) := by
  rw [List.take_succ_eq_append_getElem hj, List.filter_append, qG3 hj]
  simp [List.filter_cons]
theorem DelSt.skip {L K : List Spn} {cap j : Nat} {cur : Array Value} (h : DelSt L cap j K cur) (hj : j < L.length) (hn : zU3 (gS L j) = true) : DelSt L cap (j + 1) K cur :=
  ⟨hj, by rw [qA4 hj, keepS, hn, h.hK]; simp, by have := h.lt; omega, h.sz, h.cap, h.hd, h.tail hj⟩
theorem DelSt.put {L K : List Spn} {cap j : Nat} {cur : Array Value} (h : DelSt L cap j K cur) (hj : j < L.length) (hn : zU3 (gS L j) = false) : DelSt L cap (j + 1) (K ++ [gS L j]) (zU7 cur (0 + K.length * 2) #[.int .i64 (gS L j).1, .int .i64 (gS L j).2]) := by
  have h1 := h.lt; have h2 := h.sz; have h3 := h.cap
  have hs : 0 + K.length * 2 + (#[Value.int .i64 (gS L j).1, .int .i64 (gS L j).2] : Array Value).size ≤ cur.size := by simp only [List.size_toArray, List.length_cons, List.length_nil]; omega
  refine ⟨hj, by rw [qA4 hj, keepS, hn, h.hK]; simp, by simp; omega, by rw [qI2 hs]; exact h.sz, h.cap, ?_, ?_⟩
  · have h4 := qK5 hs
    simp only [List.size_toArray, List.length_cons, List.length_nil] at h4
    rw [List.length_append, List.length_singleton, show (K.length + 1) * 2 = 0 + K.length * 2 + (0 + 1 + 1) from by omega, h4, Nat.zero_add, h.hd, zK7]
    simp [encL, encS]
  · rw [yC2 hs (by simp only [List.size_toArray, List.length_cons, List.length_nil]; omega)]
    exact h.tail hj
theorem DelSt.start {L : List Spn} {cap i : Nat} {cur : Array Value} (hs : cur.size = cap * 2) (hc : L.length ≤ cap) (hx : cur.toList.take (L.length * 2) = encL L) (hi : i < L.length) (hn : zU3 (gS L i) = true) (hno : ∀ j, j < i → zU3 (gS L j) = false) : DelSt L cap (i + 1) (L.take i) cur := by
  have hf : (L.take i).filter keepS = L.take i := by
    refine List.filter_eq_self.2 fun s hs => ?_
    obtain ⟨j, hj, rfl⟩ := List.getElem_of_mem hs
    simp only [List.length_take] at hj
    have := hno j (by omega)
    rw [qG3 (show j < L.length by omega)] at this
    simp [keepS, this]
  refine ⟨hi, by rw [qA4 hi, keepS, hn, hf]; simp, by simp; omega, hs, hc, ?_, ?_⟩
  · have : (cur.toList.take (L.length * 2)).take ((L.take i).length * 2) = (encL L).take ((L.take i).length * 2) := by rw [hx]
    rw [List.take_take, Nat.min_eq_left (by simp; omega)] at this
    rw [this]
    conv => lhs; rw [← List.take_append_drop i L, zK7, List.take_append_of_le_length (by rw [zK3, List.take_append_drop]; omega)]
    rw [List.take_of_length_le (by rw [zK3, List.take_append_drop]; omega)]
  · have : (cur.toList.take (L.length * 2)).drop ((i + 1) * 2) = (encL L).drop ((i + 1) * 2) := by rw [hx]
    rw [List.drop_take] at this
    rw [show (L.length - (i + 1)) * 2 = L.length * 2 - (i + 1) * 2 from by omega, this]
    conv => lhs; rw [← List.take_append_drop (i + 1) L, zK7, List.drop_append, List.drop_eq_nil_of_le (by rw [zK3]; simp; omega), zK3]
    rw [List.length_take, Nat.min_eq_left (by omega), Nat.sub_self]; rfl
theorem DelSt.row {w : World} {g : Nat} {T : TypeId} {L K : List Spn} {cap j : Nat} {cur : Array Value} (h : DelSt L cap j K cur) (hb : w.heap[g]? = some (.cells cur T (0, 0))) (hl : L.length ≤ 140737488355328) : RowAt w 2 (some ⟨g, 0, none⟩) L.length (cur.toList.take (L.length * 2)) := by
  have h1 := h.sz; have h2 := h.cap
  exact ⟨by simp; omega, hl, fun _ => ⟨g, 0, cur, T, (0, 0), rfl, hb, by simp⟩⟩
theorem yY9 (p : Nat → Bool) (n : Nat) : (zS3 p n 0 = -1 ∧ ∀ j, j < n → p j = false) ∨ ∃ i : Nat, i < n ∧ zS3 p n 0 = i ∧ p i = true ∧ ∀ j, j < i → p j = false := by
  have key : ∀ (m i : Nat), (zS3 p m i = -1 ∧ ∀ j, i ≤ j → j < i + m → p j = false) ∨ ∃ k : Nat, i ≤ k ∧ k < i + m ∧ zS3 p m i = k ∧ p k = true ∧ ∀ j, i ≤ j → j < k → p j = false := by
    intro m
    induction m with
    | zero => intro i; exact .inl ⟨rfl, fun j _ _ => by omega⟩
    | succ m ih =>
      intro i
      cases hp : p i with
      | true => exact .inr ⟨i, Nat.le_refl _, by omega, by simp [zS3, hp], hp, fun j _ _ => by omega⟩
      | false =>
        rcases ih (i + 1) with ⟨h1, h2⟩ | ⟨k, h1, h2, h3, h4, h5⟩
        · refine .inl ⟨by simp [zS3, hp, h1], fun j h3 h4 => ?_⟩
          rcases Nat.eq_or_lt_of_le h3 with rfl | h3
          · exact hp
          · exact h2 j h3 (by omega)
        · refine .inr ⟨k, by omega, by omega, by simp [zS3, hp, h3], h4, fun j h6 h7 => ?_⟩
          rcases Nat.eq_or_lt_of_le h6 with rfl | h6
          · exact hp
          · exact h5 j h6 h7
  rcases key n 0 with ⟨h1, h2⟩ | ⟨k, -, h2, h3, h4, h5⟩
  · exact .inl ⟨h1, fun j hj => h2 j (Nat.zero_le _) (by omega)⟩
  · exact .inr ⟨k, by omega, h3, h4, fun j hj => h5 j (Nat.zero_le _) hj⟩
/-! ### the row that Norm makes: its last span stands at its list's head -/
abbrev hdS (O : List Spn) : Spn := O.headD (0, 0)
theorem yG4 {O : List Spn} (h : 0 < O.length) (c : Nat) (hc : c < 2) : (encL O.reverse)[((O.length : Int) - 1).toNat * 2 + c]? = (encS (hdS O))[c]? := by
  cases O with
  | nil => simp at h
  | cons s r =>
    have := yF8 (L := (s :: r).reverse) (i := r.length) (c := c) (by simp) hc
    rw [show (((s :: r).length : Int) - 1).toNat = r.length from by simp, this]
    congr 2
    simp
theorem yT3 {O : List Spn} {s : Spn} (h : ¬ (0 < O.length ∧ s.1 ≤ (hdS O).2)) : zO5 O s = s :: O := by
  cases O with
  | nil => rfl
  | cons t r => exact if_neg (fun h2 => h ⟨by simp, h2⟩)
theorem yG5 {O : List Spn} {s : Spn} (h : 0 < O.length) (h2 : s.1 ≤ (hdS O).2) : zO5 O s = ((hdS O).1, max (hdS O).2 s.2) :: O.tail := by
  cases O with
  | nil => simp at h
  | cons t r => exact if_pos h2
theorem yZ0 {O : List Spn} {s : Spn} : (zO5 O s).length ≤ O.length + 1 := by
  cases O with
  | nil => simp [zO5]
  | cons t r => show (if s.1 ≤ t.2 then _ else _ : List Spn).length ≤ _; split <;> simp
theorem yZ1 {w w' : World} {base g c : Nat} {T : TypeId} {O : List Spn} {x : Int} {cur : Array Value} (h : w.ownsRow base T 2 (.slice (some ⟨g, 0, none⟩) O.length c) O.length (encL O.reverse)) (hn : 0 < O.length) (hb : w.heap[g]? = some (.cells cur T (0, 0)))
    (hb' : w'.heap[g]? = some (.cells (zU7 cur (0 + ((O.length : Int) - 1).toNat * 2 + 1) #[.int .i64 x]) T (0, 0))) : w'.ownsRow base T 2 (.slice (some ⟨g, 0, none⟩) O.length c) O.length (encL (((hdS O).1, x) :: O.tail).reverse) := by
  cases O with
  | nil => simp at hn
  | cons t r =>
    rcases h.2 with ⟨h0, _⟩ | ⟨q, cap, cur0, hv, hq, hg, h3, h4, h5, h6⟩
    · cases h0
    · simp only [Value.slice.injEq, Option.some.injEq, Addr.mk.injEq, and_true, true_and] at hv
      obtain ⟨rfl, rfl⟩ := hv
      rw [hb] at hg
      simp only [Option.some.injEq, Obj.cells.injEq, and_true] at hg
      subst hg
      have ho : 0 + (((t :: r).length : Int) - 1).toNat * 2 + 1 = r.length * 2 + 1 := by simp
      rw [ho] at hb'
      simp only [List.length_cons] at h3 h6
      have hs : r.length * 2 + 1 + (#[Value.int .i64 x] : Array Value).size ≤ cur.size := by simp only [List.size_toArray, List.length_cons, List.length_nil]; omega
      refine ⟨by rw [zK3]; simp, .inr ⟨g, c, _, rfl, hq, hb', h3, h4, by rw [qI2 hs]; exact h5, ?_⟩⟩
      have h7 := qK5 hs
      simp only [List.size_toArray, List.length_cons, List.length_nil] at h7
      rw [List.length_cons, show (r.length + 1) * 2 = r.length * 2 + 1 + (0 + 1) from by omega, h7]
      have h8 : (cur.toList.take ((r.length + 1) * 2)).take (r.length * 2 + 1) = (encL (t :: r).reverse).take (r.length * 2 + 1) := by rw [h6]
      rw [List.take_take, Nat.min_eq_left (by omega)] at h8
      rw [h8, List.reverse_cons, zK7, List.reverse_cons, zK7, List.take_append, zK3, List.take_of_length_le (by rw [zK3]; simp)]
      simp [encL, encS]
theorem yZ2 {w : World} {base : Nat} {T : TypeId} {v : Value} {O : List Spn} {s : Spn} (h : w.ownsRow base T 2 v (O.length + 1) (encL O.reverse ++ [.int .i64 s.1, .int .i64 s.2])) : w.ownsRow base T 2 v (s :: O).length (encL (s :: O).reverse) := by
  rw [List.reverse_cons, zK7]
  exact h
theorem qF1 {M : List Spn} {k : Nat} (h : k < M.length) : (M.take (k + 1)).foldl zO5 [] = zO5 ((M.take k).foldl zO5 []) (gS M k) := by
  rw [List.take_succ_eq_append_getElem h, List.foldl_append, qG3 h]; rfl
abbrev normO (M : List Spn) (k : Nat) : List Spn := (M.take k).foldl zO5 []
theorem qK6 : ∀ (M O : List Spn), (M.foldl zO5 O).length ≤ O.length + M.length
  | [], O => by simp
  | s :: M, O => by
    have h1 := qK6 M (zO5 O s)
    have h2 := yZ0 (O := O) (s := s)
    simp only [List.foldl_cons, List.length_cons]
    omega
end Go.Proofs.YtkkbbhpbcfcplaaGreat.K
namespace Go.Proofs.YtkkbbhpbcfcplaaGreat.K
open Go Go.RowKit Go.Proofs
attribute [local irreducible] Run1 OpG WL W AO zB8
theorem qN9 (w : World) (a b : Int) : zB8 Tryz.prog 59 #[.agg #[.int .i64 a, .int .i64 b]] w (.bool (zU3 (a, b))) := by
 have G := Grow.rfl' w
 refine zA9 Tryz.func59 Tryz.ntmps59 Tryz.results59 rfl rfl ?_
 refine qZ 2 ?_
 refine stp ?_
 refine qC ?_
 intro b1 w2 hb3 hc4 g5
 have hge6 := Nat.le_trans G.size hb3
 replace G := G.tr g5
 clear g5 hb3
 refine qZ 8 ?_
 refine stp (zU8 rfl rfl ?_)
 refine qZ 3 ?_
 refine ret1 (zA1 (v := .bool (decide (b ≤ a))) rfl) ⟨?_, G⟩
 rfl
theorem qK7 (w : World) (a : Int) : Calls Tryz.prog 97 #[.int .i64 a] w (Ret fun v w' => v = .bool false ∧ w' = w) := by
 refine zC2 Tryz.func97 Tryz.ntmps97 Tryz.results97 rfl rfl ?_
 refine qZ 8 ?_
 refine stp (yM7 rfl rfl (by simp) ?_)
 refine qZ 3 ?_
 refine ret1 (zA1 (v := .bool false) rfl) ⟨rfl, rfl⟩
theorem qD5 (w : World) (a b : Int) : Calls Tryz.prog 63 #[.int .i64 a, .int .i64 b] w (Ret fun v w' => v = .int .i64 (cmpI a b) ∧ w' = w) := by
 refine zC2 Tryz.func63 Tryz.ntmps63 Tryz.results63 rfl rfl ?_
 refine qZ 7 ?_
 refine stp ?_
 refine zD6 rfl (qK7 _ _) ?_
 rintro _ _ ⟨rfl, rfl⟩
 refine qZ 5 ?_
 refine stp ?_
 refine zD6 rfl (qK7 _ _) ?_
 rintro _ _ ⟨rfl, rfl⟩
 refine qZ 7 ?_
 refine zM3 rfl ?_
 refine qZ 6 ?_
 refine zM3 rfl ?_
 refine qZ 6 ?_
 refine stp (zF1 rfl rfl ?_)
 refine zA6 ?_
 refine zA2 (b := (decide (a < b))) rfl (fun h1 => ?_) (fun h1 => ?_)
 ·
  replace h1 := qT h1
  refine qZ 5 ?_
  refine ret1 (zA1 (v := .int .i64 (-1)) rfl) ⟨?_, rfl⟩
  unfold cmpI; (try simp only [gt_iff_lt] at *); simp [*]
 ·
  replace h1 := qF h1
  refine qZ 6 ?_
  refine stp (zM7 rfl rfl ?_)
  refine zA6 ?_
  refine zA2 (b := (decide (a > b))) rfl (fun h2 => ?_) (fun h2 => ?_)
  ·
   replace h2 := qT h2
   refine qZ 5 ?_
   refine ret1 (zA1 (v := .int .i64 1) rfl) ⟨?_, rfl⟩
   unfold cmpI; (try simp only [gt_iff_lt] at *); simp [*]
  ·
   replace h2 := qF h2
   refine qZ 6 ?_
   refine ret1 (zA1 (v := .int .i64 0) rfl) ⟨?_, rfl⟩
   unfold cmpI; (try simp only [gt_iff_lt] at *); simp [*]
theorem yZ3 (w : World) {ad : Option Addr} {n c : Nat} {xs : List Int} (R : RowAt w 1 ad n (xs.map (.int .i64))) : Calls Tryz.prog 62 #[.slice ad n c] w (Ret fun v w' => v = .int .i64 (orS xs) ∧ w' = w) := by
 have ln := R.len
 have lm := R.lim
 simp only [List.length_map, Nat.mul_one] at ln
 refine zC2 Tryz.func62 Tryz.ntmps62 Tryz.results62 rfl rfl ?_
 refine qZ 16 ?_
 have hw : w = w := rfl
 refine zF2 (fun m_ e_ w_ => ∃ (k : Nat), m_ = n - k ∧ Fr [(3, .int .i64 0), (6, .slice ad n c), (7, .int .i64 (n : Int)), (8, .int .i64 (k : Int))] e_ ∧ (k ≤ n) ∧ (orS xs = orS (xs.drop k)) ∧ (RowAt w_ 1 ad n (xs.map (.int .i64))) ∧ (w_ = w)) _ ⟨0, rfl, zC3 ⟨rfl, rfl, rfl, rfl, trivial⟩, by omega, by simp, R, hw⟩ ?_
 clear R hw
 rintro m_ e_ w1 ⟨k, rfl, ⟨e2, rfl⟩, hk, hor, R, hw⟩
 refine qZ 2 ?_
 refine stp (zF1 rfl rfl ?_)
 refine qZ 2 ?_
 refine zA2 (b := (decide ((k : Int) < (n : Int)))) rfl (fun hlt => ?_) (fun hlt => ?_)
 ·
  replace hlt := qT hlt
  refine qZ 5 ?_
  refine stp (zD5 R rfl rfl ?_ ?_); omega
  refine stp (zC6 (v := .int .i64 (xs.getD k 0)) (m := 0) R rfl (zE4 0 (by omega)) ?_)
  refine qZ 6 ?_
  refine stp (zG1 rfl rfl ?_)
  refine zA6 ?_
  refine zA2 (b := (decide ((xs.getD k 0) ≠ 0))) rfl (fun hx => ?_) (fun hx => ?_)
  ·
   replace hx := qT hx
   refine qZ 6 ?_
   refine ret1 (zA1 (v := .int .i64 (xs.getD k 0)) rfl) ⟨?_, hw⟩
   rw [hor, List.drop_eq_getElem_cons (show k < xs.length by omega), orS, if_pos (by rw [List.getD_eq_getElem?_getD, List.getElem?_eq_getElem (by omega)] at hx; exact hx)]
   simp [List.getD_eq_getElem?_getD, List.getElem?_eq_getElem (show k < xs.length by omega)]
  ·
   replace hx := qF hx
   refine qZ 2 ?_
   refine stp (zB5 rfl rfl ?_ ?_); constructor <;> omega
   refine qZ 2 ?_
   refine ⟨_, ?_, k + 1, rfl, zC3 ⟨rfl, rfl, rfl, rfl, trivial⟩, by omega, by rw [hor, List.drop_eq_getElem_cons (show k < xs.length by omega), orS, if_neg (by rw [List.getD_eq_getElem?_getD, List.getElem?_eq_getElem (by omega)] at hx; exact hx)], R, hw⟩
   omega
 ·
  replace hlt := qF hlt
  have hk2 : xs.drop k = [] := by rw [List.drop_eq_nil_iff]; omega
  refine qZ 7 ?_
  refine ret1 (zA1 (v := .int .i64 0) rfl) ⟨?_, hw⟩
  rw [hor, hk2]; rfl
theorem qW4 (w : World) {ad : Option Addr} {c n fid : Nat} {fst cap : Array Value} {kc : List Value} [FuncI Tryz.prog fid] (R : RowAt w 2 ad n kc) (p : Nat → Bool) (hf : ∀ i, i < n → ∀ w', Grow w w' → zB8 Tryz.prog fid (fst.toList ++ ([Value.agg ((kc.drop (i * 2)).take 2).toArray] ++ cap.toList)).toArray w' (.bool (p i))) : zB8 Tryz.prog 94 #[.slice ad n c, .func (.func fid) fst cap] w (.int .i64 (zS3 p n 0)) := by
 have ln := R.lim
 have G := Grow.rfl' w
 refine zA9 Tryz.func94 Tryz.ntmps94 Tryz.results94 rfl rfl ?_
 refine qZ 12 ?_
 refine zF2 (fun m_ e_ w_ => ∃ (k : Nat), m_ = n - k ∧ Fr [(0, .slice ad n c), (1, .func (.func fid) fst cap), (7, .int .i64 (n : Int)), (8, .int .i64 (k : Int))] e_ ∧ (k ≤ n) ∧ (∀ j, j < k → p j = false) ∧ Grow w w_) _ ⟨0, rfl, zC3 ⟨rfl, rfl, rfl, rfl, trivial⟩, by omega, fun j hj => by omega, G⟩ ?_
 clear G
 rintro m_ e_ w1 ⟨k, rfl, ⟨e2, rfl⟩, hk, hno, G⟩
 refine qZ 2 ?_
 refine stp (zF1 rfl rfl ?_)
 refine qZ 2 ?_
 refine zA2 (b := (decide ((k : Int) < (n : Int)))) rfl (fun hlt => ?_) (fun hlt => ?_)
 ·
  replace hlt := qT hlt
  refine qZ 13 ?_
  refine stp (zD5 (R.grow G) rfl rfl ?_ ?_); omega
  refine stp (zK0 (R.grow G) rfl (by decide) (by rw [R.len]; omega) rfl ?_)
  refine stp (zA4 (v := .bool (p k)) rfl (hf k (by omega) _ G) ?_)
  intro w3 g4
  replace G := G.tr g4
  clear g4
  refine zA6 ?_
  refine zA2 (b := (p k)) rfl (fun hpk => ?_) (fun hpk => ?_)
  ·
   refine qZ 6 ?_
   refine ret1 (zA1 (v := .int .i64 (k : Int)) rfl) ⟨?_, G⟩
   rw [qE2 n 0 k (by omega) (by omega) hpk (fun j _ hj => hno j hj)]
  ·
   refine qZ 2 ?_
   refine stp (zB5 rfl rfl ?_ ?_); constructor <;> omega
   refine qZ 2 ?_
   refine ⟨_, ?_, k + 1, rfl, zC3 ⟨rfl, rfl, rfl, rfl, trivial⟩, by omega, fun j hj => by rcases Nat.lt_succ_iff_lt_or_eq.1 hj with h | h; exact hno j h; subst h; exact hpk, G⟩
   omega
 ·
  replace hlt := qF hlt
  have hk2 : k = n := by omega
  subst hk2
  refine qZ 6 ?_
  refine ret1 (zA1 (v := .int .i64 (-1)) rfl) ⟨?_, G⟩
  rw [qE1 _ _ (fun j _ hj => hno j (by omega))]
theorem yC3 (w : World) (a b c d : Int) : Calls Tryz.prog 61 #[.agg #[.int .i64 a, .int .i64 b], .agg #[.int .i64 c, .int .i64 d]] w (Ret fun v w' => v = .int .i64 (cfS (a, b) (c, d)) ∧ Exa w w') := by
 refine zC2 Tryz.func61 Tryz.ntmps61 Tryz.results61 rfl rfl ?_
 have X := Exa.refl w
 refine qZ 2 ?_
 refine stp (jA7 rfl ?_)
 intro b1 wb1 hge1 hb1 gb1
 replace X := X.tr gb1
 refine stp (jA7 rfl ?_)
 intro b2 wb2 hge2 hb2 gb2
 replace X := X.tr gb2
 replace hb1 := gb2.grow.heap hb1
 refine qZ 3 ?_
 have kb_hb1 : ∀ w_, exQ.r wb2 w_ → w_.heap[b1]? = some (.cells #[.int .i64 a, .int .i64 b] 61 (0, 0)) := fun w_ k_ => (Exa.grow k_).heap hb1
 have kb_hb2 : ∀ w_, exQ.r wb2 w_ → w_.heap[b2]? = some (.cells #[.int .i64 c, .int .i64 d] 61 (0, 0)) := fun w_ k_ => (Exa.grow k_).heap hb2
 refine jG6 10 [[], [0], [], [0], [3, 2, 1, 0], [], [0], [], [0], [8, 7, 6, 5, 4, 3, 2, 1, 0]] [] exQ (fun k_ w_ => match k_ with | _ => True) mixed (by kernel_rfl) (by kernel_rfl) (by kernel_rfl) (by kernel_rfl) (fun _ _ _ _ _ => trivial) (fun _ _ => trivial) ?_
 intro w1 g2
 replace kb_hb1 : ∀ w_, exQ.r w1 w_ → w_.heap[b1]? = some (.cells #[.int .i64 a, .int .i64 b] 61 (0, 0)) := fun w_ k_ => kb_hb1 w_ (exQ.tr (exQ.grow g2) k_)
 replace kb_hb2 : ∀ w_, exQ.r w1 w_ → w_.heap[b2]? = some (.cells #[.int .i64 c, .int .i64 d] 61 (0, 0)) := fun w_ k_ => kb_hb2 w_ (exQ.tr (exQ.grow g2) k_)
 have k0_ : exQ.r wb2 w1 := (exQ.grow g2)
 apply zY5 (hm := by rfl)
 ·intro w_ g_; refine og rfl ?_; refine zD0 rfl ?_; exact ⟨Exa.refl _, rfl⟩
 apply zY5 (hm := by rfl)
 ·intro w_ g_; refine og rfl ?_; refine zG2 (v := .int .i64 a) rfl (kb_hb1 _ g_) rfl ?_; exact ⟨Exa.refl _, rfl⟩
 apply zY5 (hm := by rfl)
 ·intro w_ g_; refine og rfl ?_; refine zD0 rfl ?_; exact ⟨Exa.refl _, rfl⟩
 apply zY5 (hm := by rfl)
 ·intro w_ g_; refine og rfl ?_; refine zG2 (v := .int .i64 c) rfl (kb_hb2 _ g_) rfl ?_; exact ⟨Exa.refl _, rfl⟩
 apply zY5 (hm := by rfl)
 ·intro w_ g_; refine og rfl ?_; refine zD6 rfl (qD5 _ _ _) ?_; rintro _ _ ⟨rfl, rfl⟩; exact ⟨Exa.refl _, rfl⟩
 apply zY5 (hm := by rfl)
 ·intro w_ g_; refine og rfl ?_; refine zD0 rfl ?_; exact ⟨Exa.refl _, rfl⟩
 apply zY5 (hm := by rfl)
 ·intro w_ g_; refine og rfl ?_; refine zG2 (v := .int .i64 b) rfl (kb_hb1 _ g_) rfl ?_; exact ⟨Exa.refl _, rfl⟩
 apply zY5 (hm := by rfl)
 ·intro w_ g_; refine og rfl ?_; refine zD0 rfl ?_; exact ⟨Exa.refl _, rfl⟩
 apply zY5 (hm := by rfl)
 ·intro w_ g_; refine og rfl ?_; refine zG2 (v := .int .i64 d) rfl (kb_hb2 _ g_) rfl ?_; exact ⟨Exa.refl _, rfl⟩
 apply zY5 (hm := by rfl)
 ·intro w_ g_; refine og rfl ?_; refine zD6 rfl (qD5 _ _ _) ?_; rintro _ _ ⟨rfl, rfl⟩; exact ⟨Exa.refl _, rfl⟩
 refine jD9 ?_
 intro w3 g4 S_
 replace k0_ := (exQ.tr k0_ g4)
 replace X := X.tr k0_
 replace hb1 := kb_hb1 _ g4
 clear kb_hb1
 replace hb2 := kb_hb2 _ g4
 clear kb_hb2
 refine stp (qQ7 (cs := #[.int .i64 (cmpI a c), .int .i64 (cmpI b d)]) (el := 3) (fun w => by kernel_rfl) ?_)
 intro b3 wb3 hge3 hb3 gb3
 replace X := X.tr gb3
 refine stp ?_
 refine zD6 rfl (yZ3 _ (xs := [cmpI a c, cmpI b d]) ?_) ?_
 ·obtain ⟨ad_, c_, he_, -, -, R_⟩ := Row.of_block (sz := 1) (n := 2) hb3 rfl rfl (by omega)
  simp only [Value.slice.injEq] at he_
  obtain ⟨rfl, -, rfl⟩ := he_
  exact R_
 rintro _ _ ⟨rfl, rfl⟩
 refine qZ 3 ?_
 refine ret1 (zA1 (v := .int .i64 (orS [cmpI a c, cmpI b d])) rfl) ⟨rfl, X⟩
end Go.Proofs.YtkkbbhpbcfcplaaGreat.K
namespace Go.Proofs.YtkkbbhpbcfcplaaGreat.K
open Go Go.RowKit Go.Proofs Go.Shelf
attribute [local irreducible] Run1 OpG WL W AO zB8
def yT4 : Go.Shelf.Ren := ⟨fun | 6 => 60 | 15 => 96 | 14 => 95 | 28 => 128 | 29 => 129 | 20 => 120 | 21 => 121 | 22 => 122 | 23 => 123 | 24 => 124 | 25 => 125 | 26 => 126 | 27 => 127 | 46 => 152 | 47 => 153 | 48 => 154 | 49 => 155 | 50 => 156 | 57 => 162 | n => n, fun | 22 => 32 | 24 => 61 | 25 => 128 | 3 => 3 | 39 => 96 | 0 => 0 | 53 => 194 | 55 => 23 | 4 => 4 | 46 => 188 | 45 => 187 | 50 => 151 | 5 => 5 | 9 => 9 | 66 => 208 | 70 => 212 | 76 => 223 | 77 => 167 | n => n, fun | n => n⟩
theorem jG8 : Go.Proofs.SlLaysF0.n6 Tryz.prog yT4 := {
  mixed := by kernel_rfl
  f6 := ⟨Tryz.f60.name, by decide, Tryz.func60.trans (congrArg some (by kernel_rfl))⟩
  f14 := ⟨Tryz.f95.name, by decide, Tryz.func95.trans (congrArg some (by kernel_rfl))⟩
  f15 := Tryz.func96.trans (congrArg some (by kernel_rfl))
  f20 := ⟨Tryz.f120.name, by decide, Tryz.func120.trans (congrArg some (by kernel_rfl))⟩
  f21 := ⟨Tryz.f121.name, by decide, Tryz.func121.trans (congrArg some (by kernel_rfl))⟩
  f22 := ⟨Tryz.f122.name, by decide, Tryz.func122.trans (congrArg some (by kernel_rfl))⟩
  f23 := ⟨Tryz.f123.name, by decide, Tryz.func123.trans (congrArg some (by kernel_rfl))⟩
  f24 := ⟨Tryz.f124.name, by decide, Tryz.func124.trans (congrArg some (by kernel_rfl))⟩
  f25 := ⟨Tryz.f125.name, by decide, Tryz.func125.trans (congrArg some (by kernel_rfl))⟩
  f26 := ⟨Tryz.f126.name, by decide, Tryz.func126.trans (congrArg some (by kernel_rfl))⟩
  f27 := ⟨Tryz.f127.name, by decide, Tryz.func127.trans (congrArg some (by kernel_rfl))⟩
  f28 := Tryz.func128.trans (congrArg some (by kernel_rfl))
  f29 := Tryz.func129.trans (congrArg some (by kernel_rfl))
  f46 := ⟨Tryz.f152.name, by decide, Tryz.func152.trans (congrArg some (by kernel_rfl))⟩
  f47 := Tryz.func153.trans (congrArg some (by kernel_rfl))
  f48 := Tryz.func154.trans (congrArg some (by kernel_rfl))
  f49 := ⟨Tryz.f155.name, by decide, Tryz.func155.trans (congrArg some (by kernel_rfl))⟩
  f50 := ⟨Tryz.f156.name, by decide, Tryz.func156.trans (congrArg some (by kernel_rfl))⟩
  f57 := ⟨Tryz.f162.name, by decide, Tryz.func162.trans (congrArg some (by kernel_rfl))⟩
  t0 := Tryz.underlying0
  a0 := Tryz.isAgg0
  z0 := Tryz.sizeOf0
  v0 := Tryz.zeroValue0
  t3 := Tryz.underlying3
  a3 := Tryz.isAgg3
  z3 := Tryz.sizeOf3
  v3 := Tryz.zeroValue3
  t4 := Tryz.underlying4
  a4 := Tryz.isAgg4
  z4 := Tryz.sizeOf4
  v4 := Tryz.zeroValue4
  t5 := Tryz.underlying5
  a5 := Tryz.isAgg5
  z5 := Tryz.sizeOf5
  v5 := Tryz.zeroValue5
  t9 := Tryz.underlying9
  a9 := Tryz.isAgg9
  z9 := Tryz.sizeOf9
  v9 := Tryz.zeroValue9
  t22 := Tryz.underlying32
  a22 := Tryz.isAgg32
  z22 := Tryz.sizeOf32
  v22 := Tryz.zeroValue32
  t25 := Tryz.underlying128
  a25 := Tryz.isAgg128
  z25 := Tryz.sizeOf128
  v25 := Tryz.zeroValue128
  t39 := Tryz.underlying96
  a39 := Tryz.isAgg96
  z39 := Tryz.sizeOf96
  v39 := Tryz.zeroValue96
  t45 := Tryz.underlying187
  a45 := Tryz.isAgg187
  z45 := Tryz.sizeOf187
  v45 := Tryz.zeroValue187
  t46 := Tryz.underlying188
  a46 := Tryz.isAgg188
  z46 := Tryz.sizeOf188
  v46 := Tryz.zeroValue188
  t50 := Tryz.underlying151
  a50 := Tryz.isAgg151
  z50 := Tryz.sizeOf151
  v50 := Tryz.zeroValue151
  t53 := Tryz.underlying194
  a53 := Tryz.isAgg194
  z53 := Tryz.sizeOf194
  v53 := Tryz.zeroValue194
  t55 := Tryz.underlying23
  a55 := Tryz.isAgg23
  z55 := Tryz.sizeOf23
  v55 := Tryz.zeroValue23
  t66 := Tryz.underlying208
  a66 := Tryz.isAgg208
  z66 := Tryz.sizeOf208
  v66 := Tryz.zeroValue208
  t70 := Tryz.underlying212
  a70 := Tryz.isAgg212
  z70 := Tryz.sizeOf212
  v70 := Tryz.zeroValue212
  t76 := Tryz.underlying223
  a76 := Tryz.isAgg223
  z76 := Tryz.sizeOf223
  v76 := Tryz.zeroValue223
  t77 := Tryz.underlying167
  a77 := Tryz.isAgg167
  z77 := Tryz.sizeOf167
  v77 := Tryz.zeroValue167 }
theorem yK6 (w : World) {g cap : Nat} {cur : Array Value} {L : List Spn} (hb : w.heap[g]? = some (.cells cur 61 (0, 0))) (hx : cur.toList.take (L.length * 2) = encL L) (hf : L.length * 2 ≤ cur.size) (hl : L.length ≤ 140737488355328) :
    Calls Tryz.prog 60 #[.slice (some ⟨g, 0, none⟩) L.length cap, .func (.func 61) #[] #[]] w (Ret fun v w' => ∃ (M : List Spn) (cur' : Array Value), M.Perm L ∧ M.Pairwise (fun a b => a.1 ≤ b.1) ∧ w'.heap[g]? = some (.cells cur' 61 (0, 0)) ∧ cur'.size = cur.size ∧ cur'.toList.take (L.length * 2) = encL M ∧ Kp [g] w w') := by
  have eg : ∀ args w, (callFunc 61 args).run Tryz.prog w = .ok (.enter 61 args) w := enters_of Tryz.func61 (by kernel_rfl) rfl
  have hc : CmpLays Tryz.prog 61 #[] encS 2 cfS g 0 L.toArray.size w := fun m os dk hs x y => by
    refine (yC3 _ x.1 x.2 y.1 y.2).mono ?_
    rintro e w' ⟨v, rfl, rfl, q, os', hq⟩
    exact ⟨rfl, q, os', hq⟩
  have hH : Sort.HoldsK encS 2 w g 0 L.toArray := yK4 hb (by simpa using hx)
  have h := AnyQ.slices_SortFunc jG8 2 (fun w => by kernel_rfl) (fun w => by kernel_rfl) encS (fun _ => rfl) (fun x v hv => by simp [encS] at hv; rcases hv with rfl | rfl <;> rfl) cfS swoS 61 #[] g 0 cap L.toArray w eg hc hH (zB3 hb) (by simp; omega)
  change Calls Tryz.prog 60 _ _ _ at h
  refine Calls.mono h ?_
  rintro e w' ⟨rfl, d', n, os, hp, hs, rfl⟩
  have hsz : d'.size = L.length := by have := hp.1; simpa using this
  obtain ⟨cur', h1, h2, h3, h4⟩ := yK5 (n := n) (d := d') (os := os) hb (by omega)
  exact ⟨_, rfl, d'.toList, cur', by simpa using jE3 hp, jE4 hp.1 hs, h1, h2, by rw [← hsz]; exact h3, h4⟩
theorem qQ8 (w : World) (p : Option Addr) (cap : Nat) (fv : Value) : Calls Tryz.prog 60 #[.slice p 0 cap, fv] w (Ret fun v w' => w' = w) := by
  have h := AnyF.slices_SortFunc_none { jG8 with } p cap fv w
  change Calls Tryz.prog 60 _ _ _ at h
  refine Calls.mono h ?_
  rintro e w' ⟨rfl, rfl⟩
  exact ⟨_, rfl, rfl⟩
theorem yC4 (w : World) {base c : Nat} {ad : Option Addr} {L : List Spn} (own : w.ownsRow base 61 2 (.slice ad L.length c) L.length (encL L)) (hbase : base ≤ w.heap.size) (hl : L.length ≤ 140737488355328) :
    Calls Tryz.prog 60 #[.slice ad L.length c, .func (.func 61) #[] #[]] w (Ret fun v w' => ∃ M : List Spn, M.Perm L ∧ M.Pairwise (fun a b => a.1 ≤ b.1) ∧ w'.ownsRow base 61 2 (.slice ad L.length c) L.length (encL M) ∧ Below base w w') := by
  rcases Nat.eq_zero_or_pos L.length with h0 | h0
  · have hn := List.eq_nil_of_length_eq_zero h0
    subst hn
    refine Calls.mono (qQ8 w ad c _) ?_
    rintro e w' ⟨v, rfl, rfl⟩
    exact ⟨_, rfl, [], List.Perm.refl _, List.Pairwise.nil, own, Below.refl _ _⟩
  · obtain ⟨q, cap, cur, hv, hq, hgc, hn1, hn2, hcs, hct⟩ := zT7 own h0
    simp only [Value.slice.injEq, true_and] at hv
    obtain ⟨rfl, rfl⟩ := hv
    refine Calls.mono (yK6 w hgc hct (by omega) hl) ?_
    rintro e w' ⟨v, rfl, M, cur', hp, hs, hg', hz, hx, hk⟩
    exact ⟨_, rfl, M, hp, hs, ⟨by rw [zK3, hp.length_eq], .inr ⟨q, c, cur', rfl, hq, hg', hn1, hn2, by rw [hz, hcs], hx⟩⟩, hk.below (fun x hx => by simp at hx; omega) hbase⟩
theorem qW5 (w : World) {b : Addr} {n c : Nat} {xs : List Value} (hc : n ≤ c) (hc2 : c ≤ maxLen) (R : RowAt w 2 (some b) n xs) (h1 : ∀ q ∈ xs, q.oneCell' = true) (hb : n ≤ 8796093022208) : Calls Tryz.prog 58 #[.slice (some b) n c] w (Ret fun v w' => w'.ownsRow w.heap.size 61 2 v n xs ∧ Grow w w') := by
 have G := Grow.rfl' w
 refine zC2 Tryz.func58 Tryz.ntmps58 Tryz.results58 rfl rfl ?_
 refine qZ 8 ?_
 refine stp (yD9 rfl rfl ?_)
 refine zA6 ?_
 refine zM3 rfl ?_
 refine qZ 3 ?_
 refine stp (zC0 (cs := #[]) (el := 61) (fun w => by kernel_rfl) ?_)
 intro bs_ w5_ hbs_ hcs_ g5_
 replace G := G.tr g5_
 clear g5_
 have own0 := yV2 (base := w.heap.size) (sz := 2) hcs_ (by have := G.size; omega)
 refine qZ 1 ?_
 refine stp (zG7 rfl rfl rfl rfl own0 ⟨_, c, rfl, hc, hc2, R.grow G⟩ h1 (by simp only [maxLen]; omega) (by omega) G.size ?_)
 intro v6 w6 own6 gr6
 have G6 := G.grown gr6 (zH5 own0)
 rw [Nat.zero_add, List.nil_append] at own6
 refine stp (zJ1 (v := v6) rfl ?_)
 refine qZ 2 ?_
 exact ret1 (zA1 rfl) ⟨own6, G6⟩
theorem qW6 (w : World) {c : Nat} : Calls Tryz.prog 58 #[.slice none 0 c] w (Ret fun v w' => v = .slice none 0 0 ∧ Grow w w') := by
 have G := Grow.rfl' w
 refine zC2 Tryz.func58 Tryz.ntmps58 Tryz.results58 rfl rfl ?_
 refine qZ 8 ?_
 refine stp (yD9 rfl rfl ?_)
 refine zA6 ?_
 refine zS1 rfl ?_
 refine qZ 5 ?_
 refine ret1 (zA1 (v := .slice none 0 0) rfl) ⟨rfl, G⟩
theorem qW7 (w : World) {ad : Option Addr} {n c : Nat} {L : List Spn} (hc : n ≤ c) (hc2 : c ≤ maxLen) (R : RowAt w 2 ad n (encL L)) (hb : n ≤ 8796093022208) : Calls Tryz.prog 58 #[.slice ad n c] w (Ret fun v w' => w'.ownsRow w.heap.size 61 2 v n (encL L) ∧ Grow w w') := by
  cases ad with
  | some b => exact qW5 w hc hc2 R yX5 hb
  | none =>
    have hn : n = 0 := by
      rcases Nat.eq_zero_or_pos n with h | h
      · exact h
      · obtain ⟨b, o, cs, T, fr, h1, _⟩ := R.at_ h; cases h1
    subst hn
    have hl := yF9 R
    have := List.eq_nil_of_length_eq_zero hl
    subst this
    refine Calls.mono (qW6 w) ?_
    rintro e w' ⟨v, rfl, rfl, G⟩
    exact ⟨_, rfl, World.ownsRow_nil _ _ _ _, G⟩
end Go.Proofs.YtkkbbhpbcfcplaaGreat.K
namespace Go.Proofs.YtkkbbhpbcfcplaaGreat.K
open Go Go.RowKit Go.Proofs
attribute [local irreducible] Run1 OpG WL W AO zB8
theorem qW8 (w : World) {base c : Nat} {ad : Option Addr} {L : List Spn} (own : w.ownsRow base 61 2 (.slice ad L.length c) L.length (encL L)) (hbase : base ≤ w.heap.size) (hl : L.length ≤ 8796093022208) : Calls Tryz.prog 57 #[.slice ad L.length c, .func (.func 59) #[] #[]] w (Ret fun v w' => w'.ownsRow base 61 2 v (L.filter keepS).length (encL (L.filter keepS)) ∧ Below base w w') := by
 refine zC2 Tryz.func57 Tryz.ntmps57 Tryz.results57 rfl rfl ?_
 have hB := Below.refl base w
 have hsz := hbase
 obtain ⟨ad', c', he, hc1, hc2, R⟩ := zI8 own (by omega)
 simp only [Value.slice.injEq, true_and] at he
 obtain ⟨rfl, rfl⟩ := he
 refine qZ 8 ?_
 refine stp (zA4 (v := .int .i64 (zS3 (fun i => zU3 (gS L i)) L.length 0)) rfl (qW4 _ R (fun i => zU3 (gS L i)) (fun i hi w' g' => by rw [jA5 R hi]; exact qN9 w' _ _)) ?_)
 intro w1 g2
 replace hB := Below.trans hB (Below.mono g2 hsz)
 replace hsz := Nat.le_trans hsz g2.size
 replace own := zB4 own g2
 clear g2
 refine qZ 6 ?_
 refine stp (zC7 rfl rfl ?_)
 refine zA6 ?_
 rcases yY9 (fun i => zU3 (gS L i)) L.length with ⟨hfi, hno⟩ | ⟨i, hi, hfi, hpi, hno⟩
 ·
  refine zS1 (show _ = Value.bool true from congrArg Value.bool (by rw [hfi]; rfl)) ?_
  refine qZ 6 ?_
  have hfl : L.filter keepS = L := List.filter_eq_self.2 fun s hs => by
   obtain ⟨j, hj, rfl⟩ := List.getElem_of_mem hs
   have := hno j hj
   rw [qG3 hj] at this
   simp [keepS, this]
  rw [hfl]
  refine ret1 (zA1 (v := .slice ad L.length c) rfl) ⟨own, hB⟩
 ·
  refine zM3 (show _ = Value.bool false from congrArg Value.bool (by rw [hfi]; exact decide_eq_false (by omega))) ?_
  obtain ⟨q, cap, cur, hv, hq, hgc, hn1, hn2, hcs, hct⟩ := zT7 own (by omega)
  simp only [Value.slice.injEq, true_and] at hv
  obtain ⟨rfl, rfl⟩ := hv
  clear own R
  have D0 := DelSt.start hcs hn1 hct hi hpi hno
  refine qZ 5 ?_
  refine stp (zB5 rfl rfl ?_ ?_); constructor <;> omega
  refine qZ 3 ?_
  refine zF2 (fun m_ e_ w_ => ∃ (j : Nat) (K : List Spn) (cur' : Array Value), m_ = L.length - j ∧ Fr [(0, .slice (some ⟨q, 0, none⟩) L.length c), (1, .func (.func 59) #[] #[]), (4, .slice none 0 0), (6, .int .i64 (j : Int)), (5, .int .i64 (K.length : Int))] e_ ∧ (DelSt L c j K cur') ∧ (Below base w w_) ∧ (base ≤ w_.heap.size) ∧ (w_.heap[q]? = some (.cells cur' 61 (0, 0)))) _ ⟨i + 1, L.take i, cur, rfl, zC3 ⟨rfl, rfl, rfl, congrArg (Value.int .i64) (by rw [hfi]; omega), congrArg (Value.int .i64) (by rw [hfi, List.length_take]; omega), trivial⟩, D0, hB, hsz, hgc⟩ ?_
  clear hB hsz hgc
  rintro m_ e_ w3 ⟨j, K, cur', rfl, ⟨e4, rfl⟩, D, hB, hsz, hgc⟩
  refine qZ 6 ?_
  refine stp (zF1 rfl rfl ?_)
  refine zA6 ?_
  refine zA2 (b := (decide ((j : Int) < (L.length : Int)))) rfl (fun hlt => ?_) (fun hlt => ?_)
  ·
   replace hlt := qT hlt
   have hj : j < L.length := by omega
   have RC := D.row hgc (by omega)
   have hld := D.load hj
   have hlt1 := D.lt
   refine qZ 7 ?_
   refine stp (zD5 RC rfl rfl ?_ ?_); omega
   refine stp (zK0 RC rfl (by decide) (by rw [RC.len]; omega) hld ?_)
   refine stp (zA8 ?_)
   intro b5 w6 hb7 hc8 g9
   refine stn (qS hc8 ?_)
   intro w10 hc11 u12
   have g13 := g9.upd u12 hb7
   replace hB := Below.trans hB (Below.mono g13 hsz)
   replace hsz := Nat.le_trans hsz g13.size
   replace hgc := g13.heap hgc
   replace RC := RC.grow g13
   clear u12 g9 hb7 hc8
   refine qZ 5 ?_
   refine stp (zA4 (v := .bool (zU3 (gS L j))) rfl (qN9 _ _ _) ?_)
   intro w14 g15
   replace hB := Below.trans hB (Below.mono g15 hsz)
   replace hsz := Nat.le_trans hsz g15.size
   replace hgc := g15.heap hgc
   replace RC := RC.grow g15
   replace hc11 := g15.heap hc11
   clear g15
   refine stp (zN7 rfl ?_)
   refine zA6 ?_
   refine zA2 (b := (!(zU3 (gS L j)))) rfl (fun hk => ?_) (fun hk => ?_)
   ·
    simp only [sb] at hk
    have hkp : zU3 (gS L j) = false := by simpa using hk
    refine qZ 5 ?_
    refine stp (zH3 (b := q) (o := 0) (i := (K.length : Int)) rfl rfl ?_ ?_ ?_); omega; omega
    refine stn (zZ0 (b := q) (o := 0 + K.length * 2) (n := 2) rfl rfl rfl hgc rfl (Nat.ble_eq_true_of_le (by have := D.sz; have := D.cap; omega)) rfl rfl ?_)
    intro w16 hgc2 u2
    replace hB := Below.trans hB (u2.below hq)
    replace hsz : base ≤ w16.heap.size := by rw [u2.size]; exact hsz
    clear RC
    refine qZ 3 ?_
    refine stp (zB5 rfl rfl ?_ ?_); constructor <;> omega
    refine qZ 4 ?_
    refine stp (zB5 rfl rfl ?_ ?_); constructor <;> omega
    refine qZ 2 ?_
    refine ⟨_, ?_, j + 1, K ++ [gS L j], _, rfl, zC3 ⟨rfl, rfl, rfl, rfl, by simp; rfl, trivial⟩, D.put hj hkp, hB, hsz, hgc2⟩
    omega
   ·
    simp only [sb] at hk
    have hkp : zU3 (gS L j) = true := by simpa using hk
    refine qZ 3 ?_
    refine stp (zB5 rfl rfl ?_ ?_); constructor <;> omega
    refine qZ 2 ?_
    refine ⟨_, ?_, j + 1, K, cur', rfl, zC3 ⟨rfl, rfl, rfl, rfl, rfl, trivial⟩, D.skip hj hkp, hB, hsz, hgc⟩
    omega
  ·
   replace hlt := qF hlt
   have hj9 : j = L.length := by have := D.hj; omega
   have hlt1 := D.lt
   have hK9 : K = L.filter keepS := by rw [D.hK, hj9, List.take_length]
   refine qZ 5 ?_
   refine stp (yD8 rfl rfl ?_ ?_ ?_); omega; omega
   refine stn (jE2 (b := q) (o := K.length * 2) (T := 61) (sz := 2) (z := .agg #[.int .i64 0, .int .i64 0]) (n := L.length - (K.length : Int).toNat) rfl rfl rfl ?_ hgc ?_ rfl ?_ ?_)
   ·intro _
    rw [if_neg (by omega), Int.toNat_natCast]
    simp [add_lit]
   ·rw [Int.toNat_natCast]; have := D.sz; have := D.cap; omega
   ·intro q_ hq_
    have hq2_ : q_ = .int .i64 0 := by simpa [Value.cells] using hq_
    rw [hq2_]; rfl
   intro w17 cs9 hgc9 hs9 ht9 u9
   replace hB := Below.trans hB (u9.below hq)
   refine qZ 5 ?_
   refine stp (qH3 rfl rfl ?_ ?_ ?_); omega; omega
   refine qZ 3 ?_
   have hsl : (Value.slice (if c = 0 then some ⟨q, 0, none⟩ else (some (⟨q, 0, none⟩ : Addr)).map (·.add (0 * 2))) (K.length : Int).toNat c) = .slice (some ⟨q, 0, none⟩) K.length c := by rw [if_neg (by omega), Int.toNat_natCast]; simp [add_lit]
   rw [← hK9]
   refine ret1 (zA1 (v := .slice (if c = 0 then some ⟨q, 0, none⟩ else (some (⟨q, 0, none⟩ : Addr)).map (·.add (0 * 2))) (K.length : Int).toNat c) rfl) ⟨by rw [hsl]; exact ⟨zK3 _, .inr ⟨q, c, cs9, rfl, hq, hgc9, by omega, hn2, by rw [hs9, D.sz], by rw [ht9, D.hd]⟩⟩, hB⟩
end Go.Proofs.YtkkbbhpbcfcplaaGreat.K
namespace Go.Proofs.YtkkbbhpbcfcplaaGreat.K
open Go Go.RowKit
def nrm4 (L : List Spn) : List Spn := yB4 ((L.filter keepS).mergeSort fun a b => decide (a.1 ≤ b.1))
theorem yT5 (L : List Spn) : NormOf L (nrm4 L) := by
  refine yS2 (List.mergeSort_perm _ _) ?_
  have := List.pairwise_mergeSort (le := fun a b : Spn => decide (a.1 ≤ b.1)) (fun a b c h1 h2 => by simp only [decide_eq_true_eq] at *; omega) (fun a b => by simp only [Bool.or_eq_true, decide_eq_true_eq]; omega) (L.filter keepS)
  exact this.imp fun h => by simpa using h
theorem NormOf.eq {L N : List Spn} (h : NormOf L N) : N = nrm4 L := h.same (yT5 L) fun _ => Iff.rfl
def hls (L : List Spn) (s : Spn) : List Spn := jA4 (nrm4 L) s.1 s.2
/-! ### right? -/
/-! ### the document's answers -/
/-! ### what is kept while a row grows behind a box -/
end Go.Proofs.YtkkbbhpbcfcplaaGreat.K
namespace Go.Proofs.YtkkbbhpbcfcplaaGreat.K
open Go Go.RowKit Go.Proofs
attribute [local irreducible] Run1 OpG WL W AO zB8
theorem yK7 (w : World) {ad : Option Addr} {c n : Nat} {L : List Spn} (hc : n ≤ c) (hc2 : c ≤ maxLen) (R : RowAt w 2 ad n (encL L)) (hb : n ≤ 8796093022208) : Calls Tryz.prog 33 #[.slice ad n c] w (Ret fun v w' => w'.ownsRow w.heap.size 61 2 v (nrm4 L).length (encL (nrm4 L)) ∧ Grow w w') := by
 refine zC2 Tryz.func33 Tryz.ntmps33 Tryz.results33 rfl rfl ?_
 have hLn := yF9 R
 refine qZ 7 ?_
 refine stp ?_
 refine zD6 rfl (qW7 w hc hc2 R hb) ?_
 rintro v1 w1 ⟨own1, G1⟩
 obtain ⟨ad1, n1, c1, rfl⟩ := zD7 own1
 have hn1 := qD4 own1
 rw [← hLn] at hn1 own1
 subst hn1
 refine stp ?_
 refine zD6 rfl (qW8 w1 own1 G1.size (by omega)) ?_
 rintro v2 w2 ⟨own2, B2⟩
 obtain ⟨ad2, n2, c2, rfl⟩ := zD7 own2
 have hn2 := qD4 own2
 subst hn2
 have G2 : Grow w w2 := Below.trans G1 B2
 refine qZ 5 ?_
 refine stp ?_
 have hfl : (L.filter keepS).length ≤ L.length := List.length_filter_le _ _
 refine zD6 rfl (yC4 w2 own2 G2.size (by omega)) ?_
 rintro v3 w3 ⟨M, hperm, hpair, own3, B3⟩
 have G3 : Grow w w3 := Below.trans G2 B3
 have hML := hperm.length_eq
 obtain ⟨ad3, c3, he3, -, -, R3⟩ := zI8 own3 (by omega)
 simp only [Value.slice.injEq, true_and] at he3
 obtain ⟨rfl, rfl⟩ := he3
 have G0 := Grow.rfl' w3
 have ownO : w3.ownsRow w3.heap.size 61 2 (.slice none 0 0) 0 (encL ([] : List Spn).reverse) := World.ownsRow_nil _ _ _ _
 refine qZ 13 ?_
 refine zF2 (fun m_ e_ w_ => ∃ (k : Nat) (ado : Option Addr) (co : Nat), m_ = (L.filter keepS).length - k ∧ Fr [(2, .slice none 0 0), (14, .slice ad2 ((L.filter keepS).length) c2), (15, .int .i64 ((L.filter keepS).length : Int)), (16, .int .i64 (k : Int)), (4, .slice ado ((normO M k).length) co)] e_ ∧ (k ≤ (L.filter keepS).length) ∧ (Grow w3 w_) ∧ (w_.ownsRow w3.heap.size 61 2 (.slice ado (normO M k).length co) (normO M k).length (encL (normO M k).reverse))) _ ⟨0, _, _, rfl, zC3 ⟨rfl, rfl, rfl, rfl, rfl, trivial⟩, by omega, G0, ownO⟩ ?_
 clear G0 ownO
 rintro m_ e_ w1 ⟨k, ado, co, rfl, ⟨e2, rfl⟩, hk, G0, ownO⟩
 refine qZ 2 ?_
 refine stp (zF1 rfl rfl ?_)
 refine qZ 2 ?_
 refine zA2 (b := (decide ((k : Int) < ((L.filter keepS).length : Int)))) rfl (fun hlt => ?_) (fun hlt => ?_)
 ·
  replace hlt := qT hlt
  have hkM : k < M.length := by omega
  have hlen := qK6 (M.take k) []
  rw [List.length_take] at hlen
  have hln : (normO M k).length ≤ k := by unfold normO; simp only [List.length_nil] at hlen; omega
  obtain ⟨ado', co', heo, -, -, RO⟩ := zI8 ownO (by omega)
  simp only [Value.slice.injEq, true_and] at heo
  obtain ⟨rfl, rfl⟩ := heo
  refine qZ 5 ?_
  refine stp (zD5 (R3.grow G0) rfl rfl ?_ ?_); omega
  refine stp (zK0 (R3.grow G0) rfl (by decide) (by rw [R3.len]; omega) (jA5 R3 (by omega)) ?_)
  refine stp (zA8 ?_)
  intro b3 w4 hb5 hc6 g7
  refine stn (qS hc6 ?_)
  intro w8 hc9 u10
  have g11 := g7.upd u10 hb5
  replace G0 := G0.tr g11
  replace ownO := zB4 ownO g11
  replace RO := RO.grow g11
  clear u10 g7 hb5 hc6
  refine qZ 9 ?_
  refine zN6 13 [[], [0], [1, 0], [2, 1, 0], [3, 2, 1, 0], [4, 3, 2], [5, 4, 3], [6, 5, 4, 0], [7, 6, 5, 2, 1, 0], [8, 7, 6, 3, 2, 1, 0], [9, 8, 7, 4, 3, 2, 1, 0], [10, 9, 8, 7, 6, 5, 4, 3, 2, 1, 0], [11, 10, 9, 8, 7, 6, 5, 4, 3, 2, 1, 0]] mixed (by kernel_rfl) (by kernel_rfl) (by kernel_rfl) ?_
  intro w12 g13
  replace G0 := G0.tr g13
  replace ownO := zB4 ownO g13
  replace RO := RO.grow g13
  replace hc9 := g13.heap hc9
  clear g13
  refine qA 1 ?_
  apply zC4
  ·intro w_ g_; exact og rfl (zM7 rfl rfl qX)
  refine qA 1 ?_
  apply zC4
  ·intro w_ g_; 
   refine zB0 (s := .bool _) (v := .pointer (some ⟨b3, 0, none⟩)) rfl (zE1 _) (fun hc14 => ?_) ?_
   ·
    have hc14_ := qT hc14
    refine zD0 rfl ?_
    exact ⟨rfl, rfl⟩
   exact qX
  apply zC4
  ·intro w_ g_; 
   refine zB0 (s := .bool _) (v := .int .i64 ((gS M k).1)) rfl (zE1 _) (fun hc15 => ?_) ?_
   ·
    have hc15_ := qT hc15
    refine zG2 (v := .int .i64 ((gS M k).1)) (gvt hc15) (g_.heap hc9) rfl ?_
    exact ⟨rfl, rfl⟩
   exact qX
  apply zC4
  ·intro w_ g_; 
   refine zB0 (s := .bool _) (v := .slice ado ((normO M k).length) co) rfl (zE1 _) (fun hc16 => ?_) ?_
   ·
    have hc16_ := qT hc16
    refine zI5 rfl ?_
    exact ⟨rfl, rfl⟩
   exact qX
  apply zC4
  ·intro w_ g_; 
   refine zB0 (s := .bool _) (v := .int .i64 ((normO M k).length : Int)) rfl (zE1 _) (fun hc17 => ?_) ?_
   ·
    have hc17_ := qT hc17
    refine zC8 rfl ?_
    exact ⟨rfl, rfl⟩
   exact qX
  apply zC4
  ·intro w_ g_; 
   refine zB0 (s := .bool _) (v := .int .i64 (((normO M k).length : Int) - 1)) rfl (zE1 _) (fun hc18 => ?_) ?_
   ·
    have hc18_ := qT hc18
    refine zM6 (gvt hc18) rfl ?_ ?_; constructor <;> omega
    exact ⟨rfl, rfl⟩
   exact qX
  apply zC4
  ·intro w_ g_; 
   refine zB0 (s := .bool _) (v := .pointer (some (eadr ado ((((normO M k).length : Int) - 1).toNat * 2)))) rfl (zE1 _) (fun hc19 => ?_) ?_
   ·
    have hc19_ := qT hc19
    refine zE7 (RO.grow g_) (gvt hc19) (gvt hc19) ?_ ?_ ?_; omega; omega
    exact ⟨rfl, rfl⟩
   exact qX
  apply zC4
  ·intro w_ g_; 
   refine zB0 (s := .bool _) (v := .pointer (some (eadr ado ((((normO M k).length : Int) - 1).toNat * 2 + 1)))) rfl (zE1 _) (fun hc20 => ?_) ?_
   ·
    have hc20_ := qT hc20
    refine qO6 (gvt hc20) ?_
    exact ⟨rfl, rfl⟩
   exact qX
  apply zC4
  ·intro w_ g_; 
   refine zB0 (s := .bool _) (v := .int .i64 ((hdS (normO M k)).2)) rfl (zE1 _) (fun hc21 => ?_) ?_
   ·
    have hc21_ := qT hc21
    refine zC6 (v := .int .i64 ((hdS (normO M k)).2)) (m := 0) (RO.grow g_) (gvt hc21) (yG4 (by omega) 1 (by omega)) ?_
    exact ⟨rfl, rfl⟩
   exact qX
  apply zC4
  ·intro w_ g_; 
   refine zB0 (s := .bool _) (v := .bool (decide (((gS M k).1) ≤ ((hdS (normO M k)).2)))) rfl (zE1 _) (fun hc22 => ?_) ?_
   ·
    have hc22_ := qT hc22
    refine zU8 (gvt hc22) (gvt hc22) ?_
    exact ⟨rfl, rfl⟩
   exact qX
  apply zC4
  ·intro w_ g_; exact og rfl (zE8 rfl rfl rfl qX)
  refine zJ0 ?_
  intro w23 g24
  replace G0 := G0.tr g24
  replace ownO := zB4 ownO g24
  replace RO := RO.grow g24
  replace hc9 := g24.heap hc9
  clear g24
  refine zA6 ?_
  refine zA2 (b := ((decide (((normO M k).length : Int) > 0)) && (decide (((gS M k).1) ≤ ((hdS (normO M k)).2))))) rfl (fun hj => ?_) (fun hj => ?_)
  ·
   simp only [sb] at hj
   have hpos : 0 < (normO M k).length := by omega
   have hle : (gS M k).1 ≤ (hdS (normO M k)).2 := hj.2
   obtain ⟨q, cap, cur, hv, hq, hgc, hn1, hn2, hcs, hct⟩ := zT7 ownO hpos
   simp only [Value.slice.injEq, true_and] at hv
   obtain ⟨rfl, rfl⟩ := hv
   have hjl : (normO M (k + 1)).length = (normO M k).length := by rw [show normO M (k + 1) = zO5 (normO M k) (gS M k) from qF1 hkM, yG5 hpos hle]; simp; omega
   refine qZ 4 ?_
   refine stp (zM6 rfl rfl ?_ ?_); constructor <;> omega
   refine stp (zE7 RO rfl rfl ?_ ?_ ?_); omega; omega
   refine qZ 3 ?_
   refine zN6 10 [[], [], [0], [1, 0], [2, 1, 0], [], [0], [5, 4, 3, 2, 1, 0], [7, 6, 5, 4, 3, 2, 1, 0], [8, 7, 6, 5, 4, 3, 2, 1, 0]] mixed (by kernel_rfl) (by kernel_rfl) (by kernel_rfl) ?_
   intro w25 g26
   replace G0 := G0.tr g26
   replace ownO := zB4 ownO g26
   replace RO := RO.grow g26
   replace hc9 := g26.heap hc9
   replace hgc := g26.heap hgc
   clear g26
   refine qA 3 ?_
   apply zC4
   ·intro w_ g_; exact og rfl (qO6 rfl qX)
   apply zC4
   ·intro w_ g_; exact og rfl (zC6 (v := .int .i64 ((hdS (normO M k)).2)) (m := 0) (RO.grow g_) rfl (yG4 (by omega) 1 (by omega)) qX)
   refine qA 2 ?_
   apply zC4
   ·intro w_ g_; exact og rfl (qR7 rfl rfl rfl qX)
   refine qA 1 ?_
   apply zC4
   ·intro w_ g_; exact og rfl (qO6 rfl qX)
   refine zJ0 ?_
   intro w27 g28
   replace G0 := G0.tr g28
   replace ownO := zB4 ownO g28
   replace RO := RO.grow g28
   replace hc9 := g28.heap hc9
   replace hgc := g28.heap hgc
   clear g28
   refine stn (zZ0 (b := q) (o := 0 + (((normO M k).length : Int) - 1).toNat * 2 + 1) (n := 1) (v := .int .i64 (max (hdS (normO M k)).2 (gS M k).2)) rfl (congrArg (Value.int .i64) (by simp only [Int.max_def]; split <;> split <;> omega)) rfl hgc rfl (Nat.ble_eq_true_of_le (by omega)) rfl rfl ?_)
   intro w29 hgc2 u2
   have own9 := yZ1 ownO hpos hgc hgc2
   rw [← yG5 hpos hle, show zO5 (normO M k) (gS M k) = normO M (k + 1) from (qF1 hkM).symm] at own9
   have G9 := G0.upd u2 hq
   refine qZ 3 ?_
   refine stp (zB5 rfl rfl ?_ ?_); constructor <;> omega
   refine qZ 2 ?_
   rw [← hjl] at own9
   refine ⟨_, ?_, k + 1, _, _, rfl, zC3 ⟨rfl, rfl, rfl, congrArg (Value.int .i64) (by omega), by rw [hjl]; rfl, trivial⟩, by omega, G9, own9⟩
   omega
  ·
   simp only [sb] at hj
   have hnj : ¬ (0 < (normO M k).length ∧ (gS M k).1 ≤ (hdS (normO M k)).2) := by rintro ⟨h1, h2⟩; rcases hj with hj | hj <;> omega
   refine qZ 4 ?_
   refine stp (zC0 (cs := #[.int .i64 ((gS M k).1), .int .i64 ((gS M k).2)]) (el := 61) (fun w => by kernel_rfl) ?_)
   intro bs30 w31 hb32 hc33 g34
   replace G0 := G0.tr g34
   replace ownO := zB4 ownO g34
   replace RO := RO.grow g34
   replace hc9 := g34.heap hc9
   clear g34
   refine stp (zG7 rfl rfl rfl rfl ownO (Row.of_block (n := 1) hc33 rfl rfl (by omega)) (fun q_ hq_ => by simp at hq_; rcases hq_ with rfl | rfl <;> rfl) (by simp only [maxLen]; omega) (by omega) G0.size ?_)
   intro v9 w9 own9 gr9
   have G9 := G0.grown gr9 (zH5 ownO)
   replace own9 := yZ2 own9
   rw [← yT3 hnj, show zO5 (normO M k) (gS M k) = normO M (k + 1) from (qF1 hkM).symm] at own9
   obtain ⟨ad9, n9, c9, rfl⟩ := zD7 own9
   have hn9 := qD4 own9
   subst hn9
   refine qZ 3 ?_
   refine stp (zB5 rfl rfl ?_ ?_); constructor <;> omega
   refine qZ 2 ?_
   refine ⟨_, ?_, k + 1, _, _, rfl, zC3 ⟨rfl, rfl, rfl, congrArg (Value.int .i64) (by omega), rfl, trivial⟩, by omega, G9, own9⟩
   omega
 ·
  replace hlt := qF hlt
  have hk9 : k = M.length := by omega
  have hO : normO M k = yS0 M := by unfold normO yS0; rw [hk9, List.take_length]
  have hlen := qK6 M []
  refine qZ 7 ?_
  rw [hO] at ownO
  refine ret1 (zA1 (v := .slice ado ((normO M k).length) co) rfl) ⟨?_, Below.trans G3 (Below.mono G0 G3.size)⟩
  rw [← (yS2 hperm hpair).eq]
  unfold yB4
  rw [List.length_reverse, hO]
  exact zX1 ownO G3.size
theorem jE5 (L : List Spn) : nrm4 L = nrm L := (yT5 L).same (jG2 L) (fun _ => Iff.rfl)
theorem zY6 (w : World) {u : Value} {A : List (List Int)} (hA : zG5 w u A) (hr : zD1 A = true) (hx : AllU A) {ad : Option Addr} {c : Nat} {ks : List Int} {a : Int} (R : RowAt w 1 ad ks.length (ks.map (.int .i64))) (ha : inR .i64 a) : Calls Tryz.prog 12 #[u, .agg #[.slice ad ks.length c, .int .i64 a]] w (Ret fun v w' => ∃ adn n cn, v = .tuple #[.slice adn n cn, .int .u16 (zF9 (zB7 A) ks a 8192).2] ∧ ((zF9 (zB7 A) ks a 8192).2 = 0 → n = (nrm (zY3 A ks a)).length ∧ n ≤ cn ∧ cn ≤ maxLen ∧ RowAt w' 2 adn (nrm (zY3 A ks a)).length (encL (nrm (zY3 A ks a)))) ∧ ((zF9 (zB7 A) ks a 8192).2 ≠ 0 → n = 0) ∧ Grow w w') := by
 obtain ⟨hlen16, -⟩ := zN1 hr
 have G := Grow.rfl' w
 refine zC2 Tryz.func12 Tryz.ntmps12 Tryz.results12 rfl rfl ?_
 refine qZ 2 ?_
 refine stp ?_
 refine qC ?_
 intro b1 w2 hb3 hc4 g5
 have hge6 := Nat.le_trans G.size hb3
 replace G := G.tr g5
 clear g5 hb3
 refine qZ 6 ?_
 refine stp (zH4 (v := u) rfl ?_)
 refine stp (zA4 (v := .bool true) rfl (zJ5 (qG2 _ (hA.grow G) (by omega)) (y := .bool true) (by rw [hr])) ?_)
 intro w7 g8
 replace hc4 := g8.heap hc4
 replace G := G.tr g8
 clear g8
 refine stp (yN3 rfl rfl ?_)
 refine zA6 ?_
 refine zM3 rfl ?_
 refine qZ 3 ?_
 refine stp (zH4 (v := u) rfl ?_)
 refine stp (zA4 (v := .iface 110 (.agg #[u])) rfl (by obtain ⟨adu_, nu_, cu_, rfl⟩ := hA.slice; exact qJ6 _) ?_)
 intro w9 g10
 replace hc4 := g10.heap hc4
 replace G := G.tr g10
 clear g10
 refine stp (zA7 (v := .agg #[.iface 110 (.agg #[u]), .slice none 0 0]) (fun w => by kernel_rfl) ?_)
 refine stp ?_
 refine qC ?_
 intro b11 w12 hb13 hc14 g15
 have hge16 := Nat.le_trans G.size hb13
 replace hc4 := g15.heap hc4
 replace G := G.tr g15
 clear g15 hb13
 refine qZ 2 ?_
 have hbn : w.heap.size ≤ b11 := hge16
 have st0 : NtS 110 79 61 w.heap.size w12 u b11 [] := ⟨none, 0, hc14, World.ownsRow_nil _ _ _ _⟩
 refine qZ 4 ?_
 refine stp (qI3 (v := .pointer (some ⟨b11, 0, none⟩)) rfl ?_)
 refine qZ 1 ?_
 refine stp ?_
 refine zD6 rfl (yC1 _ hA hr hx rfl G hbn st0 (L := []) (by simp) R ha (by simp [inR])) ?_
 rintro v_ w17 ⟨rfl, L2, he2, st2, rel_⟩
 replace hc4 := rel_.hpN st0 hc4 (by decide) (by decide)
 replace G := NkP.to_grow rel_ G (fun x_ hx_ => by simp only [List.mem_singleton] at hx_; subst hx_; exact hbn) (Nat.le_refl _)
 clear rel_ st0 hc14
 obtain ⟨ad1, c1, hcn1, own1⟩ := st2
 refine qZ 3 ?_
 refine stp (zA8 ?_)
 intro b18 w19 hb20 hc21 g22
 refine stn (qS hc21 ?_)
 intro w23 hc24 u25
 have g26 := g22.upd u25 hb20
 have hge27 := Nat.le_trans G.size hb20
 have ne28 := qN hc4 hb20
 have ne29 := qN hcn1 hb20
 replace hc4 := g26.heap hc4
 replace hcn1 := g26.heap hcn1
 replace own1 := zB4 own1 g26
 replace G := G.tr g26
 clear u25 g22 hb20 hc21
 refine qZ 5 ?_
 refine stp (zG1 rfl rfl ?_)
 refine zA6 ?_
 refine zA2 (b := (decide (((zF9 (zB7 A) ks a 8192).2) ≠ 0))) rfl (fun h1 => ?_) (fun h1 => ?_)
 ·
  replace h1 := qT h1
  refine qZ 7 ?_
  refine ret2 (zA1 (v := .slice none 0 0) rfl) (zA1 (v := .int .u16 ((zF9 (zB7 A) ks a 8192).2)) rfl) ⟨none, 0, 0, rfl, fun h_ => absurd h_ (by omega), fun _ => rfl, G⟩
 ·
  replace h1 := qF h1
  have hz0 : (zF9 (zB7 A) ks a 8192).2 = 0 := by omega
  have h9 := he2 hz0
  have h8 : L2 = (zY3 A ks a) := h9
  have h7 := (yS3 hr ks a).2
  obtain ⟨hnn, hk32, -⟩ := jH5 hz0
  rw [← h8] at h7
  obtain ⟨_, _, hs9, hq1, hm1, R1⟩ := zI8 own1 (by omega)
  cases hs9
  clear own1
  refine qZ 7 ?_
  refine stp ?_
  have hcal := yK7 _ hq1 hm1 R1 (by omega)
  rw [jE5] at hcal
  refine zD6 rfl hcal ?_
  rintro v_ w30 ⟨ownN, g_⟩
  clear hcal
  rw [h8] at ownN
  replace hc4 := g_.heap hc4
  replace hcn1 := g_.heap hcn1
  replace hc24 := g_.heap hc24
  replace R1 := R1.grow g_
  replace G := G.tr g_
  clear g_
  have hnl := jD4 (zY3 A ks a)
  obtain ⟨adn, n9, cn, rfl⟩ := zD7 ownN
  have hn9 := qD4 ownN
  subst hn9
  obtain ⟨_, _, hs9, hq2, hm2, R2⟩ := zI8 ownN (by rw [h8] at h7; omega)
  cases hs9
  refine qZ 4 ?_
  refine ret2 (zA1 (v := .slice adn ((nrm (zY3 A ks a)).length) cn) rfl) (zA1 (v := .int .u16 0) rfl) ⟨adn, _, cn, by rw [hz0], fun _ => ⟨rfl, hq2, hm2, R2⟩, fun h_ => absurd hz0 h_, G⟩
theorem zU6 (w : World)  : zB8 Tryz.prog 9 #[] w (.bool true) := by
 have G := Grow.rfl' w
 refine zA9 Tryz.func9 Tryz.ntmps9 Tryz.results9 rfl rfl ?_
 refine qZ 6 ?_
 refine stp (zC0 (cs := #[.int .u64 7]) (el := 23) (fun w => by kernel_rfl) ?_)
 intro bs1 w2 hb3 hc4 g5
 have hge6 := Nat.le_trans G.size hb3
 replace G := G.tr g5
 clear g5
 refine stp (zA7 (v := .agg #[.int .i64 1, .int .i64 0, .slice (some ⟨bs1, 0, none⟩) 1 1, .slice none 0 0, .slice none 0 0]) (fun w => by kernel_rfl) ?_)
 refine stp ?_
 have hT : NodeR w2 [.int .i64 1, .int .i64 0, .slice (some ⟨bs1, 0, none⟩) 1 1, .slice none 0 0, .slice none 0 0] qJ9 := .mk (by simp [inR]) (by simp [inR]) (Row.of_block (n := 1) hc4 rfl rfl (by decide)) (by simp [inR]) (Row.nil _ _) (by simp) (Row.nil _ _) .nil
 refine zD6 rfl (zW0 _ hT 9) ?_
 rw [show qJ9.build 9 = (zS7, 0) from qT2]
 rintro v_ w7 ⟨so_, segs_, rfl, hO_, g_⟩
 replace hc4 := g_.heap hc4
 replace G := G.tr g_
 clear g_
 have hA : zG5 w7 so_ zS7 := hO_.arena (by decide) (by decide)
 obtain ⟨ad1, n1, c1, rfl⟩ := zD7 hO_.out
 clear hO_
 refine qZ 9 ?_
 refine stp (zA7 (v := .agg #[.slice none 0 0, .int .i64 0]) (fun w => by kernel_rfl) ?_)
 refine stp ?_
 refine zD6 rfl (zY6 _ hA qW0 qH8 (ks := []) (a := 0) (RowAt.empty _ _ _) (by simp [inR])) ?_
 rintro v_ w8 ⟨adt, nt, ct, rfl, ht_, -, g_⟩
 obtain ⟨hnt, -, -, Rt⟩ := ht_ qK4
 rw [qV9] at hnt Rt
 replace Rt : RowAt w8 2 adt 1 [.int .i64 0, .int .i64 2] := Rt
 replace hnt : nt = 1 := hnt
 subst hnt
 rw [qK4]
 replace hc4 := g_.heap hc4
 replace hA := hA.grow g_
 replace G := G.tr g_
 clear g_
 refine qZ 9 ?_
 refine stp (zR6 rfl rfl (by first | decide | rfl) ?_)
 refine qZ 3 ?_
 refine stp (zR6 rfl rfl (by first | decide | rfl) ?_)
 refine stp (zJ8 (v := .bool true) rfl rfl rfl ?_)
 refine qZ 2 ?_
 refine stp (zE7 Rt rfl rfl ?_ ?_ ?_); omega; omega
 refine stp (zK0 Rt rfl (by decide) (by decide) (by rfl) ?_)
 refine stp (zA7 (v := .agg #[.int .i64 0, .int .i64 2]) (fun w => by kernel_rfl) ?_)
 refine stp (r_eqlS' (r' := true) rfl rfl (by rfl) (by decide) ?_)
 refine stp (zJ8 (v := .bool true) rfl rfl rfl ?_)
 refine qZ 2 ?_
 refine stp (zA4 (v := .int .u16 0) rfl (zJ5 (qA3 _ hA (by decide) qH8) (y := .int .u16 0) (by rw [qK3])) ?_)
 intro w9 g10
 replace hc4 := g10.heap hc4
 replace hA := hA.grow g10
 replace Rt := Rt.grow g10
 replace G := G.tr g10
 clear g10
 refine stp (zR6 rfl rfl (by first | decide | rfl) ?_)
 refine stp (zJ8 (v := .bool true) rfl rfl rfl ?_)
 refine qZ 1 ?_
 refine stp (zA4 (v := .int .u16 1) rfl (zJ5 (qA3 _ (A := []) ⟨[], ⟨none, 0, rfl, by simp, by simp [maxLen], RowAt.empty _ _ _⟩, fun i s h => by simp at h⟩ (by decide) (by simp)) (y := .int .u16 1) (by rw [yY6])) ?_)
 intro w11 g12
 replace hc4 := g12.heap hc4
 replace hA := hA.grow g12
 replace Rt := Rt.grow g12
 replace G := G.tr g12
 clear g12
 refine stp (zR6 rfl rfl (by first | decide | rfl) ?_)
 refine stp (zJ8 (v := .bool true) rfl rfl rfl ?_)
 refine qZ 3 ?_
 refine stp (zA4 (v := .bool true) rfl (zJ5 (yB7 _ hA (by decide) qH8 hA (by decide) qH8) (y := .bool true) (by rw [yK1])) ?_)
 intro w13 g14
 replace hc4 := g14.heap hc4
 replace hA := hA.grow g14
 replace Rt := Rt.grow g14
 replace G := G.tr g14
 clear g14
 refine stp (zJ8 (v := .bool true) rfl rfl rfl ?_)
 refine qZ 3 ?_
 refine ret1 (zA1 (v := .bool true) rfl) ⟨?_, G⟩
 rfl
theorem yK8 (w : World) {ad ae : Option Addr} {cp cq : Nat} {xs ys : List Int} (R : RowAt w 1 ad xs.length (xs.map (.int .u8))) (hx : ∀ x ∈ xs, inR .u8 x) (hcp : xs.length ≤ cp) (hcp2 : cp ≤ maxLen) (hl : xs.length ≤ 200) (R2 : RowAt w 1 ae ys.length (ys.map (.int .u8))) (hy : ∀ x ∈ ys, inR .u8 x) {k : Int} (k0 : 0 ≤ k) (k1 : k ≤ 255) : Calls Tryz.prog 10 #[.slice ad xs.length cp, .slice ae ys.length cq, .int .u8 k] w (Ret fun v w' => ∃ ado co segs A, v = .slice ado A.length co ∧ OwnA 37 23 w' w.heap.size (.slice ado A.length co) segs A ∧ yR7 xs k A ∧ Grow w w') := by
 have lR2 := R2.lim
 have hri := qK0 (xs := xs) hx
 have G := Grow.rfl' w
 refine zC2 Tryz.func10 Tryz.ntmps10 Tryz.results10 rfl rfl ?_
 refine qZ 9 ?_
 refine stp ?_
 refine qI4 rfl rfl rfl ?_
 rw [if_neg (by omega)]
 refine stp (qH3 rfl rfl (by omega) (by omega) ?_)
 have R1 := R.sliceH (m := xs.length) hcp (Nat.le_refl _) (by decide)
 rw [List.take_of_length_le (by rw [List.length_map]; omega)] at R1
 rw [Int.toNat_natCast]
 generalize (if cp = 0 then ad else ad.map (·.add (0 * 1))) = ad1 at R1 ⊢
 refine stp ?_
 refine zD6 rfl (yJ4 _ _ R1 G rfl hx hcp hcp2 (d := 6) (by decide) (Nat.le_refl _)) ?_
 rintro v_ w1 ⟨cells_, ad9, n9, c9, rfl, hX_, -, -, -, -, g_⟩
 have hX := hX_.sees (Sees.seen _ _)
 clear hX_
 replace G := G.tr g_
 clear g_
 obtain ⟨x0, x1, xa, xn, xc, pa, pn, pc, qa, qn, qc, rfl⟩ := hX.cells
 have hX : NodeR w1 [.int .i64 x0, .int .i64 x1, .slice xa xn xc, .slice pa pn pc, .slice qa qn qc] (zT1 xs) := hX
 refine qZ 3 ?_
 refine stp (zA8 ?_)
 intro b2 w3 hb4 hc5 g6
 refine stn (qS hc5 ?_)
 intro w7 hc8 u9
 have g10 := g6.upd u9 hb4
 have hge11 := Nat.le_trans G.size hb4
 replace hX := hX.grow g10
 replace G := G.tr g10
 clear u9 g6 hb4 hc5
 refine qZ 6 ?_
 refine stp (zO7 rfl rfl ?_ ?_ ?_); omega; omega
 refine stp (zG0 rfl ?_ ?_); constructor <;> omega
 refine stp (zB5 rfl rfl ?_ ?_); constructor <;> omega
 refine stp ?_
 have hcal := zW0 _ hX (3 + k % 30)
 have hszp := G.size
 refine zD6 rfl hcal ?_
 rintro v_ w12 ⟨so_, segsp, rfl, hO_, g_⟩
 clear hcal
 replace hX := hX.grow g_
 replace hc8 := g_.heap hc8
 replace G := G.tr g_
 clear g_
 have hOp := hO_.lower hszp
 clear hO_
 obtain ⟨adp, cp, rfl, -⟩ := zS5 hOp.out
 refine qZ 6 ?_
 have hB0 := yR9 (xs := xs) hx hl k
 obtain ⟨B, hB⟩ : ∃ B, B = qH0 xs k := ⟨_, rfl⟩
 rw [← hB] at hB0
 refine qR9 (fun e_ w_ => ∃ (ado : Option Addr) (co : Nat) (segs : List Value), Fr [(1, .slice ae ys.length cq), (6, .slice none 0 0), (9, .slice ado B.length co)] e_ ∧ (OwnA 37 23 w_ w.heap.size (.slice ado B.length co) segs B) ∧ Grow w w_) ?_ ?_
 ·-- the parts
  refine qZ 3 ?_
  refine stp (zG1 rfl rfl ?_)
  refine zA6 ?_
  refine zA2 (b := (decide ((((zT1 xs).build (3 + k % 30)).2) ≠ 0))) rfl (fun h1 => ?_) (fun h1 => ?_)
  ·
   replace h1 := qT h1
   refine qZ 3 ?_
   refine stp ?_
   have hcal := zW0 _ hX 4096
   have hszq := G.size
   refine zD6 rfl hcal ?_
   rintro v_ w13 ⟨so_, segsq, rfl, hO_, g_⟩
   clear hcal
   replace hX := hX.grow g_
   replace hc8 := g_.heap hc8
   replace hOp := hOp.grow g_
   replace G := G.tr g_
   clear g_
   have hOq := hO_.lower hszq
   clear hO_
   obtain ⟨adq, cq, rfl, -⟩ := zS5 hOq.out
   refine qZ 10 ?_
   have hBe : B = ((zT1 xs).build 4096).1 := by rw [hB]; unfold qH0; rw [if_pos h1]
   exact ⟨adq, cq, segsq, zC3 ⟨rfl, rfl, by rw [hBe]; rfl, trivial⟩, (by rw [hBe]; exact hOq), G⟩
  ·
   replace h1 := qF h1
   refine zU9 ?_
   have hBe : B = ((zT1 xs).build (3 + k % 30)).1 := by rw [hB]; unfold qH0; rw [if_neg h1]
   exact ⟨adp, cp, segsp, zC3 ⟨rfl, rfl, by rw [hBe]; rfl, trivial⟩, (by rw [hBe]; exact hOp), G⟩
 ·-- behind them
  clear hX hc8 hOp
  clear G
  rintro e_ w14 ⟨ado, co, segs, ⟨e15, rfl⟩, hO, G⟩
  refine qZ 6 ?_
  refine zF2 (fun m_ e_ w_ => ∃ (m : Nat) (ado : Option Addr) (co : Nat) (segs : List Value) (A : List (List Int)), m_ = 12 - m ∧ Fr [(1, .slice ae ys.length cq), (6, .slice none 0 0), (13, .int .i64 (m : Int)), (9, .slice ado A.length co)] e_ ∧ (m ≤ 15) ∧ (BentA B A) ∧ (OwnA 37 23 w_ w.heap.size (.slice ado A.length co) segs A) ∧ Grow w w_) _ ⟨0, ado, co, segs, B, rfl, zC3 ⟨rfl, rfl, rfl, rfl, trivial⟩, by omega, .refl, hO, G⟩ ?_
  clear hO
  clear G
  rintro m_ e_ w16 ⟨m, ado, co, segs, A, rfl, ⟨e17, rfl⟩, hm15, hA, hO, G⟩
  refine qZ 4 ?_
  refine stp (zB5 rfl rfl ?_ ?_); constructor <;> omega
  refine qZ 2 ?_
  refine stp (zF1 rfl rfl ?_)
  refine qZ 1 ?_
  refine qG 1 ?_
  refine zA3 (zB0 (s := .bool _) (v := .bool (decide ((m : Int) < 12))) rfl (zE1 _) (fun hc19 => ?_) ?_)
  ·
   have hc19_ := qT hc19
   refine zF1 (gvt hc19) rfl ?_
   exact ⟨rfl, rfl⟩
  refine stp (zE8 rfl rfl rfl ?_)
  refine zA6 ?_
  refine zA2 (b := ((decide (((m : Int) + 3) < (ys.length : Int))) && (decide ((m : Int) < 12)))) rfl (fun hlt => ?_) (fun hlt => ?_)
  ·
   simp only [sb] at hlt
   have hd0 := qJ0 hy m
   have hd1 := qJ0 hy ((m : Int) + 1).toNat
   have hd2 := qJ0 hy ((m : Int) + 2).toNat
   have hd3 := qJ0 hy ((m : Int) + 3).toNat
   have hAl : A.length = B.length := (BentA.len hA).1
   obtain ⟨ado1, co1, sa, sc, hso, hco1, hco2, RO, hsf⟩ := hO.fn (by omega)
   simp only [Value.slice.injEq, true_and] at hso
   obtain ⟨rfl, rfl⟩ := hso
   obtain ⟨s, hsE⟩ : ∃ s : Nat, (s : Int) = ys.getD m 0 % (A.length : Int) := ⟨(ys.getD m 0 % (A.length : Int)).toNat, by have := Int.emod_nonneg (ys.getD m 0) (show (A.length : Int) ≠ 0 by omega); omega⟩
   have hsA : s < A.length := by have := Int.emod_lt_of_pos (ys.getD m 0) (show 0 < (A.length : Int) by omega); omega
   obtain ⟨hss, hos⟩ := hsf s hsA
   refine qZ 7 ?_
   refine stp (zD5 (R2.grow G) rfl rfl ?_ ?_); omega
   refine stp (zC6 (v := .int .u8 (ys.getD m 0)) (m := 0) (R2.grow G) rfl (zE4 0 (by omega)) ?_)
   refine stp (zG0 rfl ?_ ?_); constructor <;> omega
   refine qZ 2 ?_
   refine stp ?_
   refine zO7 rfl rfl ?_ ?_ ?_; omega; omega
   rw [← hsE]
   refine qZ 7 ?_
   refine stp (zD5 RO rfl rfl ?_ ?_); omega
   refine stp (zC6 (v := .slice (sa s) (len2 A s) (sc s)) (m := 0) RO rfl (by rw [Nat.mul_one]; exact hss) ?_)
   refine qZ 1 ?_
   refine stp (zC7 rfl rfl ?_)
   refine zA6 ?_
   refine zA2 (b := (decide (((len2 A s) : Int) = 0))) rfl (fun h3 => ?_) (fun h3 => ?_)
   ·
    replace h3 := qT h3
    refine qZ 3 ?_
    refine stp (zB5 rfl rfl ?_ ?_); constructor <;> omega
    refine qZ 2 ?_
    refine ⟨_, ?_, m + 4, ado, co, segs, A, rfl, zC3 ⟨rfl, rfl, congrArg (Value.int .i64) (by omega), rfl, trivial⟩, by omega, hA, hO, G⟩
    omega
   ·
    replace h3 := qF h3
    have hs0 : 0 < len2 A s := by omega
    obtain ⟨j, hjE⟩ : ∃ j : Nat, (j : Int) = (ys.getD ((m : Int) + 1).toNat 0) % (len2 A s : Int) := ⟨((ys.getD ((m : Int) + 1).toNat 0) % (len2 A s : Int)).toNat, by have := Int.emod_nonneg (ys.getD ((m : Int) + 1).toNat 0) (show (len2 A s : Int) ≠ 0 by omega); omega⟩
    have hjA : j < len2 A s := by have := Int.emod_lt_of_pos (ys.getD ((m : Int) + 1).toNat 0) (show 0 < (len2 A s : Int) by omega); omega
    refine qZ 2 ?_
    refine zN6 13 [[], [], [0], [2, 1, 0], [3, 2, 1, 0], [4, 3, 2, 1, 0], [], [], [1, 0], [2, 1, 0], [3, 2, 1, 0], [10, 9, 8, 7, 6, 5, 4, 3, 2, 1, 0], [11, 10, 9, 8, 7, 6, 5, 4, 3, 2, 1, 0]] mixed (by kernel_rfl) (by kernel_rfl) (by kernel_rfl) ?_
    intro w20 g21
    replace hO := hO.grow g21
    replace RO := RO.grow g21
    replace G := G.tr g21
    clear g21
    refine qA 2 ?_
    apply zC4
    ·intro w_ g_; refine og rfl ?_; refine zB5 rfl rfl ?_ ?_; constructor <;> omega; exact qX
    apply zC4
    ·intro w_ g_; refine og rfl ?_; refine zE7 (R2.grow (G.tr g_)) rfl rfl ?_ ?_ ?_; omega; omega; exact qX
    apply zC4
    ·intro w_ g_; exact og rfl (zC6 (v := .int .u8 (ys.getD (((m : Int) + 1).toNat) 0)) (m := 0) (R2.grow (G.tr g_)) rfl (zE4 0 (by omega)) qX)
    apply zC4
    ·intro w_ g_; refine og rfl ?_; refine zG0 rfl ?_ ?_; constructor <;> omega; exact qX
    refine qA 2 ?_
    apply zC4
    ·intro w_ g_; refine og rfl ?_; refine zD5 (RO.grow g_) rfl rfl ?_ ?_; omega; exact qX
    apply zC4
    ·intro w_ g_; refine og rfl ?_; refine zC6 (v := .slice (sa s) (len2 A s) (sc s)) (m := 0) (RO.grow g_) rfl (by rw [Nat.mul_one]; exact hss) ?_; exact qX
    refine qA 1 ?_
    apply zC4
    ·intro w_ g_; refine og rfl ?_; refine zO7 rfl rfl ?_ ?_ ?_; omega; omega; rw [← hjE]; exact qX
    refine qA 1 ?_
    refine zJ0 ?_
    intro w22 g23
    replace hO := hO.grow g23
    replace RO := RO.grow g23
    replace G := G.tr g23
    clear g23
    refine zA6 ?_
    have hsG := G.size
    obtain ⟨M, hM⟩ : ∃ M, M = w22.heap.size := ⟨_, rfl⟩
    have hMw : M ≤ w22.heap.size := by rw [hM]; exact Nat.le_refl _
    have hwM : w.heap.size ≤ M := by rw [hM]; exact hsG
    clear hM hsG
    obtain ⟨x, hxE⟩ : ∃ x, x = encR (qQ0 (ys.getD ((m : Int) + 2).toNat 0) (ys.getD ((m : Int) + 3).toNat 0) A.length) := ⟨_, rfl⟩
    obtain ⟨z, hzE⟩ : ∃ z, z = encE (qQ0 (ys.getD ((m : Int) + 2).toNat 0) (ys.getD ((m : Int) + 3).toNat 0) A.length) := ⟨_, rfl⟩
    refine qA7 ?_
    refine zN6 18 [[], [], [0], [2, 1, 0], [3, 2, 1, 0], [4, 3, 2, 1, 0], [5, 4, 3, 2, 1, 0], [6, 5, 4, 3, 2, 1, 0], [], [], [0], [2, 1, 0], [3, 2, 1, 0], [4, 3, 2, 1, 0], [5, 4, 3, 2, 1, 0], [6, 5, 4, 3, 2, 1, 0], [15, 14, 13, 12, 11, 10, 9, 8, 7, 6, 5, 4, 3, 2, 1, 0], []] mixed (by kernel_rfl) (by kernel_rfl) (by kernel_rfl) ?_
    intro w24 g25
    replace hO := hO.grow g25
    replace RO := RO.grow g25
    replace hMw := Nat.le_trans hMw g25.size
    replace G := G.tr g25
    clear g25
    refine qA 2 ?_
    apply zC4
    ·intro w_ g_; refine og rfl ?_; refine zB5 rfl rfl ?_ ?_; constructor <;> omega; exact qX
    apply zC4
    ·intro w_ g_; refine og rfl ?_; refine zE7 (R2.grow (G.tr g_)) rfl rfl ?_ ?_ ?_; omega; omega; exact qX
    apply zC4
    ·intro w_ g_; exact og rfl (zC6 (v := .int .u8 (ys.getD (((m : Int) + 2).toNat) 0)) (m := 0) (R2.grow (G.tr g_)) rfl (zE4 0 (by omega)) qX)
    apply zC4
    ·intro w_ g_; refine og rfl ?_; refine zO7 rfl rfl ?_ ?_ ?_; omega; omega; exact qX
    apply zC4
    ·intro w_ g_; refine og rfl ?_; refine zG0 rfl ?_ ?_; constructor <;> omega; exact qX
    apply zC4
    ·intro w_ g_; refine og rfl ?_; refine zB5 rfl rfl ?_ ?_; constructor <;> omega; exact qX
    refine qA 2 ?_
    apply zC4
    ·intro w_ g_; refine og rfl ?_; refine zB5 rfl rfl ?_ ?_; constructor <;> omega; exact qX
    apply zC4
    ·intro w_ g_; refine og rfl ?_; refine zE7 (R2.grow (G.tr g_)) rfl rfl ?_ ?_ ?_; omega; omega; exact qX
    apply zC4
    ·intro w_ g_; exact og rfl (zC6 (v := .int .u8 (ys.getD (((m : Int) + 3).toNat) 0)) (m := 0) (R2.grow (G.tr g_)) rfl (zE4 0 (by omega)) qX)
    apply zC4
    ·intro w_ g_; refine og rfl ?_; refine zO7 rfl rfl ?_ ?_ ?_; omega; omega; exact qX
    apply zC4
    ·intro w_ g_; refine og rfl ?_; refine zG0 rfl ?_ ?_; constructor <;> omega; exact qX
    apply zC4
    ·intro w_ g_; refine og rfl ?_; refine zM6 rfl rfl ?_ ?_; constructor <;> omega; exact qX
    apply zC4
    ·intro w_ g_; exact og rfl (zA7 (v := .agg #[.int .i64 (1 + ((ys.getD (((m : Int) + 2).toNat) 0) % 3)), .int .i64 (((ys.getD (((m : Int) + 3).toNat) 0) % 16) - 4), .int .i64 0, .int .i64 0, .int .i64 0, .int .i64 0, .int .i64 0, .bool false]) (fun w => by kernel_rfl) qX)
    refine qA8 (fun w_ v_ => ∃ b, v_ = .pointer (some ⟨b, 0, none⟩) ∧ M ≤ b ∧ w_.heap[b]? = some (.cells #[.int .i64 0, .int .i64 0, .int .i64 0, .int .i64 0, .int .i64 0, .int .i64 0, .int .i64 0, .bool false] 70 (0, 0))) (fun _ _ _ g_ ⟨b, h1_, h2_, h3_⟩ => ⟨b, h1_, h2_, g_.heap h3_⟩) ?_ ?_
    ·intro w_ g_
     refine og rfl ?_
     refine zA8 ?_
     intro b_ w2_ hb_ hc_ g2_
     exact ⟨g2_, b_, rfl, Nat.le_trans hMw (Nat.le_trans g_.size hb_), hc_⟩
    refine zJ0 ?_
    intro w26 g27
    replace hO := hO.grow g27
    replace RO := RO.grow g27
    replace hMw := Nat.le_trans hMw g27.size
    replace G := G.tr g27
    clear g27
    intro v_p hv_p
    obtain ⟨bp, rfl, hgP, hcP⟩ := hv_p
    have hgQ := Nat.le_trans hwM hgP
    refine stn (qS hcP ?_)
    intro w28 hc29 u30
    replace hO := hO.upd u30 hcP (by decide) (by decide)
    replace RO := (OwnA.rowat hO (by omega)).2
    replace hMw := Nat.le_trans hMw (Nat.le_of_eq u30.size.symm)
    replace G := G.upd u30 hgQ
    clear u30 hcP
    refine qZ 10 ?_
    refine stp (zC7 rfl rfl ?_)
    refine qZ 2 ?_
    refine zA2 (b := (decide ((1 + ((ys.getD (((m : Int) + 2).toNat) 0) % 3)) = 1))) rfl (fun h4 => ?_) (fun h4 => ?_)
    ·
     replace h4 := qT h4
     refine qZ 4 ?_
     refine stp (zB5 rfl rfl ?_ ?_); constructor <;> omega
     refine stp (zE7 (R2.grow G) rfl rfl ?_ ?_ ?_); omega; omega
     refine stp (zC6 (v := .int .u8 (ys.getD (((m : Int) + 2).toNat) 0)) (m := 0) (R2.grow G) rfl (zE4 0 (by omega)) ?_)
     refine stp (zO7 rfl rfl ?_ ?_ ?_); omega; omega
     refine stp (zG0 rfl ?_ ?_); constructor <;> omega
     refine qZ 1 ?_
     refine stn (zB9 (v := .int .i64 ((ys.getD (((m : Int) + 2).toNat) 0) % 4)) rfl rfl (by rfl) hc29 (by rfl) (by rfl) ?_)
     intro w31 hc32 u33
     replace hO := hO.upd u33 hc29 (by decide) (by decide)
     replace RO := (OwnA.rowat hO (by omega)).2
     replace hMw := Nat.le_trans hMw (Nat.le_of_eq u33.size.symm)
     replace G := G.upd u33 hgQ
     clear u33 hc29
     refine qZ 4 ?_
     refine stp (zB5 rfl rfl ?_ ?_); constructor <;> omega
     refine stp (zE7 (R2.grow G) rfl rfl ?_ ?_ ?_); omega; omega
     refine stp (zC6 (v := .int .u8 (ys.getD (((m : Int) + 2).toNat) 0)) (m := 0) (R2.grow G) rfl (zE4 0 (by omega)) ?_)
     refine stp (zY0 rfl rfl ?_ ?_ ?_ ?_); omega; omega; (constructor <;> omega)
     refine stp (zG0 rfl ?_ ?_); constructor <;> omega
     refine qZ 1 ?_
     refine stn (zB9 (v := .int .i64 ((ys.getD (((m : Int) + 2).toNat) 0) / 64)) rfl rfl (by rfl) hc32 (by rfl) (by rfl) ?_)
     intro w34 hc35 u36
     replace hO := hO.upd u36 hc32 (by decide) (by decide)
     replace RO := (OwnA.rowat hO (by omega)).2
     replace hMw := Nat.le_trans hMw (Nat.le_of_eq u36.size.symm)
     replace G := G.upd u36 hgQ
     clear u36 hc32
     refine qZ 4 ?_
     refine stp ?_
     have hP : (⟨1 + ((ys.getD (((m : Int) + 2).toNat) 0) % 3), ((ys.getD (((m : Int) + 3).toNat) 0) % 16) - 4, (ys.getD (((m : Int) + 2).toNat) 0) % 4, (ys.getD (((m : Int) + 2).toNat) 0) / 64, 0, 0, 0, false⟩ : Pt) = qQ0 (ys.getD ((m : Int) + 2).toNat 0) (ys.getD ((m : Int) + 3).toNat 0) A.length := by unfold qQ0; rw [if_pos (by omega)]; rw [show 1 + (ys.getD ((m : Int) + 2).toNat 0) % 3 = 1 from by omega]
     refine zA4 (v := .tuple #[.int .u64 x, .int .i64 z]) rfl (zJ5 (zK2 _ ⟨1 + ((ys.getD (((m : Int) + 2).toNat) 0) % 3), ((ys.getD (((m : Int) + 3).toNat) 0) % 16) - 4, (ys.getD (((m : Int) + 2).toNat) 0) % 4, (ys.getD (((m : Int) + 2).toNat) 0) / 64, 0, 0, 0, false⟩) (y := .tuple #[.int .u64 x, .int .i64 z]) (by rw [hP, ← hxE, ← hzE])) ?_
     intro w37 g38
     replace hO := hO.grow g38
     replace RO := RO.grow g38
     replace hMw := Nat.le_trans hMw g38.size
     replace hc35 := g38.heap hc35
     replace G := G.tr g38
     clear g38
     refine qZ 9 ?_
     refine stp (zD5 RO rfl rfl ?_ ?_); omega
     refine stp (zC6 (v := .slice (sa s) (len2 A s) (sc s)) (m := 0) RO rfl (by rw [Nat.mul_one]; exact hss) ?_)
     refine qZ 2 ?_
     refine stp ?_
     have hos9 := hO.seg s _ _ hss (List.getElem?_eq_getElem hsA)
     have hlen9 : len2 A s = A[s].length := by rw [len2, zE5 hsA]
     obtain ⟨g5, c5, cur5, he5, hg5b, hg5, hc51, hc52, hc53, hc54⟩ := zT7 hos9 (by omega)
     simp only [Value.slice.injEq] at he5
     obtain ⟨hsa, -, hsc⟩ := he5
     refine zH3 (b := g5) (o := 0) (n := len2 A s) (c := sc s) (i := (j : Int)) (show _ = _ from congrArg (fun a_ => Value.slice a_ (len2 A s) (sc s)) hsa) rfl (by omega) (by omega) ?_
     rw [Int.toNat_natCast, Nat.zero_add, Nat.mul_one]
     refine stn (zB9 (v := .int .u64 x) rfl rfl rfl hg5 (Nat.ble_eq_true_of_le (by omega)) rfl ?_)
     intro w7 hs6 u7
     rw [hsa, hlen9] at hss
     have hO7 := hO.setw (i := j) (x := x) (by decide) (List.getElem?_eq_getElem hsA) hss hg5 hs6 (by simp) u7
     replace G := G.upd u7 hg5b
     have hset : A.set s (A[s].set j x) = setP A s j x := by unfold setP; rw [zE5 hsA]
     rw [hset] at hO7
     refine qZ 3 ?_
     refine stp (zB5 rfl rfl ?_ ?_); constructor <;> omega
     refine qZ 2 ?_
     have hln := zE6 A s j x
     rw [show (Value.slice ado A.length co) = .slice ado (setP A s j x).length co from by rw [hln]] at hO7
     refine ⟨_, ?_, m + 4, ado, co, segs, setP A s j x, rfl, zC3 ⟨rfl, rfl, congrArg (Value.int .i64) (by omega), by rw [hln]; rfl, trivial⟩, by omega, by rw [hxE]; exact .put hA hsA hjA hd2.1 hd2.2 hd3.1 hd3.2, hO7, G⟩
     omega
    ·
     replace h4 := qF h4
     refine qZ 2 ?_
     refine stp (zC7 rfl rfl ?_)
     refine qZ 2 ?_
     refine zA2 (b := (decide ((1 + ((ys.getD (((m : Int) + 2).toNat) 0) % 3)) = 2))) rfl (fun h5 => ?_) (fun h5 => ?_)
     ·
      replace h5 := qT h5
      refine qZ 2 ?_
      refine stp (zC0 (cs := #[.int .i64 2, .int .i64 5, .int .i64 6, .int .i64 3]) (el := 3) (fun w => by kernel_rfl) ?_)
      intro bs39 w40 hb41 hc42 g43
      have hge44 := Nat.le_trans G.size hb41
      have ne45 := qN hc29 hb41
      replace hO := hO.grow g43
      replace RO := RO.grow g43
      replace hMw := Nat.le_trans hMw g43.size
      replace hc29 := g43.heap hc29
      replace G := G.tr g43
      clear g43
      refine qZ 2 ?_
      refine stp (zB5 rfl rfl ?_ ?_); constructor <;> omega
      refine stp (zE7 (R2.grow G) rfl rfl ?_ ?_ ?_); omega; omega
      refine stp (zC6 (v := .int .u8 (ys.getD (((m : Int) + 2).toNat) 0)) (m := 0) (R2.grow G) rfl (zE4 0 (by omega)) ?_)
      refine stp (zO7 rfl rfl ?_ ?_ ?_); omega; omega
      refine stp ?_
      have RL := Row.of_block (n := 4) (sz := 1) hc42 rfl rfl (by decide)
      obtain ⟨_, _, hr_, -, -, RL⟩ := RL
      cases hr_
      refine zE7 RL rfl rfl ?_ ?_ ?_; omega; omega
      refine stp (zC6 (v := .int .i64 (yJ6 ((ys.getD ((m : Int) + 2).toNat 0) % 4))) (m := 0) RL rfl (yX3 _ (by omega) (by omega)) ?_)
      refine qZ 1 ?_
      refine stn (zB9 (v := .int .i64 (yJ6 ((ys.getD ((m : Int) + 2).toNat 0) % 4))) rfl rfl (by rfl) hc29 (by rfl) (by rfl) ?_)
      intro w46 hc47 u48
      replace hO := hO.upd u48 hc29 (by decide) (by decide)
      replace RO := (OwnA.rowat hO (by omega)).2
      replace hMw := Nat.le_trans hMw (Nat.le_of_eq u48.size.symm)
      replace hc42 := u48.heap hc42 ne45.symm
      replace G := G.upd u48 hgQ
      clear u48 hc29
      refine qZ 4 ?_
      refine stp (zB5 rfl rfl ?_ ?_); constructor <;> omega
      refine stp (zE7 (R2.grow G) rfl rfl ?_ ?_ ?_); omega; omega
      refine stp (zC6 (v := .int .u8 (ys.getD (((m : Int) + 2).toNat) 0)) (m := 0) (R2.grow G) rfl (zE4 0 (by omega)) ?_)
      refine stp (zY0 rfl rfl ?_ ?_ ?_ ?_); omega; omega; (constructor <;> omega)
      refine stp (zG0 rfl ?_ ?_); constructor <;> omega
      refine qZ 1 ?_
      refine stn (zB9 (v := .int .i64 ((ys.getD (((m : Int) + 2).toNat) 0) / 16)) rfl rfl (by rfl) hc47 (by rfl) (by rfl) ?_)
      intro w49 hc50 u51
      replace hO := hO.upd u51 hc47 (by decide) (by decide)
      replace RO := (OwnA.rowat hO (by omega)).2
      replace hMw := Nat.le_trans hMw (Nat.le_of_eq u51.size.symm)
      replace hc42 := u51.heap hc42 ne45.symm
      replace G := G.upd u51 hgQ
      clear u51 hc47
      refine qZ 4 ?_
      refine stp ?_
      have hP : (⟨1 + ((ys.getD (((m : Int) + 2).toNat) 0) % 3), ((ys.getD (((m : Int) + 3).toNat) 0) % 16) - 4, 0, 0, yJ6 ((ys.getD ((m : Int) + 2).toNat 0) % 4), (ys.getD (((m : Int) + 2).toNat) 0) / 16, 0, false⟩ : Pt) = qQ0 (ys.getD ((m : Int) + 2).toNat 0) (ys.getD ((m : Int) + 3).toNat 0) A.length := by unfold qQ0; rw [if_neg (by omega), if_pos (by omega)]; rw [show 1 + (ys.getD ((m : Int) + 2).toNat 0) % 3 = 2 from by omega]
      refine zA4 (v := .tuple #[.int .u64 x, .int .i64 z]) rfl (zJ5 (zK2 _ ⟨1 + ((ys.getD (((m : Int) + 2).toNat) 0) % 3), ((ys.getD (((m : Int) + 3).toNat) 0) % 16) - 4, 0, 0, yJ6 ((ys.getD ((m : Int) + 2).toNat 0) % 4), (ys.getD (((m : Int) + 2).toNat) 0) / 16, 0, false⟩) (y := .tuple #[.int .u64 x, .int .i64 z]) (by rw [hP, ← hxE, ← hzE])) ?_
      intro w52 g53
      replace hO := hO.grow g53
      replace RO := RO.grow g53
      replace hMw := Nat.le_trans hMw g53.size
      replace hc42 := g53.heap hc42
      replace hc50 := g53.heap hc50
      replace G := G.tr g53
      clear g53
      refine qZ 9 ?_
      refine stp (zD5 RO rfl rfl ?_ ?_); omega
      refine stp (zC6 (v := .slice (sa s) (len2 A s) (sc s)) (m := 0) RO rfl (by rw [Nat.mul_one]; exact hss) ?_)
      refine qZ 2 ?_
      refine stp ?_
      have hos9 := hO.seg s _ _ hss (List.getElem?_eq_getElem hsA)
      have hlen9 : len2 A s = A[s].length := by rw [len2, zE5 hsA]
      obtain ⟨g5, c5, cur5, he5, hg5b, hg5, hc51, hc52, hc53, hc54⟩ := zT7 hos9 (by omega)
      simp only [Value.slice.injEq] at he5
      obtain ⟨hsa, -, hsc⟩ := he5
      refine zH3 (b := g5) (o := 0) (n := len2 A s) (c := sc s) (i := (j : Int)) (show _ = _ from congrArg (fun a_ => Value.slice a_ (len2 A s) (sc s)) hsa) rfl (by omega) (by omega) ?_
      rw [Int.toNat_natCast, Nat.zero_add, Nat.mul_one]
      refine stn (zB9 (v := .int .u64 x) rfl rfl rfl hg5 (Nat.ble_eq_true_of_le (by omega)) rfl ?_)
      intro w7 hs6 u7
      rw [hsa, hlen9] at hss
      have hO7 := hO.setw (i := j) (x := x) (by decide) (List.getElem?_eq_getElem hsA) hss hg5 hs6 (by simp) u7
      replace G := G.upd u7 hg5b
      have hset : A.set s (A[s].set j x) = setP A s j x := by unfold setP; rw [zE5 hsA]
      rw [hset] at hO7
      refine qZ 3 ?_
      refine stp (zB5 rfl rfl ?_ ?_); constructor <;> omega
      refine qZ 2 ?_
      have hln := zE6 A s j x
      rw [show (Value.slice ado A.length co) = .slice ado (setP A s j x).length co from by rw [hln]] at hO7
      refine ⟨_, ?_, m + 4, ado, co, segs, setP A s j x, rfl, zC3 ⟨rfl, rfl, congrArg (Value.int .i64) (by omega), by rw [hln]; rfl, trivial⟩, by omega, by rw [hxE]; exact .put hA hsA hjA hd2.1 hd2.2 hd3.1 hd3.2, hO7, G⟩
      omega
     ·
      replace h5 := qF h5
      refine qZ 4 ?_
      refine stp (zB5 rfl rfl ?_ ?_); constructor <;> omega
      refine stp (zE7 (R2.grow G) rfl rfl ?_ ?_ ?_); omega; omega
      refine stp (zC6 (v := .int .u8 (ys.getD (((m : Int) + 3).toNat) 0)) (m := 0) (R2.grow G) rfl (zE4 0 (by omega)) ?_)
      refine stp (zO7 rfl rfl ?_ ?_ ?_); omega; omega
      refine stp (zG0 rfl ?_ ?_); constructor <;> omega
      refine qZ 1 ?_
      refine stn (zB9 (v := .int .i64 ((ys.getD (((m : Int) + 3).toNat) 0) % 12)) rfl rfl (by rfl) hc29 (by rfl) (by rfl) ?_)
      intro w54 hc55 u56
      replace hO := hO.upd u56 hc29 (by decide) (by decide)
      replace RO := (OwnA.rowat hO (by omega)).2
      replace hMw := Nat.le_trans hMw (Nat.le_of_eq u56.size.symm)
      replace G := G.upd u56 hgQ
      clear u56 hc29
      refine qZ 5 ?_
      refine stp (zB5 rfl rfl ?_ ?_); constructor <;> omega
      refine stp (zE7 (R2.grow G) rfl rfl ?_ ?_ ?_); omega; omega
      refine stp (zC6 (v := .int .u8 (ys.getD (((m : Int) + 2).toNat) 0)) (m := 0) (R2.grow G) rfl (zE4 0 (by omega)) ?_)
      refine stp (zY0 rfl rfl ?_ ?_ ?_ ?_); omega; omega; (constructor <;> omega)
      refine stp (zG0 rfl ?_ ?_); constructor <;> omega
      refine qZ 2 ?_
      refine stp (zB5 rfl rfl ?_ ?_); constructor <;> omega
      refine stp (zO7 rfl rfl ?_ ?_ ?_); omega; omega
      refine qZ 1 ?_
      refine stn (zB9 (v := .int .i64 (((ys.getD (((m : Int) + 2).toNat) 0) / 3) % ((A.length : Int) + 1))) rfl rfl (by rfl) hc55 (by rfl) (by rfl) ?_)
      intro w57 hc58 u59
      replace hO := hO.upd u59 hc55 (by decide) (by decide)
      replace RO := (OwnA.rowat hO (by omega)).2
      replace hMw := Nat.le_trans hMw (Nat.le_of_eq u59.size.symm)
      replace G := G.upd u59 hgQ
      clear u59 hc55
      refine qZ 4 ?_
      refine stp (zB5 rfl rfl ?_ ?_); constructor <;> omega
      refine stp (zE7 (R2.grow G) rfl rfl ?_ ?_ ?_); omega; omega
      refine stp (zC6 (v := .int .u8 (ys.getD (((m : Int) + 2).toNat) 0)) (m := 0) (R2.grow G) rfl (zE4 0 (by omega)) ?_)
      refine stp (zO7 rfl rfl ?_ ?_ ?_); omega; omega
      refine stp (zC7 rfl rfl ?_)
      refine qZ 1 ?_
      refine stn (zB9 (v := .bool (decide (((ys.getD (((m : Int) + 2).toNat) 0) % 2) = 1))) rfl rfl (by rfl) hc58 (by rfl) (by rfl) ?_)
      intro w60 hc61 u62
      replace hO := hO.upd u62 hc58 (by decide) (by decide)
      replace RO := (OwnA.rowat hO (by omega)).2
      replace hMw := Nat.le_trans hMw (Nat.le_of_eq u62.size.symm)
      replace G := G.upd u62 hgQ
      clear u62 hc58
      refine qZ 4 ?_
      refine stp ?_
      have hP : (⟨1 + ((ys.getD (((m : Int) + 2).toNat) 0) % 3), (ys.getD (((m : Int) + 3).toNat) 0) % 12, 0, 0, 0, 0, ((ys.getD (((m : Int) + 2).toNat) 0) / 3) % ((A.length : Int) + 1), (decide (((ys.getD (((m : Int) + 2).toNat) 0) % 2) = 1))⟩ : Pt) = qQ0 (ys.getD ((m : Int) + 2).toNat 0) (ys.getD ((m : Int) + 3).toNat 0) A.length := by unfold qQ0; rw [if_neg (by omega), if_neg (by omega)]; rw [show 1 + (ys.getD ((m : Int) + 2).toNat 0) % 3 = 3 from by omega]
      refine zA4 (v := .tuple #[.int .u64 x, .int .i64 z]) rfl (zJ5 (zK2 _ ⟨1 + ((ys.getD (((m : Int) + 2).toNat) 0) % 3), (ys.getD (((m : Int) + 3).toNat) 0) % 12, 0, 0, 0, 0, ((ys.getD (((m : Int) + 2).toNat) 0) / 3) % ((A.length : Int) + 1), (decide (((ys.getD (((m : Int) + 2).toNat) 0) % 2) = 1))⟩) (y := .tuple #[.int .u64 x, .int .i64 z]) (by rw [hP, ← hxE, ← hzE])) ?_
      intro w63 g64
      replace hO := hO.grow g64
      replace RO := RO.grow g64
      replace hMw := Nat.le_trans hMw g64.size
      replace hc61 := g64.heap hc61
      replace G := G.tr g64
      clear g64
      refine qZ 9 ?_
      refine stp (zD5 RO rfl rfl ?_ ?_); omega
      refine stp (zC6 (v := .slice (sa s) (len2 A s) (sc s)) (m := 0) RO rfl (by rw [Nat.mul_one]; exact hss) ?_)
      refine qZ 2 ?_
      refine stp ?_
      have hos9 := hO.seg s _ _ hss (List.getElem?_eq_getElem hsA)
      have hlen9 : len2 A s = A[s].length := by rw [len2, zE5 hsA]
      obtain ⟨g5, c5, cur5, he5, hg5b, hg5, hc51, hc52, hc53, hc54⟩ := zT7 hos9 (by omega)
      simp only [Value.slice.injEq] at he5
      obtain ⟨hsa, -, hsc⟩ := he5
      refine zH3 (b := g5) (o := 0) (n := len2 A s) (c := sc s) (i := (j : Int)) (show _ = _ from congrArg (fun a_ => Value.slice a_ (len2 A s) (sc s)) hsa) rfl (by omega) (by omega) ?_
      rw [Int.toNat_natCast, Nat.zero_add, Nat.mul_one]
      refine stn (zB9 (v := .int .u64 x) rfl rfl rfl hg5 (Nat.ble_eq_true_of_le (by omega)) rfl ?_)
      intro w7 hs6 u7
      rw [hsa, hlen9] at hss
      have hO7 := hO.setw (i := j) (x := x) (by decide) (List.getElem?_eq_getElem hsA) hss hg5 hs6 (by simp) u7
      replace G := G.upd u7 hg5b
      have hset : A.set s (A[s].set j x) = setP A s j x := by unfold setP; rw [zE5 hsA]
      rw [hset] at hO7
      refine qZ 3 ?_
      refine stp (zB5 rfl rfl ?_ ?_); constructor <;> omega
      refine qZ 2 ?_
      have hln := zE6 A s j x
      rw [show (Value.slice ado A.length co) = .slice ado (setP A s j x).length co from by rw [hln]] at hO7
      refine ⟨_, ?_, m + 4, ado, co, segs, setP A s j x, rfl, zC3 ⟨rfl, rfl, congrArg (Value.int .i64) (by omega), by rw [hln]; rfl, trivial⟩, by omega, by rw [hxE]; exact .put hA hsA hjA hd2.1 hd2.2 hd3.1 hd3.2, hO7, G⟩
      omega
  ·
   simp only [sb] at hlt
   refine qZ 7 ?_
   refine ret1 (zA1 (v := .slice ado A.length co) rfl) ⟨ado, co, segs, A, rfl, hO, by rw [hB] at hA; exact hA, G⟩
end Go.Proofs.YtkkbbhpbcfcplaaGreat.K
namespace Go.Proofs.YtkkbbhpbcfcplaaGreat.K
open Go Go.RowKit
mutual
def Nd.paths : Nd → List Int → List (List Int × Int)
  | .mk k s w b ks, pre => (List.range (1 + w.length + b.length)).map (fun (i : Nat) => (pre, (i : Int) - 1)) ++ Nd.pathsL ks pre 0
def Nd.pathsL : List Nd → List Int → Nat → List (List Int × Int)
  | [], _, _ => []
  | t :: ts, pre, j => t.paths (pre ++ [(j : Int)]) ++ Nd.pathsL ts pre (j + 1)
end
mutual
def Nd.dep : Nd → Nat
  | .mk _ _ _ _ ks => 1 + Nd.depL ks
def Nd.depL : List Nd → Nat
  | [] => 0
  | t :: ts => max t.dep (Nd.depL ts)
end
theorem Nd.depL_at : ∀ (ts : List Nd) (i : Nat) (h : i < ts.length), ts[i].dep ≤ Nd.depL ts
  | [], i, h => by simp at h
  | t :: ts, 0, _ => by rw [Nd.depL]; exact Nat.le_max_left _ _
  | t :: ts, i + 1, h => by
    have := Nd.depL_at ts i (by simpa using h)
    rw [Nd.depL]
    exact Nat.le_trans this (Nat.le_max_right _ _)
theorem zW6 : ∀ (ts : List Nd) (pre : List Int) (j0 k : Nat) (h : k < ts.length), Nd.pathsL ts pre j0 = Nd.pathsL (ts.take k) pre j0 ++ (ts[k].paths (pre ++ [((j0 + k : Nat) : Int)]) ++ Nd.pathsL (ts.drop (k + 1)) pre (j0 + k + 1))
  | [], _, _, _, h => by simp at h
  | t :: ts, pre, j0, 0, _ => by simp [Nd.pathsL]
  | t :: ts, pre, j0, k + 1, h => by
    have ih := zW6 ts pre (j0 + 1) k (by simpa using h)
    rw [Nd.pathsL, ih, List.take_succ_cons, Nd.pathsL, List.append_assoc, List.getElem_cons_succ, List.drop_succ_cons, show j0 + 1 + k = j0 + (k + 1) from by omega]
theorem yC5 (ts : List Nd) (pre : List Int) (k : Nat) (h : k < ts.length) : (Nd.pathsL (ts.take (k + 1)) pre 0).length = (Nd.pathsL (ts.take k) pre 0).length + (ts[k].paths (pre ++ [(k : Int)])).length := by
  have h1 := zW6 (ts.take (k + 1)) pre 0 k (by simp; omega)
  rw [h1]
  simp [List.take_take, List.getElem_take, Nd.pathsL, Nat.min_eq_left]
def own1 (w b : List Int) : Nat := 1 + w.length + b.length
theorem qO0 {k s : Int} {w b : List Int} {ks : List Nd} {pre : List Int} {i : Nat} (h : i < own1 w b) : ((Nd.mk k s w b ks).paths pre)[i]? = some (pre, (i : Int) - 1) := by
  unfold own1 at h
  rw [Nd.paths, List.getElem?_append_left (by simpa using h), List.getElem?_map, List.getElem?_range h]
  rfl
theorem yT6 {k s : Int} {w b : List Int} {ks : List Nd} {pre : List Int} {j : Nat} (hj : j < ks.length) {i : Nat} (h : i < (ks[j].paths (pre ++ [(j : Int)])).length) : ((Nd.mk k s w b ks).paths pre)[own1 w b + (Nd.pathsL (ks.take j) pre 0).length + i]? = (ks[j].paths (pre ++ [(j : Int)]))[i]? := by
  have h1 := zW6 ks pre 0 j hj
  unfold own1
  rw [Nd.paths, List.getElem?_append_right (by simp; omega), h1, List.getElem?_append_right (by simp; omega), Nat.zero_add, List.getElem?_append_left (by simp; omega)]
  congr 1
  simp
  omega
theorem qW9 (k s : Int) (w b : List Int) (ks : List Nd) (pre : List Int) : ((Nd.mk k s w b ks).paths pre).length = own1 w b + (Nd.pathsL ks pre 0).length := by
  rw [Nd.paths, List.length_append, List.length_map, List.length_range]
  rfl
inductive PathsR (w : World) : List Value → List (List Int × Int) → Prop
  | nil : PathsR w [] []
  | cons {ad : Option Addr} {c : Nat} {p : List Int × Int} {cs : List Value} {L : List (List Int × Int)} (h : RowAt w 1 ad p.1.length (p.1.map (.int .i64))) (hc : p.1.length ≤ c) (hc2 : c ≤ maxLen) (r : PathsR w cs L) : PathsR w (.slice ad p.1.length c :: .int .i64 p.2 :: cs) (p :: L)
theorem PathsR.sees {w w' : World} (g : Sees w w') : ∀ {cs : List Value} {L : List (List Int × Int)}, PathsR w cs L → PathsR w' cs L
  | _, _, .nil => .nil
  | _, _, .cons h hc hc2 r => .cons (h.sees g) hc hc2 (PathsR.sees g r)
theorem PathsR.snoc {w : World} {ad : Option Addr} {c : Nat} {p : List Int × Int} (h : RowAt w 1 ad p.1.length (p.1.map (.int .i64))) (hc : p.1.length ≤ c) (hc2 : c ≤ maxLen) : ∀ {cs : List Value} {L : List (List Int × Int)}, PathsR w cs L → PathsR w (cs ++ [.slice ad p.1.length c, .int .i64 p.2]) (L ++ [p])
  | _, _, .nil => .cons h hc hc2 .nil
  | _, _, .cons h' hc' hc2' r => .cons h' hc' hc2' (PathsR.snoc h hc hc2 r)
theorem PathsR.len {w : World} : ∀ {cs : List Value} {L : List (List Int × Int)}, PathsR w cs L → cs.length = L.length * 2
  | _, _, .nil => rfl
  | _, _, .cons h hc hc2 r => by have := PathsR.len r; simp only [List.length_cons]; omega
theorem PathsR.at_ {w : World} : ∀ {cs : List Value} {L : List (List Int × Int)} (i : Nat) (p : List Int × Int), PathsR w cs L → L[i]? = some p → ∃ ad c, (cs.drop (i * 2)).take 2 = [.slice ad p.1.length c, .int .i64 p.2] ∧ p.1.length ≤ c ∧ c ≤ maxLen ∧ RowAt w 1 ad p.1.length (p.1.map (.int .i64))
  | _, _, i, p, .nil, h => by simp at h
  | _, _, 0, p, .cons h hc hc2 r, h1 => by
    simp only [List.getElem?_cons_zero, Option.some.injEq] at h1
    subst h1
    exact ⟨_, _, by simp, hc, hc2, h⟩
  | _, _, i + 1, p, .cons h hc hc2 r, h1 => by
    simp only [List.getElem?_cons_succ] at h1
    obtain ⟨ad, c, h2, h3⟩ := PathsR.at_ i p r h1
    refine ⟨ad, c, ?_, h3⟩
    rw [show (i + 1) * 2 = i * 2 + 1 + 1 from by omega, List.drop_succ_cons, List.drop_succ_cons]
    exact h2
theorem NodeR.kidsrow {w : World} {y0 y1 : Int} {ya za ua : Option Addr} {yn yc zn zc un uc : Nat} {k s : Int} {ws bs : List Int} {ks : List Nd} (h : NodeR w [.int .i64 y0, .int .i64 y1, .slice ya yn yc, .slice za zn zc, .slice ua un uc] (.mk k s ws bs ks)) : ∃ kc, RowAt w 5 ua un kc ∧ KidsR w kc ks := by
  generalize hc : [Value.int .i64 y0, .int .i64 y1, .slice ya yn yc, .slice za zn zc, .slice ua un uc] = c at h
  obtain @⟨kind, size, words, bytes, kids, ws, bs, ks, kc, hk, hs, hW, hwr, hB, hbr, hK, hKs⟩ := h
  obtain ⟨aw, cw, rfl, -, -, h1⟩ := hW
  obtain ⟨ab, cb, rfl, -, -, h2⟩ := hB
  obtain ⟨ak, ck, rfl, -, -, h3⟩ := hK
  simp only [List.cons.injEq, Value.int.injEq, Value.slice.injEq, true_and, and_true] at hc
  obtain ⟨rfl, rfl, ⟨rfl, rfl, -⟩, ⟨rfl, rfl, -⟩, rfl, rfl, -⟩ := hc
  exact ⟨kc, h3, hKs⟩
theorem yG6 {k s : Int} {w b : List Int} {ks : List Nd} {j : Nat} (hj : j < ks.length) : ks[j].dep + 1 ≤ (Nd.mk k s w b ks).dep := by
  have := Nd.depL_at ks j hj
  rw [Nd.dep]; omega
theorem qF2 : ∀ {ks : List Nd} {pre : List Int} {j0 : Nat} {p : List Int × Int}, p ∈ Nd.pathsL ks pre j0 → ∃ (k : Nat) (h : k < ks.length), p ∈ ks[k].paths (pre ++ [((j0 + k : Nat) : Int)])
  | [], pre, j0, p, h => by simp [Nd.pathsL] at h
  | t :: ts, pre, j0, p, h => by
    rw [Nd.pathsL, List.mem_append] at h
    rcases h with h | h
    · exact ⟨0, by simp, by simpa using h⟩
    · obtain ⟨k, hk, h2⟩ := qF2 h
      refine ⟨k + 1, by simpa using hk, ?_⟩
      rw [show j0 + 1 + k = j0 + (k + 1) from by omega] at h2
      simpa using h2
theorem qK8 {k s : Int} {w b : List Int} {ks : List Nd} {pre : List Int} {p : List Int × Int} (h : p ∈ (Nd.mk k s w b ks).paths pre) : (p.1 = pre ∧ -1 ≤ p.2 ∧ p.2 < (w.length : Int) + b.length) ∨ ∃ (j : Nat) (hj : j < ks.length), p ∈ ks[j].paths (pre ++ [(j : Int)]) := by
  rw [Nd.paths, List.mem_append, List.mem_map] at h
  rcases h with ⟨i, hi, rfl⟩ | h
  · rw [List.mem_range] at hi
    exact .inl ⟨rfl, by simp only []; omega, by simp only []; omega⟩
  · obtain ⟨j, hj, h2⟩ := qF2 h
    exact .inr ⟨j, hj, by simpa using h2⟩
theorem yZ4 {k s : Int} {w b : List Int} {ks : List Nd} (ho : (Nd.mk k s w b ks).own = true) {j : Nat} (hj : j < ks.length) : zJ4 (.mk k s w b ks) (j : Int) = (ks[j], 0) := by
  have hk : ¬ k = 0 := fun h => by have := qC1 ho (by omega); rw [this] at hj; simp at hj
  have hg : ks.getD ((j : Int)).toNat .nil = ks[j] := by rw [Int.toNat_natCast]; exact zE5 hj
  cases own2 ho hk 0 0 with
  | st h1 h2 h3 h4 h5 h6 => rw [qH6, if_neg (by omega), if_pos (by omega), hg]
  | bt h1 h2 h3 h4 h5 h6 h7 => rw [h4] at hj; simp at hj
  | wd h1 h2 h3 h4 h5 h6 h7 => rw [h4] at hj; simp at hj
  | pt h1 h2 h3 h4 h5 h6 h7 => rw [qH6, if_neg (by omega), if_pos (by omega), hg]
theorem jE6 {k s : Int} {w b : List Int} {ks : List Nd} (ho : (Nd.mk k s w b ks).own = true) {a : Int} (h0 : 0 ≤ a) (h1 : a < (w.length : Int) + b.length) : (tat (.mk k s w b ks) a).2 = 0 := by
  have hk : ¬ k = 0 := fun h => by
    simp only [Nd.own, if_pos h, Bool.and_eq_true, decide_eq_true_eq] at ho
    omega
  cases own2 ho hk 0 0 with
  | st g1 g2 g3 g4 g5 g6 => subst g3; simp at h1; rw [qC7, if_neg (by omega), if_pos (by omega)]
  | bt g1 g2 g3 g4 g5 g6 g7 => subst g3; simp at h1; rw [qC7, if_neg (by omega), if_neg (by simp; omega), if_pos (by omega)]
  | wd g1 g2 g3 g4 g5 g6 g7 => subst g3; simp at h1; rw [qC7, if_neg (by omega), if_pos (by omega)]
  | pt g1 g2 g3 g4 g5 g6 g7 => subst g3; subst g4; simp at h1; omega
mutual
theorem qQ9 : ∀ (t : Nd) (l : Nat) (pre : List Int) (p : List Int × Int), t.right l = true → p ∈ t.paths pre → ∃ r u, p.1 = pre ++ r ∧ (∀ x ∈ r, 0 ≤ x) ∧ r.length < t.dep ∧ tgo r t = (u, 0) ∧ u.own = true ∧ -1 ≤ p.2 ∧ p.2 < (u.words.length : Int) + u.bytes.length
  | .mk k s w b ks, l, pre, p, hr, h => by
    have hf := Nd.fine_own ⟨l, hr⟩
    simp only [Nd.right, Bool.and_eq_true] at hr
    rcases qK8 h with ⟨h1, h2, h3⟩ | ⟨j, hj, h1⟩
    · exact ⟨[], _, by simpa using h1, by simp, by rw [Nd.dep]; simp; omega, rfl, hf, h2, h3⟩
    · obtain ⟨r, u, g1, g2, g3, g4, g5, g6, g7⟩ := qX0 ks (l - 1) j hj (pre ++ [(j : Int)]) p hr.2 h1
      have hd := yG6 (k := k) (s := s) (w := w) (b := b) hj
      refine ⟨(j : Int) :: r, u, by rw [g1, List.append_assoc]; rfl, fun x hx => ?_, by rw [List.length_cons]; omega, ?_, g5, g6, g7⟩
      · rcases List.mem_cons.1 hx with rfl | hx
        · omega
        · exact g2 x hx
      · rw [tgo, yZ4 hf hj, if_neg (by simp)]
        exact g4
theorem qX0 : ∀ (ks : List Nd) (l j : Nat) (hj : j < ks.length) (pre : List Int) (p : List Int × Int), Nd.rights ks l = true → p ∈ ks[j].paths pre → ∃ r u, p.1 = pre ++ r ∧ (∀ x ∈ r, 0 ≤ x) ∧ r.length < ks[j].dep ∧ tgo r ks[j] = (u, 0) ∧ u.own = true ∧ -1 ≤ p.2 ∧ p.2 < (u.words.length : Int) + u.bytes.length
  | [], l, j, hj, _, _, _, _ => by simp at hj
  | t :: ts, l, 0, hj, pre, p, hr, h => by
    simp only [Nd.rights, Bool.and_eq_true] at hr
    exact qQ9 t l pre p hr.1 h
  | t :: ts, l, j + 1, hj, pre, p, hr, h => by
    simp only [Nd.rights, Bool.and_eq_true] at hr
    exact qX0 ts l j (by simpa using hj) pre p hr.2 h
end
theorem yC6 (t : Nd) (m : Nat) : 1 ≤ ((t.paths []).take (m + 1)).length := by
  obtain ⟨k, s, w, b, ks⟩ := t
  rw [List.length_take, qW9]
  unfold own1
  omega
mutual
theorem qK9 {w : World} : ∀ (t : Nd) (c : List Value), NodeR w c t → ∀ pre, ∀ p ∈ t.paths pre, p.2 ≤ 1000000000000000
  | .mk k s ws bs ks, c, h, pre, p, hp => by
    obtain @⟨kind, size, words, bytes, kids, wv, bv, kv, kc, hk, hs, hW, hwr, hB, hbr, hK, hKs⟩ := h
    obtain ⟨aw, cw, -, -, -, h1⟩ := hW
    obtain ⟨ab, cb, -, -, -, h2⟩ := hB
    have h1 := h1.lim
    have h2 := h2.lim
    rcases qK8 hp with ⟨-, -, h3⟩ | ⟨j, hj, h3⟩
    · omega
    · exact qG6 ks kc hKs j hj _ p h3
theorem qG6 {w : World} : ∀ (ks : List Nd) (c : List Value), KidsR w c ks → ∀ (j : Nat) (hj : j < ks.length) (pre : List Int), ∀ p ∈ ks[j].paths pre, p.2 ≤ 1000000000000000
  | [], c, h, j, hj, _, _, _ => by simp at hj
  | t :: ts, c, h, 0, hj, pre, p, hp => by
    cases h with
    | cons h1 h2 => exact qK9 t _ h1 pre p hp
  | t :: ts, c, h, j + 1, hj, pre, p, hp => by
    cases h with
    | cons h1 h2 => exact qG6 ts _ h2 j (by simpa using hj) pre p hp
end
theorem yK9 {w : World} {c : List Value} {t : Nd} (h : NodeR w c t) {p : List Int × Int} (hp : p ∈ t.paths []) (h1 : -1 ≤ p.2) : inR .i64 p.2 := by
  have := qK9 t c h [] p hp
  simp only [inR]; omega
def zeroC : List Value := [.int .i64 0, .int .i64 0, .slice none 0 0, .slice none 0 0, .slice none 0 0]
def qL0 (kc : List Value) (t : Nd) (k : Int) : List Value :=
  if (t.kind ≠ 0 ∧ t.kind ≠ 1) ∧ t.size ≠ 6 then zeroC else if t.kind ≠ 0 ∧ k < t.kids.length then (kc.drop (k.toNat * 5)).take 5 else zeroC
theorem yL0 {w : World} {kc : List Value} {t : Nd} {k : Int} (h : KidsR w kc t.kids) (k0 : 0 ≤ k) : NodeR w (qL0 kc t k) (zJ4 t k).1 := by
  unfold qL0 zJ4
  by_cases h1 : (t.kind ≠ 0 ∧ t.kind ≠ 1) ∧ t.size ≠ 6
  · rw [if_pos h1, if_pos h1]; exact NodeR.zero _
  · rw [if_neg h1, if_neg h1]
    by_cases h2 : t.kind ≠ 0 ∧ k < t.kids.length
    · rw [if_pos h2, if_pos h2]
      have hk : k.toNat < t.kids.length := by omega
      have := KidsR.at_ k.toNat t.kids[k.toNat] h (List.getElem?_eq_getElem hk)
      rw [← zE5 (dflt := Nd.nil) hk] at this
      exact this
    · rw [if_neg h2, if_neg h2]
      split <;> exact NodeR.zero _
/-! ### paths behind a step -/
def yC7 (pre : List Int) (p : List Int × Int) : List Int × Int := (pre ++ p.1, p.2)
mutual
theorem qG7 : ∀ (t : Nd) (pre q : List Int), t.paths (pre ++ q) = (t.paths q).map (yC7 pre)
  | .mk k s w b ks, pre, q => by
    rw [Nd.paths, Nd.paths, List.map_append, List.map_map, qD6 ks pre q 0]
    rfl
theorem qD6 : ∀ (ks : List Nd) (pre q : List Int) (j : Nat), Nd.pathsL ks (pre ++ q) j = (Nd.pathsL ks q j).map (yC7 pre)
  | [], _, _, _ => rfl
  | t :: ts, pre, q, j => by
    rw [Nd.pathsL, Nd.pathsL, List.map_append, qD6 ts pre q (j + 1), List.append_assoc, qG7 t pre (q ++ [(j : Int)])]
end
theorem zX9 (t : Nd) (j : Int) : t.paths [j] = (t.paths []).map (yC7 [j]) := qG7 t [j] []
theorem NodeR.kidsrow2 {w : World} {y0 y1 : Int} {ya za ua : Option Addr} {yn yc zn zc un uc : Nat} {u : Nd} (h : NodeR w [.int .i64 y0, .int .i64 y1, .slice ya yn yc, .slice za zn zc, .slice ua un uc] u) : ∃ kc, RowAt w 5 ua un kc ∧ KidsR w kc u.kids := by
  cases u with
  | mk k s ws bs ks => exact h.kidsrow
mutual
theorem qL1 : ∀ (t : Nd) (l : Nat), t.right l = true → t.dep ≤ l + 1
  | .mk k s w b ks, l, h => by
    simp only [Nd.right, Bool.and_eq_true, Bool.not_eq_true', Bool.and_eq_false_iff, decide_eq_false_iff_not] at h
    obtain ⟨⟨h1, h2⟩, h3⟩ := h
    rw [Nd.dep]
    by_cases hk : k = 0
    · have hks : ks = [] := qC1 h1 (by omega)
      subst hks
      simp [Nd.depL]
    · have := qO1 ks (l - 1) h3
      omega
theorem qO1 : ∀ (ts : List Nd) (l : Nat), Nd.rights ts l = true → Nd.depL ts ≤ l + 1
  | [], l, h => by simp [Nd.depL]
  | t :: ts, l, h => by
    simp only [Nd.rights, Bool.and_eq_true] at h
    have h1 := qL1 t l h.1
    have h2 := qO1 ts l h.2
    rw [Nd.depL]
    exact Nat.max_le.2 ⟨h1, h2⟩
end
theorem yL1 {t : Nd} {p : List Int × Int} (hr : t.right 32 = true) (h : p ∈ t.paths []) : (askT t p.1 p.2).2 = 0 ∧ (∀ x ∈ p.1, 0 ≤ x) ∧ p.1.length ≤ 32 := by
  obtain ⟨r, u, g1, g2, g3, g4, g5, g6, g7⟩ := qQ9 t 32 [] p hr h
  have hd := qL1 t 32 hr
  rw [List.nil_append] at g1
  have ha : askT t p.1 p.2 = tval u p.2 := by
    unfold askT
    rw [g1, if_neg (fun ⟨x, hx, hlt⟩ => by have := g2 x hx; omega), if_neg (by omega), g4, if_neg (by simp)]
  refine ⟨?_, by rw [g1]; exact g2, by rw [g1]; omega⟩
  rw [ha]
  unfold tval
  by_cases h0 : p.2 < 0
  · rw [if_pos h0]
  · have hw : (tat u p.2).2 = 0 := by
      obtain ⟨k, s, w, b, ks⟩ := u
      exact jE6 g5 (by omega) g7
    rw [if_neg h0, if_neg (by rw [hw]; simp)]
theorem yZ5 {t : Nd} {p : List Int × Int} {l : Nat} (hr : t.right l = true) (h : p ∈ t.paths []) : -1 ≤ p.2 := by
  obtain ⟨r, u, -, -, -, -, -, g6, -⟩ := qQ9 t l [] p hr h
  exact g6
mutual
/-- A path of a tree costs no more than all of it. -/
theorem yG7 : ∀ (t : Nd) (l : Nat), t.right l = true → ∀ p ∈ t.paths [], 1 + t.need + pcT p.1 t ≤ t.cst
  | .mk k s w b ks, l, h, p, hp => by
    have hn := Nd.cstL_nn ks
    rw [Nd.cst]
    rcases qK8 hp with ⟨h1, -, -⟩ | ⟨j, hj, h1⟩
    · rw [h1, pcT]; omega
    · simp only [Nd.right, Bool.and_eq_true] at h
      rw [List.nil_append, zX9] at h1
      obtain ⟨p', h2, rfl⟩ := List.mem_map.1 h1
      have hk := qX1 ks (l - 1) h.2 j hj p' h2
      show _ + pcT ((j : Int) :: p'.1) _ ≤ _
      rw [pcT]
      split
      · omega
      · rename_i he
        have hk0 : k ≠ 0 := fun h0 => by
          have hks : ks = [] := qC1 h.1.1 (by omega)
          subst hks; simp at hj
        have hst : (zJ4 (.mk k s w b ks) (j : Int)).1 = ks[j] := by
          rw [qH6] at he ⊢
          by_cases h5 : (k ≠ 0 ∧ k ≠ 1) ∧ s ≠ 6
          · rw [if_pos h5] at he; exact absurd (show (23 : Int) ≠ 0 by decide) he
          · rw [if_neg h5, if_pos ⟨hk0, by omega⟩, Int.toNat_natCast, List.getD_eq_getElem?_getD, List.getElem?_eq_getElem hj]; rfl
        rw [hst]; omega
theorem qX1 : ∀ (ks : List Nd) (l : Nat), Nd.rights ks l = true → ∀ (j : Nat) (hj : j < ks.length), ∀ p ∈ ks[j].paths [], 1 + ks[j].need + pcT p.1 ks[j] ≤ Nd.cstL ks
  | [], l, _, j, hj => by simp at hj
  | t :: ts, l, h, 0, hj => fun p hp => by
    simp only [Nd.rights, Bool.and_eq_true] at h
    have := yG7 t l h.1 p hp
    have := Nd.cstL_nn ts
    rw [Nd.cstL]; simp only [List.getElem_cons_zero] at *; omega
  | t :: ts, l, h, j + 1, hj => fun p hp => by
    simp only [Nd.rights, Bool.and_eq_true] at h
    have := qX1 ts l h.2 j (by simpa using hj) p (by simpa using hp)
    have := Nd.cst_pos t
    rw [Nd.cstL]; simp only [List.getElem_cons_succ] at *; omega
end
theorem yC8 {A : List (List Int)} (hx : AllU A) (hd : (decT A).2 = 0) (hR : (decT A).1.right 32 = true) {p : List Int × Int} (hp : p ∈ (decT A).1.paths []) :
    zF9 (zB7 A) p.1 p.2 8192 = askT (decT A).1 p.1 p.2 ∧ (askT (decT A).1 p.1 p.2).2 = 0 ∧ (∀ x ∈ p.1, 0 ≤ x) ∧ p.1.length ≤ 32 := by
  have hr : zD1 A = true := by
    unfold decT at hd
    by_cases h : zD1 A = false
    · rw [if_pos h] at hd; exact absurd hd (by decide)
    · simpa using h
  obtain ⟨hlen, hl2⟩ := zN1 hr
  have hRg := qV8 hlen hl2 hx
  obtain ⟨-, e0, hD, hc⟩ := yY5 hRg hd
  have hq := yG7 (decT A).1 32 hR p hp
  obtain ⟨g1, g2, g3⟩ := yL1 hR hp
  exact ⟨yY4 hRg (yK0 A) e0 hD (by omega), g1, g2, g3⟩
/-! ### the front of a path -/
def stepO (s : Src) (o : Ob) (k : Int) : Ob × Int := (if (zF8 s o k).2 ≠ 0 then Ob0 else (zF8 s o k).1, (zF8 s o k).2)
theorem qL2 {s : Src} {p : Pt} {seg a : Int} (h : (zB6 s p seg a).2 ≠ 0) : (zB6 s p seg a).1 = Ob0 := by
  revert h; unfold zB6; (repeat' split) <;> simp
theorem yL2 {s : Src} {seg a : Int} (h : (zA0 s seg a).2 ≠ 0) : (zA0 s seg a).1 = Ob0 := by
  revert h; unfold zA0
  split
  · intro _; rfl
  · split
    · exact qL2
    · split
      · unfold zE0
        (repeat' split) <;> first | exact qL2 | (intro _; rfl)
      · unfold zD3
        (repeat' split) <;> first | exact qL2 | (intro _; rfl)
theorem yZ6 (s : Src) (seg a : Int) : ((if (zA0 s seg a).2 ≠ 0 then Ob0 else (zA0 s seg a).1), (zA0 s seg a).2) = zA0 s seg a := by
  split
  · rename_i h; exact Prod.ext (yL2 h).symm rfl
  · rfl
theorem yT7 {s : Src} {o : Ob} {k seg a : Int} (h : zF8 s o k = zA0 s seg a) : stepO s o k = zA0 s seg a := by unfold stepO; rw [h]; exact yZ6 s seg a
theorem qR0 {s : Src} {o x : Ob} {k e : Int} (h : zF8 s o k = (x, e)) (he : e ≠ 0 ∨ x = Ob0) : stepO s o k = (Ob0, e) := by
  unfold stepO; rw [h]
  rcases he with he | he
  · rw [if_pos he]
  · subst he; split <;> rfl
theorem SrcR.stepO_range {P : Program} {fw : FuncId} {w : World} {ua uh : Value} {b : Bool} {A : List (List Int)} {s : Src} (H : SrcR P fw w ua b uh A s) (o : Ob) (k : Int) : ObR (stepO s o k).1 := by
  unfold stepO
  split
  · exact zD4
  · rename_i h
    revert h
    unfold zF8
    (repeat' split) <;> first | (intro _; exact zD4) | (intro h; simp at h; done) | (intro _; exact H.follow_range _ _)
def qL8 (s : Src) (steps : List Int) (a cost : Int) (i : Nat) (o : Ob) (e paid : Int) : Vl × Int :=
  if e ≠ 0 then (Vl0, e) else if paid + (1 + zB2 o) > cost then (Vl0, 22) else zZ4 s a (steps.drop i) o (cost - (paid + (1 + zB2 o)))
theorem yT8 {s : Src} {steps : List Int} {a cost : Int} {i : Nat} {o : Ob} {paid : Int} (hi : i < steps.length) (h : ¬ paid + (1 + zB2 o) > cost) :
    qL8 s steps a cost i o 0 paid = qL8 s steps a cost (i + 1) (stepO s o (steps.getD i 0)).1 (stepO s o (steps.getD i 0)).2 (paid + (1 + zB2 o)) := by
  unfold qL8
  rw [if_neg (by simp), if_neg h, show steps.drop i = steps.getD i 0 :: steps.drop (i + 1) from by rw [List.drop_eq_getElem_cons hi, zE5 hi], zZ4]
  unfold stepO
  by_cases he : (zF8 s o (steps.getD i 0)).2 ≠ 0
  · rw [if_pos he, if_pos he]
  · rw [if_neg he, if_neg he]
    simp only [if_neg he]
    by_cases hc : cost - (paid + (1 + zB2 o)) - (1 + zB2 (zF8 s o (steps.getD i 0)).1) < 0
    · rw [if_pos hc, if_pos (by omega)]
    · rw [if_neg hc, if_neg (by omega), show cost - (paid + (1 + zB2 o)) - (1 + zB2 (zF8 s o (steps.getD i 0)).1) = cost - (paid + (1 + zB2 o) + (1 + zB2 (zF8 s o (steps.getD i 0)).1)) from by omega]
theorem yT9 {s : Src} {steps : List Int} {a cost : Int} (h1 : ¬ ∃ k ∈ steps, k < 0) (h2 : ¬ (steps.length : Int) > 32) (hc : 0 ≤ cost) : zF9 s steps a cost = qL8 s steps a cost 0 (zA0 s 0 0).1 (zA0 s 0 0).2 0 := by
  unfold zF9 qL8
  rw [if_neg h1, if_neg h2, show max cost (-1) = cost from by omega]
  by_cases h3 : (zA0 s 0 0).2 ≠ 0
  · rw [if_pos h3, if_pos h3]
  · rw [if_neg h3, if_neg h3]
    by_cases h4 : cost - (1 + zB2 (zA0 s 0 0).1) < 0
    · rw [if_pos h4, if_pos (by omega)]
    · rw [if_neg h4, if_neg (by omega), List.drop_zero, show cost - (0 + (1 + zB2 (zA0 s 0 0).1)) = cost - (1 + zB2 (zA0 s 0 0).1) from by omega]
theorem yZ7 {s : Src} {steps : List Int} {a cost : Int} {o : Ob} {paid : Int} (h : ¬ paid + (1 + zB2 o) > cost) : qL8 s steps a cost steps.length o 0 paid = valS s o a := by
  unfold qL8
  rw [if_neg (by simp), if_neg h, List.drop_length, zZ4]
end Go.Proofs.YtkkbbhpbcfcplaaGreat.K
