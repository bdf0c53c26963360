/- Laid together: YD, YE, YF, PA, PC, SM, PB, SN, J12, CE, BN, PH, QK, YG, YH. Each part is plain law, a rule, or a walk of the functions that its names tell. -/
import Derived.Test.YtifhcfhdajkhlaaGreatX5
import Derived.Laws.BytesArg
set_option linter.unusedVariables false
set_option linter.unusedSimpArgs false
namespace Go.Proofs.YtifhcfhdajkhlaaGreat.K
open Go Go.RowKit Go.Proofs
attribute [local irreducible] Run1 OpG WL W AO Gives
set_option maxRecDepth 100000 in
theorem qJ4 (w : World) {ads adb adh : Option Addr} {cs cb ch : Nat} {ses sum : Int} {sz wl kb : List Int} (Y : TR 3 5 4 w ads adb adh cs cb ch sz wl kb) {ad : Option Addr} {c : Nat} {steps : List Int} {a : Int} (R : RowAt w 1 ad steps.length (steps.map (.int .i64))) (ha : inR .i64 a) : Gives Tryz.prog 49 #[.agg #[.int .u64 ses, .slice ads sz.length cs, .int .u32 sum, .slice adb (8 * wl.length) cb, .slice adh (chunksM sz) ch], .agg #[.slice ad steps.length c, .int .i64 a]] w (.tuple #[.agg #[.int .i64 ((walkS (srcP sz wl kb) steps a 8192).1.kind), .int .i64 ((walkS (srcP sz wl kb) steps a 8192).1.size), .int .i64 ((walkS (srcP sz wl kb) steps a 8192).1.words), .int .i64 ((walkS (srcP sz wl kb) steps a 8192).1.kids), .int .u64 ((walkS (srcP sz wl kb) steps a 8192).1.word)], .int .i64 ((walkS (srcP sz wl kb) steps a 8192).2)]) := by
 have hfit := Y.fit
 have hlw := Y.lw
 have hlk := Y.lk
 have hrz : ∀ x ∈ sz, inR .i64 x := zI7 hfit
 have hle := zG9 sz
 have hwf := zF4 hfit
 have hch : chunksM sz = (wordsM sz + 7) / 8 := rfl
 have hf16 := zG2 hfit
 have hcs := Y.hcs
 have hcb := Y.hcb
 have hcn := Y.hch
 have RS := Y.rs
 have RB := Y.rb
 have RH := Y.rh
 have hfl8 := zL3 wl
 have hu := Y.uw
 have G := Grow.rfl' w
 refine zC7 Tryz.func49 Tryz.ntmps49 Tryz.results49 rfl rfl ?_
 refine zA6 (zA1 rfl ?_)
 refine zA3 (og rfl ?_)
 (first | refine zD0 rfl ?_ | refine zD2 rfl ?_ | refine zC5 rfl ?_ | refine zH0 rfl rfl ?_)
 intro b1 w2 hb3 hc4 g5
 have hge6 := Nat.le_trans G.size hb3
 replace G := G.tr g5
 clear g5 hb3
 refine zA3 (og rfl ?_)
 (first | refine zD0 rfl ?_ | refine zD2 rfl ?_ | refine zC5 rfl ?_ | refine zH0 rfl rfl ?_)
 intro b7 w8 hb9 hc10 g11
 have hge12 := Nat.le_trans G.size hb9
 replace hc4 := g11.heap hc4
 replace G := G.tr g11
 clear g11 hb9
 refine stp (zD3 ?_)
 intro b13 w14 hb15 hc16 g17
 refine stp (zA0 rfl ?_)
 refine zA4 ?_
 refine zA6 ?_
 refine zA6 (zA1 rfl ?_)
 refine stp (zA5 rfl ?_)
 have hge18 := Nat.le_trans G.size hb15
 have ne19 := Nat.ne_of_lt (Nat.lt_of_lt_of_le (zA9 hc4) hb15)
 have ne20 := Nat.ne_of_lt (Nat.lt_of_lt_of_le (zA9 hc10) hb15)
 replace hc4 := g17.heap hc4
 replace hc10 := g17.heap hc10
 replace G := G.tr g17
 clear g17 hb15
 refine stp (zB5 (v := .slice adh (chunksM sz) ch) rfl hc4 rfl ?_)
 refine stp (zE8 rfl rfl rfl ?_)
 refine stp (zH5 rfl rfl (by omega) ?_)
 refine zA4 ?_
 refine zI8 rfl ?_
 refine zC3 ?_
 refine zA6 (zA1 rfl ?_)
 refine stp (zA5 rfl ?_)
 refine stp (zA5 rfl ?_)
 refine stp (zB5 (v := .slice ads sz.length cs) rfl hc4 rfl ?_)
 refine stp (zA5 rfl ?_)
 refine stp (zB5 (v := .slice adb (8 * wl.length) cb) rfl hc4 rfl ?_)
 refine zA3 (og rfl ?_)
 refine zF1 rfl (qG4 _ hfit hlw hu (RS.grow G) hcb.1 (RB.grow G)) ?_
 rintro v_ w21 ⟨ad9, n9, c9, rfl, hA, g_⟩
 replace hc4 := g_.heap hc4
 replace hc10 := g_.heap hc10
 replace hc16 := g_.heap hc16
 replace G := G.tr g_
 clear g_
 refine stp (zB6 (v := .tuple #[.slice ad9 n9 c9, .int .i64 0]) rfl ?_)
 refine stp (zB2 (v := .slice ad9 n9 c9) rfl rfl ?_)
 refine stp (zB2 (v := .int .i64 0) rfl rfl ?_)
 refine stp (zB0 rfl ?_)
 refine stp (zA0 rfl ?_)
 refine zA4 ?_
 refine zA6 (zA1 rfl ?_)
 refine stp (zA7 rfl ?_)
 refine stp (zA5 rfl ?_)
 refine stp (zB5 (v := .slice adh (chunksM sz) ch) rfl hc4 rfl ?_)
 refine stp (zD4 (v := .agg #[.slice ad9 n9 c9, .bool true, .slice adh (chunksM sz) ch]) (fun w => by kernel_rfl) ?_)
 refine stp (zB4 rfl hc10 (by rfl) ?_)
 refine stp (zC0 (v := .tuple #[.agg #[.int .i64 ((walkS (srcP sz wl kb) steps a 8192).1.kind), .int .i64 ((walkS (srcP sz wl kb) steps a 8192).1.size), .int .i64 ((walkS (srcP sz wl kb) steps a 8192).1.words), .int .i64 ((walkS (srcP sz wl kb) steps a 8192).1.kids), .int .u64 ((walkS (srcP sz wl kb) steps a 8192).1.word)], .int .i64 ((walkS (srcP sz wl kb) steps a 8192).2)]) rfl (qO4 _ (yF7 hA hfit hlw hu (RH.grow G)) (R.grow G) ha (by decide)) ?_)
 intro w22 g23
 replace hc4 := g23.heap hc4
 replace hc10 := g23.heap hc10
 replace hc16 := g23.heap hc16
 replace hA := hA.grow g23
 replace G := G.tr g23
 clear g23
 refine stp (zB6 (v := .tuple #[.agg #[.int .i64 ((walkS (srcP sz wl kb) steps a 8192).1.kind), .int .i64 ((walkS (srcP sz wl kb) steps a 8192).1.size), .int .i64 ((walkS (srcP sz wl kb) steps a 8192).1.words), .int .i64 ((walkS (srcP sz wl kb) steps a 8192).1.kids), .int .u64 ((walkS (srcP sz wl kb) steps a 8192).1.word)], .int .i64 ((walkS (srcP sz wl kb) steps a 8192).2)]) rfl ?_)
 refine stp (zB2 (v := .agg #[.int .i64 ((walkS (srcP sz wl kb) steps a 8192).1.kind), .int .i64 ((walkS (srcP sz wl kb) steps a 8192).1.size), .int .i64 ((walkS (srcP sz wl kb) steps a 8192).1.words), .int .i64 ((walkS (srcP sz wl kb) steps a 8192).1.kids), .int .u64 ((walkS (srcP sz wl kb) steps a 8192).1.word)]) rfl rfl ?_)
 refine stp (zB2 (v := .int .i64 ((walkS (srcP sz wl kb) steps a 8192).2)) rfl rfl ?_)
 refine stp (zD3 ?_)
 intro b24 w25 hb26 hc27 g28
 refine stn (zB1 rfl rfl hc27 (by rfl) (by rfl) (by rfl) ?_)
 intro w29 hc30 u31
 have g32 := g28.upd u31 hb26
 have hge33 := Nat.le_trans G.size hb26
 have ne34 := Nat.ne_of_lt (Nat.lt_of_lt_of_le (zA9 hc4) hb26)
 have ne35 := Nat.ne_of_lt (Nat.lt_of_lt_of_le (zA9 hc10) hb26)
 have ne36 := Nat.ne_of_lt (Nat.lt_of_lt_of_le (zA9 hc16) hb26)
 replace hc4 := g32.heap hc4
 replace hc10 := g32.heap hc10
 replace hc16 := g32.heap hc16
 replace hA := hA.grow g32
 replace G := G.tr g32
 clear u31 g28 hb26 hc27
 refine stp (zA0 rfl ?_)
 refine zA4 ?_
 refine zA6 (zA1 rfl ?_)
 refine stp (zB4 rfl hc30 (by rfl) ?_)
 refine stp (zA2 rfl ?_)
 refine stn (zB1 rfl rfl hc16 (by rfl) (by rfl) (by rfl) ?_)
 intro w37 hc38 u39
 replace hc4 := u39.heap hc4 ne19
 replace hc10 := u39.heap hc10 ne20
 replace hc30 := u39.heap hc30 ne36.symm
 replace G := G.upd u39 hge18
 clear u39 hc16
 refine stp (zA0 rfl ?_)
 refine zA4 ?_
 refine zC4 ?_
 refine ret2 (zC9 rfl hc38 (by rfl)) (zB3 (v := .int .i64 ((walkS (srcP sz wl kb) steps a 8192).2)) rfl) ⟨?_, G⟩
 rfl

set_option maxRecDepth 100000 in
theorem qE3 (w : World) {ads adb adh : Option Addr} {cs cb ch : Nat} {ses sum : Int} {sz wl kb : List Int} (Y : TR 3 5 4 w ads adb adh cs cb ch sz wl kb) : Calls Tryz.prog 51 #[.agg #[.int .u64 ses, .slice ads sz.length cs, .int .u32 sum, .slice adb (8 * wl.length) cb, .slice adh (chunksM sz) ch]] w (Ret fun v w' => ∃ ad n c, v = .tuple #[.slice ad n c, .bool (wholeB sz kb)] ∧ (wholeB sz kb = true → ArenaR w' (.slice ad n c) (cutW sz wl)) ∧ (wholeB sz kb = false → ArenaR w' (.slice ad n c) []) ∧ Grow w w') := by
 have hfit := Y.fit
 have hlw := Y.lw
 have hlk := Y.lk
 have hrz : ∀ x ∈ sz, inR .i64 x := zI7 hfit
 have hle := zG9 sz
 have hwf := zF4 hfit
 have hch : chunksM sz = (wordsM sz + 7) / 8 := rfl
 have hf16 := zG2 hfit
 have hcs := Y.hcs
 have hcb := Y.hcb
 have hcn := Y.hch
 have RS := Y.rs
 have RB := Y.rb
 have RH := Y.rh
 have hfl8 := zL3 wl
 have hu := Y.uw
 have hub := Y.ub
 have G := Grow.rfl' w
 refine zE3 Tryz.func51 Tryz.ntmps51 Tryz.results51 rfl rfl ?_
 refine zA6 (zA1 rfl ?_)
 refine zA3 (og rfl ?_)
 (first | refine zD0 rfl ?_ | refine zD2 rfl ?_ | refine zC5 rfl ?_ | refine zH0 rfl rfl ?_)
 intro b1 w2 hb3 hc4 g5
 have hge6 := Nat.le_trans G.size hb3
 replace G := G.tr g5
 clear g5 hb3
 refine stp (zB0 rfl ?_)
 refine stp (zA8 (v := .bool false) rfl ?_)
 refine zA4 ?_
 refine zA6 ?_
 refine zA6 ?_
 refine zJ4 13 [[], [0], [1, 0], [], [0], [1, 0], [5, 4, 3, 2, 1, 0], [6, 5, 4, 3, 2, 1, 0], [7, 6, 5, 4, 3, 2, 1, 0], [8, 7, 6, 5, 4, 3, 2, 1, 0], [9, 8, 7, 6, 5, 4, 3, 2, 1, 0], [10, 9, 8, 7, 6, 5, 4, 3, 2, 1, 0], [11, 10, 9, 8, 7, 6, 5, 4, 3, 2, 1, 0]] mixed (by kernel_rfl) (by kernel_rfl) (by kernel_rfl) ?_
 intro w7 g8
 replace hc4 := g8.heap hc4
 replace G := G.tr g8
 clear g8
 apply zB7
 ·intro w_ g_; refine og rfl ?_; refine zB4 rfl (g_.heap hc4) (by rfl) ?_; exact ⟨Grow.rfl' _, rfl⟩
 refine zK2 (fun w_ v_ => Row w_ 1 v_ kb.length (kb.map (.int .u8))) (fun _ _ _ g_ h_ => h_.grow g_) ?_ ?_
 ·intro w_ g_
  refine og rfl ?_
  refine zF1 rfl (zU1 _ (Y.grow (G.tr g_))) ?_
  rintro v9_ w9_ ⟨hR_, g9_⟩
  exact ⟨g9_, hR_⟩
 apply zB7
 ·intro w_ g_; intro v1_ hv1_; show OpG _ _ _ _ _ _; refine og rfl ?_; obtain ⟨ad_, c_, rfl, -, -, R_⟩ := hv1_; exact zC0 (v := .int .i64 (cntQ kb (8 * kb.length) : Int)) rfl (qI8 _ R_ hub (by omega)) (fun w2_ g2_ => ⟨g2_, rfl⟩)
 apply zB7
 ·intro w_ g_; refine og rfl ?_; refine zA5 rfl ?_; exact ⟨Grow.rfl' _, rfl⟩
 apply zB7
 ·intro w_ g_; refine og rfl ?_; refine zB5 (v := .slice adh (chunksM sz) ch) rfl (g_.heap hc4) rfl ?_; exact ⟨Grow.rfl' _, rfl⟩
 apply zB7
 ·intro w_ g_; refine og rfl ?_; refine zE8 rfl rfl rfl ?_; exact ⟨Grow.rfl' _, rfl⟩
 apply zB7
 ·intro w_ g_; intro v1_ hv1_; show OpG _ _ _ _ _ _; refine og rfl ?_; refine zF9 rfl rfl ?_; exact ⟨Grow.rfl' _, rfl⟩
 apply zB7
 ·intro w_ g_; intro v1_ hv1_; show OpG _ _ _ _ _ _; refine og rfl ?_; refine zB9 rfl ?_; exact ⟨Grow.rfl' _, rfl⟩
 apply zB7
 ·intro w_ g_; intro v1_ hv1_; show OpG _ _ _ _ _ _;
  refine zC2 (s := .bool (decide ((cntQ kb (8 * kb.length) : Int) < ((chunksM sz) : Int)))) (b := false) (v := .pointer (some ⟨b1, 4, none⟩)) rfl (zD1 _) (fun hc9 => ?_) ?_
  ·
   have hc9_ := hc9
   try simp only [sb] at hc9_
   refine zA5 rfl ?_
   exact ⟨rfl, rfl⟩
  exact ⟨Grow.rfl' _, rfl⟩
 apply zB7
 ·intro w_ g_; intro v1_ hv1_; show OpG _ _ _ _ _ _;
  refine zC2 (s := .bool (decide ((cntQ kb (8 * kb.length) : Int) < ((chunksM sz) : Int)))) (b := false) (v := .slice adh (chunksM sz) ch) rfl (zD1 _) (fun hc10 => ?_) ?_
  ·
   have hc10_ := hc10
   try simp only [sb] at hc10_
   refine zB5 (v := .slice adh (chunksM sz) ch) (gvt hc10) (g_.heap hc4) rfl ?_
   exact ⟨rfl, rfl⟩
  exact ⟨Grow.rfl' _, rfl⟩
 apply zB7
 ·intro w_ g_; intro v1_ hv1_; show OpG _ _ _ _ _ _;
  refine zC2 (s := .bool (decide ((cntQ kb (8 * kb.length) : Int) < ((chunksM sz) : Int)))) (b := false) (v := .int .i64 ((chunksM sz) : Int)) rfl (zD1 _) (fun hc11 => ?_) ?_
  ·
   have hc11_ := hc11
   try simp only [sb] at hc11_
   refine zE8 rfl rfl (gvt hc11) ?_
   exact ⟨rfl, rfl⟩
  exact ⟨Grow.rfl' _, rfl⟩
 apply zB7
 ·intro w_ g_; intro v1_ hv1_; show OpG _ _ _ _ _ _;
  refine zC2 (s := .bool (decide ((cntQ kb (8 * kb.length) : Int) < ((chunksM sz) : Int)))) (b := false) (v := .bool (decide (((chunksM sz) : Int) = 0))) rfl (zD1 _) (fun hc12 => ?_) ?_
  ·
   have hc12_ := hc12
   try simp only [sb] at hc12_
   refine zE9 (gvt hc12) rfl ?_
   exact ⟨rfl, rfl⟩
  exact ⟨Grow.rfl' _, rfl⟩
 apply zB7
 ·intro w_ g_; intro v1_ hv1_; show OpG _ _ _ _ _ _; refine og rfl ?_; refine zI6 rfl rfl rfl ?_; exact ⟨Grow.rfl' _, rfl⟩
 refine zI5 ?_
 intro w13 g14
 replace hc4 := g14.heap hc4
 replace G := G.tr g14
 clear g14
 intro v_k hv_k
 refine zA4 ?_
 refine zB8 (b := ((decide ((cntQ kb (8 * kb.length) : Int) < ((chunksM sz) : Int))) || (decide (((chunksM sz) : Int) = 0)))) rfl (fun h1 => ?_) (fun h1 => ?_)
 ·-- true
  simp only [sb] at h1
  have h9 : wholeB sz kb = false := by unfold wholeB; exact decide_eq_false (by omega)
  refine zA6 (zA1 rfl ?_)
  refine stp (zB0 rfl ?_)
  refine stp (zA8 (v := .bool false) rfl ?_)
  refine zA4 ?_
  refine zC4 ?_
  refine ret2 (zB3 (v := .slice none 0 0) rfl) (zB3 (v := .bool false) rfl) ⟨none, 0, 0, by rw [h9], fun h_ => (by rw [h9] at h_; cases h_), fun _ => ⟨[], Row.nil _ _, fun i s h_ => by simp at h_⟩, G⟩
 ·-- false
  simp only [sb] at h1
  have h9 : wholeB sz kb = true := by unfold wholeB; exact decide_eq_true (by omega)
  refine zC3 ?_
  refine zA6 (zA1 rfl ?_)
  refine stp (zA5 rfl ?_)
  refine stp (zA5 rfl ?_)
  refine stp (zB5 (v := .slice ads sz.length cs) rfl hc4 rfl ?_)
  refine stp (zA5 rfl ?_)
  refine stp (zB5 (v := .slice adb (8 * wl.length) cb) rfl hc4 rfl ?_)
  refine zA3 (og rfl ?_)
  refine zF1 rfl (qG4 _ hfit hlw hu (RS.grow G) hcb.1 (RB.grow G)) ?_
  rintro v_ w15 ⟨ad9, n9, c9, rfl, hA, g_⟩
  replace hc4 := g_.heap hc4
  replace G := G.tr g_
  clear g_
  refine stp (zB6 (v := .tuple #[.slice ad9 n9 c9, .int .i64 0]) rfl ?_)
  refine stp (zB2 (v := .slice ad9 n9 c9) rfl rfl ?_)
  refine stp (zB2 (v := .int .i64 0) rfl rfl ?_)
  refine stp (zB0 rfl ?_)
  refine stp (zA0 rfl ?_)
  refine zA4 ?_
  refine zA6 (zA1 rfl ?_)
  refine stp (zA7 rfl ?_)
  refine stp (zB0 rfl ?_)
  refine stp (zA8 (v := .bool true) rfl ?_)
  refine zA4 ?_
  refine zC4 ?_
  refine ret2 (zB3 (v := .slice ad9 n9 c9) rfl) (zB3 (v := .bool true) rfl) ⟨ad9, n9, c9, by rw [h9], fun _ => hA, fun h_ => (by rw [h9] at h_; cases h_), G⟩
end Go.Proofs.YtifhcfhdajkhlaaGreat.K

namespace Go.Proofs.YtifhcfhdajkhlaaGreat.K
open Go Go.RowKit Go.Proofs
attribute [local irreducible] Run1 OpG WL W AO Gives
set_option maxRecDepth 100000 in
theorem yF8 (w : World) {ses sum : Int} {ad : Option Addr} {c : Nat} {sz : List Int} (R : RowAt w 1 ad sz.length (sz.map (.int .i64))) (hr : ∀ x ∈ sz, inR .i64 x) (hf : fitsL sz = false) : Gives Tryz.prog 14 #[.agg #[.int .u64 ses, .slice ad sz.length c, .int .u32 sum]] w (.tuple #[.agg #[.int .u64 0, .slice none 0 0, .int .u32 0, .slice none 0 0, .slice none 0 0], .int .i64 1]) := by
 have G := Grow.rfl' w
 refine zC7 Tryz.func14 Tryz.ntmps14 Tryz.results14 rfl rfl ?_
 refine zA6 (zA1 rfl ?_)
 refine zA3 (og rfl ?_)
 (first | refine zD0 rfl ?_ | refine zD2 rfl ?_ | refine zC5 rfl ?_ | refine zH0 rfl rfl ?_)
 intro b1 w2 hb3 hc4 g5
 have hge6 := Nat.le_trans G.size hb3
 replace G := G.tr g5
 clear g5 hb3
 refine stp (zD3 ?_)
 intro b7 w8 hb9 hc10 g11
 refine stp (zA0 rfl ?_)
 refine zA4 ?_
 refine zA6 ?_
 refine zA6 (zA1 rfl ?_)
 have hge12 := Nat.le_trans G.size hb9
 have ne13 := Nat.ne_of_lt (Nat.lt_of_lt_of_le (zA9 hc4) hb9)
 replace hc4 := g11.heap hc4
 replace G := G.tr g11
 clear g11 hb9
 refine stp (zB4 rfl hc4 (by rfl) ?_)
 refine stp (zC0 (v := .bool false) rfl (zH3 (zN0 _ (R.grow G) hr) (y := .bool false) (by rw [hf])) ?_)
 intro w14 g15
 replace hc4 := g15.heap hc4
 replace hc10 := g15.heap hc10
 replace G := G.tr g15
 clear g15
 refine stp (qB6 rfl rfl ?_)
 refine zA4 ?_
 refine zP2 rfl ?_
 refine zA6 (zA1 rfl ?_)
 refine stp (zD4 (v := .agg #[.int .u64 0, .slice none 0 0, .int .u32 0, .slice none 0 0, .slice none 0 0]) (fun w => by kernel_rfl) ?_)
 refine stn (zB1 rfl rfl hc10 (by rfl) (by rfl) (by rfl) ?_)
 intro w16 hc17 u18
 replace hc4 := u18.heap hc4 ne13
 replace G := G.upd u18 hge12
 clear u18 hc10
 refine stp (zA0 rfl ?_)
 refine zA4 ?_
 refine zC4 ?_
 refine ret2 (zC9 rfl hc17 (by rfl)) (zB3 (v := .int .i64 1) rfl) ⟨?_, G⟩
 rfl

set_option maxRecDepth 100000 in
theorem qO6 (w : World) {ses sum : Int} {ad : Option Addr} {c : Nat} {sz : List Int} (oR : w.ownsRow 0 3 1 (.slice ad sz.length c) sz.length (sz.map (.int .i64))) (hf : fitsL sz = true) : Calls Tryz.prog 14 #[.agg #[.int .u64 ses, .slice ad sz.length c, .int .u32 sum]] w (Ret fun v w' => ∃ b5 b7, v = .tuple #[.agg #[.int .u64 ses, .slice ad sz.length c, .int .u32 sum, .slice (some ⟨b5, 0, none⟩) (8 * wordsM sz) (8 * wordsM sz), .slice (some ⟨b7, 0, none⟩) (chunksM sz) (chunksM sz)], .int .i64 0] ∧ TR 3 5 4 w' ad (some ⟨b5, 0, none⟩) (some ⟨b7, 0, none⟩) c (8 * wordsM sz) (chunksM sz) sz (List.replicate (wordsM sz) (0 : Int)) (List.replicate ((chunksM sz + 7) / 8) (0 : Int)) ∧ Grow w w') := by
 have hrz : ∀ x ∈ sz, inR .i64 x := zI7 hf
 have hle := zG9 sz
 have hwf := zF4 hf
 have hch : chunksM sz = (wordsM sz + 7) / 8 := rfl
 have hf16 := zG2 hf
 have R := (zR4 oR (by omega)).2.2
 have G := Grow.rfl' w
 refine zE3 Tryz.func14 Tryz.ntmps14 Tryz.results14 rfl rfl ?_
 refine zA6 (zA1 rfl ?_)
 refine zA3 (og rfl ?_)
 (first | refine zD0 rfl ?_ | refine zD2 rfl ?_ | refine zC5 rfl ?_ | refine zH0 rfl rfl ?_)
 intro b1 w2 hb3 hc4 g5
 have hge6 := Nat.le_trans G.size hb3
 replace G := G.tr g5
 clear g5 hb3
 refine stp (zD3 ?_)
 intro b7 w8 hb9 hc10 g11
 refine stp (zA0 rfl ?_)
 refine zA4 ?_
 refine zA6 ?_
 refine zA6 (zA1 rfl ?_)
 have hge12 := Nat.le_trans G.size hb9
 have ne13 := Nat.ne_of_lt (Nat.lt_of_lt_of_le (zA9 hc4) hb9)
 replace hc4 := g11.heap hc4
 replace G := G.tr g11
 clear g11 hb9
 refine stp (zB4 rfl hc4 (by rfl) ?_)
 refine stp (zC0 (v := .bool true) rfl (zH3 (zN0 _ (R.grow G) hrz) (y := .bool true) (by rw [hf])) ?_)
 intro w14 g15
 replace hc4 := g15.heap hc4
 replace hc10 := g15.heap hc10
 replace G := G.tr g15
 clear g15
 refine stp (zL8 rfl rfl ?_)
 refine zA4 ?_
 refine zI8 rfl ?_
 refine zC3 ?_
 refine zA6 ?_
 refine zJ4 9 [[], [], [0], [1, 0], [2, 1, 0], [], [4, 3, 0], [5, 4, 1, 0], [7, 6, 5, 4, 3, 2, 1, 0]] mixed (by kernel_rfl) (by kernel_rfl) (by kernel_rfl) ?_
 intro w16 g17
 replace hc4 := g17.heap hc4
 replace hc10 := g17.heap hc10
 replace G := G.tr g17
 clear g17
 apply zB7
 ·intro w_ g_; refine og rfl ?_; refine zB4 rfl (g_.heap hc4) (by rfl) ?_; exact ⟨Grow.rfl' _, rfl⟩
 apply zB7
 ·intro w_ g_; refine og rfl ?_; refine zB4 rfl (g_.heap hc4) (by rfl) ?_; exact ⟨Grow.rfl' _, rfl⟩
 apply zB7
 ·intro w_ g_; refine og rfl ?_; exact zC0 (v := .int .i64 (wordsM sz : Int)) rfl (zN1 _ (R.grow (G.tr g_)) hrz) (fun w2_ g2_ => ⟨g2_, rfl⟩)
 apply zB7
 ·intro w_ g_; refine og rfl ?_; refine zL5 rfl rfl ?_ ?_; (constructor <;> omega); rw [show 8 * (wordsM sz : Int) = ((8 * wordsM sz : Nat) : Int) from by omega]; exact ⟨Grow.rfl' _, rfl⟩
 refine zK2 (fun w_ v_ => ∃ b, v_ = .slice (some ⟨b, 0, none⟩) (8 * wordsM sz) (8 * wordsM sz) ∧ w_.ownsRow 0 5 1 (.slice (some ⟨b, 0, none⟩) (8 * wordsM sz) (8 * wordsM sz)) (8 * wordsM sz) (List.replicate (8 * wordsM sz) (.int .u8 0))) (fun _ _ _ g_ ⟨b, h1_, h2_⟩ => ⟨b, h1_, zC8 h2_ g_⟩) ?_ ?_
 ·intro w_ g_
  refine og rfl ?_
  refine zY9 (n := (8 * wordsM sz)) (base := 0) rfl rfl (by first | omega | (simp only [maxLen]; omega)) (by first | omega | (simp only [maxLen]; omega)) (Nat.zero_le _) ?_
  intro b_ w2_ hb_ ho_ g2_
  rw [show (madeCells (Value.cells (.int .u8 0)) ((8 * wordsM sz) * 1)).toList = List.replicate (8 * wordsM sz) (.int .u8 0) from by rw [Nat.mul_one]; exact toList_madeCells_one _ _] at ho_
  exact ⟨g2_, b_, rfl, ho_⟩
 apply zB7
 ·intro w_ g_; refine og rfl ?_; refine zB4 rfl (g_.heap hc4) (by rfl) ?_; exact ⟨Grow.rfl' _, rfl⟩
 apply zB7
 ·intro w_ g_; refine og rfl ?_; exact zC0 (v := .int .i64 (chunksM sz : Int)) rfl (zP0 _ (R.grow (G.tr g_)) hrz) (fun w2_ g2_ => ⟨g2_, rfl⟩)
 refine zK2 (fun w_ v_ => ∃ b, v_ = .slice (some ⟨b, 0, none⟩) (chunksM sz) (chunksM sz) ∧ w_.ownsRow 0 4 1 (.slice (some ⟨b, 0, none⟩) (chunksM sz) (chunksM sz)) (chunksM sz) (List.replicate (chunksM sz) (.bool false))) (fun _ _ _ g_ ⟨b, h1_, h2_⟩ => ⟨b, h1_, zC8 h2_ g_⟩) ?_ ?_
 ·intro w_ g_
  refine og rfl ?_
  refine zY9 (n := (chunksM sz)) (base := 0) rfl rfl (by first | omega | (simp only [maxLen]; omega)) (by first | omega | (simp only [maxLen]; omega)) (Nat.zero_le _) ?_
  intro b_ w2_ hb_ ho_ g2_
  rw [show (madeCells (Value.cells (.bool false)) ((chunksM sz) * 1)).toList = List.replicate (chunksM sz) (.bool false) from by rw [Nat.mul_one]; exact toList_madeCells_one _ _] at ho_
  exact ⟨g2_, b_, rfl, ho_⟩
 refine zK2 (fun w_ v_ => ∃ b5 b7, v_ = .agg #[.int .u64 ses, .slice ad sz.length c, .int .u32 sum, .slice (some ⟨b5, 0, none⟩) (8 * wordsM sz) (8 * wordsM sz), .slice (some ⟨b7, 0, none⟩) (chunksM sz) (chunksM sz)] ∧ w_.ownsRow 0 5 1 (.slice (some ⟨b5, 0, none⟩) (8 * wordsM sz) (8 * wordsM sz)) (8 * wordsM sz) (List.replicate (8 * wordsM sz) (.int .u8 0)) ∧ w_.ownsRow 0 4 1 (.slice (some ⟨b7, 0, none⟩) (chunksM sz) (chunksM sz)) (chunksM sz) (List.replicate (chunksM sz) (.bool false))) (fun _ _ _ g_ ⟨b5, b7, h1_, h2_, h3_⟩ => ⟨b5, b7, h1_, zC8 h2_ g_, zC8 h3_ g_⟩) ?_ ?_
 ·intro w_ g_
  intro v4_ hv4_; intro v7_ hv7_; show OpG _ _ _ _ _ _
  refine og rfl ?_
  obtain ⟨b5, rfl, h51⟩ := hv4_
  obtain ⟨b7, rfl, h71⟩ := hv7_
  refine zD4 (v := .agg #[.int .u64 ses, .slice ad sz.length c, .int .u32 sum, .slice (some ⟨b5, 0, none⟩) (8 * wordsM sz) (8 * wordsM sz), .slice (some ⟨b7, 0, none⟩) (chunksM sz) (chunksM sz)]) (fun w => by kernel_rfl) ?_
  exact ⟨Grow.rfl' _, b5, b7, rfl, h51, h71⟩
 refine zI5 ?_
 intro w18 g19
 replace hc4 := g19.heap hc4
 replace hc10 := g19.heap hc10
 replace G := G.tr g19
 clear g19
 intro v_b hv_b
 intro v_h hv_h
 intro v_t hv_t
 obtain ⟨b5, b7, rfl, RB9, RH9⟩ := hv_t
 refine stn (zB1 rfl rfl hc10 (by rfl) (by rfl) (by rfl) ?_)
 intro w20 hc21 u22
 replace hc4 := u22.heap hc4 ne13
 replace RB9 := zF0 RB9 u22 (zE7 RB9 hc10 (by decide))
 replace RH9 := zF0 RH9 u22 (zE7 RH9 hc10 (by decide))
 replace G := G.upd u22 hge12
 clear u22 hc10
 refine stp (zA0 rfl ?_)
 refine zA4 ?_
 refine zC4 ?_
 obtain ⟨_, _, hs9, -, -, RB8⟩ := zE2 RB9 (by omega)
 cases hs9
 obtain ⟨_, _, hs9, -, -, RH8⟩ := zE2 RH9 (by omega)
 cases hs9
 refine ret2 (zC9 rfl hc21 (by rfl)) (zB3 (v := .int .i64 0) rfl) ⟨b5, b7, rfl, ⟨hf, by simp, by simp, fun x hx_ => by rw [List.eq_of_mem_replicate hx_]; simp [inR], fun x hx_ => by rw [List.eq_of_mem_replicate hx_]; simp [inR], fun c_ hc_ => (by rw [yE4] at hc_; cases hc_), zC8 oR G, by rw [qZ2, List.length_replicate, List.map_replicate]; exact RB9, by rw [yK4]; exact RH9⟩, G⟩

set_option maxRecDepth 100000 in
theorem qS4 (w : World) {ses sum : Int} {ad : Option Addr} {c : Nat} {sz : List Int} (R : RowAt w 1 ad sz.length (sz.map (.int .i64))) (hf : fitsL sz = true) : Calls Tryz.prog 14 #[.agg #[.int .u64 ses, .slice ad sz.length c, .int .u32 sum]] w (Ret fun v w' => ∃ b5 b7, v = .tuple #[.agg #[.int .u64 ses, .slice ad sz.length c, .int .u32 sum, .slice (some ⟨b5, 0, none⟩) (8 * wordsM sz) (8 * wordsM sz), .slice (some ⟨b7, 0, none⟩) (chunksM sz) (chunksM sz)], .int .i64 0] ∧ Grow w w') := by
 have hrz : ∀ x ∈ sz, inR .i64 x := zI7 hf
 have hle := zG9 sz
 have hwf := zF4 hf
 have hch : chunksM sz = (wordsM sz + 7) / 8 := rfl
 have hf16 := zG2 hf
 have G := Grow.rfl' w
 refine zE3 Tryz.func14 Tryz.ntmps14 Tryz.results14 rfl rfl ?_
 refine zA6 (zA1 rfl ?_)
 refine zA3 (og rfl ?_)
 (first | refine zD0 rfl ?_ | refine zD2 rfl ?_ | refine zC5 rfl ?_ | refine zH0 rfl rfl ?_)
 intro b1 w2 hb3 hc4 g5
 have hge6 := Nat.le_trans G.size hb3
 replace G := G.tr g5
 clear g5 hb3
 refine stp (zD3 ?_)
 intro b7 w8 hb9 hc10 g11
 refine stp (zA0 rfl ?_)
 refine zA4 ?_
 refine zA6 ?_
 refine zA6 (zA1 rfl ?_)
 have hge12 := Nat.le_trans G.size hb9
 have ne13 := Nat.ne_of_lt (Nat.lt_of_lt_of_le (zA9 hc4) hb9)
 replace hc4 := g11.heap hc4
 replace G := G.tr g11
 clear g11 hb9
 refine stp (zB4 rfl hc4 (by rfl) ?_)
 refine stp (zC0 (v := .bool true) rfl (zH3 (zN0 _ (R.grow G) hrz) (y := .bool true) (by rw [hf])) ?_)
 intro w14 g15
 replace hc4 := g15.heap hc4
 replace hc10 := g15.heap hc10
 replace G := G.tr g15
 clear g15
 refine stp (zL8 rfl rfl ?_)
 refine zA4 ?_
 refine zI8 rfl ?_
 refine zC3 ?_
 refine zA6 ?_
 refine zJ4 9 [[], [], [0], [1, 0], [2, 1, 0], [], [4, 3, 0], [5, 4, 1, 0], [7, 6, 5, 4, 3, 2, 1, 0]] mixed (by kernel_rfl) (by kernel_rfl) (by kernel_rfl) ?_
 intro w16 g17
 replace hc4 := g17.heap hc4
 replace hc10 := g17.heap hc10
 replace G := G.tr g17
 clear g17
 apply zB7
 ·intro w_ g_; refine og rfl ?_; refine zB4 rfl (g_.heap hc4) (by rfl) ?_; exact ⟨Grow.rfl' _, rfl⟩
 apply zB7
 ·intro w_ g_; refine og rfl ?_; refine zB4 rfl (g_.heap hc4) (by rfl) ?_; exact ⟨Grow.rfl' _, rfl⟩
 apply zB7
 ·intro w_ g_; refine og rfl ?_; exact zC0 (v := .int .i64 (wordsM sz : Int)) rfl (zN1 _ (R.grow (G.tr g_)) hrz) (fun w2_ g2_ => ⟨g2_, rfl⟩)
 apply zB7
 ·intro w_ g_; refine og rfl ?_; refine zL5 rfl rfl ?_ ?_; (constructor <;> omega); rw [show 8 * (wordsM sz : Int) = ((8 * wordsM sz : Nat) : Int) from by omega]; exact ⟨Grow.rfl' _, rfl⟩
 refine zK2 (fun w_ v_ => ∃ b, v_ = .slice (some ⟨b, 0, none⟩) (8 * wordsM sz) (8 * wordsM sz) ∧ w_.ownsRow 0 5 1 (.slice (some ⟨b, 0, none⟩) (8 * wordsM sz) (8 * wordsM sz)) (8 * wordsM sz) (List.replicate (8 * wordsM sz) (.int .u8 0))) (fun _ _ _ g_ ⟨b, h1_, h2_⟩ => ⟨b, h1_, zC8 h2_ g_⟩) ?_ ?_
 ·intro w_ g_
  refine og rfl ?_
  refine zY9 (n := (8 * wordsM sz)) (base := 0) rfl rfl (by first | omega | (simp only [maxLen]; omega)) (by first | omega | (simp only [maxLen]; omega)) (Nat.zero_le _) ?_
  intro b_ w2_ hb_ ho_ g2_
  rw [show (madeCells (Value.cells (.int .u8 0)) ((8 * wordsM sz) * 1)).toList = List.replicate (8 * wordsM sz) (.int .u8 0) from by rw [Nat.mul_one]; exact toList_madeCells_one _ _] at ho_
  exact ⟨g2_, b_, rfl, ho_⟩
 apply zB7
 ·intro w_ g_; refine og rfl ?_; refine zB4 rfl (g_.heap hc4) (by rfl) ?_; exact ⟨Grow.rfl' _, rfl⟩
 apply zB7
 ·intro w_ g_; refine og rfl ?_; exact zC0 (v := .int .i64 (chunksM sz : Int)) rfl (zP0 _ (R.grow (G.tr g_)) hrz) (fun w2_ g2_ => ⟨g2_, rfl⟩)
 refine zK2 (fun w_ v_ => ∃ b, v_ = .slice (some ⟨b, 0, none⟩) (chunksM sz) (chunksM sz) ∧ w_.ownsRow 0 4 1 (.slice (some ⟨b, 0, none⟩) (chunksM sz) (chunksM sz)) (chunksM sz) (List.replicate (chunksM sz) (.bool false))) (fun _ _ _ g_ ⟨b, h1_, h2_⟩ => ⟨b, h1_, zC8 h2_ g_⟩) ?_ ?_
 ·intro w_ g_
  refine og rfl ?_
  refine zY9 (n := (chunksM sz)) (base := 0) rfl rfl (by first | omega | (simp only [maxLen]; omega)) (by first | omega | (simp only [maxLen]; omega)) (Nat.zero_le _) ?_
  intro b_ w2_ hb_ ho_ g2_
  rw [show (madeCells (Value.cells (.bool false)) ((chunksM sz) * 1)).toList = List.replicate (chunksM sz) (.bool false) from by rw [Nat.mul_one]; exact toList_madeCells_one _ _] at ho_
  exact ⟨g2_, b_, rfl, ho_⟩
 refine zK2 (fun w_ v_ => ∃ b5 b7, v_ = .agg #[.int .u64 ses, .slice ad sz.length c, .int .u32 sum, .slice (some ⟨b5, 0, none⟩) (8 * wordsM sz) (8 * wordsM sz), .slice (some ⟨b7, 0, none⟩) (chunksM sz) (chunksM sz)] ∧ w_.ownsRow 0 5 1 (.slice (some ⟨b5, 0, none⟩) (8 * wordsM sz) (8 * wordsM sz)) (8 * wordsM sz) (List.replicate (8 * wordsM sz) (.int .u8 0)) ∧ w_.ownsRow 0 4 1 (.slice (some ⟨b7, 0, none⟩) (chunksM sz) (chunksM sz)) (chunksM sz) (List.replicate (chunksM sz) (.bool false))) (fun _ _ _ g_ ⟨b5, b7, h1_, h2_, h3_⟩ => ⟨b5, b7, h1_, zC8 h2_ g_, zC8 h3_ g_⟩) ?_ ?_
 ·intro w_ g_
  intro v4_ hv4_; intro v7_ hv7_; show OpG _ _ _ _ _ _
  refine og rfl ?_
  obtain ⟨b5, rfl, h51⟩ := hv4_
  obtain ⟨b7, rfl, h71⟩ := hv7_
  refine zD4 (v := .agg #[.int .u64 ses, .slice ad sz.length c, .int .u32 sum, .slice (some ⟨b5, 0, none⟩) (8 * wordsM sz) (8 * wordsM sz), .slice (some ⟨b7, 0, none⟩) (chunksM sz) (chunksM sz)]) (fun w => by kernel_rfl) ?_
  exact ⟨Grow.rfl' _, b5, b7, rfl, h51, h71⟩
 refine zI5 ?_
 intro w18 g19
 replace hc4 := g19.heap hc4
 replace hc10 := g19.heap hc10
 replace G := G.tr g19
 clear g19
 intro v_b hv_b
 intro v_h hv_h
 intro v_t hv_t
 obtain ⟨b5, b7, rfl, RB9, RH9⟩ := hv_t
 refine stn (zB1 rfl rfl hc10 (by rfl) (by rfl) (by rfl) ?_)
 intro w20 hc21 u22
 replace hc4 := u22.heap hc4 ne13
 replace RB9 := zF0 RB9 u22 (zE7 RB9 hc10 (by decide))
 replace RH9 := zF0 RH9 u22 (zE7 RH9 hc10 (by decide))
 replace G := G.upd u22 hge12
 clear u22 hc10
 refine stp (zA0 rfl ?_)
 refine zA4 ?_
 refine zC4 ?_
 obtain ⟨_, _, hs9, -, -, RB8⟩ := zE2 RB9 (by omega)
 cases hs9
 obtain ⟨_, _, hs9, -, -, RH8⟩ := zE2 RH9 (by omega)
 cases hs9
 refine ret2 (zC9 rfl hc21 (by rfl)) (zB3 (v := .int .i64 0) rfl) ⟨b5, b7, rfl, G⟩
end Go.Proofs.YtifhcfhdajkhlaaGreat.K

namespace Go.Proofs.YtifhcfhdajkhlaaGreat.K
open Go Go.RowKit Go.Proofs
attribute [local irreducible] Run1 OpG WL W AO Gives
set_option maxRecDepth 100000 in
theorem qA2 (w : World) {ads adb adh : Option Addr} {cs cb ch : Nat} {ses sum : Int} {sz wl kb : List Int} (Y : TR 3 5 4 w ads adb adh cs cb ch sz wl kb) {i : Nat} (hi : i ≤ 1000000) {adx : Option Addr} {cx : Nat} {xs : List Int} (RX : RowAt w 1 adx xs.length (xs.map (.int .u8))) (hxx : isB xs) (hcx : xs.length ≤ cx) (hcx2 : cx ≤ maxLen) : Calls Tryz.prog 18 #[.agg #[.int .u64 ses, .slice ads sz.length cs, .int .u32 sum, .slice adb (8 * wl.length) cb, .slice adh (chunksM sz) ch], .int .i64 (i : Int), .slice adx xs.length cx] w (Ret fun v w' => ∃ adb' adh' cb' ch', v = .tuple #[.agg #[.int .u64 ses, .slice ads sz.length cs, .int .u32 sum, .slice adb' (8 * (putW sz wl kb i xs).length) cb', .slice adh' (chunksM sz) ch'], .bool (putOk sz i xs.length)] ∧ TR 3 5 4 w' ads adb' adh' cs cb' ch' sz (putW sz wl kb i xs) (putK sz kb i xs.length) ∧ Grow w w') := by
 have hfit := Y.fit
 have hlw := Y.lw
 have hlk := Y.lk
 have hrz : ∀ x ∈ sz, inR .i64 x := zI7 hfit
 have hle := zG9 sz
 have hwf := zF4 hfit
 have hch : chunksM sz = (wordsM sz + 7) / 8 := rfl
 have hf16 := zG2 hfit
 have hcs := Y.hcs
 have hcb := Y.hcb
 have hcn := Y.hch
 have RS := Y.rs
 have RB := Y.rb
 have RH := Y.rh
 have hfl8 := zL3 wl
 have hub := Y.ub
 have lX := RX.lim
 have G := Grow.rfl' w
 refine zE3 Tryz.func18 Tryz.ntmps18 Tryz.results18 rfl rfl ?_
 refine zA6 (zA1 rfl ?_)
 refine zA3 (og rfl ?_)
 (first | refine zD0 rfl ?_ | refine zD2 rfl ?_ | refine zC5 rfl ?_ | refine zH0 rfl rfl ?_)
 intro b1 w2 hb3 hc4 g5
 have hge6 := Nat.le_trans G.size hb3
 replace G := G.tr g5
 clear g5 hb3
 refine stp (zD3 ?_)
 intro b7 w8 hb9 hc10 g11
 refine stp (zA8 (v := .bool false) rfl ?_)
 refine zA4 ?_
 refine zA6 ?_
 refine zA6 (zA1 rfl ?_)
 refine stp (zA2 rfl ?_)
 refine stp (zM5 rfl rfl (by omega) ?_)
 refine stp (zB6 (v := .bool false) rfl ?_)
 refine stp (zA2 rfl ?_)
 refine stp (zA5 rfl ?_)
 have hge12 := Nat.le_trans G.size hb9
 have ne13 := Nat.ne_of_lt (Nat.lt_of_lt_of_le (zA9 hc4) hb9)
 replace hc4 := g11.heap hc4
 replace G := G.tr g11
 clear g11 hb9
 refine stp (zB5 (v := .slice adh (chunksM sz) ch) rfl hc4 rfl ?_)
 refine stp (zE8 rfl rfl rfl ?_)
 refine stp (zL7 rfl rfl ?_)
 refine stp (zG8 (v := .bool (decide ((i : Int) ≥ ((chunksM sz) : Int)))) rfl rfl rfl ?_)
 refine stp (zB9 rfl ?_)
 refine zA3 (zC2 (s := .bool (decide ((i : Int) ≥ ((chunksM sz) : Int)))) (b := false) (v := .slice adx xs.length cx) rfl (zD1 _) (fun hc14 => ?_) ?_)
 ·
  have hc14_ := hc14
  try simp only [sb] at hc14_
  refine zA7 rfl ?_
  exact ⟨rfl, rfl⟩
 refine zA3 (zC2 (s := .bool (decide ((i : Int) ≥ ((chunksM sz) : Int)))) (b := false) (v := .int .i64 (xs.length : Int)) rfl (zD1 _) (fun hc15 => ?_) ?_)
 ·
  have hc15_ := hc15
  try simp only [sb] at hc15_
  refine zE8 rfl rfl (gvt hc15) ?_
  exact ⟨rfl, rfl⟩
 refine zA3 (zC2 (s := .bool (decide ((i : Int) ≥ ((chunksM sz) : Int)))) (b := false) (v := .pointer (some ⟨b1, 0, none⟩)) rfl (zD1 _) (fun hc16 => ?_) ?_)
 ·
  have hc16_ := hc16
  try simp only [sb] at hc16_
  refine zA5 rfl ?_
  exact ⟨rfl, rfl⟩
 refine zA3 (zC2 (s := .bool (decide ((i : Int) ≥ ((chunksM sz) : Int)))) (b := false) (v := .agg #[.int .u64 ses, .slice ads sz.length cs, .int .u32 sum]) rfl (zD1 _) (fun hc17 => ?_) ?_)
 ·
  have hc17_ := hc17
  try simp only [sb] at hc17_
  refine zH8 (gvt hc17) hc4 (by rfl) (by rfl) ?_
  exact ⟨rfl, rfl⟩
 refine zA3 (zC2 (s := .bool (decide ((i : Int) ≥ ((chunksM sz) : Int)))) (b := false) (v := .int .i64 (i : Int)) rfl (zD1 _) (fun hc18 => ?_) ?_)
 ·
  have hc18_ := hc18
  try simp only [sb] at hc18_
  refine zA2 rfl ?_
  exact ⟨rfl, rfl⟩
 refine zA3 (zR6 (s := .bool (decide ((i : Int) ≥ ((chunksM sz) : Int)))) (b := false) (v := .int .i64 (sizeM sz (i : Int))) rfl (zD1 _) (fun hc19 => ?_) ?_)
 ·
  have hc19_ := hc19
  try simp only [sb] at hc19_
  exact zL0 (l := ([.agg #[.int .u64 ses, .slice ads sz.length cs, .int .u32 sum], .int .i64 (i : Int)] : List Value)) rfl (by show ([gv (!(decide ((i : Int) ≥ ((chunksM sz) : Int)))) (.agg #[.int .u64 ses, .slice ads sz.length cs, .int .u32 sum]), gv (!(decide ((i : Int) ≥ ((chunksM sz) : Int)))) (.int .i64 (i : Int))] : List Value) = _; rw [gvt hc19, gvt hc19]) (qM6 _ (RS.grow G) hrz (i := (i : Int)) (by simp only [inR]; omega)) (fun w2_ g2_ => ⟨rfl, g2_⟩)
 intro w20 g21
 replace hc4 := g21.heap hc4
 replace hc10 := g21.heap hc10
 replace G := G.tr g21
 clear g21
 refine zA3 (zC2 (s := .bool (decide ((i : Int) ≥ ((chunksM sz) : Int)))) (b := false) (v := .bool (decide ((xs.length : Int) ≠ (sizeM sz (i : Int))))) rfl (zD1 _) (fun hc22 => ?_) ?_)
 ·
  have hc22_ := hc22
  try simp only [sb] at hc22_
  refine zI9 (gvt hc22) (gvt hc22) ?_
  exact ⟨rfl, rfl⟩
 refine stp (zI6 rfl rfl rfl ?_)
 refine zA4 ?_
 refine zB8 (b := ((decide ((i : Int) ≥ ((chunksM sz) : Int))) || (decide ((xs.length : Int) ≠ (sizeM sz (i : Int)))))) rfl (fun h1 => ?_) (fun h1 => ?_)
 ·-- true
  simp only [sb] at h1
  have hpo : (putOk sz i xs.length) = false := by unfold putOk; exact decide_eq_false (by omega)
  obtain ⟨en1, en2⟩ := qV9 (wl := wl) (kb := kb) (xs := xs) (.inl hpo)
  refine zA6 (zA1 rfl ?_)
  refine stp (zB4 rfl hc4 (by rfl) ?_)
  refine stn (zB1 rfl rfl hc10 (by rfl) (by rfl) (by rfl) ?_)
  intro w23 hc24 u25
  replace hc4 := u25.heap hc4 ne13
  replace G := G.upd u25 hge12
  clear u25 hc10
  refine stp (zA8 (v := .bool false) rfl ?_)
  refine zA4 ?_
  refine zC4 ?_
  refine ret2 (zC9 rfl hc24 (by rfl)) (zB3 (v := .bool false) rfl) ⟨adb, adh, cb, ch, by rw [hpo, en1], by rw [en1, en2]; exact Y.grow G, G⟩
 ·-- false
  simp only [sb] at h1
  have hpo : (putOk sz i xs.length) = true := by unfold putOk; exact decide_eq_true (by omega)
  have him : i < chunksM sz := by omega
  refine zC3 ?_
  refine zA6 ?_
  refine zA6 (zA1 rfl ?_)
  refine stp (zA5 rfl ?_)
  refine stp (zB5 (v := .slice adh (chunksM sz) ch) rfl hc4 rfl ?_)
  refine stp (zA2 rfl ?_)
  refine stp (zD9 (RH.grow G) rfl rfl ?_ ?_); omega
  refine stp (zD7 (v := .bool (bitQ kb i)) (m := 0) (RH.grow G) rfl (by rw [Nat.mul_one, List.getElem?_map, List.getElem?_range (by omega)]; rfl) ?_)
  refine zA4 ?_
  refine zB8 (b := (bitQ kb i)) rfl (fun h2 => ?_) (fun h2 => ?_)
  ·-- true
   obtain ⟨en1, en2⟩ := qV9 (wl := wl) (xs := xs) (.inr (by rw [Int.toNat_natCast]; exact h2) : putOk sz (i : Int) xs.length = false ∨ bitQ kb ((i : Int)).toNat = true)
   refine zA6 (zA1 rfl ?_)
   refine stp (zB4 rfl hc4 (by rfl) ?_)
   refine stn (zB1 rfl rfl hc10 (by rfl) (by rfl) (by rfl) ?_)
   intro w26 hc27 u28
   replace hc4 := u28.heap hc4 ne13
   replace G := G.upd u28 hge12
   clear u28 hc10
   refine stp (zA8 (v := .bool true) rfl ?_)
   refine zA4 ?_
   refine zC4 ?_
   refine ret2 (zC9 rfl hc27 (by rfl)) (zB3 (v := .bool true) rfl) ⟨adb, adh, cb, ch, by rw [hpo, en1], by rw [en1, en2]; exact Y.grow G, G⟩
  ·-- false
   have hd : putDo sz kb i xs.length = true := qV5 hpo (by rw [Int.toNat_natCast]; simpa using h2)
   obtain ⟨hm1, hm2, hm3, hm4, hm5⟩ := qV4 hpo
   have hm8 := yK1 hm2 hm1
   have own0 : w20.ownsRow w.heap.size 5 1 (.slice none 0 0) 0 [] := World.ownsRow_nil _ _ _ _
   refine zC3 ?_
   refine zA6 (zA1 rfl ?_)
   refine stp (zB0 rfl ?_)
   refine zA4 ?_
   replace own0 : w20.ownsRow w.heap.size 5 1 (.slice none 0 0) 0 [] := World.ownsRow_nil _ _ _ _
   refine zA6 (zA1 rfl ?_)
   refine stp (zA7 rfl ?_)
   refine stp (zA5 rfl ?_)
   refine stp (zB5 (v := .slice adb (8 * wl.length) cb) rfl hc4 rfl ?_)
   refine stp (zA2 rfl ?_)
   refine zA3 (og rfl ?_)
   refine zL5 rfl rfl ?_ ?_; constructor <;> omega
   rw [show 64 * (i : Int) = ((64 * i : Nat) : Int) from by omega]
   refine stp (qA5 rfl rfl (by omega) (by omega) ?_)
   have RA := RB.sliceH (m := 64 * i) hcb.1 (by omega) (by decide)
   rw [Int.toNat_natCast]
   generalize (if cb = 0 then adb else adb.map (·.add (0 * 1))) = ad1 at RA ⊢
   refine stp (zG4 rfl rfl rfl rfl own0 ⟨_, _, rfl, by omega, hcb.2, RA.grow G⟩ (fun q_ hq_ => by first | (obtain ⟨z_, -, rfl⟩ := List.mem_map.1 (List.mem_of_mem_take hq_); rfl) | (obtain ⟨z_, -, rfl⟩ := List.mem_map.1 (List.mem_of_mem_drop (List.mem_of_mem_take hq_)); rfl)) (by simp only [maxLen]; omega) (by omega) G.size ?_)
   intro v29 w30 own1 gr6
   replace G := G.grown gr6 (zI2 own0)
   replace hc4 := zI3 gr6 hc4 (zE7 own0 hc4 (by decide))
   replace hc10 := zI3 gr6 hc10 (zE7 own0 hc10 (by decide))
   clear own0 gr6
   obtain ⟨ad4, n4, c4, rfl⟩ := zF3 own1
   refine stp (zB0 rfl ?_)
   refine zA4 ?_
   refine zA6 (zA1 rfl ?_)
   refine stp (zA7 rfl ?_)
   refine stp (zA7 rfl ?_)
   refine stp (zG4 rfl rfl rfl rfl own1 ⟨_, _, rfl, hcx, hcx2, RX.grow G⟩ (fun q_ hq_ => by obtain ⟨z_, -, rfl⟩ := List.mem_map.1 hq_; rfl) (by simp only [maxLen]; omega) (by omega) G.size ?_)
   intro v31 w32 own2 gr6
   replace G := G.grown gr6 (zI2 own1)
   replace hc4 := zI3 gr6 hc4 (zE7 own1 hc4 (by decide))
   replace hc10 := zI3 gr6 hc10 (zE7 own1 hc10 (by decide))
   clear own1 gr6
   obtain ⟨ad4, n4, c4, rfl⟩ := zF3 own2
   refine stp (zB0 rfl ?_)
   refine zA4 ?_
   refine zA6 (zA1 rfl ?_)
   refine stp (zA7 rfl ?_)
   refine stp (zA5 rfl ?_)
   refine stp (zB5 (v := .slice adb (8 * wl.length) cb) rfl hc4 rfl ?_)
   refine stp (zA2 rfl ?_)
   refine zA3 (og rfl ?_)
   refine zL5 rfl rfl ?_ ?_; constructor <;> omega
   rw [show 64 * (i : Int) = ((64 * i : Nat) : Int) from by omega]
   refine stp (zA7 rfl ?_)
   refine stp (zE8 rfl rfl rfl ?_)
   refine zA3 (og rfl ?_)
   refine zD8 rfl rfl ?_ ?_; constructor <;> omega
   rw [show ((64 * i : Nat) : Int) + (xs.length : Int) = ((64 * i + xs.length : Nat) : Int) from by omega]
   refine stp (zV5 rfl rfl (by omega) (by omega) ?_)
   have RC := RB.sliceLH (l := (64 * i + xs.length)) (m := 8 * wl.length - (64 * i + xs.length)) hcb.1 (by omega) (by decide)
   rw [Int.toNat_natCast]
   generalize (if cb = (64 * i + xs.length) then adb else adb.map (·.add ((64 * i + xs.length) * 1))) = ad3 at RC ⊢
   refine stp (zG4 rfl rfl rfl rfl own2 ⟨_, _, rfl, by omega, by omega, RC.grow G⟩ (fun q_ hq_ => by first | (obtain ⟨z_, -, rfl⟩ := List.mem_map.1 (List.mem_of_mem_take hq_); rfl) | (obtain ⟨z_, -, rfl⟩ := List.mem_map.1 (List.mem_of_mem_drop (List.mem_of_mem_take hq_)); rfl)) (by simp only [maxLen]; omega) (by omega) G.size ?_)
   intro v33 w34 own3 gr6
   replace G := G.grown gr6 (zI2 own2)
   replace hc4 := zI3 gr6 hc4 (zE7 own2 hc4 (by decide))
   replace hc10 := zI3 gr6 hc10 (zE7 own2 hc10 (by decide))
   clear own2 gr6
   obtain ⟨ad4, n4, c4, rfl⟩ := zF3 own3
   refine stp (zB0 rfl ?_)
   refine zA4 ?_
   have hbe : (putW sz wl kb i xs).flatMap byt8 = (wl.flatMap byt8).take (64 * i) ++ xs ++ (wl.flatMap byt8).drop (64 * i + xs.length) := by unfold putW; rw [hd, if_pos rfl, Int.toNat_natCast]; exact yF4 hxx hm8
   have hpl : (putW sz wl kb i xs).length = wl.length := by unfold putW; rw [hd, if_pos rfl, Int.toNat_natCast]; exact yD5 (by rw [zR3]; omega)
   have hve : ([] ++ ((wl.flatMap byt8).map (Value.int .u8)).take (64 * i * 1) ++ xs.map (.int .u8)) ++ (((wl.flatMap byt8).map (Value.int .u8)).drop ((64 * i + xs.length) * 1)).take ((8 * wl.length - (64 * i + xs.length)) * 1) = ((putW sz wl kb i xs).flatMap byt8).map (.int .u8) := by rw [hbe, List.nil_append, Nat.mul_one, Nat.mul_one, Nat.mul_one, List.map_append, List.map_append, List.map_take, List.map_drop]; congr 1; exact List.take_of_length_le (by rw [List.length_drop, List.length_map]; omega)
   rw [hve, show 0 + 64 * i + xs.length + (8 * wl.length - (64 * i + xs.length)) = 8 * (putW sz wl kb i xs).length from by omega] at own3
   have hno3 := qD0 own3
   subst hno3
   refine zA6 (zA1 rfl ?_)
   refine stp (zB0 rfl ?_)
   refine zA4 ?_
   have GB := Grow.rfl' w34
   have ownH : w34.ownsRow w34.heap.size 4 1 (.slice none 0 0) 0 [] := World.ownsRow_nil _ _ _ _
   have hG4 := G.size
   refine zA6 (zA1 rfl ?_)
   refine stp (zA7 rfl ?_)
   refine stp (zA5 rfl ?_)
   refine stp (zB5 (v := .slice adh (chunksM sz) ch) rfl hc4 rfl ?_)
   refine stp (zG4 rfl rfl rfl rfl ownH ⟨_, _, rfl, hcn.1, hcn.2, RH.grow G⟩ (fun q_ hq_ => by obtain ⟨z_, -, rfl⟩ := List.mem_map.1 hq_; rfl) (by simp only [maxLen]; omega) (by omega) GB.size ?_)
   intro v6 w6 own5 gr6
   have g6 : Grow w34 w6 := GB.grown gr6 (zI2 ownH)
   replace hc4 := g6.heap hc4
   replace hc10 := g6.heap hc10
   replace own3 := zC8 own3 g6
   replace GB := GB.tr g6
   replace G := G.tr g6
   rw [Nat.zero_add, List.nil_append] at own5
   obtain ⟨gH, cH, curH, rfl, hgHb, hgH, hcH1, hcH2, hcH3, hcH4⟩ := zK1 own5 (by omega)
   refine stp (zB0 rfl ?_)
   refine zA4 ?_
   refine zA6 (zA1 rfl ?_)
   refine stp (zA7 rfl ?_)
   refine stp (zA2 rfl ?_)
   refine zA3 (og rfl ?_)
   refine zH9 (b := gH) (o := 0) rfl rfl (by omega) (by omega) ?_
   rw [Int.toNat_natCast, Nat.zero_add, Nat.mul_one]
   refine stn (zE0 (v := .bool true) rfl rfl rfl hgH (Nat.ble_eq_true_of_le (by omega)) rfl ?_)
   intro w7 hs7 u7
   have o7 := zJ6 (i := i) (x := .bool true) own5 hgH hs7 (by simp)
   have own37 := zF0 own3 u7 (zE7 own3 hgH (by decide))
   replace G := G.upd u7 (by omega)
   have h37 := u7.heap hc4 (fun he_ => by rw [he_, hgH] at hc4; simp only [Option.some.injEq, Obj.cells.injEq] at hc4; exact absurd hc4.2.1 (by decide))
   have h67 := u7.heap hc10 (fun he_ => by rw [he_, hgH] at hc10; simp only [Option.some.injEq, Obj.cells.injEq] at hc10; exact absurd hc10.2.1 (by decide))
   refine zA4 ?_
   have hlenb := qU5 hub (i := i) (by omega)
   have hhs := yM9 (n := chunksM sz) hlenb him
   rw [← hhs] at o7
   refine zA6 (zA1 rfl ?_)
   refine stp (zA5 rfl ?_)
   refine stp (zH8 rfl h37 (by rfl) (by rfl) ?_)
   refine stp (zA7 rfl ?_)
   refine stp (zA7 rfl ?_)
   refine stp (zD4 (v := .agg #[.int .u64 ses, .slice ads sz.length cs, .int .u32 sum, .slice ad4 (8 * (putW sz wl kb i xs).length) c4, .slice (some ⟨gH, 0, none⟩) (chunksM sz) cH]) (fun w => by kernel_rfl) ?_)
   refine stn (zB1 rfl rfl h67 (by rfl) (by rfl) (by rfl) ?_)
   intro w35 hc36 u37
   replace h37 := u37.heap h37 ne13
   replace own37 := zF0 own37 u37 (zE7 own37 h67 (by decide))
   replace o7 := zF0 o7 u37 (zE7 o7 h67 (by decide))
   replace G := G.upd u37 hge12
   clear u37 h67
   refine stp (zA8 (v := .bool true) rfl ?_)
   refine zA4 ?_
   refine zC4 ?_
   obtain ⟨_, _, hs9, hq7, hq8, RH7⟩ := zE2 o7 (by omega)
   cases hs9
   obtain ⟨_, _, hs9, hcB1, hcB2, RB7⟩ := zE2 own37 (by omega)
   cases hs9
   have hpw : ∀ x ∈ putW sz wl kb i xs, inR .u64 x := by unfold putW; rw [hd, if_pos rfl]; exact yD6 Y.uw (qD4 hxx)
   have hpk : putK sz kb i xs.length = setQ kb i := by unfold putK; rw [hd, if_pos rfl, Int.toNat_natCast]
   refine ret2 (zC9 rfl hc36 (by rfl)) (zB3 (v := .bool true) rfl) ⟨_, _, _, _, by rw [hpo], ⟨hfit, by rw [hpl]; exact hlw, by rw [hpk, qI1]; exact hlk, by rw [hpk]; exact qI2 hub i, hpw, fun c_ hc_ => by rw [hpk, hlenb] at hc_; by_cases h_ : c_ = i; (rw [h_]; exact him); (exact Y.low c_ (by simpa [h_] using hc_)), zC8 Y.os G, zI0 own37 (Nat.zero_le _), by rw [hpk]; exact zI0 o7 (Nat.zero_le _)⟩, G⟩
end Go.Proofs.YtifhcfhdajkhlaaGreat.K

namespace Go.Proofs.YtifhcfhdajkhlaaGreat.K
open Go Go.RowKit Go.Proofs
attribute [local irreducible] Run1 OpG WL W AO Gives
theorem qO7 : MethI Tryz.prog 82 "Word" 151 := ⟨fun v args w => by kernel_rfl⟩
theorem qJ5 : MethI Tryz.prog 82 "Sizes" 150 := ⟨fun v args w => by kernel_rfl⟩
set_option maxRecDepth 100000 in
theorem qE4 (w : World) {base b g h : Nat} {ses sum : Int} {sz wl kb : List Int} (H : PartR 86 3 33 5 w base b g h ses sum sz wl kb) : Calls Tryz.prog 150 #[.pointer (some ⟨b, 3, none⟩)] w (Ret fun r w2 => ∃ ad c, r = .slice ad sz.length c ∧ RowAt w2 1 ad sz.length (sz.map (.int .i64)) ∧ Grow w w2) := by
 have H0 := H
 obtain ⟨hfit, hlw, hlk, hub, huw, hb0, ads, cs, cw, ck, hB, oS, oW, oK⟩ := H
 have hle := zG9 sz
 have hwf := zF4 hfit
 have hch : chunksM sz = (wordsM sz + 7) / 8 := rfl
 have hf16 := zG2 hfit
 have hrz : ∀ x ∈ sz, inR .i64 x := zI7 hfit
 have G := Grow.rfl' w
 refine zE3 Tryz.func150 Tryz.ntmps150 Tryz.results150 rfl rfl ?_
 obtain ⟨_, _, hs9, hcs, hcs2, RS⟩ := zE2 oS (by omega)
 cases hs9
 obtain ⟨_, _, hs9, hcw, hcw2, RW⟩ := zE2 oW (by omega)
 cases hs9
 obtain ⟨_, _, hs9, hck, hck2, RK⟩ := zE2 oK (by omega)
 cases hs9
 refine zA6 (zA1 rfl ?_)
 refine stp (zB0 rfl ?_)
 refine zA4 ?_
 refine zA6 (zA1 rfl ?_)
 refine stp (zD6 rfl ?_)
 refine stp (zE1 rfl ?_)
 refine stp (zA5 rfl ?_)
 refine stp (zB5 (v := .slice ads sz.length cs) rfl hB rfl ?_)
 refine stp (zB0 rfl ?_)
 refine zA4 ?_
 refine zC4 ?_
 refine ret1 (zB3 (v := .slice ads sz.length cs) rfl) ⟨_, _, rfl, RS.grow G, G⟩

set_option maxRecDepth 100000 in
theorem qJ6 (w : World) {base b g h : Nat} {ses sum : Int} {sz wl kb : List Int} (H : PartR 86 3 33 5 w base b g h ses sum sz wl kb) (seg a : Int) : Gives Tryz.prog 151 #[.pointer (some ⟨b, 3, none⟩), .int .i64 seg, .int .i64 a] w (.tuple #[.int .u64 ((srcW sz wl kb seg a).1), .int .u16 ((srcW sz wl kb seg a).2)]) := by
 have H0 := H
 obtain ⟨hfit, hlw, hlk, hub, huw, hb0, ads, cs, cw, ck, hB, oS, oW, oK⟩ := H
 have hle := zG9 sz
 have hwf := zF4 hfit
 have hch : chunksM sz = (wordsM sz + 7) / 8 := rfl
 have hf16 := zG2 hfit
 have hrz : ∀ x ∈ sz, inR .i64 x := zI7 hfit
 have G := Grow.rfl' w
 refine zC7 Tryz.func151 Tryz.ntmps151 Tryz.results151 rfl rfl ?_
 obtain ⟨_, _, hs9, hcs, hcs2, RS⟩ := zE2 oS (by omega)
 cases hs9
 obtain ⟨_, _, hs9, hcw, hcw2, RW⟩ := zE2 oW (by omega)
 cases hs9
 obtain ⟨_, _, hs9, hck, hck2, RK⟩ := zE2 oK (by omega)
 cases hs9
 refine zA6 (zA1 rfl ?_)
 refine stp (zA0 rfl ?_)
 refine stp (zA0 rfl ?_)
 refine zA4 ?_
 refine zA6 (zA1 rfl ?_)
 refine stp (zD6 rfl ?_)
 refine stp (zE1 rfl ?_)
 refine stp (zA5 rfl ?_)
 refine stp (zB5 (v := .slice ads sz.length cs) rfl hB rfl ?_)
 refine stp (zA2 rfl ?_)
 refine stp (zA2 rfl ?_)
 refine stp (zC0 (v := .int .i64 (placeM sz seg a)) rfl (qM4 _ (RS.grow G) hrz hcs) ?_)
 intro w1 g2
 replace hB := g2.heap hB
 replace G := G.tr g2
 clear g2
 refine stp (zA0 rfl ?_)
 refine zA4 ?_
 refine zA6 ?_
 refine zC6 ?_
 refine zA6 (zA1 rfl ?_)
 refine stp (zA2 rfl ?_)
 refine stp (zF9 rfl rfl ?_)
 refine stp (zC1 rfl ?_)
 refine zA4 ?_
 refine zB8 (b := (decide ((placeM sz seg a) < 0))) rfl (fun h1 => ?_) (fun h1 => ?_)
 ·-- true
  replace h1 := of_decide_eq_true h1
  refine zA6 (zA1 rfl ?_)
  refine stp (zA0 rfl ?_)
  refine stp (zA0 rfl ?_)
  refine zA4 ?_
  refine zC4 ?_
  have h9 : srcW sz wl kb seg a = (0, 20) := by unfold srcW; rw [if_pos h1]
  refine ret2 (zB3 (v := .int .u64 0) rfl) (zB3 (v := .int .u16 20) rfl) ⟨?_, G⟩
  rw [h9]
 ·-- false
  replace h1 := of_decide_eq_false h1
  obtain ⟨k, hk⟩ : ∃ k : Nat, placeM sz seg a = (k : Int) := ⟨(placeM sz seg a).toNat, by omega⟩
  have hlt := (zX0 (sz := sz) (seg := seg) (a := a) (by omega)).2.2.2.2.2.2
  have hkn : (placeM sz seg a).toNat = k := by omega
  refine zA6 (zA1 rfl ?_)
  refine stp (zD6 rfl ?_)
  refine stp (zE1 rfl ?_)
  refine stp (zA5 rfl ?_)
  refine stp (zB5 (v := .slice (some ⟨h, 0, none⟩) kb.length ck) rfl hB rfl ?_)
  refine stp (zA2 rfl ?_)
  refine zA3 (og rfl ?_)
  refine zK3 rfl rfl ?_ ?_ ?_ ?_; omega; omega; (constructor <;> omega)
  rw [show placeM sz seg a / 8 = ((k / 8 : Nat) : Int) from by omega]
  refine stp (zC0 (v := .bool (bitQ kb (k / 8))) rfl (zZ7 _ (RK.grow G) hub (i := k / 8) (by omega)) ?_)
  intro w3 g4
  replace hB := g4.heap hB
  replace G := G.tr g4
  clear g4
  refine stp (zN6 rfl ?_)
  refine stp (zC1 rfl ?_)
  refine zA4 ?_
  refine zB8 (b := (!(bitQ kb (k / 8)))) rfl (fun h2 => ?_) (fun h2 => ?_)
  ·-- true
   simp only [sb] at h2
   refine zA6 (zA1 rfl ?_)
   refine stp (zA0 rfl ?_)
   refine stp (zA0 rfl ?_)
   refine zA4 ?_
   refine zC4 ?_
   have h9 : srcW sz wl kb seg a = (0, 30) := by unfold srcW; rw [if_neg h1, hkn, if_neg (by simpa using h2)]
   refine ret2 (zB3 (v := .int .u64 0) rfl) (zB3 (v := .int .u16 30) rfl) ⟨?_, G⟩
   rw [h9]
  ·-- false
   simp only [sb] at h2
   refine zC3 ?_
   refine zA6 (zA1 rfl ?_)
   refine stp (zD6 rfl ?_)
   refine stp (zE1 rfl ?_)
   refine stp (zA5 rfl ?_)
   refine stp (zB5 (v := .slice (some ⟨g, 0, none⟩) wl.length cw) rfl hB rfl ?_)
   refine stp (zA2 rfl ?_)
   refine stp (zD9 (i := k) (RW.grow G) rfl (by rw [← hk]; rfl) ?_ ?_); omega
   refine stp (zD7 (v := .int .u64 (wl.getD k 0)) (m := 0) (RW.grow G) rfl (zE4 0 (by omega)) ?_)
   refine stp (zA0 rfl ?_)
   refine stp (zA0 rfl ?_)
   refine zA4 ?_
   refine zC4 ?_
   have h9 : srcW sz wl kb seg a = (wl.getD k 0, 0) := by unfold srcW; rw [if_neg h1, hkn, if_pos (by simpa using h2)]
   refine ret2 (zB3 (v := .int .u64 (wl.getD k 0)) rfl) (zB3 (v := .int .u16 0) rfl) ⟨?_, G⟩
   rw [h9]

theorem qZ5 {w : World} {base b g h : Nat} {ses sum : Int} {sz wl kb : List Int} (H : PartR 86 3 33 5 w base b g h ses sum sz wl kb) : SrcOk Tryz.prog w (.iface 82 (.pointer (some ⟨b, 3, none⟩))) (srcP sz wl kb) :=
  yJ4 H.fit H.uw qO7 qJ5 (fun w' g seg a => qJ6 w' (H.grow g) seg a) (fun w' g => qE4 w' (H.grow g))

set_option maxRecDepth 100000 in
theorem zV0 (w : World) {base b g h : Nat} {ses sum : Int} {sz wl kb : List Int} (H : PartR 86 3 33 5 w base b g h ses sum sz wl kb) {ad : Option Addr} {c : Nat} {steps : List Int} {a : Int} (R : RowAt w 1 ad steps.length (steps.map (.int .i64))) (hR : ∀ x ∈ steps, inR .i64 x) (ha : inR .i64 a) : Gives Tryz.prog 10 #[.pointer (some ⟨b, 0, none⟩), .agg #[.slice ad steps.length c, .int .i64 a]] w (.tuple #[.agg #[.int .i64 ((walkS (srcP sz wl kb) steps a 8192).1.kind), .int .i64 ((walkS (srcP sz wl kb) steps a 8192).1.size), .int .i64 ((walkS (srcP sz wl kb) steps a 8192).1.words), .int .i64 ((walkS (srcP sz wl kb) steps a 8192).1.kids), .int .u64 ((walkS (srcP sz wl kb) steps a 8192).1.word)], .int .u16 ((walkS (srcP sz wl kb) steps a 8192).2)]) := by
 have H0 := H
 obtain ⟨hfit, hlw, hlk, hub, huw, hb0, ads, cs, cw, ck, hB, oS, oW, oK⟩ := H
 have hle := zG9 sz
 have hwf := zF4 hfit
 have hch : chunksM sz = (wordsM sz + 7) / 8 := rfl
 have hf16 := zG2 hfit
 have hrz : ∀ x ∈ sz, inR .i64 x := zI7 hfit
 have G := Grow.rfl' w
 refine zC7 Tryz.func10 Tryz.ntmps10 Tryz.results10 rfl rfl ?_
 refine zA6 (zA1 rfl ?_)
 refine zA3 (og rfl ?_)
 (first | refine zD0 rfl ?_ | refine zD2 rfl ?_ | refine zC5 rfl ?_ | refine zH0 rfl rfl ?_)
 intro b1 w2 hb3 hc4 g5
 have hge6 := Nat.le_trans G.size hb3
 replace hB := g5.heap hB
 replace G := G.tr g5
 clear g5 hb3
 refine stp (zD3 ?_)
 intro b7 w8 hb9 hc10 g11
 refine stp (zA0 rfl ?_)
 refine zA4 ?_
 refine zA6 ?_
 refine zA6 (zA1 rfl ?_)
 refine stp (zD6 rfl ?_)
 refine stp (qC3 Tryz.underlying31 rfl rfl ?_)
 refine zA4 ?_
 have hge12 := Nat.le_trans G.size hb9
 have ne13 := Nat.ne_of_lt (Nat.lt_of_lt_of_le (zA9 hB) hb9)
 have ne14 := Nat.ne_of_lt (Nat.lt_of_lt_of_le (zA9 hc4) hb9)
 replace hB := g11.heap hB
 replace hc4 := g11.heap hc4
 replace G := G.tr g11
 clear g11 hb9
 refine zI8 rfl ?_
 refine zC3 ?_
 refine zA6 ?_
 refine zJ4 8 [[], [0], [1, 0], [2, 1, 0], [], [4, 3, 2, 1, 0], [5, 4, 3, 2, 1, 0], [6, 5, 4, 3, 2, 1]] mixed (by kernel_rfl) (by kernel_rfl) (by kernel_rfl) ?_
 intro w15 g16
 replace hB := g16.heap hB
 replace hc4 := g16.heap hc4
 replace hc10 := g16.heap hc10
 replace G := G.tr g16
 clear g16
 apply zB7
 ·intro w_ g_; refine og rfl ?_; refine zD6 rfl ?_; exact ⟨Grow.rfl' _, rfl⟩
 apply zB7
 ·intro w_ g_; refine og rfl ?_; refine zE1 rfl ?_; exact ⟨Grow.rfl' _, rfl⟩
 apply zB7
 ·intro w_ g_; refine og rfl ?_; refine zA5 rfl ?_; exact ⟨Grow.rfl' _, rfl⟩
 apply zB7
 ·intro w_ g_; refine og rfl ?_; refine qP8 (v := .pointer (some ⟨b, 3, none⟩)) rfl ?_; exact ⟨Grow.rfl' _, rfl⟩
 apply zB7
 ·intro w_ g_; refine og rfl ?_; refine zB4 rfl (g_.heap hc4) (by rfl) ?_; exact ⟨Grow.rfl' _, rfl⟩
 apply zB7
 ·intro w_ g_; refine og rfl ?_; exact zC0 (v := .tuple #[.agg #[.int .i64 ((walkS (srcP sz wl kb) steps a 8192).1.kind), .int .i64 ((walkS (srcP sz wl kb) steps a 8192).1.size), .int .i64 ((walkS (srcP sz wl kb) steps a 8192).1.words), .int .i64 ((walkS (srcP sz wl kb) steps a 8192).1.kids), .int .u64 ((walkS (srcP sz wl kb) steps a 8192).1.word)], .int .u16 ((walkS (srcP sz wl kb) steps a 8192).2)]) rfl (qX8 _ ((qZ5 H0).grow (G.tr g_)) (R.grow (G.tr g_)) hR ha (by simp [inR])) (fun w2_ g2_ => ⟨g2_, rfl⟩)
 apply zB7
 ·intro w_ g_; refine og rfl ?_; refine zB2 (v := .agg #[.int .i64 ((walkS (srcP sz wl kb) steps a 8192).1.kind), .int .i64 ((walkS (srcP sz wl kb) steps a 8192).1.size), .int .i64 ((walkS (srcP sz wl kb) steps a 8192).1.words), .int .i64 ((walkS (srcP sz wl kb) steps a 8192).1.kids), .int .u64 ((walkS (srcP sz wl kb) steps a 8192).1.word)]) rfl rfl ?_; exact ⟨Grow.rfl' _, rfl⟩
 apply zB7
 ·intro w_ g_; refine og rfl ?_; refine zB2 (v := .int .u16 ((walkS (srcP sz wl kb) steps a 8192).2)) rfl rfl ?_; exact ⟨Grow.rfl' _, rfl⟩
 refine zI5 ?_
 intro w17 g18
 replace hB := g18.heap hB
 replace hc4 := g18.heap hc4
 replace hc10 := g18.heap hc10
 replace G := G.tr g18
 clear g18
 refine stn (zB1 rfl rfl hc10 (by rfl) (by rfl) (by rfl) ?_)
 intro w19 hc20 u21
 replace hB := u21.heap hB ne13
 replace hc4 := u21.heap hc4 ne14
 replace G := G.upd u21 hge12
 clear u21 hc10
 refine stp (zA0 rfl ?_)
 refine zA4 ?_
 refine zC4 ?_
 refine ret2 (zC9 rfl hc20 (by rfl)) (zB3 (v := .int .u16 ((walkS (srcP sz wl kb) steps a 8192).2)) rfl) ⟨?_, G⟩
 rfl

set_option maxRecDepth 100000 in
theorem qA3 (w : World) {base b g h : Nat} {ses sum : Int} {sz wl kb : List Int} (H : PartR 86 3 33 5 w base b g h ses sum sz wl kb) : Gives Tryz.prog 20 #[.pointer (some ⟨b, 0, none⟩)] w (.int .i64 (8 * (wordsM sz : Int))) := by
 have H0 := H
 obtain ⟨hfit, hlw, hlk, hub, huw, hb0, ads, cs, cw, ck, hB, oS, oW, oK⟩ := H
 have hle := zG9 sz
 have hwf := zF4 hfit
 have hch : chunksM sz = (wordsM sz + 7) / 8 := rfl
 have hf16 := zG2 hfit
 have hrz : ∀ x ∈ sz, inR .i64 x := zI7 hfit
 have G := Grow.rfl' w
 refine zC7 Tryz.func20 Tryz.ntmps20 Tryz.results20 rfl rfl ?_
 obtain ⟨_, _, hs9, hcs, hcs2, RS⟩ := zE2 oS (by omega)
 cases hs9
 obtain ⟨_, _, hs9, hcw, hcw2, RW⟩ := zE2 oW (by omega)
 cases hs9
 obtain ⟨_, _, hs9, hck, hck2, RK⟩ := zE2 oK (by omega)
 cases hs9
 refine zA6 (zA1 rfl ?_)
 refine stp (zA0 rfl ?_)
 refine zA4 ?_
 refine zA6 ?_
 refine zA6 (zA1 rfl ?_)
 refine stp (zD6 rfl ?_)
 refine stp (qC3 Tryz.underlying31 rfl rfl ?_)
 refine zA4 ?_
 refine zI8 rfl ?_
 refine zC3 ?_
 refine zA6 (zA1 rfl ?_)
 refine stp (zD6 rfl ?_)
 refine stp (zE1 rfl ?_)
 refine stp (zA5 rfl ?_)
 refine stp (zH8 rfl hB (by rfl) (by rfl) ?_)
 refine stp (zC0 (v := .int .i64 (wordsM sz : Int)) rfl (zO6 _ (RS.grow G) hrz) ?_)
 intro w1 g2
 replace hB := g2.heap hB
 replace G := G.tr g2
 clear g2
 refine stp (zL5 rfl rfl ?_ ?_); constructor <;> omega
 refine stp (zA0 rfl ?_)
 refine zA4 ?_
 refine zC4 ?_
 refine ret1 (zB3 (v := .int .i64 (8 * (wordsM sz : Int))) rfl) ⟨?_, G⟩
 rfl

set_option maxRecDepth 100000 in
theorem qO8 (w : World) {base b g h : Nat} {ses sum : Int} {sz wl kb : List Int} (H : PartR 86 3 33 5 w base b g h ses sum sz wl kb) : Calls Tryz.prog 53 #[.pointer (some ⟨b, 0, none⟩)] w (Ret fun v w' => ∃ q c, v = .slice (some ⟨q, 0, none⟩) kb.length c ∧ w.heap.size ≤ q ∧ kb.length ≤ c ∧ c ≤ maxLen ∧ w'.ownsRow w.heap.size 5 1 (.slice (some ⟨q, 0, none⟩) kb.length c) kb.length (kb.map (.int .u8)) ∧ Grow w w') := by
 have H0 := H
 obtain ⟨hfit, hlw, hlk, hub, huw, hb0, ads, cs, cw, ck, hB, oS, oW, oK⟩ := H
 have hle := zG9 sz
 have hwf := zF4 hfit
 have hch : chunksM sz = (wordsM sz + 7) / 8 := rfl
 have hf16 := zG2 hfit
 have hrz : ∀ x ∈ sz, inR .i64 x := zI7 hfit
 have G := Grow.rfl' w
 refine zE3 Tryz.func53 Tryz.ntmps53 Tryz.results53 rfl rfl ?_
 obtain ⟨_, _, hs9, hcs, hcs2, RS⟩ := zE2 oS (by omega)
 cases hs9
 obtain ⟨_, _, hs9, hcw, hcw2, RW⟩ := zE2 oW (by omega)
 cases hs9
 obtain ⟨_, _, hs9, hck, hck2, RK⟩ := zE2 oK (by omega)
 cases hs9
 refine zA6 (zA1 rfl ?_)
 refine stp (zB0 rfl ?_)
 refine zA4 ?_
 refine zA6 ?_
 refine zA6 (zA1 rfl ?_)
 refine stp (zD6 rfl ?_)
 refine stp (qC3 Tryz.underlying31 rfl rfl ?_)
 refine zA4 ?_
 refine zI8 rfl ?_
 refine zC3 ?_
 refine zA6 (zA1 rfl ?_)
 refine stp (zD6 rfl ?_)
 refine stp (zE1 rfl ?_)
 refine stp (zA5 rfl ?_)
 refine stp (zA5 rfl ?_)
 refine stp (zB5 (v := .slice (some ⟨h, 0, none⟩) kb.length ck) rfl hB rfl ?_)
 refine zA3 (og rfl ?_)
 have hG4 := G.size
 refine zF1 rfl (zZ9 _ hck hck2 (RK.grow G) (fun q_ hq_ => by obtain ⟨z_, -, rfl⟩ := List.mem_map.1 hq_; rfl) (by omega)) ?_
 rintro vb w1 ⟨oB_, g_⟩
 have oB := zI0 oB_ hG4
 clear oB_
 replace hB := g_.heap hB
 replace G := G.tr g_
 clear g_
 obtain ⟨g5, c5, cur5, rfl, hg5b, hg5, hc51, hc52, hc53, hc54⟩ := zK1 oB (by omega)
 refine stp (zB0 rfl ?_)
 refine zA4 ?_
 refine zC4 ?_
 refine ret1 (zB3 (v := .slice (some ⟨g5, 0, none⟩) kb.length c5) rfl) ⟨g5, c5, rfl, hg5b, hc51, hc52, oB, G⟩

set_option maxRecDepth 100000 in
theorem zY7 (w : World) {ses sum : Int} {ad : Option Addr} {c : Nat} {sz : List Int} (R : RowAt w 1 ad sz.length (sz.map (.int .i64))) (hc : sz.length ≤ c) (hc2 : c ≤ maxLen) (hf : fitsL sz = true) : Calls Tryz.prog 13 #[.agg #[.int .u64 ses, .slice ad sz.length c, .int .u32 sum]] w (Ret fun v w' => ∃ b g h, v = .tuple #[.pointer (some ⟨b, 0, none⟩), .int .u16 0] ∧ PartR 86 3 33 5 w' w.heap.size b g h ses sum sz (List.replicate (wordsM sz) 0) (List.replicate ((chunksM sz + 7) / 8) 0) ∧ Grow w w') := by
 have hrz : ∀ x ∈ sz, inR .i64 x := zI7 hf
 have hf16 := zG2 hf
 have hle := zG9 sz
 have hwf := zF4 hf
 have hch : chunksM sz = (wordsM sz + 7) / 8 := rfl
 obtain ⟨q0, o0, cs0, T0, fr0, rfl, -, -⟩ := R.at_ (by omega)
 have G := Grow.rfl' w
 refine zE3 Tryz.func13 Tryz.ntmps13 Tryz.results13 rfl rfl ?_
 refine zA6 (zA1 rfl ?_)
 refine zA3 (og rfl ?_)
 (first | refine zD0 rfl ?_ | refine zD2 rfl ?_ | refine zC5 rfl ?_ | refine zH0 rfl rfl ?_)
 intro b1 w2 hb3 hc4 g5
 have hge6 := Nat.le_trans G.size hb3
 replace G := G.tr g5
 clear g5 hb3
 refine stp (zA8 (v := .pointer none) rfl ?_)
 refine stp (zA0 rfl ?_)
 refine zA4 ?_
 refine zA6 ?_
 refine zA6 (zA1 rfl ?_)
 refine stp (zB4 rfl hc4 (by rfl) ?_)
 refine stp (zC0 (v := .bool true) rfl (zH3 (zS9 _ (R.grow G) hrz) (y := .bool true) (by rw [hf])) ?_)
 intro w7 g8
 replace hc4 := g8.heap hc4
 replace G := G.tr g8
 clear g8
 refine stp (zL8 rfl rfl ?_)
 refine zA4 ?_
 refine zI8 rfl ?_
 refine zC3 ?_
 refine zA6 (zA1 rfl ?_)
 refine stp (zA5 rfl ?_)
 refine stp (zB5 (v := .slice (some ⟨q0, o0, none⟩) sz.length c) rfl hc4 rfl ?_)
 refine zA3 (og rfl ?_)
 have hG4 := G.size
 refine zF1 rfl (qA0 _ hc hc2 (R.grow G) (fun q_ hq_ => by obtain ⟨z_, -, rfl⟩ := List.mem_map.1 hq_; rfl) (by omega)) ?_
 rintro vb w9 ⟨oS_, g_⟩
 have oS := zI0 oS_ hG4
 clear oS_
 replace hc4 := g_.heap hc4
 replace G := G.tr g_
 clear g_
 obtain ⟨ads, cs, rfl, hcs⟩ := zL1 oS
 refine stp (zA5 rfl ?_)
 refine stn (zE0 (v := .slice ads sz.length cs) rfl rfl (by rfl) hc4 (by rfl) (by rfl) ?_)
 intro w10 hc11 u12
 replace oS := zF0 oS u12 (zE7 oS hc4 (by decide))
 replace G := G.upd u12 hge6
 clear u12 hc4
 refine zA4 ?_
 have hM := G.size
 obtain ⟨M, hMe⟩ : ∃ M, M = w10.heap.size := ⟨_, rfl⟩
 have hMw : M ≤ w10.heap.size := by rw [hMe]; exact Nat.le_refl _
 have hwM : w.heap.size ≤ M := by rw [hMe]; exact hM
 obtain ⟨_, _, hs9, -, -, RS⟩ := zE2 oS (by omega)
 cases hs9
 refine zA6 ?_
 refine zJ4 12 [[], [], [0], [], [0], [1, 0], [], [3, 2, 0], [4, 3, 1, 0], [7, 6, 5, 4, 3, 2, 1, 0], [9, 8, 7, 6, 5, 4, 3, 2, 1, 0], [10, 9, 8, 7, 6, 5, 4, 3, 2, 1, 0]] mixed (by kernel_rfl) (by kernel_rfl) (by kernel_rfl) ?_
 intro w13 g14
 replace oS := zC8 oS g14
 replace hc11 := g14.heap hc11
 replace hMw := Nat.le_trans hMw g14.size
 replace RS := RS.grow g14
 replace G := G.tr g14
 clear g14
 apply zB7
 ·intro w_ g_; refine og rfl ?_; refine zB4 rfl (g_.heap hc11) (by rfl) ?_; exact ⟨Grow.rfl' _, rfl⟩
 apply zB7
 ·intro w_ g_; refine og rfl ?_; refine zA5 rfl ?_; exact ⟨Grow.rfl' _, rfl⟩
 apply zB7
 ·intro w_ g_; refine og rfl ?_; refine zB5 (v := .slice ads sz.length cs) rfl (g_.heap hc11) rfl ?_; exact ⟨Grow.rfl' _, rfl⟩
 apply zB7
 ·intro w_ g_; refine og rfl ?_; refine zB4 rfl (g_.heap hc11) (by rfl) ?_; exact ⟨Grow.rfl' _, rfl⟩
 apply zB7
 ·intro w_ g_; refine og rfl ?_; exact zC0 (v := .int .i64 (wordsM sz : Int)) rfl (zO6 _ (RS.grow g_) hrz) (fun w2_ g2_ => ⟨g2_, rfl⟩)
 refine zK2 (fun w_ v_ => (∃ b c, v_ = .slice (some ⟨b, 0, none⟩) (wordsM sz) c ∧ M ≤ b ∧ w_.ownsRow M 33 1 (.slice (some ⟨b, 0, none⟩) (wordsM sz) c) (wordsM sz) ((List.replicate (wordsM sz) (0 : Int)).map (.int .u64)))) (fun _ _ _ g_ ⟨b, c, h1_, h2_, h3_⟩ => ⟨b, c, h1_, h2_, zC8 h3_ g_⟩) ?_ ?_
 ·intro w_ g_
  refine og rfl ?_
  refine zY9 (n := wordsM sz) (base := M) rfl rfl (by first | omega | (simp only [maxLen]; omega)) (by first | omega | (simp only [maxLen]; omega)) (Nat.le_trans hMw g_.size) ?_
  intro b_ w2_ hb_ ho_ g2_
  rw [show (madeCells (Value.cells (.int .u64 0)) (wordsM sz * 1)).toList = List.replicate (wordsM sz) (.int .u64 0) from by rw [Nat.mul_one]; exact toList_madeCells_one _ _] at ho_
  exact ⟨g2_, b_, _, rfl, zI2 ho_ _ rfl, by rw [List.map_replicate]; exact ho_⟩
 apply zB7
 ·intro w_ g_; refine og rfl ?_; refine zB4 rfl (g_.heap hc11) (by rfl) ?_; exact ⟨Grow.rfl' _, rfl⟩
 apply zB7
 ·intro w_ g_; refine og rfl ?_; exact zC0 (v := .int .i64 (chunksM sz : Int)) rfl (zM9 _ (RS.grow g_) hrz) (fun w2_ g2_ => ⟨g2_, rfl⟩)
 refine zK2 (fun w_ v_ => (∃ b c, v_ = .slice (some ⟨b, 0, none⟩) ((chunksM sz + 7) / 8) c ∧ M ≤ b ∧ w_.ownsRow M 5 1 (.slice (some ⟨b, 0, none⟩) ((chunksM sz + 7) / 8) c) ((chunksM sz + 7) / 8) ((List.replicate ((chunksM sz + 7) / 8) (0 : Int)).map (.int .u8)))) (fun _ _ _ g_ ⟨b, c, h1_, h2_, h3_⟩ => ⟨b, c, h1_, h2_, zC8 h3_ g_⟩) ?_ ?_
 ·intro w_ g_
  refine og rfl ?_
  refine zF1 rfl (qR8 w_ (n := chunksM sz) (by omega)) ?_
  rintro v9_ w9_ ⟨b_, rfl, hb_, ho_, g9_⟩
  have hb2_ := Nat.le_trans hMw (Nat.le_trans g_.size hb_)
  exact ⟨g9_, b_, _, rfl, hb2_, zI0 ho_ (Nat.le_trans hMw g_.size)⟩
 refine zK2 (fun w_ v_ => ∃ x5 x8, (∃ b c, x5 = .slice (some ⟨b, 0, none⟩) (wordsM sz) c ∧ M ≤ b ∧ w_.ownsRow M 33 1 (.slice (some ⟨b, 0, none⟩) (wordsM sz) c) (wordsM sz) ((List.replicate (wordsM sz) (0 : Int)).map (.int .u64))) ∧ (∃ b c, x8 = .slice (some ⟨b, 0, none⟩) ((chunksM sz + 7) / 8) c ∧ M ≤ b ∧ w_.ownsRow M 5 1 (.slice (some ⟨b, 0, none⟩) ((chunksM sz + 7) / 8) c) ((chunksM sz + 7) / 8) ((List.replicate ((chunksM sz + 7) / 8) (0 : Int)).map (.int .u8))) ∧ v_ = .agg #[.slice ads sz.length cs, x5, x8]) (fun _ _ _ g_ h_ => by obtain ⟨x5, x8, ⟨b, c, h1_, h2_, h3_⟩, ⟨b', c', h4_, h5_, h6_⟩, h7_⟩ := h_; exact ⟨x5, x8, ⟨b, c, h1_, h2_, zC8 h3_ g_⟩, ⟨b', c', h4_, h5_, zC8 h6_ g_⟩, h7_⟩) ?_ ?_
 ·intro w_ g_
  intro v5_ hv5_; intro v8_ hv8_; show OpG _ _ _ _ _ _
  refine og rfl ?_
  obtain ⟨b5, c5, rfl, h51, h52⟩ := hv5_
  obtain ⟨b8, c8, rfl, h81, h82⟩ := hv8_
  refine zD4 (v := .agg #[.slice ads sz.length cs, .slice (some ⟨b5, 0, none⟩) (wordsM sz) c5, .slice (some ⟨b8, 0, none⟩) ((chunksM sz + 7) / 8) c8]) (fun w => by kernel_rfl) ?_
  exact ⟨Grow.rfl' _, _, _, ⟨b5, c5, rfl, h51, h52⟩, ⟨b8, c8, rfl, h81, h82⟩, rfl⟩
 refine zK2 (fun w_ v_ => ∃ x5 x8, (∃ b c, x5 = .slice (some ⟨b, 0, none⟩) (wordsM sz) c ∧ M ≤ b ∧ w_.ownsRow M 33 1 (.slice (some ⟨b, 0, none⟩) (wordsM sz) c) (wordsM sz) ((List.replicate (wordsM sz) (0 : Int)).map (.int .u64))) ∧ (∃ b c, x8 = .slice (some ⟨b, 0, none⟩) ((chunksM sz + 7) / 8) c ∧ M ≤ b ∧ w_.ownsRow M 5 1 (.slice (some ⟨b, 0, none⟩) ((chunksM sz + 7) / 8) c) ((chunksM sz + 7) / 8) ((List.replicate ((chunksM sz + 7) / 8) (0 : Int)).map (.int .u8))) ∧ v_ = .agg #[.int .u64 ses, .slice ads sz.length cs, .int .u32 sum, .slice ads sz.length cs, x5, x8]) (fun _ _ _ g_ h_ => by obtain ⟨x5, x8, ⟨b, c, h1_, h2_, h3_⟩, ⟨b', c', h4_, h5_, h6_⟩, h7_⟩ := h_; exact ⟨x5, x8, ⟨b, c, h1_, h2_, zC8 h3_ g_⟩, ⟨b', c', h4_, h5_, zC8 h6_ g_⟩, h7_⟩) ?_ ?_
 ·intro w_ g_
  intro v5_ hv5_; intro v8_ hv8_; intro v9_ hv9_; show OpG _ _ _ _ _ _
  refine og rfl ?_
  obtain ⟨x5, x8, ⟨b5, c5, rfl, h51, h52⟩, ⟨b8, c8, rfl, h81, h82⟩, rfl⟩ := hv9_
  refine zD4 (v := .agg #[.int .u64 ses, .slice ads sz.length cs, .int .u32 sum, .slice ads sz.length cs, .slice (some ⟨b5, 0, none⟩) (wordsM sz) c5, .slice (some ⟨b8, 0, none⟩) ((chunksM sz + 7) / 8) c8]) (fun w => by kernel_rfl) ?_
  exact ⟨Grow.rfl' _, _, _, ⟨b5, c5, rfl, h51, h52⟩, ⟨b8, c8, rfl, h81, h82⟩, rfl⟩
 refine zK2 (fun w_ v_ => ∃ x5 x8, (∃ b c, x5 = .slice (some ⟨b, 0, none⟩) (wordsM sz) c ∧ M ≤ b ∧ w_.ownsRow M 33 1 (.slice (some ⟨b, 0, none⟩) (wordsM sz) c) (wordsM sz) ((List.replicate (wordsM sz) (0 : Int)).map (.int .u64))) ∧ (∃ b c, x8 = .slice (some ⟨b, 0, none⟩) ((chunksM sz + 7) / 8) c ∧ M ≤ b ∧ w_.ownsRow M 5 1 (.slice (some ⟨b, 0, none⟩) ((chunksM sz + 7) / 8) c) ((chunksM sz + 7) / 8) ((List.replicate ((chunksM sz + 7) / 8) (0 : Int)).map (.int .u8))) ∧ ∃ b, v_ = .pointer (some ⟨b, 0, none⟩) ∧ M ≤ b ∧ w_.heap[b]? = some (.cells #[.int .u64 ses, .slice ads sz.length cs, .int .u32 sum, .slice ads sz.length cs, x5, x8] 86 (0, 0))) (fun _ _ _ g_ h_ => by obtain ⟨x5, x8, ⟨b, c, h1_, h2_, h3_⟩, ⟨b', c', h4_, h5_, h6_⟩, ⟨b9, h7_, h8_, h9_⟩⟩ := h_; exact ⟨x5, x8, ⟨b, c, h1_, h2_, zC8 h3_ g_⟩, ⟨b', c', h4_, h5_, zC8 h6_ g_⟩, ⟨b9, h7_, h8_, g_.heap h9_⟩⟩) ?_ ?_
 ·intro w_ g_
  intro v5_ hv5_; intro v8_ hv8_; intro v9_ hv9_; intro v10_ hv10_; show OpG _ _ _ _ _ _
  refine og rfl ?_
  obtain ⟨x5, x8, ⟨b5, c5, rfl, h51, h52⟩, ⟨b8, c8, rfl, h81, h82⟩, rfl⟩ := hv10_
  refine zD0 rfl ?_
  intro b_ w2_ hb_ hc_ g2_
  exact ⟨g2_, _, _, ⟨b5, c5, rfl, h51, zC8 h52 g2_⟩, ⟨b8, c8, rfl, h81, zC8 h82 g2_⟩, b_, rfl, Nat.le_trans hMw (Nat.le_trans g_.size hb_), hc_⟩
 refine zI5 ?_
 intro w15 g16
 replace oS := zC8 oS g16
 replace hc11 := g16.heap hc11
 replace hMw := Nat.le_trans hMw g16.size
 replace RS := RS.grow g16
 replace G := G.tr g16
 clear g16
 intro v_w hv_w
 intro v_k hv_k
 intro v_s hv_s
 intro v_p hv_p
 intro v_b hv_b
 obtain ⟨x5, x8, ⟨g, cw, rfl, hgM, oW⟩, ⟨h, ck, rfl, hhM, oK⟩, b, rfl, hbM, hcb⟩ := hv_b
 refine stp (zA8 (v := .pointer (some ⟨b, 0, none⟩)) rfl ?_)
 refine stp (zA0 rfl ?_)
 refine zA4 ?_
 refine zC4 ?_
 refine ret2 (zB3 (v := .pointer (some ⟨b, 0, none⟩)) rfl) (zB3 (v := .int .u16 0) rfl) ⟨b, g, h, rfl, ⟨hf, by simp, by simp, fun x hx_ => by rw [List.eq_of_mem_replicate hx_]; simp [inR], fun x hx_ => by rw [List.eq_of_mem_replicate hx_]; simp [inR], Nat.le_trans hwM hbM, ads, cs, cw, ck, by simpa using hcb, oS, by simpa [wordsV] using zI0 oW hwM, by simpa using zI0 oK hwM⟩, G⟩
end Go.Proofs.YtifhcfhdajkhlaaGreat.K

namespace Go.Proofs.YtifhcfhdajkhlaaGreat.K
open Go Go.RowKit Go.Proofs
attribute [local irreducible] Run1 OpG WL W AO Gives
set_option maxRecDepth 100000 in
theorem qO9 (w : World) {base b g h : Nat} {ses sum : Int} {sz wl kb : List Int} (H : PartR 86 3 33 5 w base b g h ses sum sz wl kb) : Calls Tryz.prog 50 #[.pointer (some ⟨b, 0, none⟩)] w (Ret fun v w' => ∃ ad n c, v = .tuple #[.slice ad n c, .bool (wholeB sz kb)] ∧ (wholeB sz kb = true → ArenaR w' (.slice ad n c) (cutW sz wl)) ∧ (wholeB sz kb = false → ArenaR w' (.slice ad n c) []) ∧ Grow w w') := by
 have H0 := H
 obtain ⟨hfit, hlw, hlk, hub, huw, hb0, ads, cs, cw, ck, hB, oS, oW, oK⟩ := H
 have hle := zG9 sz
 have hwf := zF4 hfit
 have hch : chunksM sz = (wordsM sz + 7) / 8 := rfl
 have hf16 := zG2 hfit
 have hrz : ∀ x ∈ sz, inR .i64 x := zI7 hfit
 have G := Grow.rfl' w
 refine zE3 Tryz.func50 Tryz.ntmps50 Tryz.results50 rfl rfl ?_
 obtain ⟨_, _, hs9, hcs, hcs2, RS⟩ := zE2 oS (by omega)
 cases hs9
 obtain ⟨_, _, hs9, hcw, hcw2, RW⟩ := zE2 oW (by omega)
 cases hs9
 obtain ⟨_, _, hs9, hck, hck2, RK⟩ := zE2 oK (by omega)
 cases hs9
 have hcq := qI3 kb (8 * kb.length)
 refine zA6 (zA1 rfl ?_)
 refine stp (zB0 rfl ?_)
 refine stp (zA8 (v := .bool false) rfl ?_)
 refine zA4 ?_
 refine zA6 ?_
 refine zA6 ?_
 refine zJ4 16 [[], [0], [1, 0], [2, 1, 0], [3, 2, 1, 0], [4, 3, 2, 1, 0], [5, 4, 3, 2, 1, 0], [6, 5, 4, 3, 2, 1, 0], [7, 6, 5, 4, 3, 2, 1, 0], [8, 7, 6], [9, 8, 7, 0], [10, 9, 8, 1, 0], [11, 10, 9, 2, 1, 0], [12, 11, 10, 9, 8, 7, 6, 5, 4, 3, 2, 1, 0], [13, 12, 11, 10, 9, 8, 7, 6, 5, 4, 3, 2, 1, 0], [14, 13, 12, 11, 10, 9, 8, 7, 6, 5, 4, 3, 2, 1, 0]] mixed (by kernel_rfl) (by kernel_rfl) (by kernel_rfl) ?_
 intro w1 g2
 replace hB := g2.heap hB
 replace G := G.tr g2
 clear g2
 apply zB7
 ·intro w_ g_; refine og rfl ?_; refine zD6 rfl ?_; exact ⟨Grow.rfl' _, rfl⟩
 apply zB7
 ·intro w_ g_; refine og rfl ?_; refine qC3 Tryz.underlying31 rfl rfl ?_; exact ⟨Grow.rfl' _, rfl⟩
 apply zB7
 ·intro w_ g_; refine og rfl ?_; refine zB6 (v := .bool false) rfl ?_; exact ⟨Grow.rfl' _, rfl⟩
 apply zB7
 ·intro w_ g_; refine og rfl ?_; refine zD6 rfl ?_; exact ⟨Grow.rfl' _, rfl⟩
 apply zB7
 ·intro w_ g_; refine og rfl ?_; refine zE1 rfl ?_; exact ⟨Grow.rfl' _, rfl⟩
 apply zB7
 ·intro w_ g_; refine og rfl ?_; refine zA5 rfl ?_; exact ⟨Grow.rfl' _, rfl⟩
 apply zB7
 ·intro w_ g_; refine og rfl ?_; refine zA5 rfl ?_; exact ⟨Grow.rfl' _, rfl⟩
 apply zB7
 ·intro w_ g_; refine og rfl ?_; refine zB5 (v := .slice (some ⟨h, 0, none⟩) kb.length ck) rfl (g_.heap hB) rfl ?_; exact ⟨Grow.rfl' _, rfl⟩
 apply zB7
 ·intro w_ g_; refine og rfl ?_; exact zC0 (v := .int .i64 (cntQ kb (8 * kb.length) : Int)) rfl (qM7 _ (RK.grow (G.tr g_)) hub (by omega)) (fun w2_ g2_ => ⟨g2_, rfl⟩)
 apply zB7
 ·intro w_ g_; refine og rfl ?_; refine zD6 rfl ?_; exact ⟨Grow.rfl' _, rfl⟩
 apply zB7
 ·intro w_ g_; refine og rfl ?_; refine zE1 rfl ?_; exact ⟨Grow.rfl' _, rfl⟩
 apply zB7
 ·intro w_ g_; refine og rfl ?_; refine zA5 rfl ?_; exact ⟨Grow.rfl' _, rfl⟩
 apply zB7
 ·intro w_ g_; refine og rfl ?_; refine zH8 rfl (g_.heap hB) (by rfl) (by rfl) ?_; exact ⟨Grow.rfl' _, rfl⟩
 apply zB7
 ·intro w_ g_; refine og rfl ?_; exact zC0 (v := .int .i64 (chunksM sz : Int)) rfl (zM9 _ (RS.grow (G.tr g_)) hrz) (fun w2_ g2_ => ⟨g2_, rfl⟩)
 apply zB7
 ·intro w_ g_; refine og rfl ?_; refine zF9 rfl rfl ?_; exact ⟨Grow.rfl' _, rfl⟩
 apply zB7
 ·intro w_ g_; refine og rfl ?_; refine zG8 (v := .bool (decide ((cntQ kb (8 * kb.length) : Int) < (chunksM sz : Int)))) rfl rfl rfl ?_; exact ⟨Grow.rfl' _, rfl⟩
 refine zI5 ?_
 intro w3 g4
 replace hB := g4.heap hB
 replace G := G.tr g4
 clear g4
 refine zA4 ?_
 refine zB8 (b := (decide ((cntQ kb (8 * kb.length) : Int) < (chunksM sz : Int)))) rfl (fun h1 => ?_) (fun h1 => ?_)
 ·-- true
  replace h1 := of_decide_eq_true h1
  have h9 : wholeB sz kb = false := by unfold wholeB; exact decide_eq_false (by omega)
  refine zA6 (zA1 rfl ?_)
  refine stp (zB0 rfl ?_)
  refine stp (zA8 (v := .bool false) rfl ?_)
  refine zA4 ?_
  refine zC4 ?_
  refine ret2 (zB3 (v := .slice none 0 0) rfl) (zB3 (v := .bool false) rfl) ⟨none, 0, 0, by rw [h9], fun h_ => (by rw [h9] at h_; cases h_), fun _ => ⟨[], Row.nil _ _, fun i s h_ => by simp at h_⟩, G⟩
 ·-- false
  replace h1 := of_decide_eq_false h1
  have h9 : wholeB sz kb = true := by unfold wholeB; exact decide_eq_true (by omega)
  refine zC3 ?_
  refine zA6 (zA1 rfl ?_)
  refine stp (zB0 rfl ?_)
  refine zA4 ?_
  refine zA6 (zA1 rfl ?_)
  refine stp (zD6 rfl ?_)
  refine stp (zE1 rfl ?_)
  refine stp (zA5 rfl ?_)
  refine stp (zA5 rfl ?_)
  refine stp (zB5 (v := .slice (some ⟨g, 0, none⟩) wl.length cw) rfl hB rfl ?_)
  refine zA3 (og rfl ?_)
  have hG4 := G.size
  refine zF1 rfl (qN2 _ hcw hcw2 (RW.grow G) (fun q_ hq_ => by obtain ⟨z_, -, rfl⟩ := List.mem_map.1 hq_; rfl) (by omega)) ?_
  rintro vb w5 ⟨oB, g_⟩
  replace hB := g_.heap hB
  replace G := G.tr g_
  clear g_
  obtain ⟨g5, c5, cur5, rfl, hg5b, hg5, hc51, hc52, hc53, hc54⟩ := zK1 oB (by omega)
  obtain ⟨_, _, hs9, -, -, RC⟩ := zE2 oB (by omega)
  cases hs9
  refine stp (zB0 rfl ?_)
  refine zA4 ?_
  refine zA6 ?_
  refine zA6 (zA1 rfl ?_)
  refine stp (zD6 rfl ?_)
  refine stp (zE1 rfl ?_)
  refine stp (zA5 rfl ?_)
  refine stp (zA5 rfl ?_)
  refine stp (zB5 (v := .slice ads sz.length cs) rfl hB rfl ?_)
  refine stp (zE8 rfl rfl rfl ?_)
  refine stp (zA2 rfl ?_)
  refine zA4 ?_
  refine zC6 ?_
  have GC0 := G
  refine zG6 (fun m_ e_ w_ => ∃ (k : Nat) (ado : Option Addr) (no : Nat) (co : Nat) (segs : List Value) (adr : Option Addr) (cr : Nat), m_ = sz.length - k ∧ Fr [(2, .slice none 0 0), (3, .bool false), (34, .slice ads sz.length cs), (35, .int .i64 (sz.length : Int)), (36, .int .i64 (k : Int)), (4, .slice ado no co), (5, .slice adr (wl.length - (sumL (sz.take k)).toNat) cr)] e_ ∧ (k ≤ sz.length) ∧ (wl.length - (sumL (sz.take k)).toNat ≤ cr) ∧ (RowAt w5 1 adr (wl.length - (sumL (sz.take k)).toNat) ((wl.drop (sumL (sz.take k)).toNat).map (.int .u64))) ∧ (∀ (i : Nat) (s : List Int), (cutW (sz.take k) wl)[i]? = some s → ∃ u, segs[i]? = some u ∧ Row w5 1 u s.length (wordsV s)) ∧ (segs.length = k) ∧ (Grow w5 w_) ∧ (w_.ownsRow w5.heap.size 67 1 (.slice ado no co) k segs) ∧ Grow w w_) _ ⟨0, none, 0, 0, [], (some ⟨g5, 0, none⟩), c5, rfl, zE6 ⟨rfl, rfl, rfl, rfl, rfl, rfl, congrArg (fun n_ => Value.slice (some ⟨g5, 0, none⟩) n_ c5) (by simp [sumL]), trivial⟩, by omega, by simp [sumL]; omega, by simpa [sumL, wordsV] using RC, fun i s h_ => by simp [cutW] at h_, rfl, Grow.rfl' _, World.ownsRow_nil _ _ _ _, G⟩ ?_
  clear hB
  clear G
  rintro m_ e_ w6 ⟨k, ado, no, co, segs, adr, cr, rfl, ⟨e7, rfl⟩, hk, hcr, hRr, hS, hsl, GC, oO, G⟩
  have hsk := zH4 hf16.2.2.2.1 k
  have hsk1 := zH4 hf16.2.2.2.1 (k + 1)
  refine zA6 (zA1 rfl ?_)
  refine stp (zF9 rfl rfl ?_)
  refine zA4 ?_
  refine zA6 ?_
  refine zB8 (b := (decide ((k : Int) < (sz.length : Int)))) rfl (fun hlt => ?_) (fun hlt => ?_)
  ·-- true
   replace hlt := of_decide_eq_true hlt
   have hi : k < sz.length := by omega
   have hst := zJ0 hi
   have hzk := zH7 hfit k
   obtain ⟨n, hn⟩ : ∃ n : Nat, sz.getD k 0 = (n : Int) := ⟨(sz.getD k 0).toNat, by omega⟩
   refine zC3 ?_
   refine zA6 ?_
   refine zC6 ?_
   refine zA6 (zA1 rfl ?_)
   refine stp (zD9 (RS.grow G) rfl rfl ?_ ?_); omega
   refine stp (zD7 (v := .int .i64 (n : Int)) (m := 0) (RS.grow G) rfl (by have h_ := (zE4 0 (by omega) : (sz.map (Value.int .i64))[k * 1]? = some (.int .i64 (sz.getD k 0))); rw [hn] at h_; exact h_) ?_)
   refine stp (zA0 rfl ?_)
   refine zA4 ?_
   refine zA6 (zA1 rfl ?_)
   refine stp (zA7 rfl ?_)
   refine stp (zA7 rfl ?_)
   refine stp (zA2 rfl ?_)
   refine stp (zA2 rfl ?_)
   refine zA3 (og rfl ?_)
   refine yB9 rfl rfl rfl (by omega) (by omega) (by omega) ?_
   rw [Int.toNat_natCast]
   refine stp (zE5 (cs := #[.slice (if n = 0 then adr else adr.map (·.add (0 * 1))) n n]) (el := 67) (fun w => by kernel_rfl) ?_)
   intro bs8 w9 hb10 hc11 g12
   have hge13 := Nat.le_trans G.size hb10
   replace GC := GC.tr g12
   replace oO := zC8 oO g12
   replace G := G.tr g12
   clear g12
   refine stp (zG4 rfl rfl rfl rfl oO (Row.of_block (n := 1) hc11 rfl rfl (by omega)) (fun q_ hq_ => by simp at hq_; subst hq_; rfl) (by simp only [maxLen]; omega) (by omega) GC.size ?_)
   intro v14 w15 own6 gr6
   replace G := G.grown gr6 (fun k_ hk_ => Nat.le_trans GC0.size (zI2 oO k_ hk_))
   replace GC := GC.grown gr6 (zI2 oO)
   clear oO gr6
   obtain ⟨ad4, n4, c4, rfl⟩ := zF3 own6
   refine stp (zB0 rfl ?_)
   refine zA4 ?_
   refine zA1 rfl ?_
   refine stp (zA7 rfl ?_)
   refine stp (zA2 rfl ?_)
   refine zA3 (og rfl ?_)
   refine zV5 rfl rfl (by omega) (by omega) ?_
   rw [Int.toNat_natCast]
   refine stp (zB0 rfl ?_)
   refine zA4 ?_
   refine zA1 rfl ?_
   refine stp (zD8 rfl rfl ?_ ?_); constructor <;> omega
   refine stp (zA2 rfl ?_)
   refine zA4 ?_
   have ho : (sumL (sz.take (k + 1))).toNat = (sumL (sz.take k)).toNat + n := by omega
   have R1 := hRr.sliceH3 (m := n) (by omega)
   have R2 := hRr.sliceLH (c := cr) (l := n) (m := wl.length - (sumL (sz.take k)).toNat - n) (by omega) (by omega) (by decide)
   have e9 : (((wl.drop (sumL (sz.take k)).toNat).map (Value.int .u64)).drop (n * 1)).take ((wl.length - (sumL (sz.take k)).toNat - n) * 1) = (wl.drop (sumL (sz.take (k + 1))).toNat).map (.int .u64) := by rw [Nat.mul_one, Nat.mul_one, ← List.map_drop, List.drop_drop, ← ho]; exact List.take_of_length_le (by rw [List.length_map, List.length_drop]; omega)
   have e8 : wl.length - (sumL (sz.take (k + 1))).toNat = wl.length - (sumL (sz.take k)).toNat - n := by omega
   have R3 : RowAt w5 1 (if cr = n then adr else adr.map (·.add (n * 1))) (wl.length - (sumL (sz.take (k + 1))).toNat) ((wl.drop (sumL (sz.take (k + 1))).toNat).map (.int .u64)) := by rw [e9] at R2; rw [e8]; exact R2
   refine ⟨_, ?_, k + 1, ad4, n4, c4, segs ++ [_], (if cr = n then adr else adr.map (·.add (n * 1))), cr - n, rfl, zE6 ⟨rfl, rfl, rfl, rfl, congrArg (Value.int .i64) (by omega), rfl, by rw [show wl.length - (sumL (sz.take (k + 1))).toNat = wl.length - (sumL (sz.take k)).toNat - n from by omega]; rfl, trivial⟩, by omega, by omega, R3, yD7 hS (qN6 hi hf16.2.2.2.1 wl) hsl (by rw [zN2, List.length_take]; omega) ⟨_, _, rfl, Nat.le_refl _, by simp only [maxLen]; omega, R1⟩ hn (by omega), by simp [hsl], GC, own6, G⟩
   omega
  ·-- false
   replace hlt := of_decide_eq_false hlt
   have hk9 : k = sz.length := by omega
   rw [hk9, List.take_length] at hS
   refine zF6 ?_
   refine zA6 (zA1 rfl ?_)
   refine stp (zA7 rfl ?_)
   refine stp (zB0 rfl ?_)
   refine stp (zA8 (v := .bool true) rfl ?_)
   refine zA4 ?_
   refine zC4 ?_
   have hno := qD0 oO
   obtain ⟨_, _, hs9, hca9, hcb9, RO9⟩ := zE2 oO (by omega)
   simp only [Value.slice.injEq] at hs9
   obtain ⟨rfl, -, rfl⟩ := hs9
   refine ret2 (zB3 (v := .slice ado no co) rfl) (zB3 (v := .bool true) rfl) ⟨ado, no, co, by rw [h9], fun _ => ⟨segs, ⟨ado, co, by rw [zN2]; rw [hno, hk9], by rw [zN2, ← hk9]; exact hca9, hcb9, by rw [zN2, ← hk9]; exact RO9⟩, fun i s h_ => let ⟨u, h1_, h2_⟩ := hS i s h_; ⟨u, h1_, h2_.grow GC⟩⟩, fun h_ => (by rw [h9] at h_; cases h_), G⟩
end Go.Proofs.YtifhcfhdajkhlaaGreat.K

namespace Go.Proofs.YtifhcfhdajkhlaaGreat.K
open Go Go.RowKit Go.Proofs
attribute [local irreducible] Run1 OpG WL W AO Gives
set_option maxRecDepth 100000 in
theorem qS5 (w : World) {u v : Value} {A B : List (List Int)} (hA : ArenaR w u A) (hB : ArenaR w v B) : Gives Tryz.prog 52 #[u, v] w (.bool (decide (A = B))) := by
 obtain ⟨ada, ca, segsa, sa, sca, rfl, -, -, RA, hsa, hra⟩ := hA.fn
 obtain ⟨adb, cb, segsb, sb, scb, rfl, -, -, RB, hsb, hrb⟩ := hB.fn
 have la := RA.lim
 have lb := RB.lim
 have G := Grow.rfl' w
 refine zC7 Tryz.func52 Tryz.ntmps52 Tryz.results52 rfl rfl ?_
 refine zA6 (zA1 rfl ?_)
 refine stp (zA8 (v := .bool false) rfl ?_)
 refine zA4 ?_
 refine zA6 ?_
 refine zA6 (zA1 rfl ?_)
 refine stp (zA7 rfl ?_)
 refine stp (zE8 rfl rfl rfl ?_)
 refine stp (zA7 rfl ?_)
 refine stp (zE8 rfl rfl rfl ?_)
 refine stp (zI9 rfl rfl ?_)
 refine zA4 ?_
 refine zB8 (b := (decide ((A.length : Int) ≠ (B.length : Int)))) rfl (fun h1 => ?_) (fun h1 => ?_)
 ·-- true
  replace h1 := of_decide_eq_true h1
  refine zA6 (zA1 rfl ?_)
  refine stp (zA8 (v := .bool false) rfl ?_)
  refine zA4 ?_
  refine zC4 ?_
  refine ret1 (zB3 (v := .bool false) rfl) ⟨?_, G⟩
  congr 1; exact (decide_eq_false (fun he => h1 (by rw [he]))).symm
 ·-- false
  replace h1 := of_decide_eq_false h1
  have hl : A.length = B.length := by omega
  refine zC3 ?_
  refine zA6 ?_
  refine zA6 (zA1 rfl ?_)
  refine stp (zA0 rfl ?_)
  refine zA4 ?_
  refine zC6 ?_
  refine zG6 (fun m_ e_ w_ => ∃ (k : Nat), m_ = A.length - k ∧ Fr [(0, .slice ada A.length ca), (1, .slice adb B.length cb), (5, .int .i64 (k : Int))] e_ ∧ (k ≤ A.length) ∧ (∀ j, j < k → A.getD j [] = B.getD j []) ∧ Grow w w_) _ ⟨0, rfl, zE6 ⟨rfl, rfl, rfl, trivial⟩, by omega, fun j hj => by omega, G⟩ ?_
  clear G
  rintro m_ e_ w1 ⟨k, rfl, ⟨e2, rfl⟩, hk2, hk, G⟩
  refine zA6 ?_
  refine zA6 (zA1 rfl ?_)
  refine stp (zA2 rfl ?_)
  refine stp (zA7 rfl ?_)
  refine stp (zE8 rfl rfl rfl ?_)
  refine stp (zF9 rfl rfl ?_)
  refine zA4 ?_
  refine zB8 (b := (decide ((k : Int) < (A.length : Int)))) rfl (fun hlt => ?_) (fun hlt => ?_)
  ·-- true
   replace hlt := of_decide_eq_true hlt
   have hi : k < A.length := by omega
   have hi2 : k < B.length := by omega
   obtain ⟨-, -, Rk⟩ := hra k hi
   obtain ⟨-, -, Qk⟩ := hrb k hi2
   have lk := Rk.lim
   have mk := Qk.lim
   refine zC3 ?_
   refine zA6 ?_
   refine zC6 ?_
   refine zA6 ?_
   refine zA6 ?_
   refine zJ4 11 [[], [], [1, 0], [2, 1, 0], [3, 2, 1, 0], [], [], [1, 0], [2, 1, 0], [3, 2, 1, 0], [9, 8, 7, 6, 5, 4, 3, 2, 1, 0]] mixed (by kernel_rfl) (by kernel_rfl) (by kernel_rfl) ?_
   intro w3 g4
   replace G := G.tr g4
   clear g4
   apply zB7
   ·intro w_ g_; refine og rfl ?_; refine zA7 rfl ?_; exact ⟨Grow.rfl' _, rfl⟩
   apply zB7
   ·intro w_ g_; refine og rfl ?_; refine zA2 rfl ?_; exact ⟨Grow.rfl' _, rfl⟩
   apply zB7
   ·intro w_ g_; refine og rfl ?_; refine zD9 (RA.grow (G.tr g_)) rfl rfl ?_ ?_; omega; exact ⟨Grow.rfl' _, rfl⟩
   apply zB7
   ·intro w_ g_; refine og rfl ?_; refine zD7 (v := .slice (sa k) (len2 A k) (sca k)) (m := 0) (RA.grow (G.tr g_)) rfl (by rw [Nat.mul_one]; exact hsa _ (by omega)) ?_; exact ⟨Grow.rfl' _, rfl⟩
   apply zB7
   ·intro w_ g_; refine og rfl ?_; refine zE8 rfl rfl rfl ?_; exact ⟨Grow.rfl' _, rfl⟩
   apply zB7
   ·intro w_ g_; refine og rfl ?_; refine zA7 rfl ?_; exact ⟨Grow.rfl' _, rfl⟩
   apply zB7
   ·intro w_ g_; refine og rfl ?_; refine zA2 rfl ?_; exact ⟨Grow.rfl' _, rfl⟩
   apply zB7
   ·intro w_ g_; refine og rfl ?_; refine zD9 (RB.grow (G.tr g_)) rfl rfl ?_ ?_; omega; exact ⟨Grow.rfl' _, rfl⟩
   apply zB7
   ·intro w_ g_; refine og rfl ?_; refine zD7 (v := .slice (sb k) (len2 B k) (scb k)) (m := 0) (RB.grow (G.tr g_)) rfl (by rw [Nat.mul_one]; exact hsb _ (by omega)) ?_; exact ⟨Grow.rfl' _, rfl⟩
   apply zB7
   ·intro w_ g_; refine og rfl ?_; refine zE8 rfl rfl rfl ?_; exact ⟨Grow.rfl' _, rfl⟩
   apply zB7
   ·intro w_ g_; refine og rfl ?_; refine zI9 rfl rfl ?_; exact ⟨Grow.rfl' _, rfl⟩
   refine zI5 ?_
   intro w5 g6
   replace G := G.tr g6
   clear g6
   refine zA4 ?_
   refine zB8 (b := (decide (((len2 A k) : Int) ≠ ((len2 B k) : Int)))) rfl (fun h3 => ?_) (fun h3 => ?_)
   ·-- true
    replace h3 := of_decide_eq_true h3
    refine zA6 (zA1 rfl ?_)
    refine stp (zA8 (v := .bool false) rfl ?_)
    refine zA4 ?_
    refine zC4 ?_
    refine ret1 (zB3 (v := .bool false) rfl) ⟨?_, G⟩
    congr 1; exact (decide_eq_false (fun he => h3 (by rw [he]))).symm
   ·-- false
    replace h3 := of_decide_eq_false h3
    have hl2 : (A.getD k []).length = (B.getD k []).length := by simp only [len2] at h3; omega
    refine zC3 ?_
    refine zA6 (zA1 rfl ?_)
    refine stp (zA0 rfl ?_)
    refine zA4 ?_
    refine zC6 ?_
    refine zG6 (fun m_ e_ w_ => ∃ (m : Nat), m_ = len2 A k - m ∧ Fr [(0, .slice ada A.length ca), (1, .slice adb B.length cb), (5, .int .i64 (k : Int)), (6, .int .i64 (m : Int))] e_ ∧ (m ≤ len2 A k) ∧ (∀ j, j < m → (A.getD k []).getD j 0 = (B.getD k []).getD j 0) ∧ Grow w w_) _ ⟨0, rfl, zE6 ⟨rfl, rfl, rfl, rfl, trivial⟩, by omega, fun j hj => by omega, G⟩ ?_
    clear G
    rintro m_ e_ w7 ⟨m, rfl, ⟨e8, rfl⟩, hm2, hm, G⟩
    refine zA6 ?_
    refine zA6 (zA1 rfl ?_)
    refine stp (zA2 rfl ?_)
    refine stp (zA7 rfl ?_)
    refine stp (zA2 rfl ?_)
    refine stp (zD9 (RA.grow G) rfl rfl ?_ ?_); omega
    refine stp (zD7 (v := .slice (sa k) (len2 A k) (sca k)) (m := 0) (RA.grow G) rfl (by rw [Nat.mul_one]; exact hsa _ (by omega)) ?_)
    refine stp (zE8 rfl rfl rfl ?_)
    refine stp (zF9 rfl rfl ?_)
    refine zA4 ?_
    refine zB8 (b := (decide ((m : Int) < ((len2 A k) : Int)))) rfl (fun hlt2 => ?_) (fun hlt2 => ?_)
    ·-- true
     replace hlt2 := of_decide_eq_true hlt2
     have hm3 : m < (A.getD k []).length := by simp only [len2] at hlt2 hm2; omega
     have hm4 : m < (B.getD k []).length := by omega
     refine zC3 ?_
     refine zA6 ?_
     refine zC6 ?_
     refine zA6 ?_
     refine zJ4 15 [[], [], [1, 0], [2, 1, 0], [], [4, 3, 2, 1, 0], [5, 4, 3, 2, 1, 0], [], [], [1, 0], [2, 1, 0], [], [4, 3, 2, 1, 0], [5, 4, 3, 2, 1, 0], [13, 12, 11, 10, 9, 8, 7, 6, 5, 4, 3, 2, 1, 0]] mixed (by kernel_rfl) (by kernel_rfl) (by kernel_rfl) ?_
     intro w9 g10
     replace G := G.tr g10
     clear g10
     apply zB7
     ·intro w_ g_; refine og rfl ?_; refine zA7 rfl ?_; exact ⟨Grow.rfl' _, rfl⟩
     apply zB7
     ·intro w_ g_; refine og rfl ?_; refine zA2 rfl ?_; exact ⟨Grow.rfl' _, rfl⟩
     apply zB7
     ·intro w_ g_; refine og rfl ?_; refine zD9 (RA.grow (G.tr g_)) rfl rfl ?_ ?_; omega; exact ⟨Grow.rfl' _, rfl⟩
     apply zB7
     ·intro w_ g_; refine og rfl ?_; refine zD7 (v := .slice (sa k) (len2 A k) (sca k)) (m := 0) (RA.grow (G.tr g_)) rfl (by rw [Nat.mul_one]; exact hsa _ (by omega)) ?_; exact ⟨Grow.rfl' _, rfl⟩
     apply zB7
     ·intro w_ g_; refine og rfl ?_; refine zA2 rfl ?_; exact ⟨Grow.rfl' _, rfl⟩
     apply zB7
     ·intro w_ g_; refine og rfl ?_; refine zD9 (Rk.grow (G.tr g_)) rfl rfl ?_ ?_; omega; exact ⟨Grow.rfl' _, rfl⟩
     apply zB7
     ·intro w_ g_; refine og rfl ?_; refine zD7 (v := .int .u64 ((A.getD k []).getD m 0)) (m := 0) (Rk.grow (G.tr g_)) rfl (zE4 0 (by omega)) ?_; exact ⟨Grow.rfl' _, rfl⟩
     apply zB7
     ·intro w_ g_; refine og rfl ?_; refine zA7 rfl ?_; exact ⟨Grow.rfl' _, rfl⟩
     apply zB7
     ·intro w_ g_; refine og rfl ?_; refine zA2 rfl ?_; exact ⟨Grow.rfl' _, rfl⟩
     apply zB7
     ·intro w_ g_; refine og rfl ?_; refine zD9 (RB.grow (G.tr g_)) rfl rfl ?_ ?_; omega; exact ⟨Grow.rfl' _, rfl⟩
     apply zB7
     ·intro w_ g_; refine og rfl ?_; refine zD7 (v := .slice (sb k) (len2 B k) (scb k)) (m := 0) (RB.grow (G.tr g_)) rfl (by rw [Nat.mul_one]; exact hsb _ (by omega)) ?_; exact ⟨Grow.rfl' _, rfl⟩
     apply zB7
     ·intro w_ g_; refine og rfl ?_; refine zA2 rfl ?_; exact ⟨Grow.rfl' _, rfl⟩
     apply zB7
     ·intro w_ g_; refine og rfl ?_; refine zD9 (Qk.grow (G.tr g_)) rfl rfl ?_ ?_; omega; exact ⟨Grow.rfl' _, rfl⟩
     apply zB7
     ·intro w_ g_; refine og rfl ?_; refine zD7 (v := .int .u64 ((B.getD k []).getD m 0)) (m := 0) (Qk.grow (G.tr g_)) rfl (zE4 0 (by omega)) ?_; exact ⟨Grow.rfl' _, rfl⟩
     apply zB7
     ·intro w_ g_; refine og rfl ?_; refine zI9 rfl rfl ?_; exact ⟨Grow.rfl' _, rfl⟩
     refine zI5 ?_
     intro w11 g12
     replace G := G.tr g12
     clear g12
     refine zA4 ?_
     refine zB8 (b := (decide (((A.getD k []).getD m 0) ≠ ((B.getD k []).getD m 0)))) rfl (fun h5 => ?_) (fun h5 => ?_)
     ·-- true
      replace h5 := of_decide_eq_true h5
      refine zA6 (zA1 rfl ?_)
      refine stp (zA8 (v := .bool false) rfl ?_)
      refine zA4 ?_
      refine zC4 ?_
      refine ret1 (zB3 (v := .bool false) rfl) ⟨?_, G⟩
      congr 1; exact (decide_eq_false (fun he => h5 (by rw [he]))).symm
     ·-- false
      replace h5 := of_decide_eq_false h5
      refine zC3 ?_
      refine zA1 rfl ?_
      refine stp (zA2 rfl ?_)
      refine stp (zD8 rfl rfl ?_ ?_); constructor <;> omega
      refine stp (zA0 rfl ?_)
      refine zA4 ?_
      refine ⟨_, ?_, m + 1, rfl, zE6 ⟨rfl, rfl, rfl, rfl, trivial⟩, by omega, fun j hj => by rcases Nat.lt_succ_iff_lt_or_eq.1 hj with h_ | h_; exact hm j h_; subst h_; omega, G⟩
      omega
    ·-- false
     replace hlt2 := of_decide_eq_false hlt2
     have hm5 : m = (A.getD k []).length := by simp only [len2] at hlt2 hm2; omega
     have hk9 : A.getD k [] = B.getD k [] := qH6 hl2 (fun j hj => hm j (by omega))
     refine zF6 ?_
     refine zA1 rfl ?_
     refine stp (zA2 rfl ?_)
     refine stp (zD8 rfl rfl ?_ ?_); constructor <;> omega
     refine stp (zA0 rfl ?_)
     refine zA4 ?_
     refine ⟨_, ?_, k + 1, rfl, zE6 ⟨rfl, rfl, rfl, trivial⟩, by omega, fun j hj => by rcases Nat.lt_succ_iff_lt_or_eq.1 hj with h_ | h_; exact hk j h_; subst h_; exact hk9, G⟩
     omega
  ·-- false
   replace hlt := of_decide_eq_false hlt
   have hk3 : k = A.length := by omega
   refine zF6 ?_
   refine zA6 (zA1 rfl ?_)
   refine stp (zA8 (v := .bool true) rfl ?_)
   refine zA4 ?_
   refine zC4 ?_
   refine ret1 (zB3 (v := .bool true) rfl) ⟨?_, G⟩
   congr 1; exact (decide_eq_true (qH6 hl (fun j hj => hk j (by omega)))).symm
end Go.Proofs.YtifhcfhdajkhlaaGreat.K

namespace Go.Proofs.YtifhcfhdajkhlaaGreat.K
open Go Go.RowKit Go.Proofs
attribute [local irreducible] Run1 OpG WL W AO Gives
set_option maxRecDepth 100000 in
theorem zY8 (w : World) {base b g h : Nat} {ses sum : Int} {sz wl kb : List Int} (H : PartR 86 3 33 5 w base b g h ses sum sz wl kb) {adb : Option Addr} {cb : Nat} {xs : List Int} (RX : RowAt w 1 adb xs.length (xs.map (.int .u8))) (hxx : isB xs) (hcb : xs.length ≤ cb) (hdis : 0 < xs.length → ∀ q o, adb = some ⟨q, o, none⟩ → q ≠ g) {i : Int} (gi : inR .i64 i) : Calls Tryz.prog 17 #[.pointer (some ⟨b, 0, none⟩), .int .i64 i, .slice adb xs.length cb] w (Ret fun v w' => ∃ h', v = .bool (putOk sz i xs.length) ∧ PartR 86 3 33 5 w' base b g h' ses sum sz (putW sz wl kb i xs) (putK sz kb i xs.length) ∧ Kp [b, g] w w' ∧ (h' = h ∨ w.heap.size ≤ h')) := by
 have H0 := H
 obtain ⟨hfit, hlw, hlk, hub, huw, hb0, ads, cs, cw, ck, hB, oS, oW, oK⟩ := H
 have hle := zG9 sz
 have hwf := zF4 hfit
 have hch : chunksM sz = (wordsM sz + 7) / 8 := rfl
 have hf16 := zG2 hfit
 have hrz : ∀ x ∈ sz, inR .i64 x := zI7 hfit
 have hB0 := hB
 have lX := RX.lim
 obtain ⟨curg, hg0⟩ := H0.words
 have hltg := zA9 hg0
 have hltb := zA9 hB
 have hbg : b ≠ g := fun he => by rw [he, hg0] at hB; simp at hB
 have G := Grow.rfl' w
 refine zE3 Tryz.func17 Tryz.ntmps17 Tryz.results17 rfl rfl ?_
 obtain ⟨_, _, hs9, hcs, hcs2, RS⟩ := zE2 oS (by omega)
 cases hs9
 obtain ⟨_, _, hs9, hcw, hcw2, RW⟩ := zE2 oW (by omega)
 cases hs9
 obtain ⟨_, _, hs9, hck, hck2, RK⟩ := zE2 oK (by omega)
 cases hs9
 refine zA6 (zA1 rfl ?_)
 refine stp (zA8 (v := .bool false) rfl ?_)
 refine zA4 ?_
 refine zA6 ?_
 refine zA6 (zA1 rfl ?_)
 refine stp (zD6 rfl ?_)
 refine stp (qC3 Tryz.underlying31 rfl rfl ?_)
 refine stp (zB6 (v := .bool false) rfl ?_)
 refine stp (zA2 rfl ?_)
 refine stp (zF9 rfl rfl ?_)
 refine stp (zG8 (v := .bool (decide (i < 0))) rfl rfl rfl ?_)
 refine stp (zB9 rfl ?_)
 refine zA3 (zC2 (s := .bool (decide (i < 0))) (b := false) (v := .int .i64 i) rfl (zD1 _) (fun hc1 => ?_) ?_)
 ·
  have hc1_ := hc1
  try simp only [sb] at hc1_
  refine zA2 rfl ?_
  exact ⟨rfl, rfl⟩
 refine zA3 (zC2 (s := .bool (decide (i < 0))) (b := false) (v := .pointer (some ⟨b, 0, none⟩)) rfl (zD1 _) (fun hc2 => ?_) ?_)
 ·
  have hc2_ := hc2
  try simp only [sb] at hc2_
  refine zD6 rfl ?_
  exact ⟨rfl, rfl⟩
 refine zA3 (zC2 (s := .bool (decide (i < 0))) (b := false) (v := .pointer (some ⟨b, 0, none⟩)) rfl (zD1 _) (fun hc3 => ?_) ?_)
 ·
  have hc3_ := hc3
  try simp only [sb] at hc3_
  refine zE1 (gvt hc3) ?_
  exact ⟨rfl, rfl⟩
 refine zA3 (zC2 (s := .bool (decide (i < 0))) (b := false) (v := .pointer (some ⟨b, 0, none⟩)) rfl (zD1 _) (fun hc4 => ?_) ?_)
 ·
  have hc4_ := hc4
  try simp only [sb] at hc4_
  refine zA5 (gvt hc4) ?_
  exact ⟨rfl, rfl⟩
 refine zA3 (zC2 (s := .bool (decide (i < 0))) (b := false) (v := .agg #[.int .u64 ses, .slice ads sz.length cs, .int .u32 sum]) rfl (zD1 _) (fun hc5 => ?_) ?_)
 ·
  have hc5_ := hc5
  try simp only [sb] at hc5_
  refine zH8 (gvt hc5) hB (by rfl) (by rfl) ?_
  exact ⟨rfl, rfl⟩
 refine zA3 (zR6 (s := .bool (decide (i < 0))) (b := false) (v := .int .i64 (chunksM sz : Int)) rfl (zD1 _) (fun hc6 => ?_) ?_)
 ·
  have hc6_ := hc6
  try simp only [sb] at hc6_
  exact zL0 (l := ([.agg #[.int .u64 ses, .slice ads sz.length cs, .int .u32 sum]] : List Value)) rfl (by show ([gv (!(decide (i < 0))) (.agg #[.int .u64 ses, .slice ads sz.length cs, .int .u32 sum])] : List Value) = _; rw [gvt hc6]) (zM9 _ (RS.grow G) hrz) (fun w2_ g2_ => ⟨rfl, g2_⟩)
 intro w7 g8
 replace hB := g8.heap hB
 replace G := G.tr g8
 clear g8
 refine zA3 (zC2 (s := .bool (decide (i < 0))) (b := false) (v := .bool (decide (i ≥ (chunksM sz : Int)))) rfl (zD1 _) (fun hc9 => ?_) ?_)
 ·
  have hc9_ := hc9
  try simp only [sb] at hc9_
  refine zL7 (gvt hc9) (gvt hc9) ?_
  exact ⟨rfl, rfl⟩
 refine stp (zI6 rfl rfl rfl ?_)
 refine stp (zB9 rfl ?_)
 refine zA3 (zC2 (s := .bool ((decide (i < 0)) || (decide (i ≥ (chunksM sz : Int))))) (b := false) (v := .slice adb xs.length cb) rfl (zD1 _) (fun hc10 => ?_) ?_)
 ·
  have hc10_ := hc10
  try simp only [sb] at hc10_
  refine zA7 rfl ?_
  exact ⟨rfl, rfl⟩
 refine zA3 (zC2 (s := .bool ((decide (i < 0)) || (decide (i ≥ (chunksM sz : Int))))) (b := false) (v := .int .i64 (xs.length : Int)) rfl (zD1 _) (fun hc11 => ?_) ?_)
 ·
  have hc11_ := hc11
  try simp only [sb] at hc11_
  refine zE8 rfl rfl (gvt hc11) ?_
  exact ⟨rfl, rfl⟩
 refine zA3 (zC2 (s := .bool ((decide (i < 0)) || (decide (i ≥ (chunksM sz : Int))))) (b := false) (v := .pointer (some ⟨b, 0, none⟩)) rfl (zD1 _) (fun hc12 => ?_) ?_)
 ·
  have hc12_ := hc12
  try simp only [sb] at hc12_
  refine zD6 rfl ?_
  exact ⟨rfl, rfl⟩
 refine zA3 (zC2 (s := .bool ((decide (i < 0)) || (decide (i ≥ (chunksM sz : Int))))) (b := false) (v := .pointer (some ⟨b, 0, none⟩)) rfl (zD1 _) (fun hc13 => ?_) ?_)
 ·
  have hc13_ := hc13
  try simp only [sb] at hc13_
  refine zE1 (gvt hc13) ?_
  exact ⟨rfl, rfl⟩
 refine zA3 (zC2 (s := .bool ((decide (i < 0)) || (decide (i ≥ (chunksM sz : Int))))) (b := false) (v := .pointer (some ⟨b, 0, none⟩)) rfl (zD1 _) (fun hc14 => ?_) ?_)
 ·
  have hc14_ := hc14
  try simp only [sb] at hc14_
  refine zA5 (gvt hc14) ?_
  exact ⟨rfl, rfl⟩
 refine zA3 (zC2 (s := .bool ((decide (i < 0)) || (decide (i ≥ (chunksM sz : Int))))) (b := false) (v := .agg #[.int .u64 ses, .slice ads sz.length cs, .int .u32 sum]) rfl (zD1 _) (fun hc15 => ?_) ?_)
 ·
  have hc15_ := hc15
  try simp only [sb] at hc15_
  refine zH8 (gvt hc15) hB (by rfl) (by rfl) ?_
  exact ⟨rfl, rfl⟩
 refine zA3 (zC2 (s := .bool ((decide (i < 0)) || (decide (i ≥ (chunksM sz : Int))))) (b := false) (v := .int .i64 i) rfl (zD1 _) (fun hc16 => ?_) ?_)
 ·
  have hc16_ := hc16
  try simp only [sb] at hc16_
  refine zA2 rfl ?_
  exact ⟨rfl, rfl⟩
 refine zA3 (zR6 (s := .bool ((decide (i < 0)) || (decide (i ≥ (chunksM sz : Int))))) (b := false) (v := .int .i64 (sizeM sz i)) rfl (zD1 _) (fun hc17 => ?_) ?_)
 ·
  have hc17_ := hc17
  try simp only [sb] at hc17_
  exact zL0 (l := ([.agg #[.int .u64 ses, .slice ads sz.length cs, .int .u32 sum], .int .i64 i] : List Value)) rfl (by show ([gv (!((decide (i < 0)) || (decide (i ≥ (chunksM sz : Int))))) (.agg #[.int .u64 ses, .slice ads sz.length cs, .int .u32 sum]), gv (!((decide (i < 0)) || (decide (i ≥ (chunksM sz : Int))))) (.int .i64 i)] : List Value) = _; rw [gvt hc17, gvt hc17]) (qR4 _ (RS.grow G) hrz gi) (fun w2_ g2_ => ⟨rfl, g2_⟩)
 intro w18 g19
 replace hB := g19.heap hB
 replace G := G.tr g19
 clear g19
 refine zA3 (zC2 (s := .bool ((decide (i < 0)) || (decide (i ≥ (chunksM sz : Int))))) (b := false) (v := .bool (decide ((xs.length : Int) ≠ (sizeM sz i)))) rfl (zD1 _) (fun hc20 => ?_) ?_)
 ·
  have hc20_ := hc20
  try simp only [sb] at hc20_
  refine zI9 (gvt hc20) (gvt hc20) ?_
  exact ⟨rfl, rfl⟩
 refine stp (zI6 rfl rfl rfl ?_)
 refine zA4 ?_
 refine zB8 (b := (((decide (i < 0)) || (decide (i ≥ (chunksM sz : Int)))) || (decide ((xs.length : Int) ≠ (sizeM sz i))))) rfl (fun h1 => ?_) (fun h1 => ?_)
 ·-- true
  simp only [sb] at h1
  have hno : putOk sz i xs.length = false := by unfold putOk; exact decide_eq_false (by omega)
  have hd : putDo sz kb i xs.length = false := qJ0 (.inl hno)
  refine zA6 (zA1 rfl ?_)
  refine stp (zA8 (v := .bool false) rfl ?_)
  refine zA4 ?_
  refine zC4 ?_
  refine ret1 (zB3 (v := .bool false) rfl) ⟨h, by rw [hno], by unfold putW putK; rw [hd]; exact H0.grow G, Kp.of_grow G, .inl rfl⟩
 ·-- false
  simp only [sb] at h1
  have hyes : putOk sz i xs.length = true := by unfold putOk; exact decide_eq_true (by omega)
  obtain ⟨m, rfl⟩ : ∃ m : Nat, i = (m : Int) := ⟨i.toNat, by omega⟩
  obtain ⟨hm1, hm2, hm3, hm4, hm5⟩ := qV4 hyes
  refine zC3 ?_
  refine zA6 ?_
  refine zA6 (zA1 rfl ?_)
  refine stp (zD6 rfl ?_)
  refine stp (zE1 rfl ?_)
  refine stp (zA5 rfl ?_)
  refine stp (zA5 rfl ?_)
  refine stp (zB5 (v := .slice (some ⟨h, 0, none⟩) kb.length ck) rfl hB rfl ?_)
  refine stp (zA2 rfl ?_)
  refine stp (zC0 (v := .bool (bitQ kb m)) rfl (zZ7 _ (RK.grow G) hub (i := m) (by omega)) ?_)
  intro w21 g22
  replace hB := g22.heap hB
  replace G := G.tr g22
  clear g22
  refine zA4 ?_
  refine zB8 (b := (bitQ kb m)) rfl (fun h2 => ?_) (fun h2 => ?_)
  ·-- true
   have hd : putDo sz kb m xs.length = false := qJ0 (.inr h2)
   refine zA6 (zA1 rfl ?_)
   refine stp (zA8 (v := .bool true) rfl ?_)
   refine zA4 ?_
   refine zC4 ?_
   refine ret1 (zB3 (v := .bool true) rfl) ⟨h, by rw [hyes], by unfold putW putK; rw [hd]; exact H0.grow G, Kp.of_grow G, .inl rfl⟩
  ·-- false
   have hd : putDo sz kb m xs.length = true := qV5 hyes h2
   refine zC3 ?_
   refine zA6 (zA1 rfl ?_)
   refine stp (zD6 rfl ?_)
   refine stp (zE1 rfl ?_)
   refine stp (zA5 rfl ?_)
   refine stp (zA5 rfl ?_)
   refine stp (zB5 (v := .slice (some ⟨g, 0, none⟩) wl.length cw) rfl hB rfl ?_)
   refine stp (zA2 rfl ?_)
   refine stp (zL5 rfl rfl ?_ ?_); constructor <;> omega
   refine zA3 (og rfl ?_)
   refine zV5 rfl rfl (by omega) (by omega) ?_
   rw [show ((m : Int) * 8).toNat = 8 * m from by omega, if_neg (by omega), show (Option.map (fun x => x.add (8 * m * 1)) (some (⟨g, 0, none⟩ : Addr))) = some ⟨g, 8 * m, none⟩ from by rw [Option.map_some, add_lit, Nat.zero_add, Nat.mul_one]]
   refine stp (zD3 ?_)
   intro b23 w24 hb25 hc26 g27
   refine stn (zE0 (v := .slice (some ⟨g, 8 * m, none⟩) (wl.length - 8 * m) (cw - 8 * m)) rfl rfl (by rfl) hc26 (by rfl) (by rfl) ?_)
   intro w28 hc29 u30
   have g31 := g27.upd u30 hb25
   have hge32 := Nat.le_trans G.size hb25
   have ne33 := Nat.ne_of_lt (Nat.lt_of_lt_of_le (zA9 hB) hb25)
   replace hB := g31.heap hB
   replace G := G.tr g31
   clear u30 g27 hb25 hc26
   refine zA4 ?_
   refine zA6 (zA1 rfl ?_)
   refine stp (zD3 ?_)
   intro b34 w35 hb36 hc37 g38
   refine stn (zE0 (v := .int .i64 0) rfl rfl (by rfl) hc37 (by rfl) (by rfl) ?_)
   intro w39 hc40 u41
   have g42 := g38.upd u41 hb36
   have hge43 := Nat.le_trans G.size hb36
   have ne44 := Nat.ne_of_lt (Nat.lt_of_lt_of_le (zA9 hB) hb36)
   have ne45 := Nat.ne_of_lt (Nat.lt_of_lt_of_le (zA9 hc29) hb36)
   replace hB := g42.heap hB
   replace hc29 := g42.heap hc29
   replace G := G.tr g42
   clear u41 g38 hb36 hc37
   refine zA4 ?_
   refine zA6 ?_
   refine zA6 (zA1 rfl ?_)
   refine stp (zA7 rfl ?_)
   refine zA3 (og rfl ?_)
   refine zF1 rfl (qR7 _) ?_
   rintro v_ w46 ⟨q1, q2, rfl, hq1, hq2, hc1, hc2, g_⟩
   have hq1b := Nat.lt_of_lt_of_le (zA9 hc40) hq1
   have hq2b := Nat.lt_of_lt_of_le (zA9 hc40) hq2
   have hq1w := Nat.le_trans G.size hq1
   have hq2w := Nat.le_trans G.size hq2
   replace hB := g_.heap hB
   replace hc29 := g_.heap hc29
   replace hc40 := g_.heap hc40
   replace G := G.tr g_
   clear g_
   refine zA4 ?_
   refine zC6 ?_
   refine qT6 rfl rfl ?_
   intro rc hst hpd hps has hbd hsz hge l w6 hl hlp hmk g6 hw6
   have lt_hc29 := zA9 hc29
   have lt_hc40 := zA9 hc40
   have lt_hc1 := zA9 hc1
   have lt_hc2 := zA9 hc2
   replace hB := g6.heap hB
   replace hc29 := g6.heap hc29
   replace hc40 := g6.heap hc40
   replace hc1 := g6.heap hc1
   replace hc2 := g6.heap hc2
   have hGs := G.size
   have hg7 := hge32
   have hg8 := hge43
   have hn78 := ne45
   replace G := G.tr g6
   generalize hmm : w46.heap.size = mk at *
   obtain ⟨N, hN⟩ : ∃ N, N = (xs.length + 7) / 8 := ⟨_, rfl⟩
   refine Calls.mono (qN1 w6 (l := l) hcb lX (fun j W => W.ownsRow base 33 1 (.slice (some ⟨g, 0, none⟩) wl.length cw) wl.length (wordsV (ovl wl (8 * m) ((List.range j).map (chunkP xs)))) ∧ W.heap[b23]? = some (.cells #[.slice (some ⟨g, 8 * m, none⟩) (wl.length - 8 * m) (cw - 8 * m)] 67 (0, 0)) ∧ W.heap[b34]? = some (.cells #[.int .i64 (j : Int)] 3 (0, 0)) ∧ W.heap[q1]? = some (.cells #[.slice adb xs.length cb] 22 (0, 0)) ∧ W.heap[q2]? = some (.cells #[.int .i64 8] 3 (0, 0)) ∧ W.heap[l]? = some (.loop rc) ∧ W.heap[mk]? = some (.deferred (some [])) ∧ Kp [g] w W) (fun i w' h => ⟨h.2.2.2.1, h.2.2.2.2.1⟩) (fun i w' w'' g ⟨o1, o2, o3, o4, o5, o6, o7, o8⟩ => ⟨zC8 o1 g, g.heap o2, g.heap o3, g.heap o4, g.heap o5, g.heap o6, g.heap o7, o8.tr g.kp⟩) ?_ ⟨by rw [List.range_zero, List.map_nil, yM8]; exact zC8 oW G, hc29, hc40, hc1, hc2, hlp, hmk, Kp.of_grow G⟩) ?_
   ·rintro j w7 hj ⟨own2, h1, h3, h4, h5, h6, h7, K7⟩
    refine qB9 (ps := [54]) (vs := [_]) (n := 75) h6 hps rfl hsz (by rfl) hge ?_
    rw [has, hbd]
    refine zA1 rfl ?_
    refine stp (zB0 rfl ?_)
    refine zA4 ?_
    refine ⟨rc, h6, hst, ?_⟩
    have u1 := zR9 (o' := .loop { rc with state := .busy }) h6
    have k6 := qA6 (o' := .loop { rc with state := .busy }) h6
    have k2 := zF0 own2 u1 (zU3 own2 h6)
    have k1 := u1.heap h1 (fun he_ => by rw [he_, h6] at h1; cases h1)
    have k3 := u1.heap h3 (fun he_ => by rw [he_, h6] at h3; cases h3)
    have k4 := u1.heap h4 (fun he_ => by rw [he_, h6] at h4; cases h4)
    have k5 := u1.heap h5 (fun he_ => by rw [he_, h6] at h5; cases h5)
    have k7 := u1.heap h7 (by omega)
    have K8 := K7.upd_new u1 (by omega)
    generalize w7.putObj l (.loop { rc with state := .busy }) = w8 at *
    clear u1 h1 own2 h3 h4 h5 h7 K7
    have hcn : chunkN xs.length j ≤ 8 := by unfold chunkN; omega
    have Rj : RowAt w8 1 (if 8 * j + chunkN xs.length j = 8 * j then adb else adb.map (·.add (8 * j * 1))) (chunkN xs.length j) (((xs.drop (8 * j)).take 8).map (.int .u8)) := by
     have h_ := (yP4 RX K8 hdis).chunk (l := 8 * j) (m := chunkN xs.length j) (by unfold chunkN; omega)
     rwa [← List.map_drop, ← List.map_take, qE9] at h_
    have hlenj : chunkN xs.length j = ((xs.drop (8 * j)).take 8).length := by rw [List.length_take, List.length_drop, chunkN]
    have hxj : ∀ x ∈ (xs.drop (8 * j)).take 8, inR .u8 x := fun x hx_ => hxx x (List.mem_of_mem_drop (List.mem_of_mem_take hx_))
    have hjn : j < (xs.length + 7) / 8 := by omega
    refine zC6 ?_
    refine zA6 (zA1 rfl ?_)
    refine stp (zB5 (v := .slice (some ⟨g, 8 * m, none⟩) (wl.length - 8 * m) (cw - 8 * m)) rfl k1 rfl ?_)
    refine stp (zB5 (v := .int .i64 (j : Int)) rfl k3 rfl ?_)
    refine zA3 (og rfl ?_)
    refine zH9 (b := g) (o := 8 * m) rfl rfl (by omega) (by omega) ?_
    rw [show 8 * m + ((j : Int)).toNat * 1 = 8 * m + j from by omega]
    refine stp (zO1 rfl ?_)
    refine zA4 ?_
    refine zA6 (zA1 rfl ?_)
    refine stp (zD6 rfl ?_)
    refine stp (zA7 rfl ?_)
    refine stp (zC0 (v := .int .u64 (chunkP xs j)) rfl (zH3 (qY8 _ hlenj (Nat.le_refl _) Rj hxj) (y := .int .u64 (chunkP xs j)) (by rw [List.take_take]; rfl)) ?_)
    intro w47 g48
    replace k1 := g48.heap k1
    replace k3 := g48.heap k3
    replace k4 := g48.heap k4
    replace k5 := g48.heap k5
    replace k6 := g48.heap k6
    replace k7 := g48.heap k7
    replace k2 := zC8 k2 g48
    replace K8 := K8.tr g48.kp
    replace Rj := Rj.grow g48
    clear g48
    refine stp (zE1 rfl ?_)
    refine yA2 (og rfl ?_)
    obtain ⟨g5, c5, cur5, he5, hg5b, hg5, hc51, hc52, hc53, hc54⟩ := zK1 k2 (by omega)
    simp only [Value.slice.injEq, Option.some.injEq, Addr.mk.injEq, and_true, true_and] at he5
    obtain ⟨he5, he6⟩ := he5
    subst he5
    subst he6
    refine zE0 (v := .int .u64 (chunkP xs j)) rfl rfl rfl hg5 (Nat.ble_eq_true_of_le (by omega)) rfl ?_
    intro w9 hs9 u9
    have m2 := zJ6 (i := 8 * m + j) (x := .int .u64 (chunkP xs j)) k2 hg5 hs9 (by simp)
    have hgl := zA9 hg0
    have m1 := u9.heap k1 (by omega)
    have m3 := u9.heap k3 (by omega)
    have m4 := u9.heap k4 (by omega)
    have m5 := u9.heap k5 (by omega)
    have m6 := u9.heap k6 (by omega)
    have m7 := u9.heap k7 (by omega)
    have K9 := K8.tr (Kp.of_upd u9 (by simp))
    clear k1 k3 k4 k5 k6 k7 k2 K8 Rj u9 hs9 hg5
    refine zA4 ?_
    refine zA1 rfl ?_
    refine stp (zB5 (v := .int .i64 (j : Int)) rfl m3 rfl ?_)
    refine stp (zD8 rfl rfl ?_ ?_); constructor <;> omega
    refine stn (zE0 (v := .int .i64 ((j : Int) + 1)) rfl rfl (by rfl) m3 (by rfl) (by rfl) ?_)
    intro w10 n3 u10
    have n6 := u10.heap m6 (fun he_ => by rw [he_, m3] at m6; cases m6)
    have n1 := u10.heap m1 (by omega)
    have n4 := u10.heap m4 (by omega)
    have n5 := u10.heap m5 (by omega)
    have n7 := u10.heap m7 (by omega)
    have n2 := zF0 m2 u10 (zE7 m2 m3 (by decide))
    have K10 := K9.upd_new u10 (by omega)
    clear m1 m3 m4 m5 m6 m7 m2 K9 u10
    refine zA4 ?_
    have u2 := zR9 (o' := .loop rc) n6
    refine ⟨_, n6, ?_⟩
    rw [qE7 hst hpd]
    have hov : ovl wl (8 * m) ((List.range (j + 1)).map (chunkP xs)) = (ovl wl (8 * m) ((List.range j).map (chunkP xs))).set (8 * m + j) (chunkP xs j) := by rw [List.range_succ, List.map_append]; have h_ := yJ3 (wl := wl) (l := ((List.range j).map (chunkP xs))) (a := 8 * m) (x := chunkP xs j) (by simp; omega); rw [List.length_map, List.length_range] at h_; exact h_
    refine ⟨rfl, by rw [hov, wordsV, List.map_set]; exact zF0 n2 u2 (zU3 n2 n6), u2.heap n1 (fun he_ => by rw [he_, n6] at n1; cases n1), ?_, u2.heap n4 (fun he_ => by rw [he_, n6] at n4; cases n4), u2.heap n5 (fun he_ => by rw [he_, n6] at n5; cases n5), qA6 n6, u2.heap n7 (by omega), K10.upd_new u2 (by omega)⟩
    have n3' := u2.heap n3 (fun he_ => by rw [he_, n6] at n3; cases n3)
    exact n3'
   ·rintro r_ w7 ⟨v_, rfl, own2, h1, h3, h4, h5, h6, h7, K7⟩
    refine ⟨_, rc, rfl, h6, by rw [hst]; simp, ?_⟩
    simp only [hpd]
    have u1 := zR9 (o' := .loop { rc with state := .exhausted, pending := none }) h6
    have k7 := u1.heap h7 (by omega)
    have k2 := zF0 own2 u1 (zU3 own2 h6)
    have K8 := K7.upd_new u1 (by omega)
    generalize w7.putObj l _ = w8 at *
    clear u1 h1 h3 h4 h5 own2 K7
    have kB := K8.heap hB0 (by simpa using hbg)
    have oK8 := zP9 oK K8 (fun q hq hm_ => by simp only [List.mem_singleton] at hm_; simp only [Value.ownBlock, Option.some.injEq] at hq; exact zE7 oK hg0 (by decide) (by rw [hm_] at hq; simp [Value.ownBlock, hq]))
    obtain ⟨_, _, hs9, -, -, RK8⟩ := zE2 oK8 (by omega)
    cases hs9
    refine zA6 (zA1 rfl ?_)
    refine stp (zD6 rfl ?_)
    refine stp (zD6 rfl ?_)
    refine stp (zE1 rfl ?_)
    refine stp (zA5 rfl ?_)
    refine stp (zA5 rfl ?_)
    refine stp (zB5 (v := .slice (some ⟨h, 0, none⟩) kb.length ck) rfl kB rfl ?_)
    refine stp (zA2 rfl ?_)
    refine zA3 (og rfl ?_)
    have hsz8 := K8.size
    refine zF1 rfl (qZ0 _ hck hck2 RK8 hub (i := m) (by omega) (by omega)) ?_
    rintro vb w9 ⟨h9, c9, rfl, hh9, oK9, g_⟩
    replace k7 := g_.heap k7
    replace k2 := zC8 k2 g_
    replace K8 := K8.tr g_.kp
    replace kB := g_.heap kB
    replace RK8 := RK8.grow g_
    clear g_
    refine stp (zE1 rfl ?_)
    refine stp (zA5 rfl ?_)
    refine stp (zA5 rfl ?_)
    refine stn (zE0 (v := .slice (some ⟨h9, 0, none⟩) kb.length c9) rfl rfl (by rfl) kB (by rfl) (by rfl) ?_)
    intro w10 n1 u10
    have n7 := u10.heap k7 (by omega)
    have n2 := zF0 k2 u10 (zE7 k2 kB (by decide))
    have n3 := zF0 oK9 u10 (zE7 oK9 kB (by decide))
    have K10 : Kp [b, g] w w10 := (K8.mono (F' := [b, g]) (fun x hx => by simp only [List.mem_singleton] at hx; subst hx; simp)).tr (Kp.of_upd u10 (by simp))
    refine zA4 ?_
    refine zA6 (zA1 rfl ?_)
    refine stp (zA8 (v := .bool true) rfl ?_)
    refine zA4 ?_
    refine zC4 ?_
    have u2 := zR9 (o' := .deferred none) n7
    have K11 := K10.upd_new u2 (by omega)
    have p1 := u2.heap n1 (by omega)
    have p2 := zF0 n2 u2 (qE8 n2 n7)
    have p3 := zF0 n3 u2 (qE8 n3 n7)
    have p4 := zP9 oS K11 (fun q hq hm_ => by simp only [List.mem_cons, List.not_mem_nil, or_false] at hm_; rcases hm_ with rfl | rfl; exact zE7 oS hB0 (by decide) hq; exact zE7 oS hg0 (by decide) hq)
    have hol : (ovl wl (8 * m) (chunksP xs)).length = wl.length := yD5 (by rw [zR3]; omega)
    have hsl := qI1 kb m
    refine retM (vs := [_]) ⟨mk, _, rfl, run_takeDeferred n7, rfl⟩ ⟨rfl, trivial⟩ ⟨h9, by rw [hyes]; rfl, ?_, K11, .inr (Nat.le_trans hsz8 hh9)⟩
    unfold putW putK; rw [hd, if_pos rfl, if_pos rfl, Int.toNat_natCast]
    refine ⟨hfit, by rw [hol]; exact hlw, by rw [hsl]; exact hlk, qI2 hub m, yD6 huw (qD4 hxx), hb0, ads, cs, cw, c9, ?_, p4, ?_, ?_⟩
    ·rw [hol, hsl]; exact p1
    ·rw [hol]; exact p2
    ·rw [hsl]; exact zI0 p3 (Nat.le_trans (Nat.le_trans hb0 (Nat.le_of_lt hltb)) hsz8)
end Go.Proofs.YtifhcfhdajkhlaaGreat.K

namespace Go.Proofs.YtifhcfhdajkhlaaGreat.K
open Go Go.RowKit Go.Proofs
attribute [local irreducible] Run1 OpG WL W AO Gives
set_option maxRecDepth 100000 in
theorem qE5 (w : World) {ad ad2 : Option Addr} {c c2 : Nat} {xs ys : List Int} (R : RowAt w 1 ad xs.length (xs.map (.int .i64))) (R2 : RowAt w 1 ad2 ys.length (ys.map (.int .i64))) : Gives Tryz.prog 90 #[.slice ad xs.length c, .slice ad2 ys.length c2] w (.bool (decide (xs = ys))) := by
 have l1 := R.lim
 have l2 := R2.lim
 have G := Grow.rfl' w
 refine zC7 Tryz.func90 Tryz.ntmps90 Tryz.results90 rfl rfl ?_
 refine zA6 (zA1 rfl ?_)
 refine stp (zA8 (v := .bool false) rfl ?_)
 refine zA4 ?_
 refine zA6 ?_
 refine zA6 (zA1 rfl ?_)
 refine stp (zA7 rfl ?_)
 refine stp (zE8 rfl rfl rfl ?_)
 refine stp (zA7 rfl ?_)
 refine stp (zE8 rfl rfl rfl ?_)
 refine stp (zI9 rfl rfl ?_)
 refine zA4 ?_
 refine zB8 (b := (decide ((xs.length : Int) ≠ (ys.length : Int)))) rfl (fun h1 => ?_) (fun h1 => ?_)
 ·-- true
  replace h1 := of_decide_eq_true h1
  refine zA6 (zA1 rfl ?_)
  refine stp (zA8 (v := .bool false) rfl ?_)
  refine zA4 ?_
  refine zC4 ?_
  refine ret1 (zB3 (v := .bool false) rfl) ⟨?_, G⟩
  congr 1; exact (decide_eq_false (fun he => h1 (by rw [he]))).symm
 ·-- false
  replace h1 := of_decide_eq_false h1
  have hl : xs.length = ys.length := by omega
  refine zC3 ?_
  refine zA6 ?_
  refine zA6 (zA1 rfl ?_)
  refine stp (zA0 rfl ?_)
  refine zA4 ?_
  refine zC6 ?_
  refine zG6 (fun m_ e_ w_ => ∃ (k : Nat), m_ = xs.length - k ∧ Fr [(0, .slice ad xs.length c), (1, .slice ad2 ys.length c2), (5, .int .i64 (k : Int))] e_ ∧ (k ≤ xs.length) ∧ (∀ j, j < k → xs.getD j 0 = ys.getD j 0) ∧ Grow w w_) _ ⟨0, rfl, zE6 ⟨rfl, rfl, rfl, trivial⟩, by omega, fun j hj => by omega, G⟩ ?_
  clear G
  rintro m_ e_ w1 ⟨k, rfl, ⟨e2, rfl⟩, hk2, hk, G⟩
  refine zA6 ?_
  refine zA6 (zA1 rfl ?_)
  refine stp (zA2 rfl ?_)
  refine stp (zA7 rfl ?_)
  refine stp (zE8 rfl rfl rfl ?_)
  refine stp (zF9 rfl rfl ?_)
  refine zA4 ?_
  refine zB8 (b := (decide ((k : Int) < (xs.length : Int)))) rfl (fun hlt => ?_) (fun hlt => ?_)
  ·-- true
   replace hlt := of_decide_eq_true hlt
   have hk3 : k < ys.length := by omega
   refine zC3 ?_
   refine zA6 ?_
   refine zC6 ?_
   refine zA6 ?_
   refine zJ4 9 [[], [], [1, 0], [2, 1, 0], [], [], [1, 0], [2, 1, 0], [7, 6, 5, 4, 3, 2, 1, 0]] mixed (by kernel_rfl) (by kernel_rfl) (by kernel_rfl) ?_
   intro w3 g4
   replace G := G.tr g4
   clear g4
   apply zB7
   ·intro w_ g_; refine og rfl ?_; refine zA7 rfl ?_; exact ⟨Grow.rfl' _, rfl⟩
   apply zB7
   ·intro w_ g_; refine og rfl ?_; refine zA2 rfl ?_; exact ⟨Grow.rfl' _, rfl⟩
   apply zB7
   ·intro w_ g_; refine og rfl ?_; refine zD9 (R.grow (G.tr g_)) rfl rfl ?_ ?_; omega; exact ⟨Grow.rfl' _, rfl⟩
   apply zB7
   ·intro w_ g_; refine og rfl ?_; refine zD7 (v := .int .i64 (xs.getD k 0)) (m := 0) (R.grow (G.tr g_)) rfl (zE4 0 (by omega)) ?_; exact ⟨Grow.rfl' _, rfl⟩
   apply zB7
   ·intro w_ g_; refine og rfl ?_; refine zA7 rfl ?_; exact ⟨Grow.rfl' _, rfl⟩
   apply zB7
   ·intro w_ g_; refine og rfl ?_; refine zA2 rfl ?_; exact ⟨Grow.rfl' _, rfl⟩
   apply zB7
   ·intro w_ g_; refine og rfl ?_; refine zD9 (R2.grow (G.tr g_)) rfl rfl ?_ ?_; omega; exact ⟨Grow.rfl' _, rfl⟩
   apply zB7
   ·intro w_ g_; refine og rfl ?_; refine zD7 (v := .int .i64 (ys.getD k 0)) (m := 0) (R2.grow (G.tr g_)) rfl (zE4 0 (by omega)) ?_; exact ⟨Grow.rfl' _, rfl⟩
   apply zB7
   ·intro w_ g_; refine og rfl ?_; refine zI9 rfl rfl ?_; exact ⟨Grow.rfl' _, rfl⟩
   refine zI5 ?_
   intro w5 g6
   replace G := G.tr g6
   clear g6
   refine zA4 ?_
   refine zB8 (b := (decide ((xs.getD k 0) ≠ (ys.getD k 0)))) rfl (fun h3 => ?_) (fun h3 => ?_)
   ·-- true
    replace h3 := of_decide_eq_true h3
    refine zA6 (zA1 rfl ?_)
    refine stp (zA8 (v := .bool false) rfl ?_)
    refine zA4 ?_
    refine zC4 ?_
    refine ret1 (zB3 (v := .bool false) rfl) ⟨?_, G⟩
    congr 1; exact (decide_eq_false (fun he => h3 (by rw [he]))).symm
   ·-- false
    replace h3 := of_decide_eq_false h3
    refine zC3 ?_
    refine zA1 rfl ?_
    refine stp (zA2 rfl ?_)
    refine stp (zD8 rfl rfl ?_ ?_); constructor <;> omega
    refine stp (zA0 rfl ?_)
    refine zA4 ?_
    refine ⟨_, ?_, k + 1, rfl, zE6 ⟨rfl, rfl, rfl, trivial⟩, by omega, fun j hj => by rcases Nat.lt_succ_iff_lt_or_eq.1 hj with h_ | h_; exact hk j h_; subst h_; omega, G⟩
    omega
  ·-- false
   replace hlt := of_decide_eq_false hlt
   have hk3 : k = xs.length := by omega
   refine zF6 ?_
   refine zA6 (zA1 rfl ?_)
   refine stp (zA8 (v := .bool true) rfl ?_)
   refine zA4 ?_
   refine zC4 ?_
   refine ret1 (zB3 (v := .bool true) rfl) ⟨?_, G⟩
   congr 1; exact (decide_eq_true (qH6 hl (fun j hj => hk j (by omega)))).symm

set_option maxRecDepth 100000 in
theorem qP0 (w : World) {ses sum : Int} {ad ad2 : Option Addr} {c c2 : Nat} {sz : List Int} (R : RowAt w 1 ad sz.length (sz.map (.int .i64))) (R2 : RowAt w 1 ad2 sz.length (sz.map (.int .i64))) : Gives Tryz.prog 55 #[.agg #[.int .u64 ses, .slice ad sz.length c, .int .u32 sum], .agg #[.int .u64 ses, .slice ad2 sz.length c2, .int .u32 sum]] w (.bool true) := by
 have G := Grow.rfl' w
 refine zC7 Tryz.func55 Tryz.ntmps55 Tryz.results55 rfl rfl ?_
 refine zA6 (zA1 rfl ?_)
 refine zA3 (og rfl ?_)
 (first | refine zD0 rfl ?_ | refine zD2 rfl ?_ | refine zC5 rfl ?_ | refine zH0 rfl rfl ?_)
 intro b1 w2 hb3 hc4 g5
 have hge6 := Nat.le_trans G.size hb3
 replace G := G.tr g5
 clear g5 hb3
 refine zA3 (og rfl ?_)
 (first | refine zD0 rfl ?_ | refine zD2 rfl ?_ | refine zC5 rfl ?_ | refine zH0 rfl rfl ?_)
 intro b7 w8 hb9 hc10 g11
 have hge12 := Nat.le_trans G.size hb9
 replace hc4 := g11.heap hc4
 replace G := G.tr g11
 clear g11 hb9
 refine stp (zA8 (v := .bool false) rfl ?_)
 refine zA4 ?_
 refine zA6 (zA1 rfl ?_)
 refine stp (zA5 rfl ?_)
 refine stp (zB5 (v := .int .u64 ses) rfl hc4 rfl ?_)
 refine stp (zA5 rfl ?_)
 refine stp (zB5 (v := .int .u64 ses) rfl hc10 rfl ?_)
 refine stp (zG3 rfl rfl (rfl) ?_)
 refine stp (zB6 (v := .bool true) rfl ?_)
 refine stp (zA5 rfl ?_)
 refine stp (zB5 (v := .int .u32 sum) rfl hc4 rfl ?_)
 refine stp (zA5 rfl ?_)
 refine stp (zB5 (v := .int .u32 sum) rfl hc10 rfl ?_)
 refine stp (zG3 rfl rfl (rfl) ?_)
 refine stp (zG7 (v := .bool true) rfl rfl rfl ?_)
 refine stp (zB6 (v := .bool true) rfl ?_)
 refine stp (zA5 rfl ?_)
 refine stp (zB5 (v := .slice ad sz.length c) rfl hc4 rfl ?_)
 refine stp (zA5 rfl ?_)
 refine stp (zB5 (v := .slice ad2 sz.length c2) rfl hc10 rfl ?_)
 refine stp (zC0 (v := .bool true) rfl (zH3 (qE5 _ (R.grow G) (R2.grow G)) (y := .bool true) (by rw [decide_eq_true rfl])) ?_)
 intro w13 g14
 replace hc4 := g14.heap hc4
 replace hc10 := g14.heap hc10
 replace G := G.tr g14
 clear g14
 refine stp (zG7 (v := .bool true) rfl rfl rfl ?_)
 refine stp (zA8 (v := .bool true) rfl ?_)
 refine zA4 ?_
 refine zC4 ?_
 refine ret1 (zB3 (v := .bool true) rfl) ⟨?_, G⟩
 rfl
end Go.Proofs.YtifhcfhdajkhlaaGreat.K

namespace Go.Proofs.YtifhcfhdajkhlaaGreat.K
open Go Go.RowKit

section
variable {P : Program} {ops : Array Oper} {Q : Ex → Env → World → Prop} {e : Env} {w : World} {K : Value → World → Prop} {r : List Oper}
variable {d : Option Nat} {ty : TypeId} {pos : String} {af : Array Edge} {g : Option (Nat × Bool)}
variable {t u : TypeId} {x y z : Operand}
theorem qG5 {n c : Nat} {ad : Option Addr} {el : TypeId} {xs : List Int} [hui : ElI P t el 1] [hei : IntI P el .u8] [hsi : StrI P u] (R : RowAt w 1 ad n (xs.map (.int .u8))) (hx : ev e x = .slice ad n c) (h : K (.string (strOfNums xs)) w) : Run1 P ⟨d, .convert t u x, ty, pos, af, g⟩ e w K := by
  have hn : n = xs.length := by have := R.len; simp at this; exact this.symm
  have hu := hui.h
  have ht : P.underlying t = some (.slice el) := by
    unfold elS at hu
    split at hu
    · rename_i el' hul
      split at hu
      · simp only [Option.some.injEq, Prod.mk.injEq] at hu
        obtain ⟨rfl, _⟩ := hu
        exact hul
      · cases hu
    · cases hu
  have key : (convert t u (.slice ad n c)).run P w = .ok (.string (strOfNums xs)) w := by
    rcases Nat.eq_zero_or_pos n with h0 | h0
    · have hxs : xs = [] := List.eq_nil_of_length_eq_zero (by omega)
      subst hxs
      cases ad with
      | none => exact run_convert_bytes_nil w t el ht hei.h n c u hsi.h
      | some a =>
        subst h0
        rw [run_convert_bytes_string w t u el _ 0 c ht hei.h hsi.h, run_bytesToString w a 0 c [] (by rfl)]
        rfl
    · obtain ⟨b, o, cs, T, fr, rfl, hb, hr⟩ := R.at_ h0
      refine run_convert_bytes_arg w t el ht hei.h b o n c xs hn.symm (fun i hi => ?_) u hsi.h
      rw [cell_of_row w b (o + i) cs T fr hb]
      refine zO2 hr ?_
      rw [List.getElem?_map, List.getElem?_eq_getElem (by omega), List.getD_eq_getElem?_getD, List.getElem?_eq_getElem (by omega)]
      rfl
  exact zF7 (w' := w) (by simp only [execOp, hx, Sem.run_bind, key, Result.andThen_ok, Sem.run_pure]) h
theorem yK5 {s q : ByteArray} (hx : ev e x = .string s) (hy : ev e y = .string q) (h : K (.bool (s.toList == q.toList)) w) : Run1 P ⟨d, .binOp .eql t x y u, ty, pos, af, g⟩ e w K :=
  zF7 (w' := w) (by
    have hg : ∀ w : World, (eqGuard .eql t x y (.string s) (.string q)).run P w = .ok () w := fun _ => rfl
    simp only [execOp, hx, hy, Sem.run_bind, hg, Result.andThen_ok, binOp, Op.stringOp, Sem.run_pure]) h
end
theorem yF9 : ∀ (xs ys : List Int), (∀ x ∈ xs, inR .u8 x) → (∀ y ∈ ys, inR .u8 y) → (strOfNums xs).data.toList = (strOfNums ys).data.toList → xs = ys := by
  intro xs ys hx hy h2
  simp only [strOfNums_data] at h2
  induction xs generalizing ys with
  | nil => cases ys with
    | nil => rfl
    | cons y ys => simp at h2
  | cons x xs ih => cases ys with
    | nil => simp at h2
    | cons y ys =>
      simp only [List.map_cons, List.cons.injEq] at h2
      have h3 := ih ys (fun z hz => hx z (by simp [hz])) (fun z hz => hy z (by simp [hz])) h2.2
      have h4 := hx x (by simp)
      have h5 := hy y (by simp)
      simp only [inR] at h4 h5
      have h6 := congrArg UInt8.toNat h2.1
      simp only [UInt8.toNat_ofNat'] at h6
      have : x = y := by omega
      rw [this, h3]
theorem yK6 {xs ys : List Int} (hx : ∀ x ∈ xs, inR .u8 x) (hy : ∀ y ∈ ys, inR .u8 y) : ((strOfNums xs).toList == (strOfNums ys).toList) = decide (xs = ys) := by
  rw [ByteArray.toList_eq, ByteArray.toList_eq]
  by_cases h : xs = ys
  · subst h; simp
  · rw [decide_eq_false h, beq_eq_false_iff_ne]
    exact fun hs => h (yF9 xs ys hx hy hs)
end Go.Proofs.YtifhcfhdajkhlaaGreat.K

namespace Go.Proofs.YtifhcfhdajkhlaaGreat.K
open Go Go.RowKit Go.Proofs
attribute [local irreducible] Run1 OpG WL W AO Gives
set_option maxRecDepth 100000 in
theorem qZ6 : ∀ (n_ : Nat) (w : World) {w0 : World} {d n cp : Nat} {ad : Option Addr} {xs : List Int} (R : RowAt w0 1 ad n (xs.map (.int .u8))) (g0 : Grow w0 w) (hn : n = xs.length) (hx : ∀ x ∈ xs, inR .u8 x) (hcp : n ≤ cp) (hcp2 : cp ≤ maxLen) (hd : d ≤ 100), d + 1 ≤ n_ → Calls Tryz.prog 21 #[.slice ad n cp, .int .i64 (d : Int)] w (Ret fun v w' => ∃ cells ad' n' c', v = .tuple #[.agg cells.toArray, .slice ad' n' c'] ∧ NodeR (hide w.heap.size w') cells (treeP d xs).1 ∧ n' = (treeP d xs).2.length ∧ n' ≤ c' ∧ c' ≤ maxLen ∧ RowAt w0 1 ad' n' ((treeP d xs).2.map (.int .u8)) ∧ Grow w w') := by
 intro n_
 induction n_ with
 | zero => intro w w0 d n cp ad xs R g0 hn hx hcp hcp2 hd hm_; exact absurd hm_ (by have := Nat.succ_pos d; omega)
 | succ n_ ih_ =>
 intro w w0 d n cp ad xs R g0 hn hx hcp hcp2 hd hm_
 have G := Grow.rfl' w
 refine zE3 Tryz.func21 Tryz.ntmps21 Tryz.results21 rfl rfl ?_
 refine zA6 (zA1 rfl ?_)
 refine stp (zD3 ?_)
 intro b1 w2 hb3 hc4 g5
 refine stp (zB0 rfl ?_)
 refine zA4 ?_
 refine zA6 ?_
 refine zA6 (zA1 rfl ?_)
 refine stp (zA7 rfl ?_)
 refine stp (zE8 rfl rfl rfl ?_)
 refine stp (zE9 rfl rfl ?_)
 refine stp (zB9 rfl ?_)
 refine zA3 (zC2 (s := .bool (decide ((n : Int) = 0))) (b := false) (v := .int .i64 (d : Int)) rfl (zD1 _) (fun hc6 => ?_) ?_)
 ·
  have hc6_ := hc6
  try simp only [sb] at hc6_
  refine zA2 rfl ?_
  exact ⟨rfl, rfl⟩
 refine zA3 (zC2 (s := .bool (decide ((n : Int) = 0))) (b := false) (v := .bool (decide ((d : Int) = 0))) rfl (zD1 _) (fun hc7 => ?_) ?_)
 ·
  have hc7_ := hc7
  try simp only [sb] at hc7_
  refine zE9 (gvt hc7) rfl ?_
  exact ⟨rfl, rfl⟩
 refine stp (zI6 rfl rfl rfl ?_)
 refine zA4 ?_
 have hge8 := Nat.le_trans G.size hb3
 replace G := G.tr g5
 clear g5 hb3
 refine zB8 (b := ((decide ((n : Int) = 0)) || (decide ((d : Int) = 0)))) rfl (fun h1 => ?_) (fun h1 => ?_)
 ·-- true
  simp only [sb] at h1
  have hst : treeP d xs = (.nil, xs) := qW5 (by rcases h1 with h | h; exact .inl (List.eq_nil_of_length_eq_zero (by omega)); exact .inr (by omega))
  refine zA6 (zA1 rfl ?_)
  refine stp (zD4 (v := .agg #[.int .i64 0, .int .i64 0, .slice none 0 0, .slice none 0 0, .slice none 0 0]) (fun w => by kernel_rfl) ?_)
  refine stp (zA7 rfl ?_)
  refine stn (zB1 rfl rfl hc4 (by rfl) (by rfl) (by rfl) ?_)
  intro w9 hc10 u11
  replace G := G.upd u11 hge8
  clear u11 hc4
  refine stp (zB0 rfl ?_)
  refine zA4 ?_
  refine zC4 ?_
  rw [hst]
  refine ret2 (zC9 rfl hc10 (by rfl)) (zB3 (v := .slice ad n cp) rfl) ⟨[_, _, _, _, _], _, _, _, rfl, NodeR.zero _, hn, hcp, hcp2, R, G⟩
 ·-- false
  simp only [sb] at h1
  obtain ⟨h1a, h1b⟩ := h1
  obtain ⟨d, rfl⟩ : ∃ e, d = e + 1 := ⟨d - 1, by omega⟩
  obtain ⟨k, c, rfl⟩ : ∃ k c, xs = k :: c := by cases xs with | nil => simp at hn; omega | cons k c => exact ⟨_, _, rfl⟩
  have hk := hx k (by simp)
  simp only [inR] at hk
  simp only [List.length_cons] at hn
  have hxc : ∀ x ∈ c, inR .u8 x := fun x h_ => hx x (by simp [h_])
  have hlim := R.lim
  have hnc : n - 1 = c.length := by omega
  refine zC3 ?_
  refine zA6 (zA1 rfl ?_)
  refine stp (zA7 rfl ?_)
  refine stp (zI4 ((R.grow g0).grow G) rfl rfl ?_ ?_ ?_); omega; omega
  refine stp (zD7 (v := .int .u8 k) (m := 0) ((R.grow g0).grow G) rfl rfl ?_)
  refine stp (zA0 rfl ?_)
  refine zA4 ?_
  refine zA6 (zA1 rfl ?_)
  refine stp (zA7 rfl ?_)
  refine stp (zV5 rfl rfl (by omega) (by omega) ?_)
  have R1 := R.sliceLH (l := 1) (m := n - 1) hcp (by omega) (by omega)
  rw [show ((1 : Int).toNat) = 1 from rfl]
  generalize (if cp = 1 then ad else ad.map (·.add (1 * 1))) = ad1 at R1 ⊢
  have R2 : RowAt w0 1 ad1 (n - 1) (c.map (.int .u8)) := by
   have e_ : (List.take ((n - 1) * 1) (List.drop (1 * 1) (List.map (Value.int .u8) (k :: c)))) = c.map (.int .u8) := by simp only [Nat.mul_one, List.map_cons, List.drop_succ_cons, List.drop_zero]; rw [List.take_of_length_le (by rw [List.length_map]; omega)]
   rw [e_] at R1; exact R1
  clear R1
  refine stp (zB0 rfl ?_)
  refine zA4 ?_
  refine zA6 (zA1 rfl ?_)
  refine stp (zD4 (v := .agg #[.int .i64 0, .int .i64 0, .slice none 0 0, .slice none 0 0, .slice none 0 0]) (fun w => by kernel_rfl) ?_)
  refine stp (zD3 ?_)
  intro b12 w13 hb14 hc15 g16
  refine stn (zB1 rfl rfl hc15 (by rfl) (by rfl) (by rfl) ?_)
  intro w17 hc18 u19
  have g20 := g16.upd u19 hb14
  have hge21 := Nat.le_trans G.size hb14
  have ne22 := Nat.ne_of_lt (Nat.lt_of_lt_of_le (zA9 hc4) hb14)
  replace hc4 := g20.heap hc4
  replace G := G.tr g20
  clear u19 g16 hb14 hc15
  refine zA4 ?_
  refine zA6 (zA1 rfl ?_)
  refine stp (zA2 rfl ?_)
  refine stp (zK3 rfl rfl ?_ ?_ ?_ ?_); omega; omega; (constructor <;> omega)
  refine stp (zJ5 rfl rfl ?_ ?_ ?_); omega; omega
  refine stp (zF8 rfl ?_ ?_); constructor <;> omega
  refine stp (zA0 rfl ?_)
  refine zA4 ?_
  refine zA6 ?_
  refine zA6 (zA1 rfl ?_)
  refine stp (zA2 rfl ?_)
  refine stp (zJ5 rfl rfl ?_ ?_ ?_); omega; omega
  refine zA4 ?_
  refine zC6 ?_
  refine zA6 (zA1 rfl ?_)
  refine stp (zE9 rfl rfl ?_)
  refine stp (zC1 rfl ?_)
  refine zA4 ?_
  refine zB8 (b := (decide ((k % 8) = 0))) rfl (fun h2 => ?_) (fun h2 => ?_)
  ·-- true
   replace h2 := of_decide_eq_true h2
   have ht : treeP (d + 1) (k :: c) = (.nil, c) := by simp only [treeP]; rw [if_pos h2]
   refine zA6 (zA1 rfl ?_)
   refine stp (zB4 rfl hc18 (by rfl) ?_)
   refine stp (zA7 rfl ?_)
   refine stn (zB1 rfl rfl hc4 (by rfl) (by rfl) (by rfl) ?_)
   intro w23 hc24 u25
   replace hc18 := u25.heap hc18 ne22.symm
   replace G := G.upd u25 hge8
   clear u25 hc4
   refine stp (zB0 rfl ?_)
   refine zA4 ?_
   refine zC4 ?_
   rw [ht]
   refine ret2 (zC9 rfl hc24 (by rfl)) (zB3 (v := .slice ad1 (n - 1) (cp - 1)) rfl) ⟨[_, _, _, _, _], _, _, _, rfl, NodeR.zero _, hnc, by omega, by omega, R2, G⟩
  ·-- false
   replace h2 := of_decide_eq_false h2
   refine zA6 ?_
   refine zA6 (zA1 rfl ?_)
   refine stp (zE9 rfl rfl ?_)
   refine stp (zC1 rfl ?_)
   refine zA4 ?_
   refine zB8 (b := (decide ((k % 8) = 1))) rfl (fun h3 => ?_) (fun h3 => ?_)
   ·-- true
    replace h3 := of_decide_eq_true h3
    refine zC3 ?_
    refine zP2 (show _ = Value.bool true from congrArg Value.bool (decide_eq_true h3)) ?_
    refine zA6 (zA1 rfl ?_)
    refine stp (zA5 rfl ?_)
    refine stn (zE0 (v := .int .i64 2) rfl rfl (by rfl) hc18 (by rfl) (by rfl) ?_)
    intro w26 hc27 u28
    replace hc4 := u28.heap hc4 ne22
    replace G := G.upd u28 hge21
    clear u28 hc18
    refine zA4 ?_
    refine zA6 (zA1 rfl ?_)
    refine stp (zA5 rfl ?_)
    refine stn (zE0 (v := .int .i64 2) rfl rfl (by rfl) hc27 (by rfl) (by rfl) ?_)
    intro w29 hc30 u31
    replace hc4 := u31.heap hc4 ne22
    replace G := G.upd u31 hge21
    clear u31 hc27
    refine zA4 ?_
    refine zA6 (zA1 rfl ?_)
    refine stp (zA0 rfl ?_)
    refine zA4 ?_
    refine zC6 ?_
    refine zG6 (fun m_ e_ w_ => ∃ (m : Nat) (ad3 : Option Addr) (n3 : Nat) (c3 : Nat), m_ = ((3 * (k / 8 % 5) + k % 2)).toNat - m ∧ Fr [(0, .slice ad1 (n - 1) (cp - 1)), (4, .pointer (some ⟨b1, 0, none⟩)), (5, .slice none 0 0), (6, .int .u8 k), (7, .pointer (some ⟨b12, 0, none⟩)), (8, .int .i64 ((k / 8) % 5)), (9, .int .i64 (m : Int))] e_ ∧ ((m : Int) ≤ (3 * (k / 8 % 5) + k % 2)) ∧ (w_.heap[b1]? = some (.cells #[.int .i64 0, .int .i64 0, .slice none 0 0, .slice none 0 0, .slice none 0 0] 71 (0, 0))) ∧ (w_.heap[b12]? = some (.cells #[.int .i64 2, .int .i64 2, .slice none 0 0, .slice ad3 n3 c3, .slice none 0 0] 71 (0, 0))) ∧ (w_.ownsRow w.heap.size 5 1 (.slice ad3 n3 c3) m ((List.range m).map fun i => .int .u8 (bTree k i))) ∧ Grow w w_) _ ⟨0, none, 0, 0, rfl, zE6 ⟨rfl, rfl, rfl, rfl, rfl, rfl, rfl, trivial⟩, by omega, hc4, hc30, World.ownsRow_nil _ _ _ _, G⟩ ?_
    clear hc4 hc30
    clear G
    rintro m_ e_ w32 ⟨m, ad3, n3, c3, rfl, ⟨e33, rfl⟩, hm, hc4, hc30, own, G⟩
    refine zA6 ?_
    refine zA6 (zA1 rfl ?_)
    refine stp (zA2 rfl ?_)
    refine stp (zA2 rfl ?_)
    refine stp (zL5 rfl rfl ?_ ?_); constructor <;> omega
    refine stp (zA2 rfl ?_)
    refine stp (zJ5 rfl rfl ?_ ?_ ?_); omega; omega
    refine stp (zF8 rfl ?_ ?_); constructor <;> omega
    refine stp (zD8 rfl rfl ?_ ?_); constructor <;> omega
    refine stp (zF9 rfl rfl ?_)
    refine zA4 ?_
    refine zB8 (b := (decide ((m : Int) < ((3 * ((k / 8) % 5)) + (k % 2))))) rfl (fun hlt => ?_) (fun hlt => ?_)
    ·-- true
     replace hlt := of_decide_eq_true hlt
     refine zC3 ?_
     refine zA6 ?_
     refine zC6 ?_
     refine zA1 rfl ?_
     refine stp (zA5 rfl ?_)
     refine stp (zB5 (v := .slice ad3 n3 c3) rfl hc30 rfl ?_)
     refine stp (zA2 rfl ?_)
     refine stp (zA2 rfl ?_)
     refine stp (zF8 rfl ?_ ?_); constructor <;> omega
     refine stp (zI1 rfl rfl ?_)
     refine stp (zE5 (cs := #[.int .u8 (bTree k m)]) (el := 5) (fun w => by kernel_rfl) ?_)
     intro bs34 w35 hb36 hc37 g38
     have hge39 := Nat.le_trans G.size hb36
     have ne40 := Nat.ne_of_lt (Nat.lt_of_lt_of_le (zA9 hc4) hb36)
     have ne41 := Nat.ne_of_lt (Nat.lt_of_lt_of_le (zA9 hc30) hb36)
     replace hc4 := g38.heap hc4
     replace hc30 := g38.heap hc30
     replace own := zC8 own g38
     replace G := G.tr g38
     clear g38
     refine stp (zG4 rfl rfl rfl rfl own (Row.of_block (n := 1) hc37 rfl rfl (by omega)) (fun q_ hq_ => by simp at hq_; subst hq_; rfl) (by simp only [maxLen]; omega) (by omega) G.size ?_)
     intro v42 w43 own6 gr6
     replace G := G.grown gr6 (zI2 own)
     replace hc4 := zI3 gr6 hc4 (zE7 own hc4 (by decide))
     replace hc30 := zI3 gr6 hc30 (zE7 own hc30 (by decide))
     clear own gr6
     obtain ⟨ad4, n4, c4, rfl⟩ := zF3 own6
     refine stp (zA5 rfl ?_)
     refine stn (zE0 (v := .slice ad4 n4 c4) rfl rfl (by rfl) hc30 (by rfl) (by rfl) ?_)
     intro w44 hc45 u46
     replace hc4 := u46.heap hc4 ne22
     replace own6 := zF0 own6 u46 (zE7 own6 hc30 (by decide))
     replace G := G.upd u46 hge21
     clear u46 hc30
     refine zA4 ?_
     refine zA1 rfl ?_
     refine stp (zA2 rfl ?_)
     refine stp (zD8 rfl rfl ?_ ?_); constructor <;> omega
     refine stp (zA0 rfl ?_)
     refine zA4 ?_
     refine ⟨_, ?_, m + 1, ad4, n4, c4, rfl, zE6 ⟨rfl, rfl, rfl, rfl, rfl, rfl, congrArg (Value.int .i64) (by omega), trivial⟩, by omega, hc4, hc45, (by rw [List.range_succ, List.map_append]; exact own6), G⟩
     omega
    ·-- false
     replace hlt := of_decide_eq_false hlt
     have hm2 : m = (3 * (k / 8 % 5) + k % 2).toNat := by omega
     have ht : treeP (d + 1) (k :: c) = (.mk 2 2 [] ((List.range (3 * (k / 8 % 5) + k % 2).toNat).map (bTree k)) [], c) := by simp only [treeP]; rw [if_neg h2, if_pos (by omega)]
     refine zF6 ?_
     refine zA6 (zA1 rfl ?_)
     refine stp (zB4 rfl hc30 (by rfl) ?_)
     refine stp (zA7 rfl ?_)
     refine stn (zB1 rfl rfl hc4 (by rfl) (by rfl) (by rfl) ?_)
     intro w47 hc48 u49
     replace hc30 := u49.heap hc30 ne22.symm
     replace own := zF0 own u49 (zE7 own hc4 (by decide))
     replace G := G.upd u49 hge8
     clear u49 hc4
     refine stp (zB0 rfl ?_)
     refine zA4 ?_
     refine zC4 ?_
     rw [ht]
     refine ret2 (zC9 rfl hc48 (by rfl)) (zB3 (v := .slice ad1 (n - 1) (cp - 1)) rfl) ⟨[_, _, _, _, _], _, _, _, rfl, .mk (by simp [inR]) (by simp [inR]) (Row.nil _ _) (by simp) (zM8 own hm2 (by omega)) (fun x hx_ => by obtain ⟨i, _, rfl⟩ := List.mem_map.1 hx_; exact qH8 _) (Row.nil _ _) .nil, hnc, (by omega), (by omega), R2, G⟩
   ·-- false
    replace h3 := of_decide_eq_false h3
    refine zA1 rfl ?_
    refine stp (zE9 rfl rfl ?_)
    refine stp (zC1 rfl ?_)
    refine zA4 ?_
    refine zB8 (b := (decide ((k % 8) = 2))) rfl (fun h4 => ?_) (fun h4 => ?_)
    ·-- true
     replace h4 := of_decide_eq_true h4
     refine zA6 (zA1 rfl ?_)
     refine stp (zA5 rfl ?_)
     refine stn (zE0 (v := .int .i64 2) rfl rfl (by rfl) hc18 (by rfl) (by rfl) ?_)
     intro w50 hc51 u52
     replace hc4 := u52.heap hc4 ne22
     replace G := G.upd u52 hge21
     clear u52 hc18
     refine zA4 ?_
     refine zA6 (zA1 rfl ?_)
     refine stp (zA5 rfl ?_)
     refine stn (zE0 (v := .int .i64 2) rfl rfl (by rfl) hc51 (by rfl) (by rfl) ?_)
     intro w53 hc54 u55
     replace hc4 := u55.heap hc4 ne22
     replace G := G.upd u55 hge21
     clear u55 hc51
     refine zA4 ?_
     refine zA6 (zA1 rfl ?_)
     refine stp (zA0 rfl ?_)
     refine zA4 ?_
     refine zC6 ?_
     refine zG6 (fun m_ e_ w_ => ∃ (m : Nat) (ad3 : Option Addr) (n3 : Nat) (c3 : Nat), m_ = ((3 * (k / 8 % 5) + k % 2)).toNat - m ∧ Fr [(0, .slice ad1 (n - 1) (cp - 1)), (4, .pointer (some ⟨b1, 0, none⟩)), (5, .slice none 0 0), (6, .int .u8 k), (7, .pointer (some ⟨b12, 0, none⟩)), (8, .int .i64 ((k / 8) % 5)), (9, .int .i64 (m : Int))] e_ ∧ ((m : Int) ≤ (3 * (k / 8 % 5) + k % 2)) ∧ (w_.heap[b1]? = some (.cells #[.int .i64 0, .int .i64 0, .slice none 0 0, .slice none 0 0, .slice none 0 0] 71 (0, 0))) ∧ (w_.heap[b12]? = some (.cells #[.int .i64 2, .int .i64 2, .slice none 0 0, .slice ad3 n3 c3, .slice none 0 0] 71 (0, 0))) ∧ (w_.ownsRow w.heap.size 5 1 (.slice ad3 n3 c3) m ((List.range m).map fun i => .int .u8 (bTree k i))) ∧ Grow w w_) _ ⟨0, none, 0, 0, rfl, zE6 ⟨rfl, rfl, rfl, rfl, rfl, rfl, rfl, trivial⟩, by omega, hc4, hc54, World.ownsRow_nil _ _ _ _, G⟩ ?_
     clear hc4 hc54
     clear G
     rintro m_ e_ w56 ⟨m, ad3, n3, c3, rfl, ⟨e57, rfl⟩, hm, hc4, hc54, own, G⟩
     refine zA6 ?_
     refine zA6 (zA1 rfl ?_)
     refine stp (zA2 rfl ?_)
     refine stp (zA2 rfl ?_)
     refine stp (zL5 rfl rfl ?_ ?_); constructor <;> omega
     refine stp (zA2 rfl ?_)
     refine stp (zJ5 rfl rfl ?_ ?_ ?_); omega; omega
     refine stp (zF8 rfl ?_ ?_); constructor <;> omega
     refine stp (zD8 rfl rfl ?_ ?_); constructor <;> omega
     refine stp (zF9 rfl rfl ?_)
     refine zA4 ?_
     refine zB8 (b := (decide ((m : Int) < ((3 * ((k / 8) % 5)) + (k % 2))))) rfl (fun hlt => ?_) (fun hlt => ?_)
     ·-- true
      replace hlt := of_decide_eq_true hlt
      refine zC3 ?_
      refine zA6 ?_
      refine zC6 ?_
      refine zA1 rfl ?_
      refine stp (zA5 rfl ?_)
      refine stp (zB5 (v := .slice ad3 n3 c3) rfl hc54 rfl ?_)
      refine stp (zA2 rfl ?_)
      refine stp (zA2 rfl ?_)
      refine stp (zF8 rfl ?_ ?_); constructor <;> omega
      refine stp (zI1 rfl rfl ?_)
      refine stp (zE5 (cs := #[.int .u8 (bTree k m)]) (el := 5) (fun w => by kernel_rfl) ?_)
      intro bs58 w59 hb60 hc61 g62
      have hge63 := Nat.le_trans G.size hb60
      have ne64 := Nat.ne_of_lt (Nat.lt_of_lt_of_le (zA9 hc4) hb60)
      have ne65 := Nat.ne_of_lt (Nat.lt_of_lt_of_le (zA9 hc54) hb60)
      replace hc4 := g62.heap hc4
      replace hc54 := g62.heap hc54
      replace own := zC8 own g62
      replace G := G.tr g62
      clear g62
      refine stp (zG4 rfl rfl rfl rfl own (Row.of_block (n := 1) hc61 rfl rfl (by omega)) (fun q_ hq_ => by simp at hq_; subst hq_; rfl) (by simp only [maxLen]; omega) (by omega) G.size ?_)
      intro v66 w67 own6 gr6
      replace G := G.grown gr6 (zI2 own)
      replace hc4 := zI3 gr6 hc4 (zE7 own hc4 (by decide))
      replace hc54 := zI3 gr6 hc54 (zE7 own hc54 (by decide))
      clear own gr6
      obtain ⟨ad4, n4, c4, rfl⟩ := zF3 own6
      refine stp (zA5 rfl ?_)
      refine stn (zE0 (v := .slice ad4 n4 c4) rfl rfl (by rfl) hc54 (by rfl) (by rfl) ?_)
      intro w68 hc69 u70
      replace hc4 := u70.heap hc4 ne22
      replace own6 := zF0 own6 u70 (zE7 own6 hc54 (by decide))
      replace G := G.upd u70 hge21
      clear u70 hc54
      refine zA4 ?_
      refine zA1 rfl ?_
      refine stp (zA2 rfl ?_)
      refine stp (zD8 rfl rfl ?_ ?_); constructor <;> omega
      refine stp (zA0 rfl ?_)
      refine zA4 ?_
      refine ⟨_, ?_, m + 1, ad4, n4, c4, rfl, zE6 ⟨rfl, rfl, rfl, rfl, rfl, rfl, congrArg (Value.int .i64) (by omega), trivial⟩, by omega, hc4, hc69, (by rw [List.range_succ, List.map_append]; exact own6), G⟩
      omega
     ·-- false
      replace hlt := of_decide_eq_false hlt
      have hm2 : m = (3 * (k / 8 % 5) + k % 2).toNat := by omega
      have ht : treeP (d + 1) (k :: c) = (.mk 2 2 [] ((List.range (3 * (k / 8 % 5) + k % 2).toNat).map (bTree k)) [], c) := by simp only [treeP]; rw [if_neg h2, if_pos (by omega)]
      refine zF6 ?_
      refine zA6 (zA1 rfl ?_)
      refine stp (zB4 rfl hc54 (by rfl) ?_)
      refine stp (zA7 rfl ?_)
      refine stn (zB1 rfl rfl hc4 (by rfl) (by rfl) (by rfl) ?_)
      intro w71 hc72 u73
      replace hc54 := u73.heap hc54 ne22.symm
      replace own := zF0 own u73 (zE7 own hc4 (by decide))
      replace G := G.upd u73 hge8
      clear u73 hc4
      refine stp (zB0 rfl ?_)
      refine zA4 ?_
      refine zC4 ?_
      rw [ht]
      refine ret2 (zC9 rfl hc72 (by rfl)) (zB3 (v := .slice ad1 (n - 1) (cp - 1)) rfl) ⟨[_, _, _, _, _], _, _, _, rfl, .mk (by simp [inR]) (by simp [inR]) (Row.nil _ _) (by simp) (zM8 own hm2 (by omega)) (fun x hx_ => by obtain ⟨i, _, rfl⟩ := List.mem_map.1 hx_; exact qH8 _) (Row.nil _ _) .nil, hnc, (by omega), (by omega), R2, G⟩
    ·-- false
     replace h4 := of_decide_eq_false h4
     refine zA6 (zA1 rfl ?_)
     refine stp (zE9 rfl rfl ?_)
     refine stp (zC1 rfl ?_)
     refine zA4 ?_
     refine zB8 (b := (decide ((k % 8) = 3))) rfl (fun h5 => ?_) (fun h5 => ?_)
     ·-- true
      replace h5 := of_decide_eq_true h5
      refine zA6 (zA1 rfl ?_)
      refine stp (zA5 rfl ?_)
      refine stn (zE0 (v := .int .i64 2) rfl rfl (by rfl) hc18 (by rfl) (by rfl) ?_)
      intro w74 hc75 u76
      replace hc4 := u76.heap hc4 ne22
      replace G := G.upd u76 hge21
      clear u76 hc18
      refine zA4 ?_
      refine zA6 (zA1 rfl ?_)
      refine stp (zA5 rfl ?_)
      refine stn (zE0 (v := .int .i64 5) rfl rfl (by rfl) hc75 (by rfl) (by rfl) ?_)
      intro w77 hc78 u79
      replace hc4 := u79.heap hc4 ne22
      replace G := G.upd u79 hge21
      clear u79 hc75
      refine zA4 ?_
      refine zA6 (zA1 rfl ?_)
      refine stp (zA0 rfl ?_)
      refine zA4 ?_
      refine zC6 ?_
      refine zG6 (fun m_ e_ w_ => ∃ (m : Nat) (ad3 : Option Addr) (n3 : Nat) (c3 : Nat), m_ = ((k / 8 % 5)).toNat - m ∧ Fr [(0, .slice ad1 (n - 1) (cp - 1)), (4, .pointer (some ⟨b1, 0, none⟩)), (5, .slice none 0 0), (6, .int .u8 k), (7, .pointer (some ⟨b12, 0, none⟩)), (8, .int .i64 ((k / 8) % 5)), (10, .int .i64 (m : Int))] e_ ∧ ((m : Int) ≤ (k / 8 % 5)) ∧ (w_.heap[b1]? = some (.cells #[.int .i64 0, .int .i64 0, .slice none 0 0, .slice none 0 0, .slice none 0 0] 71 (0, 0))) ∧ (w_.heap[b12]? = some (.cells #[.int .i64 2, .int .i64 5, .slice ad3 n3 c3, .slice none 0 0, .slice none 0 0] 71 (0, 0))) ∧ (w_.ownsRow w.heap.size 33 1 (.slice ad3 n3 c3) m ((List.range m).map fun i => .int .u64 (w3Tree k i))) ∧ Grow w w_) _ ⟨0, none, 0, 0, rfl, zE6 ⟨rfl, rfl, rfl, rfl, rfl, rfl, rfl, trivial⟩, by omega, hc4, hc78, World.ownsRow_nil _ _ _ _, G⟩ ?_
      clear hc4 hc78
      clear G
      rintro m_ e_ w80 ⟨m, ad3, n3, c3, rfl, ⟨e81, rfl⟩, hm, hc4, hc78, own, G⟩
      refine zA6 ?_
      refine zA6 (zA1 rfl ?_)
      refine stp (zA2 rfl ?_)
      refine stp (zA2 rfl ?_)
      refine stp (zF9 rfl rfl ?_)
      refine zA4 ?_
      refine zB8 (b := (decide ((m : Int) < ((k / 8) % 5)))) rfl (fun hlt => ?_) (fun hlt => ?_)
      ·-- true
       replace hlt := of_decide_eq_true hlt
       refine zC3 ?_
       refine zA6 ?_
       refine zC6 ?_
       refine zA1 rfl ?_
       refine stp (zA5 rfl ?_)
       refine stp (zB5 (v := .slice ad3 n3 c3) rfl hc78 rfl ?_)
       refine stp (zA2 rfl ?_)
       refine stp (zF8 rfl ?_ ?_); constructor <;> omega
       refine stp (zR7 rfl rfl ?_)
       refine stp (zA2 rfl ?_)
       refine stp (zF8 rfl ?_ ?_); constructor <;> omega
       refine stp (zI1 rfl rfl ?_)
       refine stp (zE5 (cs := #[.int .u64 (w3Tree k m)]) (el := 33) (fun w => by kernel_rfl) ?_)
       intro bs82 w83 hb84 hc85 g86
       have hge87 := Nat.le_trans G.size hb84
       have ne88 := Nat.ne_of_lt (Nat.lt_of_lt_of_le (zA9 hc4) hb84)
       have ne89 := Nat.ne_of_lt (Nat.lt_of_lt_of_le (zA9 hc78) hb84)
       replace hc4 := g86.heap hc4
       replace hc78 := g86.heap hc78
       replace own := zC8 own g86
       replace G := G.tr g86
       clear g86
       refine stp (zG4 rfl rfl rfl rfl own (Row.of_block (n := 1) hc85 rfl rfl (by omega)) (fun q_ hq_ => by simp at hq_; subst hq_; rfl) (by simp only [maxLen]; omega) (by omega) G.size ?_)
       intro v90 w91 own6 gr6
       replace G := G.grown gr6 (zI2 own)
       replace hc4 := zI3 gr6 hc4 (zE7 own hc4 (by decide))
       replace hc78 := zI3 gr6 hc78 (zE7 own hc78 (by decide))
       clear own gr6
       obtain ⟨ad4, n4, c4, rfl⟩ := zF3 own6
       refine stp (zA5 rfl ?_)
       refine stn (zE0 (v := .slice ad4 n4 c4) rfl rfl (by rfl) hc78 (by rfl) (by rfl) ?_)
       intro w92 hc93 u94
       replace hc4 := u94.heap hc4 ne22
       replace own6 := zF0 own6 u94 (zE7 own6 hc78 (by decide))
       replace G := G.upd u94 hge21
       clear u94 hc78
       refine zA4 ?_
       refine zA1 rfl ?_
       refine stp (zA2 rfl ?_)
       refine stp (zD8 rfl rfl ?_ ?_); constructor <;> omega
       refine stp (zA0 rfl ?_)
       refine zA4 ?_
       refine ⟨_, ?_, m + 1, ad4, n4, c4, rfl, zE6 ⟨rfl, rfl, rfl, rfl, rfl, rfl, congrArg (Value.int .i64) (by omega), trivial⟩, by omega, hc4, hc93, (by rw [List.range_succ, List.map_append]; exact own6), G⟩
       omega
      ·-- false
       replace hlt := of_decide_eq_false hlt
       have hm2 : m = (k / 8 % 5).toNat := by omega
       have ht : treeP (d + 1) (k :: c) = (.mk 2 5 ((List.range (k / 8 % 5).toNat).map (w3Tree k)) [] [], c) := by simp only [treeP]; rw [if_neg h2, if_neg (by omega), if_pos h5]
       refine zF6 ?_
       refine zA6 (zA1 rfl ?_)
       refine stp (zB4 rfl hc78 (by rfl) ?_)
       refine stp (zA7 rfl ?_)
       refine stn (zB1 rfl rfl hc4 (by rfl) (by rfl) (by rfl) ?_)
       intro w95 hc96 u97
       replace hc78 := u97.heap hc78 ne22.symm
       replace own := zF0 own u97 (zE7 own hc4 (by decide))
       replace G := G.upd u97 hge8
       clear u97 hc4
       refine stp (zB0 rfl ?_)
       refine zA4 ?_
       refine zC4 ?_
       rw [ht]
       refine ret2 (zC9 rfl hc96 (by rfl)) (zB3 (v := .slice ad1 (n - 1) (cp - 1)) rfl) ⟨[_, _, _, _, _], _, _, _, rfl, .mk (by simp [inR]) (by simp [inR]) (zM8 own hm2 (by omega)) (fun x hx_ => by obtain ⟨i, _, rfl⟩ := List.mem_map.1 hx_; exact zW5 _) (Row.nil _ _) (by simp) (Row.nil _ _) .nil, hnc, (by omega), (by omega), R2, G⟩
     ·-- false
      replace h5 := of_decide_eq_false h5
      refine zA6 (zA1 rfl ?_)
      refine stp (zA5 rfl ?_)
      refine stn (zE0 (v := .int .i64 1) rfl rfl (by rfl) hc18 (by rfl) (by rfl) ?_)
      intro w98 hc99 u100
      replace hc4 := u100.heap hc4 ne22
      replace G := G.upd u100 hge21
      clear u100 hc18
      refine zA4 ?_
      refine zA6 ?_
      refine zA6 (zA1 rfl ?_)
      refine stp (zA2 rfl ?_)
      refine stp (zJ5 rfl rfl ?_ ?_ ?_); omega; omega
      refine stp (zM7 rfl rfl ?_)
      refine zA4 ?_
      refine zB8 (b := (decide ((k % 8) > 6))) rfl (fun h6 => ?_) (fun h6 => ?_)
      ·-- true
       replace h6 := of_decide_eq_true h6
       refine zA6 (zA1 rfl ?_)
       refine stp (zA5 rfl ?_)
       refine stn (zE0 (v := .int .i64 2) rfl rfl (by rfl) hc99 (by rfl) (by rfl) ?_)
       intro w101 hc102 u103
       replace hc4 := u103.heap hc4 ne22
       replace G := G.upd u103 hge21
       clear u103 hc99
       refine zA4 ?_
       refine zA1 rfl ?_
       refine stp (zA5 rfl ?_)
       refine stn (zE0 (v := .int .i64 6) rfl rfl (by rfl) hc102 (by rfl) (by rfl) ?_)
       intro w104 hc105 u106
       replace hc4 := u106.heap hc4 ne22
       replace G := G.upd u106 hge21
       clear u106 hc102
       refine zA4 ?_
       refine zA6 ?_
       refine zA6 (zA1 rfl ?_)
       refine stp (zA0 rfl ?_)
       refine zA4 ?_
       refine zC6 ?_
       refine zG6 (fun m_ e_ w_ => m_ = 0 ∧ Fr [(0, .slice ad1 (n - 1) (cp - 1)), (1, .int .i64 ((d + 1 : Nat) : Int)), (4, .pointer (some ⟨b1, 0, none⟩)), (5, .slice none 0 0), (6, .int .u8 k), (7, .pointer (some ⟨b12, 0, none⟩)), (8, .int .i64 ((k / 8) % 5)), (11, .int .i64 0)] e_ ∧ (w_.heap[b1]? = some (.cells #[.int .i64 0, .int .i64 0, .slice none 0 0, .slice none 0 0, .slice none 0 0] 71 (0, 0))) ∧ (w_.heap[b12]? = some (.cells #[.int .i64 2, .int .i64 6, .slice none 0 0, .slice none 0 0, .slice none 0 0] 71 (0, 0))) ∧ Grow w w_) _ ⟨rfl, zE6 ⟨rfl, rfl, rfl, rfl, rfl, rfl, rfl, rfl, trivial⟩, hc4, hc105, G⟩ ?_
       clear hc4 hc105
       clear G
       rintro m_ e_ w107 ⟨rfl, ⟨e108, rfl⟩, hc4, hc105, G⟩
       refine zA6 ?_
       refine zA6 (zA1 rfl ?_)
       refine stp (zA2 rfl ?_)
       refine stp (zA2 rfl ?_)
       refine stp (zK3 rfl rfl ?_ ?_ ?_ ?_); omega; omega; (constructor <;> omega)
       refine stp (zF8 rfl ?_ ?_); constructor <;> omega
       refine stp (zF9 rfl rfl ?_)
       refine stp (zB9 rfl ?_)
       refine zA3 (zC2 (s := .bool (decide (0 < (k / 64)))) (b := true) (v := .pointer (some ⟨b12, 0, none⟩)) rfl (zF2 _) (fun hc109 => ?_) ?_)
       ·
        have hc109_ := of_decide_eq_true hc109
        refine zA5 rfl ?_
        exact ⟨rfl, rfl⟩
       refine zA3 (zC2 (s := .bool (decide (0 < (k / 64)))) (b := true) (v := .int .i64 2) rfl (zF2 _) (fun hc110 => ?_) ?_)
       ·
        have hc110_ := of_decide_eq_true hc110
        refine zB5 (v := .int .i64 2) (gvt hc110) hc105 rfl ?_
        exact ⟨rfl, rfl⟩
       refine zA3 (zC2 (s := .bool (decide (0 < (k / 64)))) (b := true) (v := .bool false) rfl (zF2 _) (fun hc111 => ?_) ?_)
       ·
        have hc111_ := of_decide_eq_true hc111
        refine zH5 (gvt hc111) rfl (by decide) ?_
        exact ⟨rfl, rfl⟩
       refine stp (zJ2 rfl rfl rfl ?_)
       refine zA4 ?_
       refine zI8 (show _ = Value.bool false from congrArg Value.bool (by simp)) ?_
       refine zF6 ?_
       refine zA6 (zA1 rfl ?_)
       refine stp (zA0 rfl ?_)
       refine zA4 ?_
       refine zC6 ?_
       obtain ⟨B, hB⟩ : ∃ B, B = w107.heap.size := ⟨_, rfl⟩
       have hB7 : b12 < B := by rw [hB]; exact zA9 hc105
       have hwB : w.heap.size ≤ B := by rw [hB]; exact G.size
       have hBw : B ≤ w107.heap.size := by rw [hB]; exact Nat.le_refl _
       have hB4 : b1 < B := by rw [hB]; exact zA9 hc4
       clear hB
       have hc1 : (treesP (treeP d) 0 c).2 = c := rfl
       refine zG6 (fun m_ e_ w_ => ∃ (j : Nat) (ad5 : Option Addr) (n5 : Nat) (c5 : Nat) (ad6 : Option Addr) (n6 : Nat) (c6 : Nat) (kc : List Value) (V : Nat → Prop), m_ = (k / 8 % 5).toNat - j ∧ Fr [(1, .int .i64 ((d + 1 : Nat) : Int)), (4, .pointer (some ⟨b1, 0, none⟩)), (5, .slice none 0 0), (7, .pointer (some ⟨b12, 0, none⟩)), (8, .int .i64 ((k / 8) % 5)), (12, .int .i64 (j : Int)), (0, .slice ad5 n5 c5)] e_ ∧ ((j : Int) ≤ (k / 8 % 5)) ∧ (n5 = (treesP (treeP d) j c).2.length) ∧ (n5 ≤ c5) ∧ (c5 ≤ maxLen) ∧ (RowAt w0 1 ad5 n5 ((treesP (treeP d) j c).2.map (.int .u8))) ∧ (∀ x, (Value.slice ad6 n6 c6).ownBlock = some x → ¬ V x) ∧ (w_.heap[b1]? = some (.cells #[.int .i64 0, .int .i64 0, .slice none 0 0, .slice none 0 0, .slice none 0 0] 71 (0, 0))) ∧ (w_.heap[b12]? = some (.cells #[.int .i64 2, .int .i64 6, .slice none 0 0, .slice none 0 0, .slice ad6 n6 c6] 71 (0, 0))) ∧ (B ≤ w_.heap.size) ∧ (w_.ownsRow B 71 5 (.slice ad6 n6 c6) j kc) ∧ (∀ x, V x → B ≤ x ∧ x < w_.heap.size) ∧ (KidsR (see V w_) kc (treesP (treeP d) j c).1) ∧ Grow w w_) _ ⟨0, ad1, n - 1, cp - 1, none, 0, 0, [], fun _ => False, rfl, zE6 ⟨rfl, rfl, rfl, rfl, rfl, rfl, rfl, trivial⟩, by omega, hnc, by omega, by omega, R2, fun x _ h_ => h_, hc4, hc105, hBw, World.ownsRow_nil _ _ _ _, fun x h_ => h_.elim, .nil, G⟩ ?_
       clear hc4 hc105
       clear G
       rintro m_ e_ w112 ⟨j, ad5, n5, c5, ad6, n6, c6, kc, V, rfl, ⟨e113, rfl⟩, hj, hn5, hc5, hc52, hR5, hVo, hc4, hc105, hBw, ownk, hV, hK, G⟩
       refine zA6 ?_
       refine zA6 (zA1 rfl ?_)
       refine stp (zA2 rfl ?_)
       refine stp (zA2 rfl ?_)
       refine stp (zF9 rfl rfl ?_)
       refine zA4 ?_
       refine zB8 (b := (decide ((j : Int) < ((k / 8) % 5)))) rfl (fun hlt => ?_) (fun hlt => ?_)
       ·-- true
        replace hlt := of_decide_eq_true hlt
        refine zC3 ?_
        refine zA6 ?_
        refine zC6 ?_
        refine zA6 (zA1 rfl ?_)
        refine stp (zA7 rfl ?_)
        refine stp (zA2 rfl ?_)
        refine stp (zM0 rfl rfl ?_ ?_); constructor <;> omega
        refine zA3 (og rfl ?_)
        have hBw0 := hBw
        have hol := fun x hx_ => (ownk.lt x hx_).2
        have hcal := ih_ _ (d := d) hR5 (g0.tr G) hn5 (zU4 d j c hxc) hc5 hc52 (by omega) (by omega)
        rw [show ((d : Nat) : Int) = ((d + 1 : Nat) : Int) - 1 from by omega] at hcal
        refine zF1 rfl hcal ?_
        rintro v_ w114 ⟨cells, ad9, n9, c9, rfl, hT9, hn9, hc9, hc92, hR9, g_⟩
        have hsz9 := zA9 hc105
        replace hc4 := g_.heap hc4
        replace hc105 := g_.heap hc105
        replace hBw := Nat.le_trans hBw g_.size
        replace ownk := zC8 ownk g_
        replace hV := vlt hV g_.size
        replace hK := hK.sees (Sees.grow g_)
        replace G := G.tr g_
        clear g_
        obtain ⟨y0, y1, ya, yn, yc, za, zn, zc, ua, un, uc, rfl⟩ := hT9.cells
        have hT8 := hT9.sees (Sees.more (V' := fun x => V x ∨ (w112.heap.size ≤ x ∧ x < w114.heap.size)) w114 (fun x h1_ h2_ => .inr ⟨h2_, h1_⟩))
        clear hT9
        replace hK := hK.sees (Sees.more (V' := fun x => V x ∨ (w112.heap.size ≤ x ∧ x < w114.heap.size)) w114 (fun x _ h2_ => .inl h2_))
        have hV9 : ∀ x, (V x ∨ (w112.heap.size ≤ x ∧ x < w114.heap.size)) → B ≤ x ∧ x < w114.heap.size := fun x hx_ => hx_.elim (fun h_ => hV x h_) (fun h_ => ⟨Nat.le_trans hBw0 h_.1, h_.2⟩)
        have hVo9 : ∀ x, (Value.slice ad6 n6 c6).ownBlock = some x → ¬ (V x ∨ (w112.heap.size ≤ x ∧ x < w114.heap.size)) := fun x hx_ hv_ => hv_.elim (hVo x hx_) (fun h_ => by have := (hol x hx_); omega)
        clear hV hVo
        obtain ⟨V9, hV9e⟩ : ∃ V9 : Nat → Prop, V9 = fun x => V x ∨ (w112.heap.size ≤ x ∧ x < w114.heap.size) := ⟨_, rfl⟩
        rw [← hV9e] at hT8 hK
        have hV : ∀ x, V9 x → B ≤ x ∧ x < w114.heap.size := by rw [hV9e]; exact hV9
        have hVo : ∀ x, (Value.slice ad6 n6 c6).ownBlock = some x → ¬ V9 x := by rw [hV9e]; exact hVo9
        clear hV9 hVo9 hV9e hBw0 hol
        refine stp (zB6 (v := .tuple #[.agg #[.int .i64 y0, .int .i64 y1, .slice ya yn yc, .slice za zn zc, .slice ua un uc], .slice ad9 n9 c9]) rfl ?_)
        refine stp (zB2 (v := .agg #[.int .i64 y0, .int .i64 y1, .slice ya yn yc, .slice za zn zc, .slice ua un uc]) rfl rfl ?_)
        refine stp (zB2 (v := .slice ad9 n9 c9) rfl rfl ?_)
        refine stp (zD3 ?_)
        intro b115 w116 hb117 hc118 g119
        refine stn (zB1 rfl rfl hc118 (by rfl) (by rfl) (by rfl) ?_)
        intro w120 hc121 u122
        have g123 := g119.upd u122 hb117
        have hge124 := Nat.le_trans G.size hb117
        have ne125 := Nat.ne_of_lt (Nat.lt_of_lt_of_le (zA9 hc4) hb117)
        have ne126 := Nat.ne_of_lt (Nat.lt_of_lt_of_le (zA9 hc105) hb117)
        replace hc4 := g123.heap hc4
        replace hc105 := g123.heap hc105
        replace hBw := Nat.le_trans hBw g123.size
        replace ownk := zC8 ownk g123
        replace hK := hK.sees (Sees.grow g123)
        replace hT8 := hT8.sees (Sees.grow g123)
        replace hV := vlt hV g123.size
        replace G := G.tr g123
        clear u122 g119 hb117 hc118
        refine stp (zB0 rfl ?_)
        refine zA4 ?_
        refine zA6 (zA1 rfl ?_)
        refine stp (zA7 rfl ?_)
        refine stp (zB0 rfl ?_)
        refine zA4 ?_
        refine zA1 rfl ?_
        refine stp (zA5 rfl ?_)
        refine stp (zB5 (v := .slice ad6 n6 c6) rfl hc105 rfl ?_)
        refine stp (zB4 rfl hc121 (by rfl) ?_)
        refine stp (zE5 (cs := #[.int .i64 y0, .int .i64 y1, .slice ya yn yc, .slice za zn zc, .slice ua un uc]) (el := 71) (fun w => by kernel_rfl) ?_)
        intro bs127 w128 hb129 hc130 g131
        have hge132 := Nat.le_trans G.size hb129
        have ne133 := Nat.ne_of_lt (Nat.lt_of_lt_of_le (zA9 hc4) hb129)
        have ne134 := Nat.ne_of_lt (Nat.lt_of_lt_of_le (zA9 hc105) hb129)
        have ne135 := Nat.ne_of_lt (Nat.lt_of_lt_of_le (zA9 hc121) hb129)
        replace hc4 := g131.heap hc4
        replace hc105 := g131.heap hc105
        replace hBw := Nat.le_trans hBw g131.size
        replace ownk := zC8 ownk g131
        replace hK := hK.sees (Sees.grow g131)
        replace hT8 := hT8.sees (Sees.grow g131)
        replace hV := vlt hV g131.size
        replace hc121 := g131.heap hc121
        replace G := G.tr g131
        clear g131
        refine stp (qK6 rfl rfl rfl rfl ownk (Row.of_block (n := 1) hc130 rfl rfl (by omega)) (fun q_ hq_ => by simp at hq_; rcases hq_ with rfl | rfl | rfl | rfl | rfl <;> rfl) (by simp only [maxLen]; omega) (by omega) hBw ?_)
        intro v136 w137 own6 gr6 hbk6
        have k6_ : Kp (Value.slice ad6 n6 c6).ownBlock.toList w128 w137 := Kp.of_grownBy gr6 (fun k_ hk_ => by rw [Option.mem_toList]; exact hk_)
        have hF6 : ∀ x ∈ (Value.slice ad6 n6 c6).ownBlock.toList, B ≤ x := fun x hx_ => zI2 ownk x (Option.mem_toList.1 hx_)
        have hF7 : ∀ x ∈ (Value.slice ad6 n6 c6).ownBlock.toList, ¬ V9 x := fun x hx_ => hVo x (Option.mem_toList.1 hx_)
        replace hT8 := hT8.sees (Sees.kp k6_ hF7)
        replace hK := hK.sees (Sees.kp k6_ hF7)
        have hVo6 : ∀ x, v136.ownBlock = some x → ¬ V9 x := fun x hx_ hv_ => hbk6.elim (fun h_ => hVo x (h_ ▸ hx_) hv_) (fun h_ => by rw [h_] at hx_; simp only [Option.some.injEq] at hx_; have := (hV x hv_).2; omega)
        replace hV := fun x hx_ => (⟨(hV x hx_).1, Nat.lt_of_lt_of_le (hV x hx_).2 k6_.size⟩ : B ≤ x ∧ x < w137.heap.size)
        replace G := G.trK k6_ (fun x hx_ => Nat.le_trans hwB (hF6 x hx_))
        clear hc121
        replace hc4 := k6_.heap hc4 (fun hm_ => by have h1_ := hF6 _ hm_; have := hB4; omega)
        replace hc105 := k6_.heap hc105 (fun hm_ => by have h1_ := hF6 _ hm_; omega)
        replace hBw := Nat.le_trans hBw k6_.size
        clear ownk gr6 hVo k6_ hF6 hF7 hbk6
        obtain ⟨ad7, n7, c7, rfl⟩ := zF3 own6
        refine stp (zA5 rfl ?_)
        refine stn (zE0 (v := .slice ad7 n7 c7) rfl rfl (by rfl) hc105 (by rfl) (by rfl) ?_)
        intro w138 hc139 u140
        replace hc4 := u140.heap hc4 ne22
        replace own6 := zF0 own6 u140 (fun he_ => by have := zI2 own6 _ he_; omega)
        replace hT8 := hT8.sees (Sees.upd u140 (fun h_ => by have := (hV _ h_).1; omega))
        replace hK := hK.sees (Sees.upd u140 (fun h_ => by have := (hV _ h_).1; omega))
        replace hV := fun x hx_ => (⟨(hV x hx_).1, Nat.lt_of_lt_of_le (hV x hx_).2 (Nat.le_of_eq u140.size.symm)⟩ : B ≤ x ∧ x < w138.heap.size)
        replace hBw : B ≤ w138.heap.size := by rw [u140.size]; exact hBw
        replace G := G.upd u140 hge21
        clear hc105
        refine zA4 ?_
        refine zA1 rfl ?_
        refine stp (zA2 rfl ?_)
        refine stp (zD8 rfl rfl ?_ ?_); constructor <;> omega
        refine stp (zA0 rfl ?_)
        refine zA4 ?_
        refine ⟨_, ?_, j + 1, ad9, n9, c9, ad7, n7, c7, _, V9, rfl, zE6 ⟨rfl, rfl, rfl, rfl, rfl, congrArg (Value.int .i64) (by omega), rfl, trivial⟩, by omega, hn9, hc9, hc92, hR9, hVo6, hc4, hc139, hBw, own6, hV, (KidsR.append hK (by have := KidsR.cons hT8 .nil; simpa using this)), G⟩
        omega
       ·-- false
        replace hlt := of_decide_eq_false hlt
        have hj2 : j = (k / 8 % 5).toNat := by omega
        have hlk := zM1 (treeP d) j c
        have hrk : Row (hide B w112) 5 (.slice ad6 n6 c6) (treesP (treeP d) j c).1.length kc := by rw [hlk]; exact qH7 ownk (by omega)
        have hK9 := hK.sees (Sees.more (V' := fun x => B ≤ x) _ (fun x _ hx_ => (hV x hx_).1))
        clear hK hV
        have ht : treeP (d + 1) (k :: c) = (.mk 2 6 [] [] (treesP (treeP d) j c).1, (treesP (treeP d) j c).2) := by simp only [treeP]; rw [if_neg h2, if_neg (by omega), if_neg h5, if_pos h6, ← hj2]
        refine zF6 ?_
        refine zA6 (zA1 rfl ?_)
        refine stp (zB4 rfl hc105 (by rfl) ?_)
        refine stp (zA7 rfl ?_)
        refine stn (zB1 rfl rfl hc4 (by rfl) (by rfl) (by rfl) ?_)
        intro w141 hc142 u143
        replace hc105 := u143.heap hc105 ne22.symm
        replace hrk := hrk.sees (Sees.upd u143 (fun h_ => by omega))
        replace hK9 := hK9.sees (Sees.upd u143 (fun h_ => by omega))
        replace G := G.upd u143 hge8
        clear u143 hc4
        refine stp (zB0 rfl ?_)
        refine zA4 ?_
        refine zC4 ?_
        rw [ht]
        refine ret2 (zC9 rfl hc142 (by rfl)) (zB3 (v := .slice ad5 n5 c5) rfl) ⟨[_, _, _, _, _], _, _, _, rfl, .mk (by simp [inR]) (by simp [inR]) (Row.nil _ _) (by simp) (Row.nil _ _) (by simp) (hrk.sees (Sees.low hwB _)) (hK9.sees (Sees.low hwB _)), hn5, hc5, hc52, hR5, G⟩
      ·-- false
       replace h6 := of_decide_eq_false h6
       have hkd6 : ¬ k % 8 > 6 := h6
       refine zC3 ?_
       refine zA6 ?_
       refine zA6 (zA1 rfl ?_)
       refine stp (zA0 rfl ?_)
       refine zA4 ?_
       refine zC6 ?_
       refine zG6 (fun m_ e_ w_ => ∃ (m : Nat) (ad3 : Option Addr) (n3 : Nat) (c3 : Nat), m_ = ((k / 64)).toNat - m ∧ Fr [(0, .slice ad1 (n - 1) (cp - 1)), (1, .int .i64 ((d + 1 : Nat) : Int)), (4, .pointer (some ⟨b1, 0, none⟩)), (5, .slice none 0 0), (6, .int .u8 k), (7, .pointer (some ⟨b12, 0, none⟩)), (8, .int .i64 ((k / 8) % 5)), (11, .int .i64 (m : Int))] e_ ∧ ((m : Int) ≤ (k / 64)) ∧ (w_.heap[b1]? = some (.cells #[.int .i64 0, .int .i64 0, .slice none 0 0, .slice none 0 0, .slice none 0 0] 71 (0, 0))) ∧ (w_.heap[b12]? = some (.cells #[.int .i64 1, .int .i64 0, .slice ad3 n3 c3, .slice none 0 0, .slice none 0 0] 71 (0, 0))) ∧ (w_.ownsRow w.heap.size 33 1 (.slice ad3 n3 c3) m ((List.range m).map fun i => .int .u64 (w4Tree k i))) ∧ Grow w w_) _ ⟨0, none, 0, 0, rfl, zE6 ⟨rfl, rfl, rfl, rfl, rfl, rfl, rfl, rfl, trivial⟩, by omega, hc4, hc99, World.ownsRow_nil _ _ _ _, G⟩ ?_
       clear hc4 hc99
       clear G
       rintro m_ e_ w144 ⟨m, ad3, n3, c3, rfl, ⟨e145, rfl⟩, hm, hc4, hc99, own, G⟩
       refine zA6 ?_
       refine zA6 (zA1 rfl ?_)
       refine stp (zA2 rfl ?_)
       refine stp (zA2 rfl ?_)
       refine stp (zK3 rfl rfl ?_ ?_ ?_ ?_); omega; omega; (constructor <;> omega)
       refine stp (zF8 rfl ?_ ?_); constructor <;> omega
       refine stp (zF9 rfl rfl ?_)
       refine stp (zB9 rfl ?_)
       refine zA3 (zC2 (s := .bool (decide ((m : Int) < (k / 64)))) (b := true) (v := .pointer (some ⟨b12, 0, none⟩)) rfl (zF2 _) (fun hc146 => ?_) ?_)
       ·
        have hc146_ := of_decide_eq_true hc146
        refine zA5 rfl ?_
        exact ⟨rfl, rfl⟩
       refine zA3 (zC2 (s := .bool (decide ((m : Int) < (k / 64)))) (b := true) (v := .int .i64 1) rfl (zF2 _) (fun hc147 => ?_) ?_)
       ·
        have hc147_ := of_decide_eq_true hc147
        refine zB5 (v := .int .i64 1) (gvt hc147) hc99 rfl ?_
        exact ⟨rfl, rfl⟩
       refine zA3 (zC2 (s := .bool (decide ((m : Int) < (k / 64)))) (b := true) (v := .bool true) rfl (zF2 _) (fun hc148 => ?_) ?_)
       ·
        have hc148_ := of_decide_eq_true hc148
        refine zG3 (gvt hc148) rfl (by decide) ?_
        exact ⟨rfl, rfl⟩
       refine stp (zJ2 rfl rfl rfl ?_)
       refine zA4 ?_
       refine zB8 (b := ((decide ((m : Int) < (k / 64))) && true)) rfl (fun hlt => ?_) (fun hlt => ?_)
       ·-- true
        simp only [sb] at hlt
        refine zC3 ?_
        refine zA6 ?_
        refine zC6 ?_
        refine zA1 rfl ?_
        refine stp (zA5 rfl ?_)
        refine stp (zB5 (v := .slice ad3 n3 c3) rfl hc99 rfl ?_)
        refine stp (zA2 rfl ?_)
        refine stp (zF8 rfl ?_ ?_); constructor <;> omega
        refine stp (zA2 rfl ?_)
        refine stp (zL5 rfl rfl ?_ ?_); constructor <;> omega
        refine stp (zF8 rfl ?_ ?_); constructor <;> omega
        refine stp (qP6 rfl rfl ?_ ?_); omega
        refine stp (zA2 rfl ?_)
        refine stp (zF8 rfl ?_ ?_); constructor <;> omega
        refine stp (zI1 rfl rfl ?_)
        refine stp (zE5 (cs := #[.int .u64 (w4Tree k m)]) (el := 33) (fun w => by kernel_rfl) ?_)
        intro bs149 w150 hb151 hc152 g153
        have hge154 := Nat.le_trans G.size hb151
        have ne155 := Nat.ne_of_lt (Nat.lt_of_lt_of_le (zA9 hc4) hb151)
        have ne156 := Nat.ne_of_lt (Nat.lt_of_lt_of_le (zA9 hc99) hb151)
        replace hc4 := g153.heap hc4
        replace hc99 := g153.heap hc99
        replace own := zC8 own g153
        replace G := G.tr g153
        clear g153
        refine stp (zG4 rfl rfl rfl rfl own (Row.of_block (n := 1) hc152 rfl rfl (by omega)) (fun q_ hq_ => by simp at hq_; subst hq_; rfl) (by simp only [maxLen]; omega) (by omega) G.size ?_)
        intro v157 w158 own6 gr6
        replace G := G.grown gr6 (zI2 own)
        replace hc4 := zI3 gr6 hc4 (zE7 own hc4 (by decide))
        replace hc99 := zI3 gr6 hc99 (zE7 own hc99 (by decide))
        clear own gr6
        obtain ⟨ad4, n4, c4, rfl⟩ := zF3 own6
        refine stp (zA5 rfl ?_)
        refine stn (zE0 (v := .slice ad4 n4 c4) rfl rfl (by rfl) hc99 (by rfl) (by rfl) ?_)
        intro w159 hc160 u161
        replace hc4 := u161.heap hc4 ne22
        replace own6 := zF0 own6 u161 (zE7 own6 hc99 (by decide))
        replace G := G.upd u161 hge21
        clear u161 hc99
        refine zA4 ?_
        refine zA1 rfl ?_
        refine stp (zA2 rfl ?_)
        refine stp (zD8 rfl rfl ?_ ?_); constructor <;> omega
        refine stp (zA0 rfl ?_)
        refine zA4 ?_
        refine ⟨_, ?_, m + 1, ad4, n4, c4, rfl, zE6 ⟨rfl, rfl, rfl, rfl, rfl, rfl, rfl, congrArg (Value.int .i64) (by omega), trivial⟩, by omega, hc4, hc160, (by rw [List.range_succ, List.map_append]; exact own6), G⟩
        omega
       ·-- false
        simp only [sb] at hlt
        have hm2 : m = (k / 64).toNat := by omega
        refine zF6 ?_
        refine zA6 (zA1 rfl ?_)
        refine stp (zA0 rfl ?_)
        refine zA4 ?_
        refine zC6 ?_
        obtain ⟨B, hB⟩ : ∃ B, B = w144.heap.size := ⟨_, rfl⟩
        have hB7 : b12 < B := by rw [hB]; exact zA9 hc99
        have hwB : w.heap.size ≤ B := by rw [hB]; exact G.size
        have hBw : B ≤ w144.heap.size := by rw [hB]; exact Nat.le_refl _
        have hB4 : b1 < B := by rw [hB]; exact zA9 hc4
        clear hB
        have hc1 : (treesP (treeP d) 0 c).2 = c := rfl
        refine zG6 (fun m_ e_ w_ => ∃ (j : Nat) (ad5 : Option Addr) (n5 : Nat) (c5 : Nat) (ad6 : Option Addr) (n6 : Nat) (c6 : Nat) (kc : List Value) (V : Nat → Prop), m_ = (k / 8 % 5).toNat - j ∧ Fr [(1, .int .i64 ((d + 1 : Nat) : Int)), (4, .pointer (some ⟨b1, 0, none⟩)), (5, .slice none 0 0), (7, .pointer (some ⟨b12, 0, none⟩)), (8, .int .i64 ((k / 8) % 5)), (12, .int .i64 (j : Int)), (0, .slice ad5 n5 c5)] e_ ∧ ((j : Int) ≤ (k / 8 % 5)) ∧ (n5 = (treesP (treeP d) j c).2.length) ∧ (n5 ≤ c5) ∧ (c5 ≤ maxLen) ∧ (RowAt w0 1 ad5 n5 ((treesP (treeP d) j c).2.map (.int .u8))) ∧ (∀ x, (Value.slice ad6 n6 c6).ownBlock = some x → ¬ V x) ∧ (w_.heap[b1]? = some (.cells #[.int .i64 0, .int .i64 0, .slice none 0 0, .slice none 0 0, .slice none 0 0] 71 (0, 0))) ∧ (w_.ownsRow w.heap.size 33 1 (.slice ad3 n3 c3) m ((List.range m).map fun i => .int .u64 (w4Tree k i))) ∧ (w_.heap[b12]? = some (.cells #[.int .i64 1, .int .i64 0, .slice ad3 n3 c3, .slice none 0 0, .slice ad6 n6 c6] 71 (0, 0))) ∧ (B ≤ w_.heap.size) ∧ (w_.ownsRow B 71 5 (.slice ad6 n6 c6) j kc) ∧ (∀ x, V x → B ≤ x ∧ x < w_.heap.size) ∧ (KidsR (see V w_) kc (treesP (treeP d) j c).1) ∧ Grow w w_) _ ⟨0, ad1, n - 1, cp - 1, none, 0, 0, [], fun _ => False, rfl, zE6 ⟨rfl, rfl, rfl, rfl, rfl, rfl, rfl, trivial⟩, by omega, hnc, by omega, by omega, R2, fun x _ h_ => h_, hc4, own, hc99, hBw, World.ownsRow_nil _ _ _ _, fun x h_ => h_.elim, .nil, G⟩ ?_
        clear hc4 hc99 own
        clear G
        rintro m_ e_ w162 ⟨j, ad5, n5, c5, ad6, n6, c6, kc, V, rfl, ⟨e163, rfl⟩, hj, hn5, hc5, hc52, hR5, hVo, hc4, own, hc99, hBw, ownk, hV, hK, G⟩
        refine zA6 ?_
        refine zA6 (zA1 rfl ?_)
        refine stp (zA2 rfl ?_)
        refine stp (zA2 rfl ?_)
        refine stp (zF9 rfl rfl ?_)
        refine zA4 ?_
        refine zB8 (b := (decide ((j : Int) < ((k / 8) % 5)))) rfl (fun hlt => ?_) (fun hlt => ?_)
        ·-- true
         replace hlt := of_decide_eq_true hlt
         refine zC3 ?_
         refine zA6 ?_
         refine zC6 ?_
         refine zA6 (zA1 rfl ?_)
         refine stp (zA7 rfl ?_)
         refine stp (zA2 rfl ?_)
         refine stp (zM0 rfl rfl ?_ ?_); constructor <;> omega
         refine zA3 (og rfl ?_)
         have hBw0 := hBw
         have hol := fun x hx_ => (ownk.lt x hx_).2
         have hcal := ih_ _ (d := d) hR5 (g0.tr G) hn5 (zU4 d j c hxc) hc5 hc52 (by omega) (by omega)
         rw [show ((d : Nat) : Int) = ((d + 1 : Nat) : Int) - 1 from by omega] at hcal
         refine zF1 rfl hcal ?_
         rintro v_ w164 ⟨cells, ad9, n9, c9, rfl, hT9, hn9, hc9, hc92, hR9, g_⟩
         have hsz9 := zA9 hc99
         replace hc4 := g_.heap hc4
         replace own := zC8 own g_
         replace hc99 := g_.heap hc99
         replace hBw := Nat.le_trans hBw g_.size
         replace ownk := zC8 ownk g_
         replace hV := vlt hV g_.size
         replace hK := hK.sees (Sees.grow g_)
         replace G := G.tr g_
         clear g_
         obtain ⟨y0, y1, ya, yn, yc, za, zn, zc, ua, un, uc, rfl⟩ := hT9.cells
         have hT8 := hT9.sees (Sees.more (V' := fun x => V x ∨ (w162.heap.size ≤ x ∧ x < w164.heap.size)) w164 (fun x h1_ h2_ => .inr ⟨h2_, h1_⟩))
         clear hT9
         replace hK := hK.sees (Sees.more (V' := fun x => V x ∨ (w162.heap.size ≤ x ∧ x < w164.heap.size)) w164 (fun x _ h2_ => .inl h2_))
         have hV9 : ∀ x, (V x ∨ (w162.heap.size ≤ x ∧ x < w164.heap.size)) → B ≤ x ∧ x < w164.heap.size := fun x hx_ => hx_.elim (fun h_ => hV x h_) (fun h_ => ⟨Nat.le_trans hBw0 h_.1, h_.2⟩)
         have hVo9 : ∀ x, (Value.slice ad6 n6 c6).ownBlock = some x → ¬ (V x ∨ (w162.heap.size ≤ x ∧ x < w164.heap.size)) := fun x hx_ hv_ => hv_.elim (hVo x hx_) (fun h_ => by have := (hol x hx_); omega)
         clear hV hVo
         obtain ⟨V9, hV9e⟩ : ∃ V9 : Nat → Prop, V9 = fun x => V x ∨ (w162.heap.size ≤ x ∧ x < w164.heap.size) := ⟨_, rfl⟩
         rw [← hV9e] at hT8 hK
         have hV : ∀ x, V9 x → B ≤ x ∧ x < w164.heap.size := by rw [hV9e]; exact hV9
         have hVo : ∀ x, (Value.slice ad6 n6 c6).ownBlock = some x → ¬ V9 x := by rw [hV9e]; exact hVo9
         clear hV9 hVo9 hV9e hBw0 hol
         refine stp (zB6 (v := .tuple #[.agg #[.int .i64 y0, .int .i64 y1, .slice ya yn yc, .slice za zn zc, .slice ua un uc], .slice ad9 n9 c9]) rfl ?_)
         refine stp (zB2 (v := .agg #[.int .i64 y0, .int .i64 y1, .slice ya yn yc, .slice za zn zc, .slice ua un uc]) rfl rfl ?_)
         refine stp (zB2 (v := .slice ad9 n9 c9) rfl rfl ?_)
         refine stp (zD3 ?_)
         intro b165 w166 hb167 hc168 g169
         refine stn (zB1 rfl rfl hc168 (by rfl) (by rfl) (by rfl) ?_)
         intro w170 hc171 u172
         have g173 := g169.upd u172 hb167
         have hge174 := Nat.le_trans G.size hb167
         have ne175 := Nat.ne_of_lt (Nat.lt_of_lt_of_le (zA9 hc4) hb167)
         have ne176 := Nat.ne_of_lt (Nat.lt_of_lt_of_le (zA9 hc99) hb167)
         replace hc4 := g173.heap hc4
         replace own := zC8 own g173
         replace hc99 := g173.heap hc99
         replace hBw := Nat.le_trans hBw g173.size
         replace ownk := zC8 ownk g173
         replace hK := hK.sees (Sees.grow g173)
         replace hT8 := hT8.sees (Sees.grow g173)
         replace hV := vlt hV g173.size
         replace G := G.tr g173
         clear u172 g169 hb167 hc168
         refine stp (zB0 rfl ?_)
         refine zA4 ?_
         refine zA6 (zA1 rfl ?_)
         refine stp (zA7 rfl ?_)
         refine stp (zB0 rfl ?_)
         refine zA4 ?_
         refine zA1 rfl ?_
         refine stp (zA5 rfl ?_)
         refine stp (zB5 (v := .slice ad6 n6 c6) rfl hc99 rfl ?_)
         refine stp (zB4 rfl hc171 (by rfl) ?_)
         refine stp (zE5 (cs := #[.int .i64 y0, .int .i64 y1, .slice ya yn yc, .slice za zn zc, .slice ua un uc]) (el := 71) (fun w => by kernel_rfl) ?_)
         intro bs177 w178 hb179 hc180 g181
         have hge182 := Nat.le_trans G.size hb179
         have ne183 := Nat.ne_of_lt (Nat.lt_of_lt_of_le (zA9 hc4) hb179)
         have ne184 := Nat.ne_of_lt (Nat.lt_of_lt_of_le (zA9 hc99) hb179)
         have ne185 := Nat.ne_of_lt (Nat.lt_of_lt_of_le (zA9 hc171) hb179)
         replace hc4 := g181.heap hc4
         replace own := zC8 own g181
         replace hc99 := g181.heap hc99
         replace hBw := Nat.le_trans hBw g181.size
         replace ownk := zC8 ownk g181
         replace hK := hK.sees (Sees.grow g181)
         replace hT8 := hT8.sees (Sees.grow g181)
         replace hV := vlt hV g181.size
         replace hc171 := g181.heap hc171
         replace G := G.tr g181
         clear g181
         refine stp (qK6 rfl rfl rfl rfl ownk (Row.of_block (n := 1) hc180 rfl rfl (by omega)) (fun q_ hq_ => by simp at hq_; rcases hq_ with rfl | rfl | rfl | rfl | rfl <;> rfl) (by simp only [maxLen]; omega) (by omega) hBw ?_)
         intro v186 w187 own6 gr6 hbk6
         have k6_ : Kp (Value.slice ad6 n6 c6).ownBlock.toList w178 w187 := Kp.of_grownBy gr6 (fun k_ hk_ => by rw [Option.mem_toList]; exact hk_)
         have hF6 : ∀ x ∈ (Value.slice ad6 n6 c6).ownBlock.toList, B ≤ x := fun x hx_ => zI2 ownk x (Option.mem_toList.1 hx_)
         have hF7 : ∀ x ∈ (Value.slice ad6 n6 c6).ownBlock.toList, ¬ V9 x := fun x hx_ => hVo x (Option.mem_toList.1 hx_)
         replace hT8 := hT8.sees (Sees.kp k6_ hF7)
         replace hK := hK.sees (Sees.kp k6_ hF7)
         have hVo6 : ∀ x, v186.ownBlock = some x → ¬ V9 x := fun x hx_ hv_ => hbk6.elim (fun h_ => hVo x (h_ ▸ hx_) hv_) (fun h_ => by rw [h_] at hx_; simp only [Option.some.injEq] at hx_; have := (hV x hv_).2; omega)
         replace hV := fun x hx_ => (⟨(hV x hx_).1, Nat.lt_of_lt_of_le (hV x hx_).2 k6_.size⟩ : B ≤ x ∧ x < w187.heap.size)
         replace G := G.trK k6_ (fun x hx_ => Nat.le_trans hwB (hF6 x hx_))
         replace own := qF0 own ownk (by decide) gr6
         clear hc171
         replace hc4 := k6_.heap hc4 (fun hm_ => by have h1_ := hF6 _ hm_; have := hB4; omega)
         replace hc99 := k6_.heap hc99 (fun hm_ => by have h1_ := hF6 _ hm_; omega)
         replace hBw := Nat.le_trans hBw k6_.size
         clear ownk gr6 hVo k6_ hF6 hF7 hbk6
         obtain ⟨ad7, n7, c7, rfl⟩ := zF3 own6
         refine stp (zA5 rfl ?_)
         refine stn (zE0 (v := .slice ad7 n7 c7) rfl rfl (by rfl) hc99 (by rfl) (by rfl) ?_)
         intro w188 hc189 u190
         replace hc4 := u190.heap hc4 ne22
         replace own := zF0 own u190 (zE7 own hc99 (by decide))
         replace own6 := zF0 own6 u190 (fun he_ => by have := zI2 own6 _ he_; omega)
         replace hT8 := hT8.sees (Sees.upd u190 (fun h_ => by have := (hV _ h_).1; omega))
         replace hK := hK.sees (Sees.upd u190 (fun h_ => by have := (hV _ h_).1; omega))
         replace hV := fun x hx_ => (⟨(hV x hx_).1, Nat.lt_of_lt_of_le (hV x hx_).2 (Nat.le_of_eq u190.size.symm)⟩ : B ≤ x ∧ x < w188.heap.size)
         replace hBw : B ≤ w188.heap.size := by rw [u190.size]; exact hBw
         replace G := G.upd u190 hge21
         clear hc99
         refine zA4 ?_
         refine zA1 rfl ?_
         refine stp (zA2 rfl ?_)
         refine stp (zD8 rfl rfl ?_ ?_); constructor <;> omega
         refine stp (zA0 rfl ?_)
         refine zA4 ?_
         refine ⟨_, ?_, j + 1, ad9, n9, c9, ad7, n7, c7, _, V9, rfl, zE6 ⟨rfl, rfl, rfl, rfl, rfl, congrArg (Value.int .i64) (by omega), rfl, trivial⟩, by omega, hn9, hc9, hc92, hR9, hVo6, hc4, own, hc189, hBw, own6, hV, (KidsR.append hK (by have := KidsR.cons hT8 .nil; simpa using this)), G⟩
         omega
        ·-- false
         replace hlt := of_decide_eq_false hlt
         have hj2 : j = (k / 8 % 5).toNat := by omega
         have hlk := zM1 (treeP d) j c
         have hrk : Row (hide B w162) 5 (.slice ad6 n6 c6) (treesP (treeP d) j c).1.length kc := by rw [hlk]; exact qH7 ownk (by omega)
         have hK9 := hK.sees (Sees.more (V' := fun x => B ≤ x) _ (fun x _ hx_ => (hV x hx_).1))
         clear hK hV
         have ht : treeP (d + 1) (k :: c) = (.mk 1 0 ((List.range (k / 64).toNat).map (w4Tree k)) [] (treesP (treeP d) j c).1, (treesP (treeP d) j c).2) := by simp only [treeP]; rw [if_neg h2, if_neg (by omega), if_neg h5, if_neg h6, ← hj2]
         refine zF6 ?_
         refine zA6 (zA1 rfl ?_)
         refine stp (zB4 rfl hc99 (by rfl) ?_)
         refine stp (zA7 rfl ?_)
         refine stn (zB1 rfl rfl hc4 (by rfl) (by rfl) (by rfl) ?_)
         intro w191 hc192 u193
         replace own := zF0 own u193 (zE7 own hc4 (by decide))
         replace hc99 := u193.heap hc99 ne22.symm
         replace hrk := hrk.sees (Sees.upd u193 (fun h_ => by omega))
         replace hK9 := hK9.sees (Sees.upd u193 (fun h_ => by omega))
         replace G := G.upd u193 hge8
         clear u193 hc4
         refine stp (zB0 rfl ?_)
         refine zA4 ?_
         refine zC4 ?_
         rw [ht]
         refine ret2 (zC9 rfl hc192 (by rfl)) (zB3 (v := .slice ad5 n5 c5) rfl) ⟨[_, _, _, _, _], _, _, _, rfl, .mk (by simp [inR]) (by simp [inR]) (zM8 own hm2 (by omega)) (fun x hx_ => by obtain ⟨i, _, rfl⟩ := List.mem_map.1 hx_; exact zW5 _) (Row.nil _ _) (by simp) (hrk.sees (Sees.low hwB _)) (hK9.sees (Sees.low hwB _)), hn5, hc5, hc52, hR5, G⟩
end Go.Proofs.YtifhcfhdajkhlaaGreat.K

namespace Go.Proofs.YtifhcfhdajkhlaaGreat.K
open Go Go.RowKit Go.Proofs
attribute [local irreducible] Run1 OpG WL W AO Gives
set_option maxRecDepth 100000 in
theorem qZ7 (w : World) {ad ae : Option Addr} {cp cq : Nat} {xs ys : List Int} (R : RowAt w 1 ad xs.length (xs.map (.int .u8))) (hx : ∀ x ∈ xs, inR .u8 x) (hcp : xs.length ≤ cp) (hcp2 : cp ≤ maxLen) (hl : xs.length ≤ 200) (R2 : RowAt w 1 ae ys.length (ys.map (.int .u8))) (hy : ∀ x ∈ ys, inR .u8 x) {k : Int} (k0 : 0 ≤ k) (k1 : k ≤ 255) : Calls Tryz.prog 7 #[.slice ad xs.length cp, .slice ae ys.length cq, .int .u8 k] w (Ret fun v w' => ∃ ado co segs A, v = .slice ado A.length co ∧ OwnA 67 33 w' w.heap.size (.slice ado A.length co) segs A ∧ Bent1 xs k A ∧ Grow w w') := by
 have lR2 := R2.lim
 have hri := qD5 (xs := xs) hx
 have G := Grow.rfl' w
 refine zE3 Tryz.func7 Tryz.ntmps7 Tryz.results7 rfl rfl ?_
 refine zA6 (zA1 rfl ?_)
 refine stp (zB0 rfl ?_)
 refine zA4 ?_
 refine zA6 (zA1 rfl ?_)
 refine stp (zA7 rfl ?_)
 refine stp (zA7 rfl ?_)
 refine stp (zE8 rfl rfl rfl ?_)
 refine zA3 (og rfl ?_)
 refine zT7 rfl rfl rfl ?_
 rw [if_neg (by omega)]
 refine stp (qA5 rfl rfl (by omega) (by omega) ?_)
 have R1 := R.sliceH (m := xs.length) hcp (Nat.le_refl _) (by decide)
 rw [List.take_of_length_le (by rw [List.length_map]; omega)] at R1
 rw [Int.toNat_natCast]
 generalize (if cp = 0 then ad else ad.map (·.add (0 * 1))) = ad1 at R1 ⊢
 refine zA3 (og rfl ?_)
 refine zF1 rfl (qZ6 _ _ R1 G rfl hx hcp hcp2 (d := 6) (by decide) (Nat.le_refl _)) ?_
 rintro v_ w1 ⟨cells_, ad9, n9, c9, rfl, hX_, -, -, -, -, g_⟩
 have hX := hX_.sees (Sees.seen _ _)
 clear hX_
 replace G := G.tr g_
 clear g_
 obtain ⟨x0, x1, xa, xn, xc, pa, pn, pc, qa, qn, qc, rfl⟩ := hX.cells
 have hX : NodeR w1 [.int .i64 x0, .int .i64 x1, .slice xa xn xc, .slice pa pn pc, .slice qa qn qc] (bentT xs) := hX
 refine stp (zB6 (v := .tuple #[.agg #[.int .i64 x0, .int .i64 x1, .slice xa xn xc, .slice pa pn pc, .slice qa qn qc], .slice ad9 n9 c9]) rfl ?_)
 refine stp (zB2 (v := .agg #[.int .i64 x0, .int .i64 x1, .slice xa xn xc, .slice pa pn pc, .slice qa qn qc]) rfl rfl ?_)
 refine stp (zB2 (v := .slice ad9 n9 c9) rfl rfl ?_)
 refine stp (zD3 ?_)
 intro b2 w3 hb4 hc5 g6
 refine stn (zB1 rfl rfl hc5 (by rfl) (by rfl) (by rfl) ?_)
 intro w7 hc8 u9
 have g10 := g6.upd u9 hb4
 have hge11 := Nat.le_trans G.size hb4
 replace hX := hX.grow g10
 replace G := G.tr g10
 clear u9 g6 hb4 hc5
 refine stp (zB0 rfl ?_)
 refine zA4 ?_
 refine zA6 (zA1 rfl ?_)
 refine stp (zB4 rfl hc8 (by rfl) ?_)
 refine stp (zA2 rfl ?_)
 refine stp (zJ5 rfl rfl ?_ ?_ ?_); omega; omega
 refine stp (zF8 rfl ?_ ?_); constructor <;> omega
 refine stp (zD8 rfl rfl ?_ ?_); constructor <;> omega
 refine zA3 (og rfl ?_)
 have hcal := zZ8 _ hX (3 + k % 30)
 have hszp := G.size
 refine zF1 rfl hcal ?_
 rintro v_ w12 ⟨so_, segsp, rfl, hO_, g_⟩
 clear hcal
 replace hX := hX.grow g_
 replace hc8 := g_.heap hc8
 replace G := G.tr g_
 clear g_
 have hOp := hO_.lower hszp
 clear hO_
 obtain ⟨adp, cp, rfl, -⟩ := zL1 hOp.out
 refine stp (zB6 (v := .tuple #[.slice adp (((bentT xs).build (3 + k % 30)).1.length) cp, .int .i64 (((bentT xs).build (3 + k % 30)).2)]) rfl ?_)
 refine stp (zB2 (v := .slice adp (((bentT xs).build (3 + k % 30)).1.length) cp) rfl rfl ?_)
 refine stp (zB2 (v := .int .i64 (((bentT xs).build (3 + k % 30)).2)) rfl rfl ?_)
 refine stp (zB0 rfl ?_)
 refine stp (zA0 rfl ?_)
 refine zA4 ?_
 have hB0 := yE2 (xs := xs) hx hl k
 obtain ⟨B, hB⟩ : ∃ B, B = bentB xs k := ⟨_, rfl⟩
 rw [← hB] at hB0
 refine qT5 (fun e_ w_ => ∃ (ado : Option Addr) (co : Nat) (segs : List Value), Fr [(1, .slice ae ys.length cq), (6, .slice none 0 0), (9, .slice ado B.length co)] e_ ∧ (OwnA 67 33 w_ w.heap.size (.slice ado B.length co) segs B) ∧ Grow w w_) ?_ ?_
 ·-- the parts
  refine zA6 (zA1 rfl ?_)
  refine stp (zA2 rfl ?_)
  refine stp (zI9 rfl rfl ?_)
  refine zA4 ?_
  refine zB8 (b := (decide ((((bentT xs).build (3 + k % 30)).2) ≠ 0))) rfl (fun h1 => ?_) (fun h1 => ?_)
  ·-- true
   replace h1 := of_decide_eq_true h1
   refine zA6 (zA1 rfl ?_)
   refine stp (zB4 rfl hc8 (by rfl) ?_)
   refine zA3 (og rfl ?_)
   have hcal := zZ8 _ hX 4096
   have hszq := G.size
   refine zF1 rfl hcal ?_
   rintro v_ w13 ⟨so_, segsq, rfl, hO_, g_⟩
   clear hcal
   replace hX := hX.grow g_
   replace hc8 := g_.heap hc8
   replace hOp := hOp.grow g_
   replace G := G.tr g_
   clear g_
   have hOq := hO_.lower hszq
   clear hO_
   obtain ⟨adq, cq, rfl, -⟩ := zL1 hOq.out
   refine stp (zB6 (v := .tuple #[.slice adq (((bentT xs).build 4096).1.length) cq, .int .i64 (((bentT xs).build 4096).2)]) rfl ?_)
   refine stp (zB2 (v := .slice adq (((bentT xs).build 4096).1.length) cq) rfl rfl ?_)
   refine stp (zB2 (v := .int .i64 (((bentT xs).build 4096).2)) rfl rfl ?_)
   refine stp (zB0 rfl ?_)
   refine stp (zA0 rfl ?_)
   refine zA4 ?_
   refine zA1 rfl ?_
   refine stp (zA7 rfl ?_)
   refine stp (zB0 rfl ?_)
   refine zA4 ?_
   have hBe : B = ((bentT xs).build 4096).1 := by rw [hB]; unfold bentB; rw [if_pos h1]
   exact ⟨adq, cq, segsq, zE6 ⟨rfl, rfl, by rw [hBe]; rfl, trivial⟩, (by rw [hBe]; exact hOq), G⟩
  ·-- false
   replace h1 := of_decide_eq_false h1
   refine zC3 ?_
   have hBe : B = ((bentT xs).build (3 + k % 30)).1 := by rw [hB]; unfold bentB; rw [if_neg h1]
   exact ⟨adp, cp, segsp, zE6 ⟨rfl, rfl, by rw [hBe]; rfl, trivial⟩, (by rw [hBe]; exact hOp), G⟩
 ·-- behind them
  clear hX hc8 hOp
  clear G
  rintro e_ w14 ⟨ado, co, segs, ⟨e15, rfl⟩, hO, G⟩
  refine zA6 ?_
  refine zA6 (zA1 rfl ?_)
  refine stp (zA0 rfl ?_)
  refine zA4 ?_
  refine zC6 ?_
  refine zG6 (fun m_ e_ w_ => ∃ (m : Nat) (ado : Option Addr) (co : Nat) (segs : List Value) (A : List (List Int)), m_ = 12 - m ∧ Fr [(1, .slice ae ys.length cq), (6, .slice none 0 0), (13, .int .i64 (m : Int)), (9, .slice ado A.length co)] e_ ∧ (m ≤ 15) ∧ (BentA B A) ∧ (OwnA 67 33 w_ w.heap.size (.slice ado A.length co) segs A) ∧ Grow w w_) _ ⟨0, ado, co, segs, B, rfl, zE6 ⟨rfl, rfl, rfl, rfl, trivial⟩, by omega, .refl, hO, G⟩ ?_
  clear hO
  clear G
  rintro m_ e_ w16 ⟨m, ado, co, segs, A, rfl, ⟨e17, rfl⟩, hm15, hA, hO, G⟩
  refine zA6 ?_
  refine zA6 (zA1 rfl ?_)
  refine stp (zA2 rfl ?_)
  refine stp (zD8 rfl rfl ?_ ?_); constructor <;> omega
  refine stp (zA7 rfl ?_)
  refine stp (zE8 rfl rfl rfl ?_)
  refine stp (zF9 rfl rfl ?_)
  refine stp (zB9 rfl ?_)
  refine zA3 (zC2 (s := .bool (decide (((m : Int) + 3) < (ys.length : Int)))) (b := true) (v := .int .i64 (m : Int)) rfl (zF2 _) (fun hc18 => ?_) ?_)
  ·
   have hc18_ := of_decide_eq_true hc18
   refine zA2 rfl ?_
   exact ⟨rfl, rfl⟩
  refine zA3 (zC2 (s := .bool (decide (((m : Int) + 3) < (ys.length : Int)))) (b := true) (v := .bool (decide ((m : Int) < 12))) rfl (zF2 _) (fun hc19 => ?_) ?_)
  ·
   have hc19_ := of_decide_eq_true hc19
   refine zF9 (gvt hc19) rfl ?_
   exact ⟨rfl, rfl⟩
  refine stp (zJ2 rfl rfl rfl ?_)
  refine zA4 ?_
  refine zB8 (b := ((decide (((m : Int) + 3) < (ys.length : Int))) && (decide ((m : Int) < 12)))) rfl (fun hlt => ?_) (fun hlt => ?_)
  ·-- true
   simp only [sb] at hlt
   have hd0 := zY1 hy m
   have hd1 := zY1 hy ((m : Int) + 1).toNat
   have hd2 := zY1 hy ((m : Int) + 2).toNat
   have hd3 := zY1 hy ((m : Int) + 3).toNat
   have hAl : A.length = B.length := (BentA.len hA).1
   obtain ⟨ado1, co1, sa, sc, hso, hco1, hco2, RO, hsf⟩ := hO.fn (by omega)
   simp only [Value.slice.injEq, true_and] at hso
   obtain ⟨rfl, rfl⟩ := hso
   obtain ⟨s, hsE⟩ : ∃ s : Nat, (s : Int) = ys.getD m 0 % (A.length : Int) := ⟨(ys.getD m 0 % (A.length : Int)).toNat, by have := Int.emod_nonneg (ys.getD m 0) (show (A.length : Int) ≠ 0 by omega); omega⟩
   have hsA : s < A.length := by have := Int.emod_lt_of_pos (ys.getD m 0) (show 0 < (A.length : Int) by omega); omega
   obtain ⟨hss, hos⟩ := hsf s hsA
   refine zC3 ?_
   refine zA6 ?_
   refine zC6 ?_
   refine zA6 (zA1 rfl ?_)
   refine stp (zA7 rfl ?_)
   refine stp (zA2 rfl ?_)
   refine stp (zD9 (R2.grow G) rfl rfl ?_ ?_); omega
   refine stp (zD7 (v := .int .u8 (ys.getD m 0)) (m := 0) (R2.grow G) rfl (zE4 0 (by omega)) ?_)
   refine stp (zF8 rfl ?_ ?_); constructor <;> omega
   refine stp (zA7 rfl ?_)
   refine stp (zE8 rfl rfl rfl ?_)
   refine zA3 (og rfl ?_)
   refine zJ5 rfl rfl ?_ ?_ ?_; omega; omega
   rw [← hsE]
   refine stp (zA0 rfl ?_)
   refine zA4 ?_
   refine zA6 ?_
   refine zA6 (zA1 rfl ?_)
   refine stp (zA7 rfl ?_)
   refine stp (zA2 rfl ?_)
   refine stp (zD9 RO rfl rfl ?_ ?_); omega
   refine stp (zD7 (v := .slice (sa s) (len2 A s) (sc s)) (m := 0) RO rfl (by rw [Nat.mul_one]; exact hss) ?_)
   refine stp (zE8 rfl rfl rfl ?_)
   refine stp (zE9 rfl rfl ?_)
   refine zA4 ?_
   refine zB8 (b := (decide (((len2 A s) : Int) = 0))) rfl (fun h3 => ?_) (fun h3 => ?_)
   ·-- true
    replace h3 := of_decide_eq_true h3
    refine zF6 ?_
    refine zA1 rfl ?_
    refine stp (zA2 rfl ?_)
    refine stp (zD8 rfl rfl ?_ ?_); constructor <;> omega
    refine stp (zA0 rfl ?_)
    refine zA4 ?_
    refine ⟨_, ?_, m + 4, ado, co, segs, A, rfl, zE6 ⟨rfl, rfl, congrArg (Value.int .i64) (by omega), rfl, trivial⟩, by omega, hA, hO, G⟩
    omega
   ·-- false
    replace h3 := of_decide_eq_false h3
    have hs0 : 0 < len2 A s := by omega
    obtain ⟨j, hjE⟩ : ∃ j : Nat, (j : Int) = (ys.getD ((m : Int) + 1).toNat 0) % (len2 A s : Int) := ⟨((ys.getD ((m : Int) + 1).toNat 0) % (len2 A s : Int)).toNat, by have := Int.emod_nonneg (ys.getD ((m : Int) + 1).toNat 0) (show (len2 A s : Int) ≠ 0 by omega); omega⟩
    have hjA : j < len2 A s := by have := Int.emod_lt_of_pos (ys.getD ((m : Int) + 1).toNat 0) (show 0 < (len2 A s : Int) by omega); omega
    refine zC3 ?_
    refine zA6 ?_
    refine zJ4 13 [[], [], [0], [2, 1, 0], [3, 2, 1, 0], [4, 3, 2, 1, 0], [], [], [1, 0], [2, 1, 0], [3, 2, 1, 0], [10, 9, 8, 7, 6, 5, 4, 3, 2, 1, 0], [11, 10, 9, 8, 7, 6, 5, 4, 3, 2, 1, 0]] mixed (by kernel_rfl) (by kernel_rfl) (by kernel_rfl) ?_
    intro w20 g21
    replace hO := hO.grow g21
    replace RO := RO.grow g21
    replace G := G.tr g21
    clear g21
    apply zB7
    ·intro w_ g_; refine og rfl ?_; refine zA7 rfl ?_; exact ⟨Grow.rfl' _, rfl⟩
    apply zB7
    ·intro w_ g_; refine og rfl ?_; refine zA2 rfl ?_; exact ⟨Grow.rfl' _, rfl⟩
    apply zB7
    ·intro w_ g_; refine og rfl ?_; refine zD8 rfl rfl ?_ ?_; constructor <;> omega; exact ⟨Grow.rfl' _, rfl⟩
    apply zB7
    ·intro w_ g_; refine og rfl ?_; refine zI4 (R2.grow (G.tr g_)) rfl rfl ?_ ?_ ?_; omega; omega; exact ⟨Grow.rfl' _, rfl⟩
    apply zB7
    ·intro w_ g_; refine og rfl ?_; refine zD7 (v := .int .u8 (ys.getD (((m : Int) + 1).toNat) 0)) (m := 0) (R2.grow (G.tr g_)) rfl (zE4 0 (by omega)) ?_; exact ⟨Grow.rfl' _, rfl⟩
    apply zB7
    ·intro w_ g_; refine og rfl ?_; refine zF8 rfl ?_ ?_; constructor <;> omega; exact ⟨Grow.rfl' _, rfl⟩
    apply zB7
    ·intro w_ g_; refine og rfl ?_; refine zA7 rfl ?_; exact ⟨Grow.rfl' _, rfl⟩
    apply zB7
    ·intro w_ g_; refine og rfl ?_; refine zA2 rfl ?_; exact ⟨Grow.rfl' _, rfl⟩
    apply zB7
    ·intro w_ g_; refine og rfl ?_; refine zD9 (RO.grow g_) rfl rfl ?_ ?_; omega; exact ⟨Grow.rfl' _, rfl⟩
    apply zB7
    ·intro w_ g_; refine og rfl ?_; refine zD7 (v := .slice (sa s) (len2 A s) (sc s)) (m := 0) (RO.grow g_) rfl (by rw [Nat.mul_one]; exact hss) ?_; exact ⟨Grow.rfl' _, rfl⟩
    apply zB7
    ·intro w_ g_; refine og rfl ?_; refine zE8 rfl rfl rfl ?_; exact ⟨Grow.rfl' _, rfl⟩
    apply zB7
    ·intro w_ g_; refine og rfl ?_; refine zJ5 rfl rfl ?_ ?_ ?_; omega; omega; rw [← hjE]; exact ⟨Grow.rfl' _, rfl⟩
    apply zB7
    ·intro w_ g_; refine og rfl ?_; refine zA0 rfl ?_; exact ⟨Grow.rfl' _, rfl⟩
    refine zI5 ?_
    intro w22 g23
    replace hO := hO.grow g23
    replace RO := RO.grow g23
    replace G := G.tr g23
    clear g23
    refine zA4 ?_
    have hsG := G.size
    obtain ⟨M, hM⟩ : ∃ M, M = w22.heap.size := ⟨_, rfl⟩
    have hMw : M ≤ w22.heap.size := by rw [hM]; exact Nat.le_refl _
    have hwM : w.heap.size ≤ M := by rw [hM]; exact hsG
    clear hM hsG
    obtain ⟨x, hxE⟩ : ∃ x, x = encR (bentP (ys.getD ((m : Int) + 2).toNat 0) (ys.getD ((m : Int) + 3).toNat 0) A.length) := ⟨_, rfl⟩
    obtain ⟨z, hzE⟩ : ∃ z, z = encE (bentP (ys.getD ((m : Int) + 2).toNat 0) (ys.getD ((m : Int) + 3).toNat 0) A.length) := ⟨_, rfl⟩
    refine zA6 ?_
    refine zJ4 18 [[], [], [0], [2, 1, 0], [3, 2, 1, 0], [4, 3, 2, 1, 0], [5, 4, 3, 2, 1, 0], [6, 5, 4, 3, 2, 1, 0], [], [], [0], [2, 1, 0], [3, 2, 1, 0], [4, 3, 2, 1, 0], [5, 4, 3, 2, 1, 0], [6, 5, 4, 3, 2, 1, 0], [15, 14, 13, 12, 11, 10, 9, 8, 7, 6, 5, 4, 3, 2, 1, 0], []] mixed (by kernel_rfl) (by kernel_rfl) (by kernel_rfl) ?_
    intro w24 g25
    replace hO := hO.grow g25
    replace RO := RO.grow g25
    replace hMw := Nat.le_trans hMw g25.size
    replace G := G.tr g25
    clear g25
    apply zB7
    ·intro w_ g_; refine og rfl ?_; refine zA7 rfl ?_; exact ⟨Grow.rfl' _, rfl⟩
    apply zB7
    ·intro w_ g_; refine og rfl ?_; refine zA2 rfl ?_; exact ⟨Grow.rfl' _, rfl⟩
    apply zB7
    ·intro w_ g_; refine og rfl ?_; refine zD8 rfl rfl ?_ ?_; constructor <;> omega; exact ⟨Grow.rfl' _, rfl⟩
    apply zB7
    ·intro w_ g_; refine og rfl ?_; refine zI4 (R2.grow (G.tr g_)) rfl rfl ?_ ?_ ?_; omega; omega; exact ⟨Grow.rfl' _, rfl⟩
    apply zB7
    ·intro w_ g_; refine og rfl ?_; refine zD7 (v := .int .u8 (ys.getD (((m : Int) + 2).toNat) 0)) (m := 0) (R2.grow (G.tr g_)) rfl (zE4 0 (by omega)) ?_; exact ⟨Grow.rfl' _, rfl⟩
    apply zB7
    ·intro w_ g_; refine og rfl ?_; refine zJ5 rfl rfl ?_ ?_ ?_; omega; omega; exact ⟨Grow.rfl' _, rfl⟩
    apply zB7
    ·intro w_ g_; refine og rfl ?_; refine zF8 rfl ?_ ?_; constructor <;> omega; exact ⟨Grow.rfl' _, rfl⟩
    apply zB7
    ·intro w_ g_; refine og rfl ?_; refine zD8 rfl rfl ?_ ?_; constructor <;> omega; exact ⟨Grow.rfl' _, rfl⟩
    apply zB7
    ·intro w_ g_; refine og rfl ?_; refine zA7 rfl ?_; exact ⟨Grow.rfl' _, rfl⟩
    apply zB7
    ·intro w_ g_; refine og rfl ?_; refine zA2 rfl ?_; exact ⟨Grow.rfl' _, rfl⟩
    apply zB7
    ·intro w_ g_; refine og rfl ?_; refine zD8 rfl rfl ?_ ?_; constructor <;> omega; exact ⟨Grow.rfl' _, rfl⟩
    apply zB7
    ·intro w_ g_; refine og rfl ?_; refine zI4 (R2.grow (G.tr g_)) rfl rfl ?_ ?_ ?_; omega; omega; exact ⟨Grow.rfl' _, rfl⟩
    apply zB7
    ·intro w_ g_; refine og rfl ?_; refine zD7 (v := .int .u8 (ys.getD (((m : Int) + 3).toNat) 0)) (m := 0) (R2.grow (G.tr g_)) rfl (zE4 0 (by omega)) ?_; exact ⟨Grow.rfl' _, rfl⟩
    apply zB7
    ·intro w_ g_; refine og rfl ?_; refine zJ5 rfl rfl ?_ ?_ ?_; omega; omega; exact ⟨Grow.rfl' _, rfl⟩
    apply zB7
    ·intro w_ g_; refine og rfl ?_; refine zF8 rfl ?_ ?_; constructor <;> omega; exact ⟨Grow.rfl' _, rfl⟩
    apply zB7
    ·intro w_ g_; refine og rfl ?_; refine zM0 rfl rfl ?_ ?_; constructor <;> omega; exact ⟨Grow.rfl' _, rfl⟩
    apply zB7
    ·intro w_ g_; refine og rfl ?_; refine zD4 (v := .agg #[.int .i64 (1 + ((ys.getD (((m : Int) + 2).toNat) 0) % 3)), .int .i64 (((ys.getD (((m : Int) + 3).toNat) 0) % 16) - 4), .int .i64 0, .int .i64 0, .int .i64 0, .int .i64 0, .int .i64 0, .bool false]) (fun w => by kernel_rfl) ?_; exact ⟨Grow.rfl' _, rfl⟩
    refine zK2 (fun w_ v_ => ∃ b, v_ = .pointer (some ⟨b, 0, none⟩) ∧ M ≤ b ∧ w_.heap[b]? = some (.cells #[.int .i64 0, .int .i64 0, .int .i64 0, .int .i64 0, .int .i64 0, .int .i64 0, .int .i64 0, .bool false] 77 (0, 0))) (fun _ _ _ g_ ⟨b, h1_, h2_, h3_⟩ => ⟨b, h1_, h2_, g_.heap h3_⟩) ?_ ?_
    ·intro w_ g_
     refine og rfl ?_
     refine zD3 ?_
     intro b_ w2_ hb_ hc_ g2_
     exact ⟨g2_, b_, rfl, Nat.le_trans hMw (Nat.le_trans g_.size hb_), hc_⟩
    refine zI5 ?_
    intro w26 g27
    replace hO := hO.grow g27
    replace RO := RO.grow g27
    replace hMw := Nat.le_trans hMw g27.size
    replace G := G.tr g27
    clear g27
    intro v_p hv_p
    obtain ⟨bp, rfl, hgP, hcP⟩ := hv_p
    have hgQ := Nat.le_trans hwM hgP
    refine stn (zB1 rfl rfl hcP (by rfl) (by rfl) (by rfl) ?_)
    intro w28 hc29 u30
    replace hO := hO.upd u30 hcP (by decide) (by decide)
    replace RO := (OwnA.rowat hO (by omega)).2
    replace hMw := Nat.le_trans hMw (Nat.le_of_eq u30.size.symm)
    replace G := G.upd u30 hgQ
    clear u30 hcP
    refine zA4 ?_
    refine zA6 ?_
    refine zA6 (zA1 rfl ?_)
    refine stp (zA5 rfl ?_)
    refine stp (zB5 (v := .int .i64 (1 + ((ys.getD (((m : Int) + 2).toNat) 0) % 3))) rfl hc29 rfl ?_)
    refine zA4 ?_
    refine zC6 ?_
    refine zA6 (zA1 rfl ?_)
    refine stp (zE9 rfl rfl ?_)
    refine stp (zC1 rfl ?_)
    refine zA4 ?_
    refine zB8 (b := (decide ((1 + ((ys.getD (((m : Int) + 2).toNat) 0) % 3)) = 1))) rfl (fun h4 => ?_) (fun h4 => ?_)
    ·-- true
     replace h4 := of_decide_eq_true h4
     refine zA6 (zA1 rfl ?_)
     refine stp (zA7 rfl ?_)
     refine stp (zA2 rfl ?_)
     refine stp (zD8 rfl rfl ?_ ?_); constructor <;> omega
     refine stp (zI4 (R2.grow G) rfl rfl ?_ ?_ ?_); omega; omega
     refine stp (zD7 (v := .int .u8 (ys.getD (((m : Int) + 2).toNat) 0)) (m := 0) (R2.grow G) rfl (zE4 0 (by omega)) ?_)
     refine stp (zJ5 rfl rfl ?_ ?_ ?_); omega; omega
     refine stp (zF8 rfl ?_ ?_); constructor <;> omega
     refine stp (zA5 rfl ?_)
     refine stn (zE0 (v := .int .i64 ((ys.getD (((m : Int) + 2).toNat) 0) % 4)) rfl rfl (by rfl) hc29 (by rfl) (by rfl) ?_)
     intro w31 hc32 u33
     replace hO := hO.upd u33 hc29 (by decide) (by decide)
     replace RO := (OwnA.rowat hO (by omega)).2
     replace hMw := Nat.le_trans hMw (Nat.le_of_eq u33.size.symm)
     replace G := G.upd u33 hgQ
     clear u33 hc29
     refine zA4 ?_
     refine zA1 rfl ?_
     refine stp (zA7 rfl ?_)
     refine stp (zA2 rfl ?_)
     refine stp (zD8 rfl rfl ?_ ?_); constructor <;> omega
     refine stp (zI4 (R2.grow G) rfl rfl ?_ ?_ ?_); omega; omega
     refine stp (zD7 (v := .int .u8 (ys.getD (((m : Int) + 2).toNat) 0)) (m := 0) (R2.grow G) rfl (zE4 0 (by omega)) ?_)
     refine stp (zK3 rfl rfl ?_ ?_ ?_ ?_); omega; omega; (constructor <;> omega)
     refine stp (zF8 rfl ?_ ?_); constructor <;> omega
     refine stp (zA5 rfl ?_)
     refine stn (zE0 (v := .int .i64 ((ys.getD (((m : Int) + 2).toNat) 0) / 64)) rfl rfl (by rfl) hc32 (by rfl) (by rfl) ?_)
     intro w34 hc35 u36
     replace hO := hO.upd u36 hc32 (by decide) (by decide)
     replace RO := (OwnA.rowat hO (by omega)).2
     replace hMw := Nat.le_trans hMw (Nat.le_of_eq u36.size.symm)
     replace G := G.upd u36 hgQ
     clear u36 hc32
     refine zA4 ?_
     refine zA6 (zA1 rfl ?_)
     refine stp (zB4 rfl hc35 (by rfl) ?_)
     refine zA3 (og rfl ?_)
     have hP : (⟨1 + ((ys.getD (((m : Int) + 2).toNat) 0) % 3), ((ys.getD (((m : Int) + 3).toNat) 0) % 16) - 4, (ys.getD (((m : Int) + 2).toNat) 0) % 4, (ys.getD (((m : Int) + 2).toNat) 0) / 64, 0, 0, 0, false⟩ : Pt) = bentP (ys.getD ((m : Int) + 2).toNat 0) (ys.getD ((m : Int) + 3).toNat 0) A.length := by unfold bentP; rw [if_pos (by omega)]; rw [show 1 + (ys.getD ((m : Int) + 2).toNat 0) % 3 = 1 from by omega]
     refine zC0 (v := .tuple #[.int .u64 x, .int .i64 z]) rfl (zH3 (zJ9 _ ⟨1 + ((ys.getD (((m : Int) + 2).toNat) 0) % 3), ((ys.getD (((m : Int) + 3).toNat) 0) % 16) - 4, (ys.getD (((m : Int) + 2).toNat) 0) % 4, (ys.getD (((m : Int) + 2).toNat) 0) / 64, 0, 0, 0, false⟩) (y := .tuple #[.int .u64 x, .int .i64 z]) (by rw [hP, ← hxE, ← hzE])) ?_
     intro w37 g38
     replace hO := hO.grow g38
     replace RO := RO.grow g38
     replace hMw := Nat.le_trans hMw g38.size
     replace hc35 := g38.heap hc35
     replace G := G.tr g38
     clear g38
     refine stp (zB6 (v := .tuple #[.int .u64 x, .int .i64 z]) rfl ?_)
     refine stp (zB2 (v := .int .u64 x) rfl rfl ?_)
     refine stp (zB2 (v := .int .i64 z) rfl rfl ?_)
     refine stp (zA0 rfl ?_)
     refine stp (zA0 rfl ?_)
     refine zA4 ?_
     refine zA1 rfl ?_
     refine stp (zA7 rfl ?_)
     refine stp (zA2 rfl ?_)
     refine stp (zD9 RO rfl rfl ?_ ?_); omega
     refine stp (zD7 (v := .slice (sa s) (len2 A s) (sc s)) (m := 0) RO rfl (by rw [Nat.mul_one]; exact hss) ?_)
     refine stp (zA2 rfl ?_)
     refine stp (zA2 rfl ?_)
     refine zA3 (og rfl ?_)
     have hos9 := hO.seg s _ _ hss (List.getElem?_eq_getElem hsA)
     have hlen9 : len2 A s = A[s].length := by rw [len2, zG0 hsA]
     obtain ⟨g5, c5, cur5, he5, hg5b, hg5, hc51, hc52, hc53, hc54⟩ := zK1 hos9 (by omega)
     simp only [Value.slice.injEq] at he5
     obtain ⟨hsa, -, hsc⟩ := he5
     refine zH9 (b := g5) (o := 0) (n := len2 A s) (c := sc s) (i := (j : Int)) (show _ = _ from congrArg (fun a_ => Value.slice a_ (len2 A s) (sc s)) hsa) rfl (by omega) (by omega) ?_
     rw [Int.toNat_natCast, Nat.zero_add, Nat.mul_one]
     refine stn (zE0 (v := .int .u64 x) rfl rfl rfl hg5 (Nat.ble_eq_true_of_le (by omega)) rfl ?_)
     intro w7 hs6 u7
     rw [hsa, hlen9] at hss
     have hO7 := hO.setw (i := j) (x := x) (by decide) (List.getElem?_eq_getElem hsA) hss hg5 hs6 (by simp) u7
     replace G := G.upd u7 hg5b
     have hset : A.set s (A[s].set j x) = setP A s j x := by unfold setP; rw [zG0 hsA]
     rw [hset] at hO7
     refine zA4 ?_
     refine zA1 rfl ?_
     refine stp (zA2 rfl ?_)
     refine stp (zD8 rfl rfl ?_ ?_); constructor <;> omega
     refine stp (zA0 rfl ?_)
     refine zA4 ?_
     have hln := zG1 A s j x
     rw [show (Value.slice ado A.length co) = .slice ado (setP A s j x).length co from by rw [hln]] at hO7
     refine ⟨_, ?_, m + 4, ado, co, segs, setP A s j x, rfl, zE6 ⟨rfl, rfl, congrArg (Value.int .i64) (by omega), by rw [hln]; rfl, trivial⟩, by omega, by rw [hxE]; exact .put hA hsA hjA hd2.1 hd2.2 hd3.1 hd3.2, hO7, G⟩
     omega
    ·-- false
     replace h4 := of_decide_eq_false h4
     refine zA6 (zA1 rfl ?_)
     refine stp (zE9 rfl rfl ?_)
     refine stp (zC1 rfl ?_)
     refine zA4 ?_
     refine zB8 (b := (decide ((1 + ((ys.getD (((m : Int) + 2).toNat) 0) % 3)) = 2))) rfl (fun h5 => ?_) (fun h5 => ?_)
     ·-- true
      replace h5 := of_decide_eq_true h5
      refine zA6 (zA1 rfl ?_)
      refine stp (zE5 (cs := #[.int .i64 2, .int .i64 5, .int .i64 6, .int .i64 3]) (el := 3) (fun w => by kernel_rfl) ?_)
      intro bs39 w40 hb41 hc42 g43
      have hge44 := Nat.le_trans G.size hb41
      have ne45 := Nat.ne_of_lt (Nat.lt_of_lt_of_le (zA9 hc29) hb41)
      replace hO := hO.grow g43
      replace RO := RO.grow g43
      replace hMw := Nat.le_trans hMw g43.size
      replace hc29 := g43.heap hc29
      replace G := G.tr g43
      clear g43
      refine stp (zA7 rfl ?_)
      refine stp (zA2 rfl ?_)
      refine stp (zD8 rfl rfl ?_ ?_); constructor <;> omega
      refine stp (zI4 (R2.grow G) rfl rfl ?_ ?_ ?_); omega; omega
      refine stp (zD7 (v := .int .u8 (ys.getD (((m : Int) + 2).toNat) 0)) (m := 0) (R2.grow G) rfl (zE4 0 (by omega)) ?_)
      refine stp (zJ5 rfl rfl ?_ ?_ ?_); omega; omega
      refine zA3 (og rfl ?_)
      have RL := Row.of_block (n := 4) (sz := 1) hc42 rfl rfl (by decide)
      obtain ⟨_, _, hr_, -, -, RL⟩ := RL
      cases hr_
      refine zI4 RL rfl rfl ?_ ?_ ?_; omega; omega
      refine stp (zD7 (v := .int .i64 (bentZ ((ys.getD ((m : Int) + 2).toNat 0) % 4))) (m := 0) RL rfl (yJ5 _ (by omega) (by omega)) ?_)
      refine stp (zA5 rfl ?_)
      refine stn (zE0 (v := .int .i64 (bentZ ((ys.getD ((m : Int) + 2).toNat 0) % 4))) rfl rfl (by rfl) hc29 (by rfl) (by rfl) ?_)
      intro w46 hc47 u48
      replace hO := hO.upd u48 hc29 (by decide) (by decide)
      replace RO := (OwnA.rowat hO (by omega)).2
      replace hMw := Nat.le_trans hMw (Nat.le_of_eq u48.size.symm)
      replace hc42 := u48.heap hc42 ne45.symm
      replace G := G.upd u48 hgQ
      clear u48 hc29
      refine zA4 ?_
      refine zA1 rfl ?_
      refine stp (zA7 rfl ?_)
      refine stp (zA2 rfl ?_)
      refine stp (zD8 rfl rfl ?_ ?_); constructor <;> omega
      refine stp (zI4 (R2.grow G) rfl rfl ?_ ?_ ?_); omega; omega
      refine stp (zD7 (v := .int .u8 (ys.getD (((m : Int) + 2).toNat) 0)) (m := 0) (R2.grow G) rfl (zE4 0 (by omega)) ?_)
      refine stp (zK3 rfl rfl ?_ ?_ ?_ ?_); omega; omega; (constructor <;> omega)
      refine stp (zF8 rfl ?_ ?_); constructor <;> omega
      refine stp (zA5 rfl ?_)
      refine stn (zE0 (v := .int .i64 ((ys.getD (((m : Int) + 2).toNat) 0) / 16)) rfl rfl (by rfl) hc47 (by rfl) (by rfl) ?_)
      intro w49 hc50 u51
      replace hO := hO.upd u51 hc47 (by decide) (by decide)
      replace RO := (OwnA.rowat hO (by omega)).2
      replace hMw := Nat.le_trans hMw (Nat.le_of_eq u51.size.symm)
      replace hc42 := u51.heap hc42 ne45.symm
      replace G := G.upd u51 hgQ
      clear u51 hc47
      refine zA4 ?_
      refine zA6 (zA1 rfl ?_)
      refine stp (zB4 rfl hc50 (by rfl) ?_)
      refine zA3 (og rfl ?_)
      have hP : (⟨1 + ((ys.getD (((m : Int) + 2).toNat) 0) % 3), ((ys.getD (((m : Int) + 3).toNat) 0) % 16) - 4, 0, 0, bentZ ((ys.getD ((m : Int) + 2).toNat 0) % 4), (ys.getD (((m : Int) + 2).toNat) 0) / 16, 0, false⟩ : Pt) = bentP (ys.getD ((m : Int) + 2).toNat 0) (ys.getD ((m : Int) + 3).toNat 0) A.length := by unfold bentP; rw [if_neg (by omega), if_pos (by omega)]; rw [show 1 + (ys.getD ((m : Int) + 2).toNat 0) % 3 = 2 from by omega]
      refine zC0 (v := .tuple #[.int .u64 x, .int .i64 z]) rfl (zH3 (zJ9 _ ⟨1 + ((ys.getD (((m : Int) + 2).toNat) 0) % 3), ((ys.getD (((m : Int) + 3).toNat) 0) % 16) - 4, 0, 0, bentZ ((ys.getD ((m : Int) + 2).toNat 0) % 4), (ys.getD (((m : Int) + 2).toNat) 0) / 16, 0, false⟩) (y := .tuple #[.int .u64 x, .int .i64 z]) (by rw [hP, ← hxE, ← hzE])) ?_
      intro w52 g53
      replace hO := hO.grow g53
      replace RO := RO.grow g53
      replace hMw := Nat.le_trans hMw g53.size
      replace hc42 := g53.heap hc42
      replace hc50 := g53.heap hc50
      replace G := G.tr g53
      clear g53
      refine stp (zB6 (v := .tuple #[.int .u64 x, .int .i64 z]) rfl ?_)
      refine stp (zB2 (v := .int .u64 x) rfl rfl ?_)
      refine stp (zB2 (v := .int .i64 z) rfl rfl ?_)
      refine stp (zA0 rfl ?_)
      refine stp (zA0 rfl ?_)
      refine zA4 ?_
      refine zA1 rfl ?_
      refine stp (zA7 rfl ?_)
      refine stp (zA2 rfl ?_)
      refine stp (zD9 RO rfl rfl ?_ ?_); omega
      refine stp (zD7 (v := .slice (sa s) (len2 A s) (sc s)) (m := 0) RO rfl (by rw [Nat.mul_one]; exact hss) ?_)
      refine stp (zA2 rfl ?_)
      refine stp (zA2 rfl ?_)
      refine zA3 (og rfl ?_)
      have hos9 := hO.seg s _ _ hss (List.getElem?_eq_getElem hsA)
      have hlen9 : len2 A s = A[s].length := by rw [len2, zG0 hsA]
      obtain ⟨g5, c5, cur5, he5, hg5b, hg5, hc51, hc52, hc53, hc54⟩ := zK1 hos9 (by omega)
      simp only [Value.slice.injEq] at he5
      obtain ⟨hsa, -, hsc⟩ := he5
      refine zH9 (b := g5) (o := 0) (n := len2 A s) (c := sc s) (i := (j : Int)) (show _ = _ from congrArg (fun a_ => Value.slice a_ (len2 A s) (sc s)) hsa) rfl (by omega) (by omega) ?_
      rw [Int.toNat_natCast, Nat.zero_add, Nat.mul_one]
      refine stn (zE0 (v := .int .u64 x) rfl rfl rfl hg5 (Nat.ble_eq_true_of_le (by omega)) rfl ?_)
      intro w7 hs6 u7
      rw [hsa, hlen9] at hss
      have hO7 := hO.setw (i := j) (x := x) (by decide) (List.getElem?_eq_getElem hsA) hss hg5 hs6 (by simp) u7
      replace G := G.upd u7 hg5b
      have hset : A.set s (A[s].set j x) = setP A s j x := by unfold setP; rw [zG0 hsA]
      rw [hset] at hO7
      refine zA4 ?_
      refine zA1 rfl ?_
      refine stp (zA2 rfl ?_)
      refine stp (zD8 rfl rfl ?_ ?_); constructor <;> omega
      refine stp (zA0 rfl ?_)
      refine zA4 ?_
      have hln := zG1 A s j x
      rw [show (Value.slice ado A.length co) = .slice ado (setP A s j x).length co from by rw [hln]] at hO7
      refine ⟨_, ?_, m + 4, ado, co, segs, setP A s j x, rfl, zE6 ⟨rfl, rfl, congrArg (Value.int .i64) (by omega), by rw [hln]; rfl, trivial⟩, by omega, by rw [hxE]; exact .put hA hsA hjA hd2.1 hd2.2 hd3.1 hd3.2, hO7, G⟩
      omega
     ·-- false
      replace h5 := of_decide_eq_false h5
      refine zA6 (zA1 rfl ?_)
      refine stp (zA7 rfl ?_)
      refine stp (zA2 rfl ?_)
      refine stp (zD8 rfl rfl ?_ ?_); constructor <;> omega
      refine stp (zI4 (R2.grow G) rfl rfl ?_ ?_ ?_); omega; omega
      refine stp (zD7 (v := .int .u8 (ys.getD (((m : Int) + 3).toNat) 0)) (m := 0) (R2.grow G) rfl (zE4 0 (by omega)) ?_)
      refine stp (zJ5 rfl rfl ?_ ?_ ?_); omega; omega
      refine stp (zF8 rfl ?_ ?_); constructor <;> omega
      refine stp (zA5 rfl ?_)
      refine stn (zE0 (v := .int .i64 ((ys.getD (((m : Int) + 3).toNat) 0) % 12)) rfl rfl (by rfl) hc29 (by rfl) (by rfl) ?_)
      intro w54 hc55 u56
      replace hO := hO.upd u56 hc29 (by decide) (by decide)
      replace RO := (OwnA.rowat hO (by omega)).2
      replace hMw := Nat.le_trans hMw (Nat.le_of_eq u56.size.symm)
      replace G := G.upd u56 hgQ
      clear u56 hc29
      refine zA4 ?_
      refine zA6 (zA1 rfl ?_)
      refine stp (zA7 rfl ?_)
      refine stp (zA2 rfl ?_)
      refine stp (zD8 rfl rfl ?_ ?_); constructor <;> omega
      refine stp (zI4 (R2.grow G) rfl rfl ?_ ?_ ?_); omega; omega
      refine stp (zD7 (v := .int .u8 (ys.getD (((m : Int) + 2).toNat) 0)) (m := 0) (R2.grow G) rfl (zE4 0 (by omega)) ?_)
      refine stp (zK3 rfl rfl ?_ ?_ ?_ ?_); omega; omega; (constructor <;> omega)
      refine stp (zF8 rfl ?_ ?_); constructor <;> omega
      refine stp (zA7 rfl ?_)
      refine stp (zE8 rfl rfl rfl ?_)
      refine stp (zD8 rfl rfl ?_ ?_); constructor <;> omega
      refine stp (zJ5 rfl rfl ?_ ?_ ?_); omega; omega
      refine stp (zA5 rfl ?_)
      refine stn (zE0 (v := .int .i64 (((ys.getD (((m : Int) + 2).toNat) 0) / 3) % ((A.length : Int) + 1))) rfl rfl (by rfl) hc55 (by rfl) (by rfl) ?_)
      intro w57 hc58 u59
      replace hO := hO.upd u59 hc55 (by decide) (by decide)
      replace RO := (OwnA.rowat hO (by omega)).2
      replace hMw := Nat.le_trans hMw (Nat.le_of_eq u59.size.symm)
      replace G := G.upd u59 hgQ
      clear u59 hc55
      refine zA4 ?_
      refine zA1 rfl ?_
      refine stp (zA7 rfl ?_)
      refine stp (zA2 rfl ?_)
      refine stp (zD8 rfl rfl ?_ ?_); constructor <;> omega
      refine stp (zI4 (R2.grow G) rfl rfl ?_ ?_ ?_); omega; omega
      refine stp (zD7 (v := .int .u8 (ys.getD (((m : Int) + 2).toNat) 0)) (m := 0) (R2.grow G) rfl (zE4 0 (by omega)) ?_)
      refine stp (zJ5 rfl rfl ?_ ?_ ?_); omega; omega
      refine stp (zE9 rfl rfl ?_)
      refine stp (zA5 rfl ?_)
      refine stn (zE0 (v := .bool (decide (((ys.getD (((m : Int) + 2).toNat) 0) % 2) = 1))) rfl rfl (by rfl) hc58 (by rfl) (by rfl) ?_)
      intro w60 hc61 u62
      replace hO := hO.upd u62 hc58 (by decide) (by decide)
      replace RO := (OwnA.rowat hO (by omega)).2
      replace hMw := Nat.le_trans hMw (Nat.le_of_eq u62.size.symm)
      replace G := G.upd u62 hgQ
      clear u62 hc58
      refine zA4 ?_
      refine zA6 (zA1 rfl ?_)
      refine stp (zB4 rfl hc61 (by rfl) ?_)
      refine zA3 (og rfl ?_)
      have hP : (⟨1 + ((ys.getD (((m : Int) + 2).toNat) 0) % 3), (ys.getD (((m : Int) + 3).toNat) 0) % 12, 0, 0, 0, 0, ((ys.getD (((m : Int) + 2).toNat) 0) / 3) % ((A.length : Int) + 1), (decide (((ys.getD (((m : Int) + 2).toNat) 0) % 2) = 1))⟩ : Pt) = bentP (ys.getD ((m : Int) + 2).toNat 0) (ys.getD ((m : Int) + 3).toNat 0) A.length := by unfold bentP; rw [if_neg (by omega), if_neg (by omega)]; rw [show 1 + (ys.getD ((m : Int) + 2).toNat 0) % 3 = 3 from by omega]
      refine zC0 (v := .tuple #[.int .u64 x, .int .i64 z]) rfl (zH3 (zJ9 _ ⟨1 + ((ys.getD (((m : Int) + 2).toNat) 0) % 3), (ys.getD (((m : Int) + 3).toNat) 0) % 12, 0, 0, 0, 0, ((ys.getD (((m : Int) + 2).toNat) 0) / 3) % ((A.length : Int) + 1), (decide (((ys.getD (((m : Int) + 2).toNat) 0) % 2) = 1))⟩) (y := .tuple #[.int .u64 x, .int .i64 z]) (by rw [hP, ← hxE, ← hzE])) ?_
      intro w63 g64
      replace hO := hO.grow g64
      replace RO := RO.grow g64
      replace hMw := Nat.le_trans hMw g64.size
      replace hc61 := g64.heap hc61
      replace G := G.tr g64
      clear g64
      refine stp (zB6 (v := .tuple #[.int .u64 x, .int .i64 z]) rfl ?_)
      refine stp (zB2 (v := .int .u64 x) rfl rfl ?_)
      refine stp (zB2 (v := .int .i64 z) rfl rfl ?_)
      refine stp (zA0 rfl ?_)
      refine stp (zA0 rfl ?_)
      refine zA4 ?_
      refine zA1 rfl ?_
      refine stp (zA7 rfl ?_)
      refine stp (zA2 rfl ?_)
      refine stp (zD9 RO rfl rfl ?_ ?_); omega
      refine stp (zD7 (v := .slice (sa s) (len2 A s) (sc s)) (m := 0) RO rfl (by rw [Nat.mul_one]; exact hss) ?_)
      refine stp (zA2 rfl ?_)
      refine stp (zA2 rfl ?_)
      refine zA3 (og rfl ?_)
      have hos9 := hO.seg s _ _ hss (List.getElem?_eq_getElem hsA)
      have hlen9 : len2 A s = A[s].length := by rw [len2, zG0 hsA]
      obtain ⟨g5, c5, cur5, he5, hg5b, hg5, hc51, hc52, hc53, hc54⟩ := zK1 hos9 (by omega)
      simp only [Value.slice.injEq] at he5
      obtain ⟨hsa, -, hsc⟩ := he5
      refine zH9 (b := g5) (o := 0) (n := len2 A s) (c := sc s) (i := (j : Int)) (show _ = _ from congrArg (fun a_ => Value.slice a_ (len2 A s) (sc s)) hsa) rfl (by omega) (by omega) ?_
      rw [Int.toNat_natCast, Nat.zero_add, Nat.mul_one]
      refine stn (zE0 (v := .int .u64 x) rfl rfl rfl hg5 (Nat.ble_eq_true_of_le (by omega)) rfl ?_)
      intro w7 hs6 u7
      rw [hsa, hlen9] at hss
      have hO7 := hO.setw (i := j) (x := x) (by decide) (List.getElem?_eq_getElem hsA) hss hg5 hs6 (by simp) u7
      replace G := G.upd u7 hg5b
      have hset : A.set s (A[s].set j x) = setP A s j x := by unfold setP; rw [zG0 hsA]
      rw [hset] at hO7
      refine zA4 ?_
      refine zA1 rfl ?_
      refine stp (zA2 rfl ?_)
      refine stp (zD8 rfl rfl ?_ ?_); constructor <;> omega
      refine stp (zA0 rfl ?_)
      refine zA4 ?_
      have hln := zG1 A s j x
      rw [show (Value.slice ado A.length co) = .slice ado (setP A s j x).length co from by rw [hln]] at hO7
      refine ⟨_, ?_, m + 4, ado, co, segs, setP A s j x, rfl, zE6 ⟨rfl, rfl, congrArg (Value.int .i64) (by omega), by rw [hln]; rfl, trivial⟩, by omega, by rw [hxE]; exact .put hA hsA hjA hd2.1 hd2.2 hd3.1 hd3.2, hO7, G⟩
      omega
  ·-- false
   simp only [sb] at hlt
   refine zF6 ?_
   refine zA6 (zA1 rfl ?_)
   refine stp (zA7 rfl ?_)
   refine stp (zB0 rfl ?_)
   refine zA4 ?_
   refine zC4 ?_
   refine ret1 (zB3 (v := .slice ado A.length co) rfl) ⟨ado, co, segs, A, rfl, hO, by rw [hB] at hA; exact hA, G⟩
end Go.Proofs.YtifhcfhdajkhlaaGreat.K

namespace Go.Proofs.YtifhcfhdajkhlaaGreat.K
open Go Go.RowKit Go.Proofs
attribute [local irreducible] Run1 OpG WL W AO Gives
set_option maxRecDepth 100000 in
theorem qG6 (w : World) {n cp : Nat} {ad : Option Addr} {xs : List Int} {at_ : Int} (R : RowAt w 1 ad n (xs.map (.int .u8))) (hn : n = xs.length) (hx : isU8 xs) (a0 : 0 ≤ at_) (a1 : at_ ≤ 255) : Calls Tryz.prog 8 #[.slice ad n cp, .int .u8 at_] w (Ret fun v w' => ∃ ad2 c2, v = .agg #[.slice ad2 (pathP xs).length c2, .int .i64 (at_ % 12 - 2)] ∧ RowAt w' 1 ad2 (pathP xs).length ((pathP xs).map (.int .i64)) ∧ Grow w w') := by
 have ll := R.lim
 have G := Grow.rfl' w
 refine zE3 Tryz.func8 Tryz.ntmps8 Tryz.results8 rfl rfl ?_
 refine zA6 (zA1 rfl ?_)
 refine stp (zD3 ?_)
 intro b1 w2 hb3 hc4 g5
 refine zA4 ?_
 refine zA6 (zA1 rfl ?_)
 refine stp (zA2 rfl ?_)
 refine stp (zJ5 rfl rfl ?_ ?_ ?_); omega; omega
 refine stp (zF8 rfl ?_ ?_); constructor <;> omega
 refine stp (zM0 rfl rfl ?_ ?_); constructor <;> omega
 refine stp (zD4 (v := .agg #[.slice none 0 0, .int .i64 ((at_ % 12) - 2)]) (fun w => by kernel_rfl) ?_)
 have hge6 := Nat.le_trans G.size hb3
 replace G := G.tr g5
 clear g5 hb3
 refine stp (zD3 ?_)
 intro b7 w8 hb9 hc10 g11
 refine stn (zB1 rfl rfl hc10 (by rfl) (by rfl) (by rfl) ?_)
 intro w12 hc13 u14
 have g15 := g11.upd u14 hb9
 have hge16 := Nat.le_trans G.size hb9
 have ne17 := Nat.ne_of_lt (Nat.lt_of_lt_of_le (zA9 hc4) hb9)
 replace hc4 := g15.heap hc4
 replace G := G.tr g15
 clear u14 g11 hb9 hc10
 refine zA4 ?_
 refine zA6 ?_
 refine zA6 (zA1 rfl ?_)
 refine stp (zA0 rfl ?_)
 refine zA4 ?_
 refine zC6 ?_
 refine zG6 (fun m_ e_ w_ => ∃ (k : Nat) (ad3 : Option Addr) (n3 : Nat) (c3 : Nat), m_ = 6 - k ∧ Fr [(0, .slice ad n cp), (4, .pointer (some ⟨b1, 0, none⟩)), (5, .pointer (some ⟨b7, 0, none⟩)), (6, .int .i64 (k : Int))] e_ ∧ (k ≤ 6 ∧ k ≤ xs.length) ∧ (w_.heap[b1]? = some (.cells #[.slice none 0 0, .int .i64 0] 29 (0, 0))) ∧ (w_.heap[b7]? = some (.cells #[.slice ad3 n3 c3, .int .i64 (at_ % 12 - 2)] 29 (0, 0))) ∧ (w_.ownsRow w.heap.size 3 1 (.slice ad3 n3 c3) k (((xs.take k).map (· % 6)).map (.int .i64))) ∧ Grow w w_) _ ⟨0, none, 0, 0, rfl, zE6 ⟨rfl, rfl, rfl, rfl, trivial⟩, by omega, hc4, hc13, World.ownsRow_nil _ _ _ _, G⟩ ?_
 clear hc4 hc13
 clear G
 rintro m_ e_ w18 ⟨k, ad3, n3, c3, rfl, ⟨e19, rfl⟩, hk, hc4, hc13, own, G⟩
 refine zA6 ?_
 refine zA6 (zA1 rfl ?_)
 refine stp (zA2 rfl ?_)
 refine stp (zA7 rfl ?_)
 refine stp (zE8 rfl rfl rfl ?_)
 refine stp (zF9 rfl rfl ?_)
 refine stp (zB9 rfl ?_)
 refine zA3 (zC2 (s := .bool (decide ((k : Int) < (n : Int)))) (b := true) (v := .int .i64 (k : Int)) rfl (zF2 _) (fun hc20 => ?_) ?_)
 ·
  have hc20_ := of_decide_eq_true hc20
  refine zA2 rfl ?_
  exact ⟨rfl, rfl⟩
 refine zA3 (zC2 (s := .bool (decide ((k : Int) < (n : Int)))) (b := true) (v := .bool (decide ((k : Int) < 6))) rfl (zF2 _) (fun hc21 => ?_) ?_)
 ·
  have hc21_ := of_decide_eq_true hc21
  refine zF9 (gvt hc21) rfl ?_
  exact ⟨rfl, rfl⟩
 refine stp (zJ2 rfl rfl rfl ?_)
 refine zA4 ?_
 refine zB8 (b := ((decide ((k : Int) < (n : Int))) && (decide ((k : Int) < 6)))) rfl (fun hlt => ?_) (fun hlt => ?_)
 ·-- true
  simp only [sb] at hlt
  obtain ⟨h1a, h1b⟩ := hlt
  have hu := zY1 hx k
  have hkx : k < xs.length := by omega
  refine zC3 ?_
  refine zA6 ?_
  refine zC6 ?_
  refine zJ4 9 [[], [0], [], [], [1, 0], [2, 1, 0], [3, 2, 1, 0], [4, 3, 2, 1, 0], [5, 4, 3, 2, 1, 0]] mixed (by kernel_rfl) (by kernel_rfl) (by kernel_rfl) ?_
  intro w22 g23
  replace hc4 := g23.heap hc4
  replace hc13 := g23.heap hc13
  replace own := zC8 own g23
  replace G := G.tr g23
  clear g23
  apply zB7
  ·intro w_ g_; refine og rfl ?_; refine zA5 rfl ?_; exact ⟨Grow.rfl' _, rfl⟩
  apply zB7
  ·intro w_ g_; refine og rfl ?_; refine zB5 (v := .slice ad3 n3 c3) rfl (g_.heap hc13) rfl ?_; exact ⟨Grow.rfl' _, rfl⟩
  apply zB7
  ·intro w_ g_; refine og rfl ?_; refine zA7 rfl ?_; exact ⟨Grow.rfl' _, rfl⟩
  apply zB7
  ·intro w_ g_; refine og rfl ?_; refine zA2 rfl ?_; exact ⟨Grow.rfl' _, rfl⟩
  apply zB7
  ·intro w_ g_; refine og rfl ?_; refine zD9 (R.grow (G.tr g_)) rfl rfl ?_ ?_; omega; exact ⟨Grow.rfl' _, rfl⟩
  apply zB7
  ·intro w_ g_; refine og rfl ?_; refine zD7 (v := .int .u8 (xs.getD k 0)) (m := 0) (R.grow (G.tr g_)) rfl (zE4 0 (by omega)) ?_; exact ⟨Grow.rfl' _, rfl⟩
  apply zB7
  ·intro w_ g_; refine og rfl ?_; refine zJ5 rfl rfl ?_ ?_ ?_; omega; omega; exact ⟨Grow.rfl' _, rfl⟩
  apply zB7
  ·intro w_ g_; refine og rfl ?_; refine zF8 rfl ?_ ?_; constructor <;> omega; exact ⟨Grow.rfl' _, rfl⟩
  refine zK2 (fun w_ v_ => Row w_ 1 v_ 1 [.int .i64 (xs.getD k 0 % 6)]) (fun _ _ _ g_ h_ => h_.grow g_) ?_ ?_
  ·intro w_ g_
   refine og rfl ?_
   refine zE5 (cs := #[.int .i64 (xs.getD k 0 % 6)]) (el := 3) (fun w => by kernel_rfl) ?_
   intro bs_ w2_ hb_ hc_ g2_
   exact ⟨g2_, Row.of_block (n := 1) hc_ rfl rfl (by omega)⟩
  refine zI5 ?_
  intro w24 g25
  replace hc4 := g25.heap hc4
  replace hc13 := g25.heap hc13
  replace own := zC8 own g25
  replace G := G.tr g25
  clear g25
  intro v_l hv_l
  refine stp (zG4 rfl rfl rfl rfl own hv_l (fun q_ hq_ => by simp at hq_; subst hq_; rfl) (by simp only [maxLen]; omega) (by omega) G.size ?_)
  intro v26 w27 own6 gr6
  replace G := G.grown gr6 (zI2 own)
  replace hc4 := zI3 gr6 hc4 (zE7 own hc4 (by decide))
  replace hc13 := zI3 gr6 hc13 (zE7 own hc13 (by decide))
  clear own gr6
  obtain ⟨ad4, n4, c4, rfl⟩ := zF3 own6
  refine stp (zA5 rfl ?_)
  refine stn (zE0 (v := .slice ad4 n4 c4) rfl rfl (by rfl) hc13 (by rfl) (by rfl) ?_)
  intro w28 hc29 u30
  replace hc4 := u30.heap hc4 ne17
  replace own6 := zF0 own6 u30 (zE7 own6 hc13 (by decide))
  replace G := G.upd u30 hge16
  clear u30 hc13
  refine zA4 ?_
  refine zA1 rfl ?_
  refine stp (zA2 rfl ?_)
  refine stp (zD8 rfl rfl ?_ ?_); constructor <;> omega
  refine stp (zA0 rfl ?_)
  refine zA4 ?_
  refine ⟨_, ?_, k + 1, ad4, n4, c4, rfl, zE6 ⟨rfl, rfl, rfl, congrArg (Value.int .i64) (by omega), trivial⟩, by omega, hc4, hc29, (by rw [List.take_add_one, List.getElem?_eq_getElem hkx, Option.toList_some, List.map_append, List.map_append]; rw [zG0 hkx] at own6; exact own6), G⟩
  omega
 ·-- false
  simp only [sb] at hlt
  have hk6 : k = min 6 xs.length := by omega
  have htk : xs.take k = xs.take 6 := by rw [hk6]; rcases Nat.le_total 6 xs.length with h_ | h_; (rw [Nat.min_eq_left h_]); (rw [Nat.min_eq_right h_, List.take_length, List.take_of_length_le h_])
  have hpl : (pathP xs).length = k := by simp only [pathP, List.length_map, List.length_take]; omega
  refine zF6 ?_
  refine zA6 (zA1 rfl ?_)
  refine stp (zB4 rfl hc13 (by rfl) ?_)
  refine stn (zB1 rfl rfl hc4 (by rfl) (by rfl) (by rfl) ?_)
  intro w31 hc32 u33
  replace hc13 := u33.heap hc13 ne17.symm
  replace own := zF0 own u33 (zE7 own hc4 (by decide))
  replace G := G.upd u33 hge6
  clear u33 hc4
  refine zA4 ?_
  refine zC4 ?_
  obtain ⟨ad9, c9, hs9, -, -, R9⟩ := zE2 own (by omega)
  simp only [Value.slice.injEq] at hs9
  obtain ⟨rfl, rfl, rfl⟩ := hs9
  rw [htk] at R9
  refine ret1 (zC9 rfl hc32 (by rfl)) ⟨_, _, by rw [hpl], by rw [hpl]; exact R9, G⟩
end Go.Proofs.YtifhcfhdajkhlaaGreat.K

namespace Go.Proofs.YtifhcfhdajkhlaaGreat.K
open Go Go.RowKit Go.Proofs
attribute [local irreducible] Run1 OpG WL W AO Gives
set_option maxRecDepth 100000 in
theorem zX1 (w : World)  : Gives Tryz.prog 6 #[] w (.bool true) := by
 have hr : rightB A16 = true := yE8
 have hx : AllU A16 := yE9
 have hfit : fitsL (sizesP A16) = true := by rw [zN4]; exact hr
 have hrz : ∀ x ∈ sizesP A16, inR .i64 x := zI7 hfit
 have hch : chunksM (sizesP A16) = 1 := by unfold chunksM; rw [qN8]
 have hal : A16.length = 1 := rfl
 have G := Grow.rfl' w
 refine zC7 Tryz.func6 Tryz.ntmps6 Tryz.results6 rfl rfl ?_
 refine zA6 (zA1 rfl ?_)
 refine stp (zA8 (v := .bool false) rfl ?_)
 refine zA4 ?_
 refine zA6 (zA1 rfl ?_)
 refine stp (zE5 (cs := #[.int .u64 0]) (el := 33) (fun w => by kernel_rfl) ?_)
 intro bs1 w2 hb3 hc4 g5
 have hge6 := Nat.le_trans G.size hb3
 replace G := G.tr g5
 clear g5
 refine stp (zE5 (cs := #[.slice (some ⟨bs1, 0, none⟩) 1 1]) (el := 67) (fun w => by kernel_rfl) ?_)
 intro bs7 w8 hb9 hc10 g11
 have hge12 := Nat.le_trans G.size hb9
 replace hc4 := g11.heap hc4
 replace G := G.tr g11
 clear g11
 refine zA3 (og rfl ?_)
 have hA0 : ArenaR w8 (.slice (some ⟨bs7, 0, none⟩) 1 1) A16 := yD0 hc10 (q := [0]) (Row.of_block (n := 1) hc4 rfl rfl (by decide))
 have hGo := G.size
 have hszl := (zG5 A16).symm
 refine zF1 rfl (qN3 _ hA0 hr hx (ses := 1) (by decide) (by decide)) ?_
 rintro v_ w13 ⟨adz, cz, hv_, hcz, oS_, g_⟩
 have oS := zI0 oS_ hGo
 clear oS_
 replace hc4 := g_.heap hc4
 replace hc10 := g_.heap hc10
 replace G := G.tr g_
 clear g_
 rw [hszl] at oS hcz
 rw [hszl] at hv_
 subst hv_
 refine stp (zB6 (v := .tuple #[.agg #[.int .u64 1, .slice adz ((sizesP A16).length) cz, .int .u32 (sumA 1 A16)], .int .i64 0]) rfl ?_)
 refine stp (zB2 (v := .agg #[.int .u64 1, .slice adz ((sizesP A16).length) cz, .int .u32 (sumA 1 A16)]) rfl rfl ?_)
 refine stp (zB2 (v := .int .i64 0) rfl rfl ?_)
 refine stp (zD3 ?_)
 intro b14 w15 hb16 hc17 g18
 refine stn (zB1 rfl rfl hc17 (by rfl) (by rfl) (by rfl) ?_)
 intro w19 hc20 u21
 have g22 := g18.upd u21 hb16
 have hge23 := Nat.le_trans G.size hb16
 have ne24 := Nat.ne_of_lt (Nat.lt_of_lt_of_le (zA9 hc4) hb16)
 have ne25 := Nat.ne_of_lt (Nat.lt_of_lt_of_le (zA9 hc10) hb16)
 replace hc4 := g22.heap hc4
 replace hc10 := g22.heap hc10
 replace oS := zC8 oS g22
 replace G := G.tr g22
 clear u21 g18 hb16 hc17
 refine stp (zA0 rfl ?_)
 refine zA4 ?_
 refine zA6 (zA1 rfl ?_)
 refine stp (zB4 rfl hc20 (by rfl) ?_)
 refine zA3 (og rfl ?_)
 obtain ⟨_, _, hs9, hcs, hcs2, RS⟩ := zE2 oS (by rw [zG5]; omega)
 cases hs9
 have hM := G.size
 refine zF1 rfl (zY7 _ RS hcs hcs2 hfit (ses := 1) (sum := sumA 1 A16)) ?_
 rintro v_ w26 ⟨b, g, h, rfl, HP, g_⟩
 have GM := g_
 have hB0 := hc20
 have RS0 := RS
 replace hc4 := g_.heap hc4
 replace hc10 := g_.heap hc10
 replace oS := zC8 oS g_
 replace G := G.tr g_
 clear g_
 refine stp (zB6 (v := .tuple #[.pointer (some ⟨b, 0, none⟩), .int .u16 0]) rfl ?_)
 refine stp (zB2 (v := .pointer (some ⟨b, 0, none⟩)) rfl rfl ?_)
 refine stp (zB2 (v := .int .u16 0) rfl rfl ?_)
 refine stp (zA8 (v := .pointer (some ⟨b, 0, none⟩)) rfl ?_)
 refine stp (zA0 rfl ?_)
 refine zA4 ?_
 refine zA6 (zA1 rfl ?_)
 refine stp (zB6 (v := .pointer (some ⟨b, 0, none⟩)) rfl ?_)
 refine stp (zD4 (v := .agg #[.slice none 0 0, .int .i64 0]) (fun w => by kernel_rfl) ?_)
 refine stp (zC0 (v := .tuple #[.agg #[.int .i64 0, .int .i64 0, .int .i64 0, .int .i64 0, .int .u64 0], .int .u16 30]) rfl (zH3 (zV0 _ (HP) (qM0 _ 1) (steps := []) (a := 0) (c := 0) (by simp) (by simp [inR])) (y := .tuple #[.agg #[.int .i64 0, .int .i64 0, .int .i64 0, .int .i64 0, .int .u64 0], .int .u16 30]) (by rw [yE5]; rfl)) ?_)
 intro w27 g28
 replace hc4 := g28.heap hc4
 replace hc10 := g28.heap hc10
 replace oS := zC8 oS g28
 replace GM := GM.tr g28
 replace HP := HP.grow g28
 replace G := G.tr g28
 clear g28
 refine stp (zB6 (v := .tuple #[.agg #[.int .i64 0, .int .i64 0, .int .i64 0, .int .i64 0, .int .u64 0], .int .u16 30]) rfl ?_)
 refine stp (zB2 (v := .agg #[.int .i64 0, .int .i64 0, .int .i64 0, .int .i64 0, .int .u64 0]) rfl rfl ?_)
 refine stp (zB2 (v := .int .u16 30) rfl rfl ?_)
 refine stp (zD3 ?_)
 intro b29 w30 hb31 hc32 g33
 refine stn (zB1 rfl rfl hc32 (by rfl) (by rfl) (by rfl) ?_)
 intro w34 hc35 u36
 have g37 := g33.upd u36 hb31
 have hge38 := Nat.le_trans G.size hb31
 have ne39 := Nat.ne_of_lt (Nat.lt_of_lt_of_le (zA9 hc4) hb31)
 have ne40 := Nat.ne_of_lt (Nat.lt_of_lt_of_le (zA9 hc10) hb31)
 replace hc4 := g37.heap hc4
 replace hc10 := g37.heap hc10
 replace oS := zC8 oS g37
 replace GM := GM.tr g37
 replace HP := HP.grow g37
 replace G := G.tr g37
 clear u36 g33 hb31 hc32
 refine stp (zA0 rfl ?_)
 refine zA4 ?_
 obtain ⟨_, hgw⟩ := HP.words
 have hgl := zA9 hgw
 have hgl2 := hgl
 refine zA6 (zA1 rfl ?_)
 refine stp (zB6 (v := .pointer (some ⟨b, 0, none⟩)) rfl ?_)
 refine stp (zY9 (n := 8) (base := w.heap.size) rfl rfl (by first | omega | (simp only [maxLen]; omega)) (by first | omega | (simp only [maxLen]; omega)) G.size ?_)
 intro bm44 w41 hb42 own45 g43
 rw [show (madeCells (Value.cells (.int .u8 0 : Value)) (8 * 1)).toList = List.replicate 8 (.int .u8 0) from by rw [Nat.mul_one]; exact toList_madeCells_one _ _] at own45
 replace hc4 := g43.heap hc4
 replace hc10 := g43.heap hc10
 replace oS := zC8 oS g43
 replace GM := GM.tr g43
 replace HP := HP.grow g43
 replace hc35 := g43.heap hc35
 replace G := G.tr g43
 clear g43
 refine zA3 (og rfl ?_)
 obtain ⟨_, _, hs9, -, -, R9⟩ := zE2 own45 (by decide)
 cases hs9
 rw [show List.replicate 8 (Value.int .u8 0) = (List.replicate 8 (0 : Int)).map (.int .u8) from rfl] at R9
 have hbs := HP.bases
 have hdis : 0 < (List.replicate 8 (0 : Int)).length → ∀ q_ o_, some (Addr.mk bm44 0 none) = some ⟨q_, o_, none⟩ → q_ ≠ g := fun _ q_ o_ he_ => by simp only [Option.some.injEq, Addr.mk.injEq] at he_; omega
 refine zF1 rfl (zY8 _ HP (xs := List.replicate 8 0) R9 (fun x_ hx_ => by rw [List.eq_of_mem_replicate hx_]; simp [inR]) (by decide) hdis (i := (0 : Int)) (by simp only [inR]; omega)) ?_
 rintro v_ w46 ⟨h2, rfl, HP2, K2, hh2⟩
 have hbg2 := HP.bases
 replace G := G.trK K2 (fun x_ hx_ => by simp only [List.mem_cons, List.not_mem_nil, or_false] at hx_; omega)
 clear K2
 rw [yE7]
 refine stp (zA8 (v := .bool true) rfl ?_)
 refine zA4 ?_
 refine zA6 (zA1 rfl ?_)
 refine stp (zB6 (v := .pointer (some ⟨b, 0, none⟩)) rfl ?_)
 refine stp (zD4 (v := .agg #[.slice none 0 0, .int .i64 0]) (fun w => by kernel_rfl) ?_)
 refine stp (zC0 (v := .tuple #[.agg #[.int .i64 0, .int .i64 0, .int .i64 0, .int .i64 0, .int .u64 0], .int .u16 0]) rfl (zH3 (zV0 _ (HP2) (qM0 _ 1) (steps := []) (a := 0) (c := 0) (by simp) (by simp [inR])) (y := .tuple #[.agg #[.int .i64 0, .int .i64 0, .int .i64 0, .int .i64 0, .int .u64 0], .int .u16 0]) (by rw [yE6]; rfl)) ?_)
 intro w47 g48
 replace HP2 := HP2.grow g48
 replace G := G.tr g48
 clear g48
 refine stp (zB6 (v := .tuple #[.agg #[.int .i64 0, .int .i64 0, .int .i64 0, .int .i64 0, .int .u64 0], .int .u16 0]) rfl ?_)
 refine stp (zB2 (v := .agg #[.int .i64 0, .int .i64 0, .int .i64 0, .int .i64 0, .int .u64 0]) rfl rfl ?_)
 refine stp (zB2 (v := .int .u16 0) rfl rfl ?_)
 refine stp (zD3 ?_)
 intro b49 w50 hb51 hc52 g53
 refine stn (zB1 rfl rfl hc52 (by rfl) (by rfl) (by rfl) ?_)
 intro w54 hc55 u56
 have g57 := g53.upd u56 hb51
 have hge58 := Nat.le_trans G.size hb51
 replace HP2 := HP2.grow g57
 replace G := G.tr g57
 clear u56 g53 hb51 hc52
 refine stp (zA0 rfl ?_)
 refine zA4 ?_
 refine zA6 (zA1 rfl ?_)
 refine stp (zA2 rfl ?_)
 refine stp (zG3 rfl rfl (by decide) ?_)
 refine stp (zB6 (v := .bool true) rfl ?_)
 refine stp (zA2 rfl ?_)
 refine stp (zG3 rfl rfl (by decide) ?_)
 refine stp (zG7 (v := .bool true) rfl rfl rfl ?_)
 refine stp (zB6 (v := .bool true) rfl ?_)
 refine stp (zB6 (v := .bool true) rfl ?_)
 refine stp (zG7 (v := .bool true) rfl rfl rfl ?_)
 refine stp (zB6 (v := .bool true) rfl ?_)
 refine stp (zA2 rfl ?_)
 refine stp (zG3 rfl rfl (by decide) ?_)
 refine stp (zG7 (v := .bool true) rfl rfl rfl ?_)
 refine stp (zB6 (v := .bool true) rfl ?_)
 refine stp (zB6 (v := .pointer (some ⟨b, 0, none⟩)) rfl ?_)
 refine stp (zC0 (v := .int .i64 8) rfl (zH3 (qA3 _ (HP2)) (y := .int .i64 8) (by rw [qN8]; rfl)) ?_)
 intro w59 g60
 replace HP2 := HP2.grow g60
 replace hc55 := g60.heap hc55
 replace G := G.tr g60
 clear g60
 refine stp (zG3 rfl rfl (by decide) ?_)
 refine stp (zG7 (v := .bool true) rfl rfl rfl ?_)
 refine stp (zA8 (v := .bool true) rfl ?_)
 refine zA4 ?_
 refine zC4 ?_
 refine ret1 (zB3 (v := .bool true) rfl) ⟨?_, G⟩
 rfl
end Go.Proofs.YtifhcfhdajkhlaaGreat.K

namespace Go.Proofs.YtifhcfhdajkhlaaGreat.K
open Go Go.RowKit Go.Proofs
attribute [local irreducible] Run1 OpG WL W AO Gives
set_option maxRecDepth 100000 in
theorem qE0 (w : World) {base b g h : Nat} {ses sum : Int} {sz wl kb : List Int} (H : PartR 86 3 33 5 w base b g h ses sum sz wl kb) : Calls Tryz.prog 56 #[.pointer (some ⟨b, 0, none⟩)] w (Ret fun v w' => ∃ ad c, v = .agg #[.int .u64 ses, .slice ad sz.length c, .int .u32 sum] ∧ RowAt w' 1 ad sz.length (sz.map (.int .i64)) ∧ Grow w w') := by
 have H0 := H
 obtain ⟨hfit, hlw, hlk, hub, huw, hb0, ads, cs, cw, ck, hB, oS, oW, oK⟩ := H
 have hle := zG9 sz
 have hwf := zF4 hfit
 have hch : chunksM sz = (wordsM sz + 7) / 8 := rfl
 have hf16 := zG2 hfit
 have hrz : ∀ x ∈ sz, inR .i64 x := zI7 hfit
 have G := Grow.rfl' w
 refine zE3 Tryz.func56 Tryz.ntmps56 Tryz.results56 rfl rfl ?_
 obtain ⟨gS, cS, curS, heS, -, -, -, -, -, -⟩ := zK1 oS (by omega)
 simp only [Value.slice.injEq] at heS
 obtain ⟨rfl, -, rfl⟩ := heS
 obtain ⟨_, _, hs9, hcs, hcs2, RS⟩ := zE2 oS (by omega)
 cases hs9
 obtain ⟨_, _, hs9, hcw, hcw2, RW⟩ := zE2 oW (by omega)
 cases hs9
 obtain ⟨_, _, hs9, hck, hck2, RK⟩ := zE2 oK (by omega)
 cases hs9
 refine zA6 (zA1 rfl ?_)
 refine stp (zD3 ?_)
 intro b1 w2 hb3 hc4 g5
 refine zA4 ?_
 refine zA6 ?_
 refine zA6 (zA1 rfl ?_)
 refine stp (zD6 rfl ?_)
 refine stp (qC3 Tryz.underlying31 rfl rfl ?_)
 refine zA4 ?_
 have hge6 := Nat.le_trans G.size hb3
 have ne7 := Nat.ne_of_lt (Nat.lt_of_lt_of_le (zA9 hB) hb3)
 replace hB := g5.heap hB
 replace G := G.tr g5
 clear g5 hb3
 refine zI8 rfl ?_
 refine zC3 ?_
 refine zA6 (zA1 rfl ?_)
 refine stp (zD6 rfl ?_)
 refine stp (zE1 rfl ?_)
 refine stp (zA5 rfl ?_)
 refine stp (zH8 rfl hB (by rfl) (by rfl) ?_)
 refine stp (zD3 ?_)
 intro b8 w9 hb10 hc11 g12
 refine stn (zB1 rfl rfl hc11 (by rfl) (by rfl) (by rfl) ?_)
 intro w13 hc14 u15
 have g16 := g12.upd u15 hb10
 have hge17 := Nat.le_trans G.size hb10
 have ne18 := Nat.ne_of_lt (Nat.lt_of_lt_of_le (zA9 hB) hb10)
 have ne19 := Nat.ne_of_lt (Nat.lt_of_lt_of_le (zA9 hc4) hb10)
 replace hB := g16.heap hB
 replace hc4 := g16.heap hc4
 replace G := G.tr g16
 clear u15 g12 hb10 hc11
 refine zA4 ?_
 refine zA6 (zA1 rfl ?_)
 refine stp (zA5 rfl ?_)
 refine stp (zB5 (v := .slice (some ⟨gS, 0, none⟩) sz.length cs) rfl hc14 rfl ?_)
 refine zA3 (og rfl ?_)
 have hG4 := G.size
 refine zF1 rfl (qA0 _ hcs hcs2 (RS.grow G) (fun q_ hq_ => by obtain ⟨z_, -, rfl⟩ := List.mem_map.1 hq_; rfl) (by omega)) ?_
 rintro vb w20 ⟨oZ, g_⟩
 replace hB := g_.heap hB
 replace hc4 := g_.heap hc4
 replace hc14 := g_.heap hc14
 replace G := G.tr g_
 clear g_
 obtain ⟨adz, cz, rfl, hcz⟩ := zL1 oZ
 refine stp (zA5 rfl ?_)
 refine stn (zE0 (v := .slice adz sz.length cz) rfl rfl (by rfl) hc14 (by rfl) (by rfl) ?_)
 intro w21 hc22 u23
 replace hB := u23.heap hB ne18
 replace hc4 := u23.heap hc4 ne19
 replace oZ := zF0 oZ u23 (zE7 oZ hc14 (by decide))
 replace G := G.upd u23 hge17
 clear u23 hc14
 refine zA4 ?_
 refine zA6 (zA1 rfl ?_)
 refine stp (zB4 rfl hc22 (by rfl) ?_)
 refine stn (zB1 rfl rfl hc4 (by rfl) (by rfl) (by rfl) ?_)
 intro w24 hc25 u26
 replace hB := u26.heap hB ne7
 replace oZ := zF0 oZ u26 (zE7 oZ hc4 (by decide))
 replace hc22 := u26.heap hc22 ne19.symm
 replace G := G.upd u26 hge6
 clear u26 hc4
 refine zA4 ?_
 refine zC4 ?_
 obtain ⟨_, _, hs9, -, -, RZ⟩ := zE2 oZ (by omega)
 cases hs9
 refine ret1 (zC9 rfl hc25 (by rfl)) ⟨adz, cz, rfl, RZ, G⟩

set_option maxRecDepth 100000 in
theorem yN2 (w : World) {ses sum : Int} {ad : Option Addr} {c : Nat} {sz : List Int} (R : RowAt w 1 ad sz.length (sz.map (.int .i64))) (hr : ∀ x ∈ sz, inR .i64 x) (hf : fitsL sz = false) : Gives Tryz.prog 13 #[.agg #[.int .u64 ses, .slice ad sz.length c, .int .u32 sum]] w (.tuple #[.pointer none, .int .u16 1]) := by
 have G := Grow.rfl' w
 refine zC7 Tryz.func13 Tryz.ntmps13 Tryz.results13 rfl rfl ?_
 refine zA6 (zA1 rfl ?_)
 refine zA3 (og rfl ?_)
 (first | refine zD0 rfl ?_ | refine zD2 rfl ?_ | refine zC5 rfl ?_ | refine zH0 rfl rfl ?_)
 intro b1 w2 hb3 hc4 g5
 have hge6 := Nat.le_trans G.size hb3
 replace G := G.tr g5
 clear g5 hb3
 refine stp (zA8 (v := .pointer none) rfl ?_)
 refine stp (zA0 rfl ?_)
 refine zA4 ?_
 refine zA6 ?_
 refine zA6 (zA1 rfl ?_)
 refine stp (zB4 rfl hc4 (by rfl) ?_)
 refine stp (zC0 (v := .bool false) rfl (zH3 (zS9 _ (R.grow G) hr) (y := .bool false) (by rw [hf])) ?_)
 intro w7 g8
 replace hc4 := g8.heap hc4
 replace G := G.tr g8
 clear g8
 refine stp (qB6 rfl rfl ?_)
 refine zA4 ?_
 refine zP2 rfl ?_
 refine zA6 (zA1 rfl ?_)
 refine stp (zA8 (v := .pointer none) rfl ?_)
 refine stp (zA0 rfl ?_)
 refine zA4 ?_
 refine zC4 ?_
 refine ret2 (zB3 (v := .pointer none) rfl) (zB3 (v := .int .u16 1) rfl) ⟨?_, G⟩
 rfl

set_option maxRecDepth 100000 in
theorem zQ4 (w : World) {base b g h : Nat} {ads adb adh : Option Addr} {cs cb ch : Nat} {ses sum : Int} {sz wl kb : List Int} (H : PartR 86 3 33 5 w base b g h ses sum sz wl kb) (Y : TR 3 5 4 w ads adb adh cs cb ch sz wl kb) {ad : Option Addr} {c : Nat} {steps : List Int} {a : Int} (R : RowAt w 1 ad steps.length (steps.map (.int .i64))) (hR : ∀ x ∈ steps, inR .i64 x) (ha : inR .i64 a) : Gives Tryz.prog 19 #[.pointer (some ⟨b, 0, none⟩), .agg #[.int .u64 ses, .slice ads sz.length cs, .int .u32 sum, .slice adb (8 * wl.length) cb, .slice adh (chunksM sz) ch], .agg #[.slice ad steps.length c, .int .i64 a]] w (.bool true) := by
 have hfit := Y.fit
 have hlw := Y.lw
 have hlk := Y.lk
 have hrz : ∀ x ∈ sz, inR .i64 x := zI7 hfit
 have hle := zG9 sz
 have hwf := zF4 hfit
 have hch : chunksM sz = (wordsM sz + 7) / 8 := rfl
 have hf16 := zG2 hfit
 have hcs := Y.hcs
 have hcb := Y.hcb
 have hcn := Y.hch
 have RS := Y.rs
 have RB := Y.rb
 have RH := Y.rh
 have hfl8 := zL3 wl
 have hub := Y.ub
 obtain ⟨RW, hRW⟩ : ∃ r, r = (walkS (srcP sz wl kb) steps a 8192) := ⟨_, rfl⟩
 have her := yJ8 sz wl kb steps a 8192
 rw [← hRW] at her
 have G := Grow.rfl' w
 refine zC7 Tryz.func19 Tryz.ntmps19 Tryz.results19 rfl rfl ?_
 refine zA6 (zA1 rfl ?_)
 refine zA3 (og rfl ?_)
 (first | refine zD0 rfl ?_ | refine zD2 rfl ?_ | refine zC5 rfl ?_ | refine zH0 rfl rfl ?_)
 intro b1 w2 hb3 hc4 g5
 have hge6 := Nat.le_trans G.size hb3
 replace G := G.tr g5
 clear g5 hb3
 refine zA3 (og rfl ?_)
 (first | refine zD0 rfl ?_ | refine zD2 rfl ?_ | refine zC5 rfl ?_ | refine zH0 rfl rfl ?_)
 intro b7 w8 hb9 hc10 g11
 have hge12 := Nat.le_trans G.size hb9
 replace hc4 := g11.heap hc4
 replace G := G.tr g11
 clear g11 hb9
 refine stp (zA8 (v := .bool false) rfl ?_)
 refine zA4 ?_
 refine zA6 (zA1 rfl ?_)
 refine stp (zB6 (v := .pointer (some ⟨b, 0, none⟩)) rfl ?_)
 refine stp (zB4 rfl hc10 (by rfl) ?_)
 refine stp (zC0 (v := .tuple #[.agg #[.int .i64 RW.1.kind, .int .i64 RW.1.size, .int .i64 RW.1.words, .int .i64 RW.1.kids, .int .u64 RW.1.word], .int .u16 RW.2]) rfl (zH3 (zV0 _ (H.grow G) (R.grow G) hR ha) (y := .tuple #[.agg #[.int .i64 RW.1.kind, .int .i64 RW.1.size, .int .i64 RW.1.words, .int .i64 RW.1.kids, .int .u64 RW.1.word], .int .u16 RW.2]) (by rw [← hRW])) ?_)
 intro w13 g14
 replace hc4 := g14.heap hc4
 replace hc10 := g14.heap hc10
 replace G := G.tr g14
 clear g14
 refine stp (zB6 (v := .tuple #[.agg #[.int .i64 RW.1.kind, .int .i64 RW.1.size, .int .i64 RW.1.words, .int .i64 RW.1.kids, .int .u64 RW.1.word], .int .u16 RW.2]) rfl ?_)
 refine stp (zB2 (v := .agg #[.int .i64 RW.1.kind, .int .i64 RW.1.size, .int .i64 RW.1.words, .int .i64 RW.1.kids, .int .u64 RW.1.word]) rfl rfl ?_)
 refine stp (zB2 (v := .int .u16 RW.2) rfl rfl ?_)
 refine stp (zD3 ?_)
 intro b15 w16 hb17 hc18 g19
 refine stn (zB1 rfl rfl hc18 (by rfl) (by rfl) (by rfl) ?_)
 intro w20 hc21 u22
 have g23 := g19.upd u22 hb17
 have hge24 := Nat.le_trans G.size hb17
 have ne25 := Nat.ne_of_lt (Nat.lt_of_lt_of_le (zA9 hc4) hb17)
 have ne26 := Nat.ne_of_lt (Nat.lt_of_lt_of_le (zA9 hc10) hb17)
 replace hc4 := g23.heap hc4
 replace hc10 := g23.heap hc10
 replace G := G.tr g23
 clear u22 g19 hb17 hc18
 refine stp (zA0 rfl ?_)
 refine zA4 ?_
 refine zA6 (zA1 rfl ?_)
 refine stp (zB4 rfl hc4 (by rfl) ?_)
 refine stp (zB4 rfl hc10 (by rfl) ?_)
 refine stp (zC0 (v := .tuple #[.agg #[.int .i64 RW.1.kind, .int .i64 RW.1.size, .int .i64 RW.1.words, .int .i64 RW.1.kids, .int .u64 RW.1.word], .int .i64 RW.2]) rfl (zH3 (qJ4 _ (Y.grow G) (R.grow G) ha) (y := .tuple #[.agg #[.int .i64 RW.1.kind, .int .i64 RW.1.size, .int .i64 RW.1.words, .int .i64 RW.1.kids, .int .u64 RW.1.word], .int .i64 RW.2]) (by rw [← hRW])) ?_)
 intro w27 g28
 replace hc4 := g28.heap hc4
 replace hc10 := g28.heap hc10
 replace hc21 := g28.heap hc21
 replace G := G.tr g28
 clear g28
 refine stp (zB6 (v := .tuple #[.agg #[.int .i64 RW.1.kind, .int .i64 RW.1.size, .int .i64 RW.1.words, .int .i64 RW.1.kids, .int .u64 RW.1.word], .int .i64 RW.2]) rfl ?_)
 refine stp (zB2 (v := .agg #[.int .i64 RW.1.kind, .int .i64 RW.1.size, .int .i64 RW.1.words, .int .i64 RW.1.kids, .int .u64 RW.1.word]) rfl rfl ?_)
 refine stp (zB2 (v := .int .i64 RW.2) rfl rfl ?_)
 refine stp (zD3 ?_)
 intro b29 w30 hb31 hc32 g33
 refine stn (zB1 rfl rfl hc32 (by rfl) (by rfl) (by rfl) ?_)
 intro w34 hc35 u36
 have g37 := g33.upd u36 hb31
 have hge38 := Nat.le_trans G.size hb31
 have ne39 := Nat.ne_of_lt (Nat.lt_of_lt_of_le (zA9 hc4) hb31)
 have ne40 := Nat.ne_of_lt (Nat.lt_of_lt_of_le (zA9 hc10) hb31)
 have ne41 := Nat.ne_of_lt (Nat.lt_of_lt_of_le (zA9 hc21) hb31)
 replace hc4 := g37.heap hc4
 replace hc10 := g37.heap hc10
 replace hc21 := g37.heap hc21
 replace G := G.tr g37
 clear u36 g33 hb31 hc32
 refine stp (zA0 rfl ?_)
 refine zA4 ?_
 refine zA6 (zA1 rfl ?_)
 refine stp (zB6 (v := .pointer (some ⟨b, 0, none⟩)) rfl ?_)
 refine zA3 (og rfl ?_)
 refine zF1 rfl (qO9 _ (H.grow G)) ?_
 rintro v_ w42 ⟨ad1, n1, c1, rfl, hy1, hn1, g_⟩
 replace hc4 := g_.heap hc4
 replace hc10 := g_.heap hc10
 replace hc21 := g_.heap hc21
 replace hc35 := g_.heap hc35
 replace G := G.tr g_
 clear g_
 have hB1 := qD9 hy1 hn1
 clear hy1 hn1
 refine stp (zB6 (v := .tuple #[.slice ad1 n1 c1, .bool (wholeB sz kb)]) rfl ?_)
 refine stp (zB2 (v := .slice ad1 n1 c1) rfl rfl ?_)
 refine stp (zB2 (v := .bool (wholeB sz kb)) rfl rfl ?_)
 refine stp (zB0 rfl ?_)
 refine stp (zC1 rfl ?_)
 refine zA4 ?_
 refine zA6 (zA1 rfl ?_)
 refine stp (zB4 rfl hc4 (by rfl) ?_)
 refine zA3 (og rfl ?_)
 refine zF1 rfl (qE3 _ (Y.grow G)) ?_
 rintro v_ w43 ⟨ad2, n2, c2, rfl, hy2, hn2, g_⟩
 replace hc4 := g_.heap hc4
 replace hc10 := g_.heap hc10
 replace hc21 := g_.heap hc21
 replace hc35 := g_.heap hc35
 replace hB1 := hB1.grow g_
 replace G := G.tr g_
 clear g_
 have hB2 := qD9 hy2 hn2
 clear hy2 hn2
 refine stp (zB6 (v := .tuple #[.slice ad2 n2 c2, .bool (wholeB sz kb)]) rfl ?_)
 refine stp (zB2 (v := .slice ad2 n2 c2) rfl rfl ?_)
 refine stp (zB2 (v := .bool (wholeB sz kb)) rfl rfl ?_)
 refine stp (zB0 rfl ?_)
 refine stp (zC1 rfl ?_)
 refine zA4 ?_
 refine zA6 ?_
 refine zJ4 44 [[], [], [1, 0], [2, 1, 0], [3, 2, 1, 0], [4, 3, 2, 1, 0], [5, 4, 3, 2], [6, 5, 4, 3, 2, 1, 0], [7, 6, 5, 4, 3, 2, 1, 0], [8, 7, 6, 5, 4, 3, 2, 1, 0], [9, 8, 7, 6, 5, 4, 3, 2, 1, 0], [10, 9, 8, 7, 6, 5, 4, 3, 2, 1], [11, 10, 9, 8, 7, 6, 5, 4, 3, 2, 1, 0], [12, 11, 10, 9, 8, 7, 6, 5, 4, 3, 2, 1, 0], [13, 12, 11, 10, 9, 8, 7, 6, 5, 4, 3, 2, 1, 0], [14, 13, 12, 11, 10, 9, 8, 7, 6, 5, 4, 3, 2, 1, 0], [15, 14, 13, 12, 11, 10, 9, 8, 7, 6, 5, 4, 3, 2, 1], [16, 15, 14, 13, 12, 11, 10, 9, 8, 7, 6, 5, 4, 3, 2, 1, 0], [17, 16, 15, 14, 13, 12, 11, 10, 9, 8, 7, 6, 5, 4, 3, 2, 1, 0], [18, 17, 16, 15, 14, 13, 12, 11, 10, 9, 8, 7, 6, 5, 4, 3, 2, 1, 0], [19, 18, 17, 16, 15, 14, 13, 12, 11, 10, 9, 8, 7, 6, 5, 4, 3, 2, 1, 0], [20, 19, 18, 17, 16, 15, 14, 13, 12, 11, 10, 9, 8, 7, 6, 5, 4, 3, 2, 1, 0], [21, 20, 19, 18, 17, 16, 15, 14, 13, 12, 11, 10, 9, 8, 7, 6, 5, 4, 3, 2, 1, 0], [22, 21, 20, 19, 18, 17, 16, 15, 14, 13, 12, 11, 10, 9, 8, 7, 6, 5, 4, 3], [23, 22, 21, 20, 19, 18, 17, 16, 15, 14, 13, 12, 11, 10, 9, 8, 7, 6, 5, 4, 3, 2, 0], [24, 23, 22, 21, 20, 19, 18, 17, 16, 15, 14, 13, 12, 11, 10, 9, 8, 7, 6, 5, 4, 3, 1, 0], [25, 24, 23, 22, 21, 20, 19, 18, 17, 16, 15, 14, 13, 12, 11, 10, 9, 8, 7, 6, 5, 4, 3, 2, 1, 0], [26, 25, 24, 23, 22, 21, 20, 19, 18, 17, 16, 15, 14, 13, 12, 11, 10, 9, 8, 7, 6, 5, 4, 3, 2, 1, 0], [27, 26, 25, 24, 23, 22, 21, 20, 19, 18, 17, 16, 15, 14, 13, 12, 11, 10, 9, 8, 7, 6, 5, 4, 3, 2, 1, 0], [28, 27, 26, 25, 24, 23, 22, 21, 20, 19, 18, 17, 16, 15, 14, 13, 12, 11, 10, 9, 8, 7, 6, 5, 4, 3, 2, 1, 0], [29, 28, 27, 26, 25, 24, 23, 22, 21, 20, 19, 18, 17, 16, 15, 14, 13, 12, 11, 10, 9, 8, 7, 6, 5, 4, 3, 2, 1, 0], [30, 29, 28, 27, 26, 25, 24, 23, 22, 21, 20, 19, 18, 17, 16, 15, 14, 13, 12, 11, 10, 9, 8, 7, 6, 5, 4, 3, 2], [31, 30, 29, 28, 27, 26, 25, 24, 23, 22, 21, 20, 19, 18, 17, 16, 15, 14, 13, 12, 11, 10, 9, 8, 7, 6, 5, 4, 3, 0], [32, 31, 30, 29, 28, 27, 26, 25, 24, 23, 22, 21, 20, 19, 18, 17, 16, 15, 14, 13, 12, 11, 10, 9, 8, 7, 6, 5, 4, 3, 2, 1, 0], [33, 32, 31, 30, 29, 28, 27, 26, 25, 24, 23, 22, 21, 20, 19, 18, 17, 16, 15, 14, 13, 12, 11, 10, 9, 8, 7, 6, 5, 4, 3, 2, 1, 0], [34, 33, 32, 31, 30, 29, 28, 27, 26, 25, 24, 23, 22, 21, 20, 19, 18, 17, 16, 15, 14, 13, 12, 11, 10, 9, 8, 7, 6, 5, 4, 3, 2, 1, 0], [35, 34, 33, 32, 31, 30, 29, 28, 27, 26, 25, 24, 23, 22, 21, 20, 19, 18, 17, 16, 15, 14, 13, 12, 11, 10, 9, 8, 7, 6, 5, 4, 3, 2, 1, 0], [36, 35, 34, 33, 32, 31, 30, 29, 28, 27, 26, 25, 24, 23, 22, 21, 20, 19, 18, 17, 16, 15, 14, 13, 12, 11, 10, 9, 8, 7, 6, 5, 4, 3, 2, 1, 0], [37, 36, 35, 34, 33, 32, 31, 30, 29, 28, 27, 26, 25, 24, 23, 22, 21, 20, 19, 18, 17, 16, 15, 14, 13, 12, 11, 10, 9, 8, 7, 6, 5, 4, 3, 2], [38, 37, 36, 35, 34, 33, 32, 31, 30, 29, 28, 27, 26, 25, 24, 23, 22, 21, 20, 19, 18, 17, 16, 15, 14, 13, 12, 11, 10, 9, 8, 7, 6, 5, 4, 3, 0], [39, 38, 37, 36, 35, 34, 33, 32, 31, 30, 29, 28, 27, 26, 25, 24, 23, 22, 21, 20, 19, 18, 17, 16, 15, 14, 13, 12, 11, 10, 9, 8, 7, 6, 5, 4, 1, 0], [40, 39, 38, 37, 36, 35, 34, 33, 32, 31, 30, 29, 28, 27, 26, 25, 24, 23, 22, 21, 20, 19, 18, 17, 16, 15, 14, 13, 12, 11, 10, 9, 8, 7, 6, 5, 4, 3, 2, 1, 0], [41, 40, 39, 38, 37, 36, 35, 34, 33, 32, 31, 30, 29, 28, 27, 26, 25, 24, 23, 22, 21, 20, 19, 18, 17, 16, 15, 14, 13, 12, 11, 10, 9, 8, 7, 6, 5, 4, 3, 2, 1, 0], [42, 41, 40, 39, 38, 37, 36, 35, 34, 33, 32, 31, 30, 29, 28, 27, 26, 25, 24, 23, 22, 21, 20, 19, 18, 17, 16, 15, 14, 13, 12, 11, 10, 9, 8, 7, 6, 5, 4, 3, 2, 1, 0]] mixed (by kernel_rfl) (by kernel_rfl) (by kernel_rfl) ?_
 intro w44 g45
 replace hc4 := g45.heap hc4
 replace hc10 := g45.heap hc10
 replace hc21 := g45.heap hc21
 replace hc35 := g45.heap hc35
 replace hB1 := hB1.grow g45
 replace hB2 := hB2.grow g45
 replace G := G.tr g45
 clear g45
 apply zB7
 ·intro w_ g_; refine og rfl ?_; refine zB4 rfl (g_.heap hc21) (by rfl) ?_; exact ⟨Grow.rfl' _, rfl⟩
 apply zB7
 ·intro w_ g_; refine og rfl ?_; refine zB4 rfl (g_.heap hc35) (by rfl) ?_; exact ⟨Grow.rfl' _, rfl⟩
 apply zB7
 ·intro w_ g_; refine og rfl ?_; refine r_eqlS' (r' := true) rfl rfl (by rfl) (by simp) ?_; exact ⟨Grow.rfl' _, rfl⟩
 apply zB7
 ·intro w_ g_; refine og rfl ?_; refine zB6 (v := .bool true) rfl ?_; exact ⟨Grow.rfl' _, rfl⟩
 apply zB7
 ·intro w_ g_; refine og rfl ?_; refine zA2 rfl ?_; exact ⟨Grow.rfl' _, rfl⟩
 apply zB7
 ·intro w_ g_; refine og rfl ?_; refine zF8 rfl ?_ ?_; constructor <;> omega; exact ⟨Grow.rfl' _, rfl⟩
 apply zB7
 ·intro w_ g_; refine og rfl ?_; refine zA2 rfl ?_; exact ⟨Grow.rfl' _, rfl⟩
 apply zB7
 ·intro w_ g_; refine og rfl ?_; refine zG3 rfl rfl (rfl) ?_; exact ⟨Grow.rfl' _, rfl⟩
 apply zB7
 ·intro w_ g_; refine og rfl ?_; refine zG7 (v := .bool true) rfl rfl rfl ?_; exact ⟨Grow.rfl' _, rfl⟩
 apply zB7
 ·intro w_ g_; refine og rfl ?_; refine zB6 (v := .bool true) rfl ?_; exact ⟨Grow.rfl' _, rfl⟩
 apply zB7
 ·intro w_ g_; refine og rfl ?_; refine zB9 rfl ?_; exact ⟨Grow.rfl' _, rfl⟩
 apply zB7
 ·intro w_ g_; refine og rfl ?_; refine zB9 rfl ?_; exact ⟨Grow.rfl' _, rfl⟩
 apply zB7
 ·intro w_ g_; refine og rfl ?_; refine r_beq' (r := true) rfl rfl (by simp) ?_; exact ⟨Grow.rfl' _, rfl⟩
 apply zB7
 ·intro w_ g_; refine og rfl ?_; refine zG7 (v := .bool true) rfl rfl rfl ?_; exact ⟨Grow.rfl' _, rfl⟩
 apply zB7
 ·intro w_ g_; refine og rfl ?_; refine zB6 (v := .bool true) rfl ?_; exact ⟨Grow.rfl' _, rfl⟩
 apply zB7
 ·intro w_ g_; refine og rfl ?_; refine zA7 rfl ?_; exact ⟨Grow.rfl' _, rfl⟩
 apply zB7
 ·intro w_ g_; refine og rfl ?_; refine zA7 rfl ?_; exact ⟨Grow.rfl' _, rfl⟩
 apply zB7
 ·intro w_ g_; refine og rfl ?_; exact zC0 (v := .bool true) rfl (zH3 (qS5 _ (hB1.grow g_) (hB2.grow g_)) (y := .bool true) (by rw [decide_eq_true rfl])) (fun w2_ g2_ => ⟨g2_, rfl⟩)
 apply zB7
 ·intro w_ g_; refine og rfl ?_; refine zG7 (v := .bool true) rfl rfl rfl ?_; exact ⟨Grow.rfl' _, rfl⟩
 apply zB7
 ·intro w_ g_; refine og rfl ?_; refine zB6 (v := .bool true) rfl ?_; exact ⟨Grow.rfl' _, rfl⟩
 apply zB7
 ·intro w_ g_; refine og rfl ?_; refine zB6 (v := .pointer (some ⟨b, 0, none⟩)) rfl ?_; exact ⟨Grow.rfl' _, rfl⟩
 refine zK2 (fun w_ v_ => Row w_ 1 v_ kb.length (kb.map (.int .u8))) (fun _ _ _ g_ h_ => h_.grow g_) ?_ ?_
 ·intro w_ g_
  refine og rfl ?_
  refine zF1 rfl (qO8 _ (H.grow (G.tr g_))) ?_
  rintro v9_ w9_ ⟨q_, c_, rfl, hq_, hc_, hcm_, ho_, g9_⟩
  exact ⟨g9_, zE2 ho_ (by omega)⟩
 apply zB7
 ·intro w_ g_; intro v21_ hv21_; show OpG _ _ _ _ _ _; refine og rfl ?_; obtain ⟨ad_, c_, rfl, -, -, R_⟩ := hv21_; refine qG5 (xs := kb) R_ rfl ?_; exact ⟨Grow.rfl' _, rfl⟩
 apply zB7
 ·intro w_ g_; refine og rfl ?_; refine zB4 rfl (g_.heap hc4) (by rfl) ?_; exact ⟨Grow.rfl' _, rfl⟩
 refine zK2 (fun w_ v_ => Row w_ 1 v_ kb.length (kb.map (.int .u8))) (fun _ _ _ g_ h_ => h_.grow g_) ?_ ?_
 ·intro w_ g_
  intro v21_ hv21_; show OpG _ _ _ _ _ _
  refine og rfl ?_
  refine zF1 rfl (zU1 _ (Y.grow (G.tr g_))) ?_
  rintro v9_ w9_ ⟨hR_, g9_⟩
  exact ⟨g9_, hR_⟩
 apply zB7
 ·intro w_ g_; intro v21_ hv21_; intro v24_ hv24_; show OpG _ _ _ _ _ _; refine og rfl ?_; obtain ⟨ad_, c_, rfl, -, -, R_⟩ := hv24_; refine qG5 (xs := kb) R_ rfl ?_; exact ⟨Grow.rfl' _, rfl⟩
 apply zB7
 ·intro w_ g_; intro v21_ hv21_; intro v24_ hv24_; show OpG _ _ _ _ _ _; refine og rfl ?_; refine yK5 rfl rfl ?_; rw [yK6 hub hub, decide_eq_true rfl]; exact ⟨Grow.rfl' _, rfl⟩
 apply zB7
 ·intro w_ g_; intro v21_ hv21_; intro v24_ hv24_; show OpG _ _ _ _ _ _; refine og rfl ?_; refine zG7 (v := .bool true) rfl rfl rfl ?_; exact ⟨Grow.rfl' _, rfl⟩
 apply zB7
 ·intro w_ g_; intro v21_ hv21_; intro v24_ hv24_; show OpG _ _ _ _ _ _; refine og rfl ?_; refine zB6 (v := .bool true) rfl ?_; exact ⟨Grow.rfl' _, rfl⟩
 apply zB7
 ·intro w_ g_; intro v21_ hv21_; intro v24_ hv24_; show OpG _ _ _ _ _ _; refine og rfl ?_; refine zB6 (v := .pointer (some ⟨b, 0, none⟩)) rfl ?_; exact ⟨Grow.rfl' _, rfl⟩
 refine zK2 (fun w_ v_ => ∃ ad c, v_ = .agg #[.int .u64 ses, .slice ad sz.length c, .int .u32 sum] ∧ RowAt w_ 1 ad sz.length (sz.map (.int .i64))) (fun _ _ _ g_ ⟨ad, c, h1_, h2_⟩ => ⟨ad, c, h1_, h2_.grow g_⟩) ?_ ?_
 ·intro w_ g_
  intro v21_ hv21_; intro v24_ hv24_; show OpG _ _ _ _ _ _
  refine og rfl ?_
  refine zF1 rfl (qE0 _ (H.grow (G.tr g_))) ?_
  rintro v9_ w9_ ⟨ad_, c_, rfl, R_, g9_⟩
  exact ⟨g9_, ad_, c_, rfl, R_⟩
 apply zB7
 ·intro w_ g_; intro v21_ hv21_; intro v24_ hv24_; show OpG _ _ _ _ _ _; refine og rfl ?_; refine zA5 rfl ?_; exact ⟨Grow.rfl' _, rfl⟩
 apply zB7
 ·intro w_ g_; intro v21_ hv21_; intro v24_ hv24_; show OpG _ _ _ _ _ _; refine og rfl ?_; refine zH8 rfl (g_.heap hc4) (by rfl) (by rfl) ?_; exact ⟨Grow.rfl' _, rfl⟩
 apply zB7
 ·intro w_ g_; intro v21_ hv21_; intro v24_ hv24_; intro v30_ hv30_; show OpG _ _ _ _ _ _; refine og rfl ?_; obtain ⟨ad_, c_, rfl, R_⟩ := hv30_; exact zC0 (v := .bool true) rfl (qP0 _ R_ (RS.grow (G.tr g_))) (fun w2_ g2_ => ⟨g2_, rfl⟩)
 apply zB7
 ·intro w_ g_; intro v21_ hv21_; intro v24_ hv24_; intro v30_ hv30_; show OpG _ _ _ _ _ _; refine og rfl ?_; refine zG7 (v := .bool true) rfl rfl rfl ?_; exact ⟨Grow.rfl' _, rfl⟩
 apply zB7
 ·intro w_ g_; intro v21_ hv21_; intro v24_ hv24_; intro v30_ hv30_; show OpG _ _ _ _ _ _; refine og rfl ?_; refine zB6 (v := .bool true) rfl ?_; exact ⟨Grow.rfl' _, rfl⟩
 apply zB7
 ·intro w_ g_; intro v21_ hv21_; intro v24_ hv24_; intro v30_ hv30_; show OpG _ _ _ _ _ _; refine og rfl ?_; refine zB6 (v := .pointer (some ⟨b, 0, none⟩)) rfl ?_; exact ⟨Grow.rfl' _, rfl⟩
 apply zB7
 ·intro w_ g_; intro v21_ hv21_; intro v24_ hv24_; intro v30_ hv30_; show OpG _ _ _ _ _ _; refine og rfl ?_; exact zC0 (v := .int .i64 (8 * (wordsM sz : Int))) rfl (qA3 _ (H.grow (G.tr g_))) (fun w2_ g2_ => ⟨g2_, rfl⟩)
 apply zB7
 ·intro w_ g_; intro v21_ hv21_; intro v24_ hv24_; intro v30_ hv30_; show OpG _ _ _ _ _ _; refine og rfl ?_; refine zA5 rfl ?_; exact ⟨Grow.rfl' _, rfl⟩
 apply zB7
 ·intro w_ g_; intro v21_ hv21_; intro v24_ hv24_; intro v30_ hv30_; show OpG _ _ _ _ _ _; refine og rfl ?_; refine zB5 (v := .slice adb (8 * wl.length) cb) rfl (g_.heap hc4) rfl ?_; exact ⟨Grow.rfl' _, rfl⟩
 apply zB7
 ·intro w_ g_; intro v21_ hv21_; intro v24_ hv24_; intro v30_ hv30_; show OpG _ _ _ _ _ _; refine og rfl ?_; refine zE8 rfl rfl rfl ?_; exact ⟨Grow.rfl' _, rfl⟩
 apply zB7
 ·intro w_ g_; intro v21_ hv21_; intro v24_ hv24_; intro v30_ hv30_; show OpG _ _ _ _ _ _; refine og rfl ?_; refine zG3 rfl rfl (by omega) ?_; exact ⟨Grow.rfl' _, rfl⟩
 apply zB7
 ·intro w_ g_; intro v21_ hv21_; intro v24_ hv24_; intro v30_ hv30_; show OpG _ _ _ _ _ _; refine og rfl ?_; refine zG7 (v := .bool true) rfl rfl rfl ?_; exact ⟨Grow.rfl' _, rfl⟩
 apply zB7
 ·intro w_ g_; intro v21_ hv21_; intro v24_ hv24_; intro v30_ hv30_; show OpG _ _ _ _ _ _; refine og rfl ?_; refine zA8 (v := .bool true) rfl ?_; exact ⟨Grow.rfl' _, rfl⟩
 refine zI5 ?_
 intro w46 g47
 replace hc4 := g47.heap hc4
 replace hc10 := g47.heap hc10
 replace hc21 := g47.heap hc21
 replace hc35 := g47.heap hc35
 replace hB1 := hB1.grow g47
 replace hB2 := hB2.grow g47
 replace G := G.tr g47
 clear g47
 intro v_k1 hv_k1
 intro v_k2 hv_k2
 intro v_m hv_m
 refine zA4 ?_
 refine zC4 ?_
 refine ret1 (zB3 (v := .bool true) rfl) ⟨?_, G⟩
 rfl
end Go.Proofs.YtifhcfhdajkhlaaGreat.K

namespace Go.Proofs.YtifhcfhdajkhlaaGreat.K
open Go Go.RowKit Go.Proofs
attribute [local irreducible] Run1 OpG WL W AO Gives
theorem yK7 (w : World) {ses sum : Int} {ad : Option Addr} {c : Nat} {sz : List Int} (R : RowAt w 1 ad sz.length (sz.map (.int .i64))) (hr : ∀ x ∈ sz, inR .i64 x) (hc : sz.length ≤ c) (hc2 : c ≤ maxLen) : Calls Tryz.prog 13 #[.agg #[.int .u64 ses, .slice ad sz.length c, .int .u32 sum]] w (Ret fun v w' => ∃ p, v = .tuple #[p, .int .u16 (if fitsL sz then 0 else 1)] ∧ Grow w w') := by
  cases hf : fitsL sz with
  | false =>
    have h := yN2 w (ses := ses) (sum := sum) (c := c) R hr hf
    unfold Gives at h
    exact Calls.mono h fun e w' ⟨v, he, hv, g⟩ => ⟨v, he, _, hv, g⟩
  | true => exact Calls.mono (zY7 w (ses := ses) (sum := sum) R hc hc2 hf) fun e w' ⟨v, he, b, g, h, hv, _, gr⟩ => ⟨v, he, _, hv, gr⟩
theorem qZ8 (w : World) {ses sum : Int} {ad : Option Addr} {c : Nat} {sz : List Int} (R : RowAt w 1 ad sz.length (sz.map (.int .i64))) (hr : ∀ x ∈ sz, inR .i64 x) : Calls Tryz.prog 14 #[.agg #[.int .u64 ses, .slice ad sz.length c, .int .u32 sum]] w (Ret fun v w' => ∃ x0 y1 n1 c1 x2 y3 n3 c3 y4 n4 c4, v = .tuple #[.agg #[.int .u64 x0, .slice y1 n1 c1, .int .u32 x2, .slice y3 n3 c3, .slice y4 n4 c4], .int .i64 (if fitsL sz then 0 else 1)] ∧ Grow w w') := by
  cases hf : fitsL sz with
  | false =>
    have h := yF8 w (ses := ses) (sum := sum) (c := c) R hr hf
    unfold Gives at h
    exact Calls.mono h fun e w' ⟨v, he, hv, g⟩ => ⟨v, he, _, _, _, _, _, _, _, _, _, _, _, hv, g⟩
  | true => exact Calls.mono (qS4 w (ses := ses) (sum := sum) (c := c) R hf) fun e w' ⟨v, he, b5, b7, hv, gr⟩ => ⟨v, he, _, _, _, _, _, _, _, _, _, _, _, hv, gr⟩
end Go.Proofs.YtifhcfhdajkhlaaGreat.K

