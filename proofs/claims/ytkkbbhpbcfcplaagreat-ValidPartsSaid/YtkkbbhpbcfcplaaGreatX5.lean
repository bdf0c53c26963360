/- Plain laws, rules and walks of this claim's functions, laid together. -/
import Derived.Test.YtkkbbhpbcfcplaaGreatX4
import Derived.WalkKit
import Derived.ProofKit
import Derived.OpenShut
import Derived.ChangeOld
import Derived.Carry
import Derived.SizedLaws
set_option linter.unusedVariables false
set_option linter.unusedSimpArgs false
set_option maxRecDepth 100000
namespace Go.Proofs.YtkkbbhpbcfcplaaGreat.K
open Go Go.RowKit Go.Proofs
attribute [local irreducible] Run1 OpG WL W AO zB6
theorem yG7 (w : World) {n cp : Nat} {ad : Option Addr} {xs : List Int} (R : RowAt w 1 ad n (xs.map (.int .u8))) (hn : n = xs.length) (hx : isU8 xs) (hcp : n ≤ cp) (hcp2 : cp ≤ maxLen) {j k : Int} (j0 : 0 ≤ j) (j1 : j ≤ 255) (k0 : 0 ≤ k) (k1 : k ≤ 255) : zB6 Tryz.prog 5 #[.slice ad n cp, .int .u8 j, .int .u8 k] w (.bool true) := by
 have hr0 := zX3 5 xs 5 (Nat.le_refl _) hx
 have hnd := qH0 5 xs hx
 have G := Grow.rfl' w
 refine zA7 Tryz.func5 Tryz.ntmps5 Tryz.results5 rfl rfl ?_
 refine qZ 9 ?_
 refine stp (zQ5 rfl rfl ?_)
 refine zA6 ?_
 refine zA2 (b := (decide ((n : Int) > 100))) rfl (fun h1 => ?_) (fun h1 => ?_)
 ·
  replace h1 := qT h1
  refine qZ 2 ?_
  refine stp (zA4 (v := .bool true) rfl (zO0 _) ?_)
  intro w1 g2
  replace G := G.tr g2
  clear g2
  refine qZ 3 ?_
  refine ret1 (zA1 (v := .bool true) rfl) ⟨?_, G⟩
  rfl
 ·
  replace h1 := qF h1
  have hnd2 : (zD7 5 xs).1.needs ≤ 700 := by omega
  refine qZ 4 ?_
  refine stp ?_
  refine zD2 rfl (yF2 _ _ R G hn hx hcp hcp2 (d := 5) (by decide) (Nat.le_refl _)) ?_
  rintro v_ w3 ⟨cells_, ad9, n9, c9, rfl, hT_, -, -, -, -, g_⟩
  have hT := hT_.sees (Sees.seen _ _)
  clear hT_
  replace G := G.tr g_
  clear g_
  obtain ⟨x0, x1, xa, xn, xc, pa, pn, pc, qa, qn, qc, rfl⟩ := hT.cells
  refine qZ 3 ?_
  refine stp (zA8 ?_)
  intro b4 w5 hb6 hc7 g8
  refine stn (qS hc7 ?_)
  intro w9 hc10 u11
  have g12 := g8.upd u11 hb6
  have hge13 := Nat.le_trans G.size hb6
  replace hT := hT.grow g12
  replace G := G.tr g12
  clear u11 g8 hb6 hc7
  refine qZ 3 ?_
  have hsG := G.size
  refine jA3 [[], [], [1], [0, 2], [], [3, 4]] (fun e L E W => Grow w9 W ∧ E.ms = e.ms ∧ E.ro = e.ro ∧ (∀ u, [25, 26, 27, 28, 9].elem u = false → E u = e u) ∧ (L 0 → ∃ b0 cs, E 25 = .slice (some ⟨b0, 0, none⟩) 100 100 ∧ W.heap[b0]? = some (.cells cs 23 (0, 0)) ∧ RowAt W 1 (some ⟨b0, 0, none⟩) 100 (List.replicate 100 (.int .u64 0))) ∧ (L 1 → E 26 = .agg #[.int .i64 x0, .int .i64 x1, .slice xa xn xc, .slice pa pn pc, .slice qa qn qc]) ∧ (L 2 → ∃ b2, E 27 = .slice (some ⟨b2, 0, none⟩) 1 1 ∧ W.heap[b2]? = some (.cells #[.int .i64 x0, .int .i64 x1, .slice xa xn xc, .slice pa pn pc, .slice qa qn qc] 48 (0, 0))) ∧ (L 3 → L 0 ∧ L 2 ∧ ∀ a c, E 25 = .slice (some ⟨a, 0, none⟩) 100 100 → E 27 = .slice (some ⟨c, 0, none⟩) 1 1 → E 28 = .agg #[.int .i64 1, .int .i64 0, .slice (some ⟨a, 0, none⟩) 100 100, .slice none 0 0, .slice (some ⟨c, 0, none⟩) 1 1]) ∧ (L 4 → ∃ b, E 9 = .pointer (some ⟨b, 0, none⟩) ∧ w9.heap.size ≤ b ∧ ∃ cs : Array Value, W.heap[b]? = some (.cells cs 48 (0, 0)) ∧ cs.size = 5 ∧ (L 2 → E 27 ≠ .slice (some ⟨b, 0, none⟩) 1 1) ∧ (L 5 → ∀ a c, E 25 = .slice (some ⟨a, 0, none⟩) 100 100 → E 27 = .slice (some ⟨c, 0, none⟩) 1 1 → cs = #[.int .i64 1, .int .i64 0, .slice (some ⟨a, 0, none⟩) 100 100, .slice none 0 0, .slice (some ⟨c, 0, none⟩) 1 1])) ∧ (L 5 → L 3 ∧ L 4)) mixed (by kernel_rfl) (by kernel_rfl) (by kernel_rfl) (fun w_ g_ => ⟨g_, rfl, rfl, fun _ _ => rfl, False.elim, False.elim, False.elim, False.elim, False.elim, False.elim⟩) ⟨?_, ?_, ?_, ?_, ?_, ?_, trivial⟩ ?_
  ·rintro L E w_ hk hn ⟨hg, hms, hro, hoff, h0, h1, h2, h3, h4, h5⟩
   refine og rfl ?_
   refine yI6 (n := 100) (base := w_.heap.size) rfl rfl (by decide) (by decide) (Nat.le_refl _) ?_
   intro bm_ w2_ hb_ ho_ g2_
   rw [show (madeCells (Value.cells (.int .u64 0 : Value)) (100 * 1)).toList = List.replicate 100 (.int .u64 0) from by rw [Nat.mul_one]; exact toList_madeCells_one _ _] at ho_
   obtain ⟨cap_, cur_, hv_, hb2_, _⟩ := qG4 (yJ5 ho_ (fun _ _ => Nat.zero_le _)) rfl
   obtain ⟨ad_, c_, hh1_, _, _, hh2_⟩ := zH3 ho_ (by decide)
   simp only [Value.slice.injEq] at hh1_
   obtain ⟨rfl, -, -⟩ := hh1_
   exact ⟨hg.tr g2_, hms, hro, fun u hu => (zM7 _ _ (qI5 hu (t := 25) rfl)).trans (hoff u hu), fun _ => ⟨bm_, cur_, rfl, hb2_, hh2_⟩, fun l => h1 (l.resolve_left (by decide)), fun l => let ⟨b2, p, q⟩ := h2 (l.resolve_left (by decide)); ⟨b2, p, g2_.heap q⟩, fun l => absurd (h3 (l.resolve_left (by decide))).1 hn, fun l => let ⟨b, p, q, cs, r, s, t, u⟩ := h4 (l.resolve_left (by decide)); ⟨b, p, q, cs, g2_.heap r, s, fun l2 => t (l2.resolve_left (by decide)), fun l5 => absurd (h3 (h5 (l5.resolve_left (by decide))).1).1 hn⟩, fun l => absurd (h3 (h5 (l.resolve_left (by decide))).1).1 hn⟩
  ·rintro L E w_ hk hn ⟨hg, hms, hro, hoff, h0, h1, h2, h3, h4, h5⟩
   refine qL6 (t := 7) (v := .pointer (some ⟨b4, 0, none⟩)) (hoff 7 rfl) ?_
   refine og rfl ?_
   refine zD8 rfl (hg.heap hc10) (by rfl) ?_
   exact ⟨hg, hms, hro, fun u hu => (zM7 _ _ (qI5 hu (t := 26) rfl)).trans (hoff u hu), fun l => h0 (l.resolve_left (by decide)), fun _ => rfl, fun l => h2 (l.resolve_left (by decide)), fun l => let ⟨p, q, r⟩ := h3 (l.resolve_left (by decide)); ⟨.inr p, .inr q, r⟩, fun l => let ⟨b, p, q, cs, r, s, t, u⟩ := h4 (l.resolve_left (by decide)); ⟨b, p, q, cs, r, s, fun l2 => t (l2.resolve_left (by decide)), fun l5 => u (l5.resolve_left (by decide))⟩, fun l => let ⟨p, q⟩ := h5 (l.resolve_left (by decide)); ⟨.inr p, .inr q⟩⟩
  ·rintro L E w_ hk hn ⟨hg, hms, hro, hoff, h0, h1, h2, h3, h4, h5⟩
   refine qL6 (t := 26) (v := .agg #[.int .i64 x0, .int .i64 x1, .slice xa xn xc, .slice pa pn pc, .slice qa qn qc]) (h1 (hk 1 (by decide))) ?_
   refine og rfl ?_
   refine zB5 (cs := #[.int .i64 x0, .int .i64 x1, .slice xa xn xc, .slice pa pn pc, .slice qa qn qc]) (el := 48) (fun w => by kernel_rfl) ?_
   intro b_ w2_ hb_ hc_ g2_
   exact ⟨hg.tr g2_, hms, hro, fun u hu => (zM7 _ _ (qI5 hu (t := 27) rfl)).trans (hoff u hu), fun l => let ⟨b0, cs, p, q, r⟩ := h0 (l.resolve_left (by decide)); ⟨b0, cs, p, g2_.heap q, r.grow g2_⟩, fun l => h1 (l.resolve_left (by decide)), fun _ => ⟨b_, rfl, hc_⟩, fun l => absurd (h3 (l.resolve_left (by decide))).2.1 hn, fun l => let ⟨b, p, q, cs, r, s, t, u⟩ := h4 (l.resolve_left (by decide)); ⟨b, p, q, cs, g2_.heap r, s, fun _ hh => by (have hh2 : Value.slice (some ⟨b_, 0, none⟩) 1 1 = .slice (some ⟨b, 0, none⟩) 1 1 := hh; have hh3 := zC2 r; simp at hh2 <;> omega), fun l5 => absurd (h3 (h5 (l5.resolve_left (by decide))).1).2.1 hn⟩, fun l => absurd (h3 (h5 (l.resolve_left (by decide))).1).2.1 hn⟩
  ·rintro L E w_ hk hn ⟨hg, hms, hro, hoff, h0, h1, h2, h3, h4, h5⟩
   obtain ⟨b0, cs0, q0, c0, r0⟩ := h0 (hk 0 (by decide))
   obtain ⟨b2, q2, c2⟩ := h2 (hk 2 (by decide))
   refine qL6 (t := 25) (v := .slice (some ⟨b0, 0, none⟩) 100 100) q0 ?_
   refine qL6 (t := 27) (v := .slice (some ⟨b2, 0, none⟩) 1 1) q2 ?_
   refine og rfl ?_
   refine zB0 (v := .agg #[.int .i64 1, .int .i64 0, .slice (some ⟨b0, 0, none⟩) 100 100, .slice none 0 0, .slice (some ⟨b2, 0, none⟩) 1 1]) (fun w => by kernel_rfl) ?_
   exact ⟨hg, hms, hro, fun u hu => (zM7 _ _ (qI5 hu (t := 28) rfl)).trans (hoff u hu), fun l => h0 (l.resolve_left (by decide)), fun l => h1 (l.resolve_left (by decide)), fun l => h2 (l.resolve_left (by decide)), fun _ => ⟨.inr (hk 0 (by decide)), .inr (hk 2 (by decide)), fun a c qa qc => by (have ea : Value.slice (some ⟨a, 0, none⟩) 100 100 = .slice (some ⟨b0, 0, none⟩) 100 100 := Eq.trans (Eq.symm qa) q0; have ec : Value.slice (some ⟨c, 0, none⟩) 1 1 = .slice (some ⟨b2, 0, none⟩) 1 1 := Eq.trans (Eq.symm qc) q2; cases ea; cases ec; rfl)⟩, fun l => let ⟨b, p, q, cs, r, s, t, u⟩ := h4 (l.resolve_left (by decide)); ⟨b, p, q, cs, r, s, fun l2 => t (l2.resolve_left (by decide)), fun l5 => absurd (h5 (l5.resolve_left (by decide))).1 hn⟩, fun l => absurd (h5 (l.resolve_left (by decide))).1 hn⟩
  ·rintro L E w_ hk hn ⟨hg, hms, hro, hoff, h0, h1, h2, h3, h4, h5⟩
   refine og rfl ?_
   refine zA8 ?_
   intro b_ w2_ hb_ hc_ g2_
   exact ⟨hg.tr g2_, hms, hro, fun u hu => (zM7 _ _ (qI5 hu (t := 9) rfl)).trans (hoff u hu), fun l => let ⟨b0, cs, p, q, r⟩ := h0 (l.resolve_left (by decide)); ⟨b0, cs, p, g2_.heap q, r.grow g2_⟩, fun l => h1 (l.resolve_left (by decide)), fun l => let ⟨b2, p, q⟩ := h2 (l.resolve_left (by decide)); ⟨b2, p, g2_.heap q⟩, fun l => let ⟨p, q, r⟩ := h3 (l.resolve_left (by decide)); ⟨.inr p, .inr q, r⟩, fun _ => ⟨b_, rfl, Nat.le_trans hg.size hb_, _, hc_, rfl, fun l2 hh => by (obtain ⟨b2, p, q⟩ := h2 (l2.resolve_left (by decide)); have hh2 : Value.slice (some ⟨b2, 0, none⟩) 1 1 = .slice (some ⟨b_, 0, none⟩) 1 1 := Eq.trans (Eq.symm p) hh; have hh3 := zC2 q; simp at hh2 <;> omega), fun l5 => absurd (h5 (l5.resolve_left (by decide))).2 hn⟩, fun l => absurd (h5 (l.resolve_left (by decide))).2 hn⟩
  ·rintro L E w_ hk hn ⟨hg, hms, hro, hoff, h0, h1, h2, h3, h4, h5⟩
   obtain ⟨l0, l2, qq⟩ := h3 (hk 3 (by decide))
   obtain ⟨b0, cs0, q0, c0, r0⟩ := h0 l0
   obtain ⟨b2, q2, c2⟩ := h2 l2
   obtain ⟨b, q9, hge, cs, cb, hsz, hne, -⟩ := h4 (hk 4 (by decide))
   have q28 := qq b0 b2 q0 q2
   refine qL6 (t := 9) (v := .pointer (some ⟨b, 0, none⟩)) q9 ?_
   refine qL6 (t := 28) (v := .agg #[.int .i64 1, .int .i64 0, .slice (some ⟨b0, 0, none⟩) 100 100, .slice none 0 0, .slice (some ⟨b2, 0, none⟩) 1 1]) q28 ?_
   refine og rfl ?_
   refine qJ4 rfl rfl cb (by rfl) hsz (by rfl) ?_
   intro w2_ s2_ u_
   have k_ := KtP.of_upd u_ hge cb s2_ (by rw [hsz]; rfl)
   have hbb : b2 ≠ b := fun he => hne l2 (he ▸ q2)
   exact ⟨KtP.to_grow k_ hg, hms, hro, hoff, fun _ => ⟨b0, cs0, q0, KtP.heap k_ c0 (by decide), KtP.rowat k_ c0 (by decide) r0⟩, fun l => h1 (l.resolve_left (by decide)), fun _ => ⟨b2, q2, (u_.other b2 hbb).trans c2⟩, fun _ => ⟨.inr l0, .inr l2, qq⟩, fun _ => ⟨b, q9, hge, _, s2_, rfl, fun _ => hne l2, fun _ => fun a c qa qc => by (have ea : Value.slice (some ⟨a, 0, none⟩) 100 100 = .slice (some ⟨b0, 0, none⟩) 100 100 := Eq.trans (Eq.symm qa) q0; have ec : Value.slice (some ⟨c, 0, none⟩) 1 1 = .slice (some ⟨b2, 0, none⟩) 1 1 := Eq.trans (Eq.symm qc) q2; cases ea; cases ec; rfl)⟩, fun _ => ⟨.inr (hk 3 (by decide)), .inr (hk 4 (by decide))⟩⟩
  rintro L E w14 hall ⟨g_, hms, hro, hoff, h0, h1, h2, h3, h4, -⟩
  obtain ⟨b0, cs0, q0, hcb0, hR0⟩ := h0 (hall 0 (by simp))
  obtain ⟨b2, q2, hcb2⟩ := h2 (hall 2 (by simp))
  obtain ⟨bp, q9, hge, cs, hcP, -, hne, hcs⟩ := h4 (hall 4 (by simp))
  obtain rfl := hcs (hall 5 (by simp)) b0 b2 q0 q2
  have hb2p : b2 ≠ bp := fun he => hne (hall 2 (by simp)) (he ▸ q2)
  have hb0p : b0 ≠ bp := fun he => by rw [he, hcP] at hcb0; simp at hcb0
  have hE := yC3 [(25, .slice (some ⟨b0, 0, none⟩) 100 100), (26, .agg #[.int .i64 x0, .int .i64 x1, .slice xa xn xc, .slice pa pn pc, .slice qa qn qc]), (27, .slice (some ⟨b2, 0, none⟩) 1 1), (28, .agg #[.int .i64 1, .int .i64 0, .slice (some ⟨b0, 0, none⟩) 100 100, .slice none 0 0, .slice (some ⟨b2, 0, none⟩) 1 1]), (9, .pointer (some ⟨bp, 0, none⟩))] _ hms hro hoff ⟨q0, h1 (hall 1 (by simp)), q2, (h3 (hall 3 (by simp))).2.2 b0 b2 q0 q2, q9, trivial⟩
  clear hms hro hoff h0 h1 h2 h3 h4 hcs hne hall q0 q2 q9
  subst hE
  have hsee := hT.sees (Sees.fresh (V := fun x => x ≠ bp) g_ (fun x hx_ he_ => by omega))
  replace hT := hT.grow g_
  replace G := G.tr g_
  clear g_
  have hgQ := Nat.le_trans hsG hge
  clear hge hsG
  have hT5 : NodeR (see (fun x => x ≠ bp) w14) [.int .i64 1, .int .i64 0, .slice (some ⟨b0, 0, none⟩) 100 100, .slice none 0 0, .slice (some ⟨b2, 0, none⟩) 1 1] (qB0 (qB1 (zD7 5 xs).1) 0) := .mk (by simp [inR]) (by simp [inR]) ⟨_, 100, rfl, Nat.le_refl _, by decide, by simpa using yN7 hR0 hcb0 hb0p⟩ (fun x hx_ => by have := List.eq_of_mem_replicate hx_; subst this; simp [inR]) (Row.nil _ _) (by simp) (yJ7 (n := 1) (sz := 5) hcb2 hb2p rfl (by decide)) (by have h_ := KidsR.cons hsee .nil; simpa using h_)
  clear hR0 hcb0 hcb2 hsee
  refine qZ 6 ?_
  refine zF4 (fun m_ e_ w_ => ∃ (i : Nat) (y0 : Int) (y1 : Int) (ya : Option Addr) (yn : Nat) (yc : Nat) (yd : Option Addr) (ye : Nat) (yf : Nat) (yg : Option Addr) (yh : Nat) (yi : Nat), m_ = (j % 26).toNat - i ∧ Fr [(1, .int .u8 j), (2, .int .u8 k), (6, .bool false), (9, .pointer (some ⟨bp, 0, none⟩)), (10, .int .i64 (i : Int))] e_ ∧ ((i : Int) ≤ j % 26) ∧ (w_.heap[bp]? = some (.cells #[.int .i64 y0, .int .i64 y1, .slice ya yn yc, .slice yd ye yf, .slice yg yh yi] 48 (0, 0))) ∧ (NodeR (see (fun x => x ≠ bp) w_) [.int .i64 y0, .int .i64 y1, .slice ya yn yc, .slice yd ye yf, .slice yg yh yi] (qB0 (qB1 (zD7 5 xs).1) i)) ∧ Grow w w_) _ ⟨0, 1, 0, (some ⟨b0, 0, none⟩), 100, 100, none, 0, 0, (some ⟨b2, 0, none⟩), 1, 1, rfl, zD3 ⟨rfl, rfl, rfl, rfl, rfl, trivial⟩, by omega, hcP, hT5, G⟩ ?_
  clear hcP
  clear G
  rintro m_ e_ w15 ⟨i, y0, y1, ya, yn, yc, yd, ye, yf, yg, yh, yi, rfl, ⟨e16, rfl⟩, hi2, hcP, hT5, G⟩
  refine qZ 5 ?_
  refine stp (zW0 rfl rfl ?_ ?_ ?_); omega; omega
  refine stp (zG7 rfl ?_ ?_); constructor <;> omega
  refine stp (zG5 rfl rfl ?_)
  refine zA6 ?_
  refine zA2 (b := (decide ((i : Int) < (j % 26)))) rfl (fun hlt => ?_) (fun hlt => ?_)
  ·
   replace hlt := qT hlt
   have hb6w := zC2 hcP
   refine qZ 5 ?_
   refine stp (zB5 (cs := #[.int .i64 y0, .int .i64 y1, .slice ya yn yc, .slice yd ye yf, .slice yg yh yi]) (el := 48) (fun w => by kernel_rfl) ?_)
   intro bs17 w18 hb19 hc20 g21
   have hge22 := Nat.le_trans G.size hb19
   have ne23 := qN hcP hb19
   replace hcP := g21.heap hcP
   replace hT5 := hT5.sees (Sees.grow g21)
   replace G := G.tr g21
   clear g21
   have hne_ : bp < bs17 := Nat.lt_of_le_of_ne (by have h1_ := hb19; have h2_ := hb6w; omega) (ne23)
   refine stp (zB0 (v := .agg #[.int .i64 1, .int .i64 0, .slice none 0 0, .slice none 0 0, .slice (some ⟨bs17, 0, none⟩) 1 1]) (fun w => by kernel_rfl) ?_)
   refine stn (qS hcP ?_)
   intro w24 hc25 u26
   replace hT5 := hT5.sees (Sees.upd u26 (fun h_ => h_ rfl))
   replace hc20 := u26.heap hc20 ne23.symm
   replace G := G.upd u26 hgQ
   clear u26 hcP
   refine zA6 ?_
   have hT2 : NodeR (see (fun x => x ≠ bp) w24) [.int .i64 1, .int .i64 0, .slice none 0 0, .slice none 0 0, .slice (some ⟨bs17, 0, none⟩) 1 1] (qB0 (qB1 (zD7 5 xs).1) (i + 1)) := .mk (by simp [inR]) (by simp [inR]) (Row.nil _ _) (by simp) (Row.nil _ _) (by simp) (yJ7 (n := 1) (sz := 5) hc20 (by intro he_; rw [he_] at hne_; exact absurd hne_ (by omega)) rfl (by decide)) (by have h_ := KidsR.cons hT5 .nil; simpa using h_)
   refine qZ 2 ?_
   refine stp (zB9 rfl rfl ?_ ?_); constructor <;> omega
   refine qZ 2 ?_
   refine ⟨_, ?_, i + 1, 1, 0, none, 0, 0, none, 0, 0, (some ⟨bs17, 0, none⟩), 1, 1, rfl, zD3 ⟨rfl, rfl, rfl, rfl, congrArg (Value.int .i64) (by omega), trivial⟩, by omega, hc25, hT2, G⟩
   omega
  ·
   replace hlt := qF hlt
   replace hT5 := hT5.sees (Sees.seen _ _)
   have hri : (qB0 (qB1 (zD7 5 xs).1) i).right 32 = true := by have h_ := qI3 i (32 - i) (X := qB1 (zD7 5 xs).1) (by have h2_ := qY3 (t := (zD7 5 xs).1) (l := 31 - i) (zX3 5 xs _ (by omega) hx); rw [show 31 - i + 1 = 32 - i from by omega] at h2_; exact h2_); rw [show 32 - i + i = 32 from by omega] at h_; exact h_
   have hnY := qI4 (qB1 (zD7 5 xs).1) i
   have hnX := qY4 (zD7 5 xs).1
   have hn0 := Nd.needs_nn (zD7 5 xs).1
   have hu8 := hT5.u8
   have hu64 := hT5.u64
   obtain ⟨s, hb9, hl9, hcut⟩ := qY2 (t := (qB0 (qB1 (zD7 5 xs).1) i)) hri hu8 (by omega) (by omega)
   have hux := yM3 (t := (qB0 (qB1 (zD7 5 xs).1) i)) 4096 hu64 hu8
   have hsm9 := Nd.build_sml (qB0 (qB1 (zD7 5 xs).1) i) 4096
   obtain ⟨hdv, -⟩ := yF7 (n := 4096) hri hu8 (by omega) (by rw [hb9])
   rw [hb9] at hux hsm9 hdv
   have hdv0 : decV [s] = ((qB0 (qB1 (zD7 5 xs).1) i), 0) := hdv
   have hus : AllU [s] := hux
   refine qZ 4 ?_
   refine stp ?_
   have hcal := qD6 _ hT5 4096
   rw [hb9] at hcal
   refine zD2 rfl hcal ?_
   rintro v_ w27 ⟨so9, segs9, rfl, hO9, g_⟩
   clear hcal
   replace hcP := g_.heap hcP
   replace hT5 := hT5.grow g_
   replace G := G.tr g_
   clear g_
   have hA := hO9.arena (by simp) hsm9.all
   clear hO9
   replace hA : zF3 w27 so9 [s] := hA
   obtain ⟨ada, ca, segs, sa, sc, rfl, hca, hca2, RA, hsf, hrf⟩ := hA.fn
   have hs0 := hsf 0 (by simp)
   obtain ⟨hc01, hc02, Rs⟩ := hrf 0 (by simp)
   clear hrf hsf hca hca2
   generalize sa 0 = a9 at hs0 Rs
   generalize sc 0 = c9 at hs0 hc01 hc02
   have hln : len2 [s] 0 = s.length := rfl
   rw [hln] at hs0 hc01 Rs
   replace Rs : RowAt w27 1 a9 s.length (zI4 s) := Rs
   replace RA : RowAt w27 1 ada 1 segs := RA
   replace hA : zF3 w27 (.slice ada 1 ca) [s] := hA
   refine qZ 10 ?_
   refine stp (qT3 rfl rfl (by omega) ?_)
   refine zA6 ?_
   refine zQ4 rfl ?_
   refine qZ 10 ?_
   refine stp (zW0 rfl rfl ?_ ?_ ?_); omega; omega
   refine qZ 4 ?_
   refine stp (zD5 rfl rfl ?_)
   refine qZ 2 ?_
   refine zA2 (b := (decide ((k % 3) = 0))) rfl (fun h3 => ?_) (fun h3 => ?_)
   ·
    replace h3 := qT h3
    have hcase : k % 3 = 0 := h3
    refine zO5 10 [[], [0], [1, 0], [], [0], [1, 0], [2, 1, 0], [3, 2, 1, 0], [7, 6, 5, 4, 3, 2, 1, 0], [8, 7, 6, 5, 4, 3, 2, 1, 0]] mixed (by kernel_rfl) (by kernel_rfl) (by kernel_rfl) ?_
    intro w28 g29
    replace hcP := g29.heap hcP
    replace hT5 := hT5.grow g29
    replace hA := hA.grow g29
    replace RA := RA.grow g29
    replace Rs := Rs.grow g29
    replace G := G.tr g29
    clear g29
    refine qA 1 ?_
    apply zC3
    ·intro w_ g_; refine og rfl ?_; refine zH1 (RA.grow g_) rfl rfl ?_ ?_ ?_; omega; omega; exact qX
    apply zC3
    ·intro w_ g_; refine og rfl ?_; refine zE8 (v := .slice a9 s.length c9) (m := 0) (RA.grow g_) rfl (by first | exact hs0 | (rw [Nat.mul_one]; exact hs0)) ?_; exact qX
    refine qA 1 ?_
    apply zC3
    ·intro w_ g_; refine og rfl ?_; refine zH1 (RA.grow g_) rfl rfl ?_ ?_ ?_; omega; omega; exact qX
    apply zC3
    ·intro w_ g_; refine og rfl ?_; refine zE8 (v := .slice a9 s.length c9) (m := 0) (RA.grow g_) rfl (by first | exact hs0 | (rw [Nat.mul_one]; exact hs0)) ?_; exact qX
    refine qA 1 ?_
    apply zC3
    ·intro w_ g_; refine og rfl ?_; refine zO6 rfl rfl ?_ ?_; constructor <;> omega; exact qX
    apply zC3
    ·intro w_ g_; refine og rfl ?_; refine qE6 rfl rfl (by omega) (by omega) ?_; rw [show ((s.length : Int) - 1).toNat = s.length - 1 from by omega]; exact qX
    refine zW7 (fun w_ v_ => ∃ b, v_ = .slice (some ⟨b, 0, none⟩) 1 1 ∧ w_.heap[b]? = some (.cells #[.slice (if c9 = 0 then a9 else a9.map (·.add (0 * 1))) (s.length - 1) c9] 37 (0, 0))) (fun _ _ _ g_ ⟨b, h1_, h2_⟩ => ⟨b, h1_, g_.heap h2_⟩) ?_ ?_
    ·intro w_ g_
     refine og rfl ?_
     refine zB5 (cs := #[.slice (if c9 = 0 then a9 else a9.map (·.add (0 * 1))) (s.length - 1) c9]) (el := 37) (fun w => by kernel_rfl) ?_
     intro b_ w2_ hb_ hc_ g2_
     exact ⟨g2_, b_, rfl, hc_⟩
    refine zI6 ?_
    intro w30 g31
    replace hcP := g31.heap hcP
    replace hT5 := hT5.grow g31
    replace hA := hA.grow g31
    replace RA := RA.grow g31
    replace Rs := Rs.grow g31
    replace G := G.tr g31
    clear g31
    intro v_l hv_l
    obtain ⟨bl, rfl, hcl⟩ := hv_l
    have hC := yJ8 (q := s.take (s.length - 1)) hcl (by have h_ := Rs.sliceH (c := c9) (m := s.length - 1) hc01 (by omega) (by decide); rw [show (s.length - 1) * 1 = s.length - 1 from Nat.mul_one _] at h_; exact ⟨_, c9, by rw [List.length_take, Nat.min_eq_left (by omega)], by rw [List.length_take]; omega, hc02, by rw [List.length_take, Nat.min_eq_left (by omega), zI4, List.map_take]; exact h_⟩)
    refine qZ 2 ?_
    have hde : (decV [s.take (s.length - 1)]).2 = 20 := hcut
    refine qZ 3 ?_
    refine stp (zA4 (v := .int .u16 20) rfl (zJ1 (zI9 _ hC (by simp) (fun q hq x hx_ => by simp only [List.mem_singleton] at hq; subst hq; exact hus s (by simp) x (List.mem_of_mem_take hx_))) (y := .int .u16 20) (by rw [hde])) ?_)
    intro w32 g33
    replace hcP := g33.heap hcP
    replace hT5 := hT5.grow g33
    replace hA := hA.grow g33
    replace RA := RA.grow g33
    replace Rs := Rs.grow g33
    replace hC := hC.grow g33
    replace G := G.tr g33
    clear g33
    refine qZ 5 ?_
    refine stp (zW0 rfl rfl ?_ ?_ ?_); omega; omega
    refine stp (zM0 rfl rfl (hcase) ?_)
    refine qZ 2 ?_
    refine stp (zM0 rfl rfl (by first | decide | rfl) ?_)
    refine stp (zG4 (v := .bool true) rfl rfl rfl ?_)
    refine qZ 1 ?_
    refine zA3 (zK6 rfl ?_)
    refine zA3 (zK6 rfl ?_)
    refine zA3 (zK6 rfl ?_)
    refine zA3 (zK6 rfl ?_)
    refine zA3 (zK6 rfl ?_)
    refine zA3 (zK6 rfl ?_)
    refine zA3 (zK6 rfl ?_)
    refine stp (zG4 (v := .bool true) rfl rfl rfl ?_)
    refine qZ 4 ?_
    refine stp (zA4 (v := .bool true) rfl (zO0 _) ?_)
    intro w34 g35
    replace hcP := g35.heap hcP
    replace hT5 := hT5.grow g35
    replace hA := hA.grow g35
    replace RA := RA.grow g35
    replace Rs := Rs.grow g35
    replace hC := hC.grow g35
    replace G := G.tr g35
    clear g35
    refine qZ 2 ?_
    refine stp (zA4 (v := .int .u16 0) rfl (zJ1 (zI9 _ hA (by simp) hus) (y := .int .u16 0) (by rw [hdv0])) ?_)
    intro w36 g37
    replace hcP := g37.heap hcP
    replace hT5 := hT5.grow g37
    replace hA := hA.grow g37
    replace RA := RA.grow g37
    replace Rs := Rs.grow g37
    replace hC := hC.grow g37
    replace G := G.tr g37
    clear g37
    refine stp (zM0 rfl rfl (by first | decide | rfl) ?_)
    refine stp (zG4 (v := .bool true) rfl rfl rfl ?_)
    refine qZ 2 ?_
    refine stp (zG4 (v := .bool true) rfl rfl rfl ?_)
    refine qZ 3 ?_
    refine ret1 (zA1 (v := .bool true) rfl) ⟨?_, G⟩
    rfl
   ·
    replace h3 := qF h3
    refine qZ 2 ?_
    refine stp (zD5 rfl rfl ?_)
    refine qZ 2 ?_
    refine zA2 (b := (decide ((k % 3) = 1))) rfl (fun h4 => ?_) (fun h4 => ?_)
    ·
     replace h4 := qT h4
     have hcase : k % 3 = 1 := h4
     refine zO5 5 [[], [0], [1, 0], [], [3, 2, 1, 0]] mixed (by kernel_rfl) (by kernel_rfl) (by kernel_rfl) ?_
     intro w38 g39
     replace hcP := g39.heap hcP
     replace hT5 := hT5.grow g39
     replace hA := hA.grow g39
     replace RA := RA.grow g39
     replace Rs := Rs.grow g39
     replace G := G.tr g39
     clear g39
     refine qA 1 ?_
     apply zC3
     ·intro w_ g_; refine og rfl ?_; refine zH1 (RA.grow g_) rfl rfl ?_ ?_ ?_; omega; omega; exact qX
     apply zC3
     ·intro w_ g_; refine og rfl ?_; refine zE8 (v := .slice a9 s.length c9) (m := 0) (RA.grow g_) rfl (by first | exact hs0 | (rw [Nat.mul_one]; exact hs0)) ?_; exact qX
     refine zW7 (fun w_ v_ => ∃ a c, v_ = .slice a 4096 c ∧ Row w_ 1 (.slice a 4096 c) 4096 (List.replicate 4096 (.int .u64 0))) (fun _ _ _ g_ ⟨a, c, h1_, h2_⟩ => ⟨a, c, h1_, h2_.grow g_⟩) ?_ ?_
     ·intro w_ g_
      refine og rfl ?_
      refine yI6 (n := 4096) (base := w_.heap.size) rfl rfl (by decide) (by decide) (Nat.le_refl _) ?_
      intro bm_ w2_ hb_ ho_ g2_
      rw [show (madeCells (Value.cells (.int .u64 0 : Value)) (4096 * 1)).toList = List.replicate 4096 (.int .u64 0) from by rw [Nat.mul_one]; exact toList_madeCells_one _ _] at ho_
      exact ⟨g2_, _, _, rfl, zH3 ho_ (by decide)⟩
     refine zW7 (fun w_ v_ => ∃ b a c, v_ = .slice (some ⟨b, 0, none⟩) 2 2 ∧ w_.heap[b]? = some (.cells #[.slice a9 s.length c9, .slice a 4096 c] 37 (0, 0)) ∧ Row w_ 1 (.slice a 4096 c) 4096 (List.replicate 4096 (.int .u64 0))) (fun _ _ _ g_ ⟨b, a, c, h1_, h2_, h3_⟩ => ⟨b, a, c, h1_, g_.heap h2_, h3_.grow g_⟩) ?_ ?_
     ·intro w_ g_
      intro v3_ hv3_; show OpG _ _ _ _ _ _
      refine og rfl ?_
      obtain ⟨a, c, rfl, hr_⟩ := hv3_
      refine zB5 (cs := #[.slice a9 s.length c9, .slice a 4096 c]) (el := 37) (fun w => by kernel_rfl) ?_
      intro b_ w2_ hb_ hc_ g2_
      exact ⟨g2_, b_, a, c, rfl, hc_, hr_.grow g2_⟩
     refine zI6 ?_
     intro w40 g41
     replace hcP := g41.heap hcP
     replace hT5 := hT5.grow g41
     replace hA := hA.grow g41
     replace RA := RA.grow g41
     replace Rs := Rs.grow g41
     replace G := G.tr g41
     clear g41
     intro v_m hv_m
     intro v_l hv_l
     obtain ⟨bl, a4, c4, rfl, hcl, hr4⟩ := hv_l
     have hC := qR0 (q := s) (r := List.replicate 4096 0) hcl ⟨_, c9, rfl, hc01, hc02, Rs⟩ (by rw [qU5, List.length_replicate]; exact hr4)
     refine qZ 2 ?_
     have hde : (decV [s, List.replicate 4096 0]).2 = 1 := by rw [yN5 (by omega)]
     refine qZ 3 ?_
     refine stp (zA4 (v := .int .u16 1) rfl (zJ1 (zI9 _ hC (by simp) (fun q hq x hx_ => by simp only [List.mem_cons, List.not_mem_nil, or_false] at hq; rcases hq with rfl | rfl; exact hus _ (by simp) x hx_; have := List.eq_of_mem_replicate hx_; subst this; simp [inR])) (y := .int .u16 1) (by rw [hde])) ?_)
     intro w42 g43
     replace hcP := g43.heap hcP
     replace hT5 := hT5.grow g43
     replace hA := hA.grow g43
     replace RA := RA.grow g43
     replace Rs := Rs.grow g43
     replace hC := hC.grow g43
     replace G := G.tr g43
     clear g43
     refine qZ 5 ?_
     refine stp (zW0 rfl rfl ?_ ?_ ?_); omega; omega
     refine stp (qG0 rfl rfl (by omega) ?_)
     refine qZ 1 ?_
     refine zA3 (zK6 rfl ?_)
     refine zA3 (zK6 rfl ?_)
     refine stp (zS4 (v := .bool false) rfl rfl rfl ?_)
     refine qZ 2 ?_
     refine stp (zW0 rfl rfl ?_ ?_ ?_); omega; omega
     refine stp (qT4 rfl rfl (by omega) ?_)
     refine qZ 2 ?_
     refine stp (zM0 rfl rfl (by first | decide | rfl) ?_)
     refine stp (zG4 (v := .bool true) rfl rfl rfl ?_)
     refine stp (zS4 (v := .bool true) rfl rfl rfl ?_)
     refine qZ 4 ?_
     refine stp (zA4 (v := .bool true) rfl (zO0 _) ?_)
     intro w44 g45
     replace hcP := g45.heap hcP
     replace hT5 := hT5.grow g45
     replace hA := hA.grow g45
     replace RA := RA.grow g45
     replace Rs := Rs.grow g45
     replace hC := hC.grow g45
     replace G := G.tr g45
     clear g45
     refine qZ 2 ?_
     refine stp (zA4 (v := .int .u16 0) rfl (zJ1 (zI9 _ hA (by simp) hus) (y := .int .u16 0) (by rw [hdv0])) ?_)
     intro w46 g47
     replace hcP := g47.heap hcP
     replace hT5 := hT5.grow g47
     replace hA := hA.grow g47
     replace RA := RA.grow g47
     replace Rs := Rs.grow g47
     replace hC := hC.grow g47
     replace G := G.tr g47
     clear g47
     refine stp (zM0 rfl rfl (by first | decide | rfl) ?_)
     refine stp (zG4 (v := .bool true) rfl rfl rfl ?_)
     refine qZ 2 ?_
     refine stp (zG4 (v := .bool true) rfl rfl rfl ?_)
     refine qZ 3 ?_
     refine ret1 (zA1 (v := .bool true) rfl) ⟨?_, G⟩
     rfl
    ·
     replace h4 := qF h4
     refine qZ 2 ?_
     refine stp (zH1 RA rfl rfl ?_ ?_ ?_); omega; omega
     refine stp (zE8 (v := .slice a9 s.length c9) (m := 0) RA rfl (by first | exact hs0 | (rw [Nat.mul_one]; exact hs0)) ?_)
     refine stp (zB5 (cs := #[.slice none 0 0, .slice a9 s.length c9]) (el := 37) (fun w => by kernel_rfl) ?_)
     intro bs48 w49 hb50 hc51 g52
     have hge53 := Nat.le_trans G.size hb50
     have ne54 := qN hcP hb50
     replace hcP := g52.heap hcP
     replace hT5 := hT5.grow g52
     replace hA := hA.grow g52
     replace RA := RA.grow g52
     replace Rs := Rs.grow g52
     replace G := G.tr g52
     clear g52
     refine qZ 2 ?_
     have hC := qR0 (q := []) (r := s) hc51 (Row.nil _ _) ⟨_, c9, rfl, hc01, hc02, Rs⟩
     have hde : (decV [[], s]).2 = 1 := by rw [yN6]
     refine qZ 3 ?_
     refine stp (zA4 (v := .int .u16 1) rfl (zJ1 (zI9 _ hC (by simp) (fun q hq x hx_ => by simp only [List.mem_cons, List.not_mem_nil, or_false] at hq; rcases hq with rfl | rfl; simp at hx_; exact hus _ (by simp) x hx_)) (y := .int .u16 1) (by rw [hde])) ?_)
     intro w55 g56
     replace hcP := g56.heap hcP
     replace hT5 := hT5.grow g56
     replace hA := hA.grow g56
     replace RA := RA.grow g56
     replace Rs := Rs.grow g56
     replace hc51 := g56.heap hc51
     replace hC := hC.grow g56
     replace G := G.tr g56
     clear g56
     refine qZ 5 ?_
     refine stp (zW0 rfl rfl ?_ ?_ ?_); omega; omega
     refine stp (qG0 rfl rfl (by omega) ?_)
     refine qZ 1 ?_
     refine zA3 (zK6 rfl ?_)
     refine zA3 (zK6 rfl ?_)
     refine stp (zS4 (v := .bool false) rfl rfl rfl ?_)
     refine qZ 2 ?_
     refine stp (zW0 rfl rfl ?_ ?_ ?_); omega; omega
     refine stp (qT4 rfl rfl (by omega) ?_)
     refine qZ 2 ?_
     refine stp (zM0 rfl rfl (by first | decide | rfl) ?_)
     refine stp (zG4 (v := .bool true) rfl rfl rfl ?_)
     refine stp (zS4 (v := .bool true) rfl rfl rfl ?_)
     refine qZ 4 ?_
     refine stp (zA4 (v := .bool true) rfl (zO0 _) ?_)
     intro w57 g58
     replace hcP := g58.heap hcP
     replace hT5 := hT5.grow g58
     replace hA := hA.grow g58
     replace RA := RA.grow g58
     replace Rs := Rs.grow g58
     replace hc51 := g58.heap hc51
     replace hC := hC.grow g58
     replace G := G.tr g58
     clear g58
     refine qZ 2 ?_
     refine stp (zA4 (v := .int .u16 0) rfl (zJ1 (zI9 _ hA (by simp) hus) (y := .int .u16 0) (by rw [hdv0])) ?_)
     intro w59 g60
     replace hcP := g60.heap hcP
     replace hT5 := hT5.grow g60
     replace hA := hA.grow g60
     replace RA := RA.grow g60
     replace Rs := Rs.grow g60
     replace hc51 := g60.heap hc51
     replace hC := hC.grow g60
     replace G := G.tr g60
     clear g60
     refine stp (zM0 rfl rfl (by first | decide | rfl) ?_)
     refine stp (zG4 (v := .bool true) rfl rfl rfl ?_)
     refine qZ 2 ?_
     refine stp (zG4 (v := .bool true) rfl rfl rfl ?_)
     refine qZ 3 ?_
     refine ret1 (zA1 (v := .bool true) rfl) ⟨?_, G⟩
     rfl
end Go.Proofs.YtkkbbhpbcfcplaaGreat.K
namespace Go.Proofs.YtkkbbhpbcfcplaaGreat.K
open Go Go.RowKit Go.ChangeShapes Go.WideShapes
section
variable {H : Type} {enc : TypeId × Value → H} {P : Program} {w : World}
structure Told (enc : TypeId × Value → H) (P : Program) (w : World) (fuel : Nat) (t : TypeId) (cs : List Value) : Prop where
  h : ∃ d p, DataW.trod enc P w 0 (fun _ => true) true fuel t cs = some (d, p) ∧ ∀ n ∈ d.weights P t, n ≤ reachBytes
theorem jB4 {ts : List TypeId} {ds : List (DataW H)} {j : Nat} {t : TypeId} {d : DataW H} {v : Value} {p : List MemPlace} (h : DataW.Trod enc P w 0 (fun _ => true) true t v d p) (hz : (DataW.weightsEach P ts ds).all (· ≤ reachBytes) = true) (ht : ts[j]? = some t) (hd : ds[j]? = some d) : ∃ fuel, Told enc P w fuel t v.cells.toList := by
  obtain ⟨fuel, hf⟩ := h
  exact ⟨fuel, ⟨d, p, hf, fun n hn => by simpa using List.all_eq_true.1 hz n (DataW.weights_mem_each ht hd n hn)⟩⟩
theorem yN8 {α β : Type} {f : α → Option β} : ∀ {l : List α} {r : List β}, l.mapM f = some r → ∀ (i : Nat) (x : α), l[i]? = some x → ∃ y, f x = some y ∧ r[i]? = some y := by
  intro l r h i x hx
  have h1 := mapM_some_get h i x hx
  have hl := mapM_some_length h
  have hi : i < r.length := by rw [hl]; exact (List.getElem?_eq_some_iff.1 hx).1
  rw [List.getElem?_eq_getElem hi] at h1
  exact ⟨_, h1, List.getElem?_eq_getElem hi⟩
theorem zW6 {e : TypeId} : ∀ {ds : List (DataW H)} {i : Nat} {d : DataW H}, ds[i]? = some d → ∀ n ∈ d.weights P e, n ∈ DataW.weightsAll P e ds
  | [], i, d, h, _, _ => by simp at h
  | x :: ds, 0, d, h, n, hn => by
    simp only [List.getElem?_cons_zero, Option.some.injEq] at h
    subst h
    simp only [DataW.weightsAll, List.mem_append]; exact .inl hn
  | x :: ds, i + 1, d, h, n, hn => by
    simp only [DataW.weightsAll, List.mem_append]; exact .inr (zW6 (by simpa using h) n hn)
theorem yG6 {t e : TypeId} {sz by_ fuel : Nat} {cs : List Value} (ht : P.underlying t = some (.slice e)) (hc : P.cellsOf e = sz) (hsz : 0 < sz) (hby : P.bytesOf e = by_) (hby1 : 1 ≤ by_) (h : Told enc P w fuel t cs) :
    ∃ f ad n c xs, fuel = f + 1 ∧ cs = [.slice ad n c] ∧ n ≤ c ∧ c ≤ maxLen ∧ RowAt w sz ad n xs ∧ ∀ i, i < n → Told enc P w f e ((xs.drop (i * sz)).take sz) := by
  obtain ⟨d, p, hd, hw⟩ := h
  rcases DataW.trod_slice ht hd with ⟨rfl, hx⟩ | ⟨a, len, cap, elems, rest, n, rfl, rfl, hx, _, hl, hm, hlen, hel, _, _⟩
  · cases fuel with
    | zero => simp [DataW.trod] at hd
    | succ f => exact ⟨f, none, 0, 0, [], rfl, rfl, Nat.le_refl _, Nat.zero_le _, RowAt.empty _ _ _, fun i hi => by omega⟩
  · simp only [Prod.mk.injEq] at hx
    obtain ⟨rfl, _⟩ := hx
    have hwt : ∀ n ∈ DataW.weightsAll P e (elems.map (·.1)), n ≤ reachBytes := fun n hn => hw n (by simp only [DataW.weights, ht, List.mem_cons, List.mem_append]; exact .inr (.inl hn))
    have hlim : len * by_ ≤ reachBytes := by
      have := hw (((elems.map (·.1)).length + (rest.map (·.1)).length) * P.bytesOf e) (by simp only [DataW.weights, ht, List.mem_cons, true_or])
      rw [hby, List.length_map, hlen, List.length_map, Nat.add_mul] at this
      omega
    have hlen2 : len ≤ 140737488355328 := by
      have h1 : len * 1 ≤ len * by_ := Nat.mul_le_mul_left _ hby1
      have h2 : reachBytes ≤ 140737488355328 := by decide
      omega
    -- each element
    have each : ∀ i, i < len → ∃ ys x, w.cells? 0 (a.add (i * sz)) sz = some ys ∧ DataW.trod enc P w 0 (fun _ => true) true n e ys = some x ∧ elems[i]? = some x := by
      intro i hi
      have hh := hel i hi
      have hi2 : i < elems.length := by omega
      rw [List.getElem?_eq_getElem hi2, hc] at hh
      simp only [Option.bind_eq_some_iff] at hh
      obtain ⟨ys, h1, h2⟩ := hh
      exact ⟨ys, _, h1, h2, List.getElem?_eq_getElem hi2⟩
    rcases Nat.eq_zero_or_pos len with h0 | h0
    · subst h0
      exact ⟨n, some a, 0, cap, [], rfl, rfl, hl, hm, RowAt.empty _ _ _, fun i hi => by omega⟩
    · -- the block
      have cell : ∀ i j, i < len → j < sz → ∃ v, w.cell? ((a.add (i * sz)).add j) = some v := by
        intro i j hi hj
        obtain ⟨ys, x, h1, _, _⟩ := each i hi
        unfold World.cells? at h1
        rw [if_pos (Nat.zero_le _)] at h1
        obtain ⟨y, hy, _⟩ := yN8 h1 j j (by simp [hj])
        exact ⟨y, hy⟩
      obtain ⟨blk, off, spot⟩ := a
      obtain ⟨v0, hv0⟩ := cell 0 0 h0 hsz
      have hadd0 : ((⟨blk, off, spot⟩ : Addr).add (0 * sz)).add 0 = ⟨blk, off, spot⟩ := by simp [Addr.add]
      rw [hadd0] at hv0
      unfold World.cell? at hv0
      cases hb : w.heap[blk]? with
      | none => rw [hb] at hv0; cases hv0
      | some o =>
        rw [hb] at hv0
        cases o with
        | cells c T fr =>
          simp only at hv0
          have hspot : spot = none := by
            cases spot with
            | none => rfl
            | some _ => simp at hv0
          subst hspot
          have hcell : ∀ k, k < len * sz → ∃ v, c[off + k]? = some v := by
            intro k hk
            have hdm := Nat.div_add_mod k sz
            have h1 : k / sz < len := (Nat.div_lt_iff_lt_mul hsz).2 hk
            obtain ⟨v, hv⟩ := cell (k / sz) (k % sz) h1 (Nat.mod_lt _ hsz)
            rw [add_lit, add_lit, cell_of_row w blk _ c T fr hb] at hv
            refine ⟨v, ?_⟩
            have : off + k / sz * sz + k % sz = off + k := by rw [Nat.mul_comm]; omega
            rwa [this] at hv
          have hsize : off + len * sz ≤ c.size := by
            have hp : 0 < len * sz := Nat.mul_pos h0 hsz
            obtain ⟨v, hv⟩ := hcell (len * sz - 1) (by omega)
            have := (Array.getElem?_eq_some_iff.1 hv).1
            omega
          refine ⟨n, some ⟨blk, off, none⟩, len, cap, (c.toList.drop off).take (len * sz), rfl, rfl, hl, hm, ⟨by rw [List.length_take, List.length_drop, Array.length_toList]; omega, hlen2, fun _ => ⟨blk, off, c, T, fr, rfl, hb, rfl⟩⟩, fun i hi => ?_⟩
          obtain ⟨ys, x, h1, h2, h3⟩ := each i hi
          have hys : ys = (((c.toList.drop off).take (len * sz)).drop (i * sz)).take sz := by
            unfold World.cells? at h1
            rw [if_pos (Nat.zero_le _)] at h1
            have hl2 := mapM_some_length h1
            simp only [List.length_range] at hl2
            have hle : (i + 1) * sz ≤ len * sz := Nat.mul_le_mul_right _ hi
            rw [Nat.add_mul, Nat.one_mul] at hle
            apply List.ext_getElem?
            intro j
            by_cases hj : j < sz
            · obtain ⟨y, hy, hy2⟩ := yN8 h1 j j (by simp [hj])
              rw [add_lit, add_lit, cell_of_row w blk _ c T fr hb] at hy
              rw [hy2, List.getElem?_take, if_pos hj, List.getElem?_drop, List.getElem?_take, if_pos (by omega), List.getElem?_drop, Array.getElem?_toList, ← Nat.add_assoc, hy]
            · rw [List.getElem?_eq_none (by omega), List.getElem?_eq_none (by rw [List.length_take]; omega)]
          rw [← hys]
          exact ⟨⟨x.1, x.2, h2, fun m hm_ => hwt m (zW6 (i := i) (by rw [List.getElem?_map, h3]; rfl) m hm_)⟩⟩
        | _ => cases hv0
theorem yS4 {t : TypeId} {k : IntKind} {fuel : Nat} {cs : List Value} (ht : P.underlying t = some (.int k)) (h : Told enc P w fuel t cs) : ∃ n, cs = [.int k n] ∧ inR k n := by
  obtain ⟨d, p, hd, _⟩ := h
  obtain ⟨n, h1, _, hw⟩ := DataW.trod_int ht hd
  refine ⟨n, h1, ?_⟩
  cases k <;> simpa [Lit.wf, IntKind.min, IntKind.max, IntKind.bits, IntKind.signed, inR] using hw
theorem yY1 {α : Type} {sz n : Nat} {xs : List Value} {f : α → Value} (hl : xs.length = n) (h : ∀ i, i < n → ∃ a, (xs.drop (i * 1)).take 1 = [f a]) : ∃ l : List α, l.length = n ∧ xs = l.map f := by
  induction xs generalizing n with
  | nil => exact ⟨[], by simpa using hl, rfl⟩
  | cons x xs ih =>
    obtain ⟨a, ha⟩ := h 0 (by simp at hl; omega)
    simp at ha
    obtain ⟨l, h1, h2⟩ := ih (n := n - 1) (by simp at hl; omega) fun i hi => by
      obtain ⟨b, hb⟩ := h (i + 1) (by omega)
      exact ⟨b, by simpa using hb⟩
    exact ⟨a :: l, by simp at hl ⊢; omega, by simp [ha, h2]⟩
theorem jA5 {t e : TypeId} {k : IntKind} {fuel by_ : Nat} {cs : List Value} (ht : P.underlying t = some (.slice e)) (he : P.underlying e = some (.int k)) (hc : P.cellsOf e = 1) (hby : P.bytesOf e = by_) (hby1 : 1 ≤ by_) (h : Told enc P w fuel t cs) :
    ∃ ad n c, ∃ zs : List Int, cs = [.slice ad n c] ∧ n = zs.length ∧ n ≤ c ∧ c ≤ maxLen ∧ RowAt w 1 ad n (zs.map (.int k)) ∧ ∀ z ∈ zs, inR k z := by
  obtain ⟨f, ad, n, c, xs, rfl, rfl, h1, h2, R, hel⟩ := yG6 ht hc (by omega) hby hby1 h
  obtain ⟨l, hl, rfl⟩ := yY1 (sz := 1) (f := fun a : { z : Int // inR k z } => Value.int k a.1) (by rw [R.len, Nat.mul_one]) fun i hi => by
    obtain ⟨z, hz, hr⟩ := yS4 he (hel i hi)
    exact ⟨⟨z, hr⟩, hz⟩
  refine ⟨ad, n, c, l.map (·.1), rfl, by simp [hl], h1, h2, by rw [List.map_map]; exact R, fun z hz => ?_⟩
  obtain ⟨a, _, rfl⟩ := List.mem_map.1 hz
  exact a.2
theorem yY2 {t e : TypeId} {r : Reach} {b0 : Nat} {v : Value} (ht : P.underlying t = some (.slice e)) (hv : Value.okWide P w r b0 t v) {ad : Option Addr} {n c : Nat} (h : v.cells.toList = [.slice ad n c]) : v = .slice ad n c := by
  unfold Value.okWide at hv
  rw [ht] at hv
  unfold Cell.okWide at hv
  rw [ht] at hv
  cases v <;> first | (simp only [Cell.ok, ht] at hv; done) | (simp [Value.cells] at h; try (obtain ⟨rfl, rfl, rfl⟩ := h); try rfl) | skip
end
end Go.Proofs.YtkkbbhpbcfcplaaGreat.K
