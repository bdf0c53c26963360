/- Plain laws, rules and walks of this claim's functions, laid together. -/
import Derived.Test.YtkkbbhpbcfcplaaGreatX5
import Derived.WalkKit
import Derived.ProofKit
import Derived.OpenShut
import Derived.ChangeOld
import Derived.Carry
import Derived.SizedLaws
set_option linter.unusedVariables false
set_option linter.unusedSimpArgs false
set_option maxRecDepth 100000
namespace Go.Proofs.YtkkbbhpbcfcplaaGreat.K
open Go Go.RowKit Go.Proofs
attribute [local irreducible] Run1 OpG WL W AO zB8
theorem qX2 (w : World) {ua uh : Value} {b : Bool} {A : List (List Int)} {s : Src} (H : SrcR Tryz.prog 72 w ua b uh A s) (o : Ob) (ho : ObR o) (k : Int) (k0 : 0 ≤ k) : zB8 Tryz.prog 68 #[.agg #[ua, .bool b, uh], .agg #[.int .i64 o.kind, .int .i64 o.seg, .int .i64 o.at_, .int .i64 o.data, .int .i64 o.ptrs, .int .i64 o.size, .int .i64 o.count], .int .i64 k] w (.tuple #[.agg #[.int .i64 ((stepO s o k).1.kind), .int .i64 ((stepO s o k).1.seg), .int .i64 ((stepO s o k).1.at_), .int .i64 ((stepO s o k).1.data), .int .i64 ((stepO s o k).1.ptrs), .int .i64 ((stepO s o k).1.size), .int .i64 ((stepO s o k).1.count)], .int .i64 ((stepO s o k).2)]) := by
 obtain ⟨rk, rs, ra, rd, rp, rz, rc⟩ := ho
 have G := Grow.rfl' w
 refine zA9 Tryz.func68 Tryz.ntmps68 Tryz.results68 rfl rfl ?_
 refine qZ 2 ?_
 refine stp ?_
 refine qC ?_
 intro b1 w2 hb3 hc4 g5
 have hge6 := Nat.le_trans G.size hb3
 replace G := G.tr g5
 clear g5 hb3
 refine stp ?_
 refine qC ?_
 intro b7 w8 hb9 hc10 g11
 have hge12 := Nat.le_trans G.size hb9
 replace hc4 := g11.heap hc4
 replace G := G.tr g11
 clear g11 hb9
 refine stp (zA8 ?_)
 intro b13 w14 hb15 hc16 g17
 refine qZ 5 ?_
 have hge18 := Nat.le_trans G.size hb15
 have ne19 := qN hc4 hb15
 have ne20 := qN hc10 hb15
 replace hc4 := g17.heap hc4
 replace hc10 := g17.heap hc10
 replace G := G.tr g17
 clear g17 hb15
 refine qZ 2 ?_
 refine stp (zH0 rfl rfl ?_)
 obtain ⟨at9, hat9⟩ : ∃ x, x = IntKind.i64.wrap (o.at_ + k) := ⟨_, rfl⟩
 rw [← hat9]
 refine qZ 11 ?_
 refine stp (zC7 rfl rfl ?_)
 refine qZ 2 ?_
 refine zA2 (b := (decide (o.kind = 0))) rfl (fun h1 => ?_) (fun h1 => ?_)
 ·
  replace h1 := qT h1
  refine qZ 2 ?_
  refine stp (zA7 (v := .agg #[.int .i64 0, .int .i64 0, .int .i64 0, .int .i64 0, .int .i64 0, .int .i64 0, .int .i64 0]) (fun w => by kernel_rfl) ?_)
  refine stn (qS hc16 ?_)
  intro w21 hc22 u23
  replace hc4 := u23.heap hc4 ne19
  replace hc10 := u23.heap hc10 ne20
  replace G := G.upd u23 hge18
  clear u23 hc16
  refine qZ 3 ?_
  have h8 : zF8 s o k = (Ob0, 0) := by unfold zF8; rw [if_pos (.inl h1)]
  have h9 := qR0 h8 (by simp)
  refine ret2 (zA5 rfl hc22 (by rfl)) (zA1 (v := .int .i64 0) rfl) ⟨?_, G⟩
  rw [h9]; rfl
 ·
  replace h1 := qF h1
  refine qZ 2 ?_
  refine stp (zC7 rfl rfl ?_)
  refine qZ 2 ?_
  refine zA2 (b := (decide (o.kind = 1))) rfl (fun h2 => ?_) (fun h2 => ?_)
  ·
   replace h2 := qT h2
   refine qZ 6 ?_
   refine stp (zO4 rfl rfl ?_)
   refine zA6 ?_
   refine zA2 (b := (decide (k ≥ o.ptrs))) rfl (fun h3 => ?_) (fun h3 => ?_)
   ·
    replace h3 := qT h3
    refine qZ 2 ?_
    refine stp (zA7 (v := .agg #[.int .i64 0, .int .i64 0, .int .i64 0, .int .i64 0, .int .i64 0, .int .i64 0, .int .i64 0]) (fun w => by kernel_rfl) ?_)
    refine stn (qS hc16 ?_)
    intro w24 hc25 u26
    replace hc4 := u26.heap hc4 ne19
    replace hc10 := u26.heap hc10 ne20
    replace G := G.upd u26 hge18
    clear u26 hc16
    refine qZ 3 ?_
    have h8 : zF8 s o k = (Ob0, 0) := by unfold zF8; rw [if_pos (.inr ⟨h2, h3⟩)]
    have h9 := qR0 h8 (by simp)
    refine ret2 (zA5 rfl hc25 (by rfl)) (zA1 (v := .int .i64 0) rfl) ⟨?_, G⟩
    rw [h9]; rfl
   ·
    replace h3 := qF h3
    have hat8 : at9 = o.at_ + k := by rw [hat9]; exact zI4 (by simp only [inR]; omega)
    have h8 : zF8 s o k = (zA0 s o.seg (at9 + o.data)) := by unfold zF8; rw [if_neg (by omega), if_pos h2, hat8]
    have h9 := yT7 h8
    refine qZ 5 ?_
    refine stp (zB5 rfl rfl ?_ ?_); constructor <;> omega
    refine qZ 8 ?_
    refine stp (zA4 (v := .tuple #[.agg #[.int .i64 ((zA0 s o.seg (at9 + o.data)).1.kind), .int .i64 ((zA0 s o.seg (at9 + o.data)).1.seg), .int .i64 ((zA0 s o.seg (at9 + o.data)).1.at_), .int .i64 ((zA0 s o.seg (at9 + o.data)).1.data), .int .i64 ((zA0 s o.seg (at9 + o.data)).1.ptrs), .int .i64 ((zA0 s o.seg (at9 + o.data)).1.size), .int .i64 ((zA0 s o.seg (at9 + o.data)).1.count)], .int .i64 ((zA0 s o.seg (at9 + o.data)).2)]) rfl (zP1 _ (H.grow G) o.seg (at9 + o.data) (by simp only [inR]; omega) (by simp only [inR]; omega)) ?_)
    intro w27 g28
    replace hc4 := g28.heap hc4
    replace hc10 := g28.heap hc10
    replace hc16 := g28.heap hc16
    replace G := G.tr g28
    clear g28
    refine qZ 3 ?_
    refine stp (zA8 ?_)
    intro b29 w30 hb31 hc32 g33
    refine stn (qS hc32 ?_)
    intro w34 hc35 u36
    have g37 := g33.upd u36 hb31
    have hge38 := Nat.le_trans G.size hb31
    have ne39 := qN hc4 hb31
    have ne40 := qN hc10 hb31
    have ne41 := qN hc16 hb31
    replace hc4 := g37.heap hc4
    replace hc10 := g37.heap hc10
    replace hc16 := g37.heap hc16
    replace G := G.tr g37
    clear u36 g33 hb31 hc32
    refine qZ 6 ?_
    refine stn (qS hc16 ?_)
    intro w42 hc43 u44
    replace hc4 := u44.heap hc4 ne19
    replace hc10 := u44.heap hc10 ne20
    replace hc35 := u44.heap hc35 ne41.symm
    replace G := G.upd u44 hge18
    clear u44 hc16
    refine qZ 3 ?_
    refine ret2 (zA5 rfl hc43 (by rfl)) (zA1 (v := .int .i64 ((zA0 s o.seg (at9 + o.data)).2)) rfl) ⟨?_, G⟩
    rw [h9]
  ·
   replace h2 := qF h2
   refine qZ 5 ?_
   refine stp (zG1 rfl rfl ?_)
   refine zA6 ?_
   refine zA2 (b := (decide (o.size ≠ 6))) rfl (fun h3 => ?_) (fun h3 => ?_)
   ·
    replace h3 := qT h3
    refine qZ 2 ?_
    refine stp (zA7 (v := .agg #[.int .i64 0, .int .i64 0, .int .i64 0, .int .i64 0, .int .i64 0, .int .i64 0, .int .i64 0]) (fun w => by kernel_rfl) ?_)
    refine stn (qS hc16 ?_)
    intro w45 hc46 u47
    replace hc4 := u47.heap hc4 ne19
    replace hc10 := u47.heap hc10 ne20
    replace G := G.upd u47 hge18
    clear u47 hc16
    refine qZ 3 ?_
    have h8 : zF8 s o k = (o, 23) := by unfold zF8; rw [if_neg (by omega), if_neg h2, if_pos h3]
    have h9 := qR0 h8 (by simp)
    refine ret2 (zA5 rfl hc46 (by rfl)) (zA1 (v := .int .i64 23) rfl) ⟨?_, G⟩
    rw [h9]; rfl
   ·
    replace h3 := qF h3
    refine qZ 6 ?_
    refine stp (zO4 rfl rfl ?_)
    refine zA6 ?_
    refine zA2 (b := (decide (k ≥ o.count))) rfl (fun h4 => ?_) (fun h4 => ?_)
    ·
     replace h4 := qT h4
     refine qZ 2 ?_
     refine stp (zA7 (v := .agg #[.int .i64 0, .int .i64 0, .int .i64 0, .int .i64 0, .int .i64 0, .int .i64 0, .int .i64 0]) (fun w => by kernel_rfl) ?_)
     refine stn (qS hc16 ?_)
     intro w48 hc49 u50
     replace hc4 := u50.heap hc4 ne19
     replace hc10 := u50.heap hc10 ne20
     replace G := G.upd u50 hge18
     clear u50 hc16
     refine qZ 3 ?_
     have h8 : zF8 s o k = (o, 20) := by unfold zF8; rw [if_neg (by omega), if_neg h2, if_neg h3, if_pos h4]
     have h9 := qR0 h8 (by simp)
     refine ret2 (zA5 rfl hc49 (by rfl)) (zA1 (v := .int .i64 20) rfl) ⟨?_, G⟩
     rw [h9]; rfl
    ·
     replace h4 := qF h4
     have hat8 : at9 = o.at_ + k := by rw [hat9]; exact zI4 (by simp only [inR]; omega)
     have h8 : zF8 s o k = (zA0 s o.seg at9) := by unfold zF8; rw [if_neg (by omega), if_neg h2, if_neg h3, if_neg h4, hat8]
     have h9 := yT7 h8
     refine qZ 7 ?_
     refine stp (zA4 (v := .tuple #[.agg #[.int .i64 ((zA0 s o.seg at9).1.kind), .int .i64 ((zA0 s o.seg at9).1.seg), .int .i64 ((zA0 s o.seg at9).1.at_), .int .i64 ((zA0 s o.seg at9).1.data), .int .i64 ((zA0 s o.seg at9).1.ptrs), .int .i64 ((zA0 s o.seg at9).1.size), .int .i64 ((zA0 s o.seg at9).1.count)], .int .i64 ((zA0 s o.seg at9).2)]) rfl (zP1 _ (H.grow G) o.seg at9 (by simp only [inR]; omega) (by simp only [inR]; omega)) ?_)
     intro w51 g52
     replace hc4 := g52.heap hc4
     replace hc10 := g52.heap hc10
     replace hc16 := g52.heap hc16
     replace G := G.tr g52
     clear g52
     refine qZ 3 ?_
     refine stp (zA8 ?_)
     intro b53 w54 hb55 hc56 g57
     refine stn (qS hc56 ?_)
     intro w58 hc59 u60
     have g61 := g57.upd u60 hb55
     have hge62 := Nat.le_trans G.size hb55
     have ne63 := qN hc4 hb55
     have ne64 := qN hc10 hb55
     have ne65 := qN hc16 hb55
     replace hc4 := g61.heap hc4
     replace hc10 := g61.heap hc10
     replace hc16 := g61.heap hc16
     replace G := G.tr g61
     clear u60 g57 hb55 hc56
     refine qZ 6 ?_
     refine stn (qS hc16 ?_)
     intro w66 hc67 u68
     replace hc4 := u68.heap hc4 ne19
     replace hc10 := u68.heap hc10 ne20
     replace hc59 := u68.heap hc59 ne65.symm
     replace G := G.upd u68 hge18
     clear u68 hc16
     refine qZ 3 ?_
     refine ret2 (zA5 rfl hc67 (by rfl)) (zA1 (v := .int .i64 ((zA0 s o.seg at9).2)) rfl) ⟨?_, G⟩
     rw [h9]
theorem qX3 (w : World) {ua uh : Value} {b : Bool} {A : List (List Int)} {s : Src} (H : SrcR Tryz.prog 72 w ua b uh A s) (o : Ob) (ho : ObR o) (k : Int) (k0 : 0 ≤ k) (k1 : k ≤ 9223372036854775807) : zB8 Tryz.prog 104 #[.agg #[ua, .bool b, uh], .agg #[.int .i64 o.kind, .int .i64 o.seg, .int .i64 o.at_, .int .i64 o.data, .int .i64 o.ptrs, .int .i64 o.size, .int .i64 o.count], .int .i64 k] w (.tuple #[.int .u64 ((atS s o k).1), .int .i64 ((atS s o k).2)]) := by
 obtain ⟨rk, rs, ra, rd, rp, rz, rc⟩ := ho
 have G := Grow.rfl' w
 refine zA9 Tryz.func104 Tryz.ntmps104 Tryz.results104 rfl rfl ?_
 refine qZ 2 ?_
 refine stp ?_
 refine qC ?_
 intro b1 w2 hb3 hc4 g5
 have hge6 := Nat.le_trans G.size hb3
 replace G := G.tr g5
 clear g5 hb3
 refine stp ?_
 refine qC ?_
 intro b7 w8 hb9 hc10 g11
 have hge12 := Nat.le_trans G.size hb9
 replace hc4 := g11.heap hc4
 replace G := G.tr g11
 clear g11 hb9
 refine qZ 8 ?_
 refine stp (zC7 rfl rfl ?_)
 refine qZ 1 ?_
 refine qG 2 ?_
 refine zA3 (zB0 (s := .bool _) (v := .bool (decide (o.kind = 1))) rfl (zE2 _) (fun hc15 => ?_) ?_)
 ·
  have hc15_ := hc15
  try simp only [sb] at hc15_
  refine zC7 (gvt hc15) rfl ?_
  exact ⟨rfl, rfl⟩
 refine qG 1 ?_
 refine zA3 (zB0 (s := gv (!(decide (o.kind = 0))) (.bool (decide (o.kind = 1)))) (b := true) (v := .int .i64 k) rfl (zI0 _ _) (fun hc17 => ?_) ?_)
 ·
  obtain ⟨hc17a, hc17b⟩ := and_t hc17
  have hc17a_ := hc17a
  try simp only [sb] at hc17a_
  have hc17b_ := qT hc17b
  refine zC8 rfl ?_
  exact ⟨rfl, rfl⟩
 refine zA3 (zB0 (s := gv (!(decide (o.kind = 0))) (.bool (decide (o.kind = 1)))) (b := true) (v := .pointer (some ⟨b7, 3, none⟩)) rfl (zI0 _ _) (fun hc18 => ?_) ?_)
 ·
  obtain ⟨hc18a, hc18b⟩ := and_t hc18
  have hc18a_ := hc18a
  try simp only [sb] at hc18a_
  have hc18b_ := qT hc18b
  refine zD0 rfl ?_
  exact ⟨rfl, rfl⟩
 refine zA3 (zB0 (s := gv (!(decide (o.kind = 0))) (.bool (decide (o.kind = 1)))) (b := true) (v := .int .i64 o.data) rfl (zI0 _ _) (fun hc19 => ?_) ?_)
 ·
  obtain ⟨hc19a, hc19b⟩ := and_t hc19
  have hc19a_ := hc19a
  try simp only [sb] at hc19a_
  have hc19b_ := qT hc19b
  refine zG2 (v := .int .i64 o.data) (gvt hc19) hc10 rfl ?_
  exact ⟨rfl, rfl⟩
 refine zA3 (zB0 (s := gv (!(decide (o.kind = 0))) (.bool (decide (o.kind = 1)))) (b := true) (v := .bool (decide (k ≥ o.data))) rfl (zI0 _ _) (fun hc20 => ?_) ?_)
 ·
  obtain ⟨hc20a, hc20b⟩ := and_t hc20
  have hc20a_ := hc20a
  try simp only [sb] at hc20a_
  have hc20b_ := qT hc20b
  refine zO4 (gvt hc20) (gvt hc20) ?_
  exact ⟨rfl, rfl⟩
 refine zA3 (zB0 (s := .bool _) (v := .bool ((decide (o.kind = 1)) && (decide (k ≥ o.data)))) rfl (zE2 _) (fun hc21 => ?_) ?_)
 ·
  have hc21_ := hc21
  try simp only [sb] at hc21_
  refine zV5 hc21 (gvt hc21) rfl rfl ?_
  exact ⟨rfl, rfl⟩
 refine stp (zH6 rfl rfl rfl ?_)
 refine zA6 ?_
 refine zA2 (b := ((decide (o.kind = 0)) || ((decide (o.kind = 1)) && (decide (k ≥ o.data))))) rfl (fun h1 => ?_) (fun h1 => ?_)
 ·
  simp only [sb] at h1
  refine qZ 6 ?_
  refine ret2 (zA1 (v := .int .u64 0) rfl) (zA1 (v := .int .i64 0) rfl) ⟨?_, G⟩
  have h9 : atS s o k = (0, 0) := by unfold atS; rw [if_pos (by omega)]
  rw [h9]
 ·
  simp only [sb] at h1
  have h1n : ¬ (o.kind = 0 ∨ o.kind = 1 ∧ k ≥ o.data) := by omega
  refine qZ 6 ?_
  refine stp (zC7 rfl rfl ?_)
  refine zA6 ?_
  refine zA2 (b := (decide (o.kind = 1))) rfl (fun h3 => ?_) (fun h3 => ?_)
  ·
   replace h3 := qT h3
   refine qZ 8 ?_
   refine stp (zB5 rfl rfl ?_ ?_); constructor <;> omega
   refine stp (zA4 (v := .tuple #[.int .u64 ((s.word o.seg (o.at_ + k)).1), .int .i64 ((s.word o.seg (o.at_ + k)).2)]) rfl (H.word _ G o.seg (o.at_ + k) (by simp only [inR]; omega) (by simp only [inR]; omega)) ?_)
   intro w22 g23
   replace hc4 := g23.heap hc4
   replace hc10 := g23.heap hc10
   replace G := G.tr g23
   clear g23
   refine qZ 14 ?_
   refine ret2 (zA1 (v := .int .u64 ((s.word o.seg (o.at_ + k)).1)) rfl) (zA1 (v := .int .i64 ((s.word o.seg (o.at_ + k)).2)) rfl) ⟨?_, G⟩
   have h9 : atS s o k = s.word o.seg (o.at_ + k) := by unfold atS; rw [if_neg h1n, if_pos h3]
   rw [h9]
  ·
   replace h3 := qF h3
   refine qZ 6 ?_
   refine stp (zC7 rfl rfl ?_)
   refine zA6 ?_
   refine zA2 (b := (decide (o.size = 6))) rfl (fun h4 => ?_) (fun h4 => ?_)
   ·
    replace h4 := qT h4
    refine qZ 6 ?_
    refine ret2 (zA1 (v := .int .u64 0) rfl) (zA1 (v := .int .i64 23) rfl) ⟨?_, G⟩
    have h9 : atS s o k = (0, 23) := by unfold atS; rw [if_neg h1n, if_neg h3, if_pos h4]
    rw [h9]
   ·
    replace h4 := qF h4
    refine qZ 7 ?_
    refine stp (zO4 rfl rfl ?_)
    refine zA6 ?_
    refine zA2 (b := (decide (k ≥ o.count))) rfl (fun h5 => ?_) (fun h5 => ?_)
    ·
     replace h5 := qT h5
     refine qZ 6 ?_
     refine ret2 (zA1 (v := .int .u64 0) rfl) (zA1 (v := .int .i64 20) rfl) ⟨?_, G⟩
     have h9 : atS s o k = (0, 20) := by unfold atS; rw [if_neg h1n, if_neg h3, if_neg h4, if_pos h5]
     rw [h9]
    ·
     replace h5 := qF h5
     refine qZ 6 ?_
     refine stp (zC7 rfl rfl ?_)
     refine zA6 ?_
     refine zA2 (b := (decide (o.size = 5))) rfl (fun h6 => ?_) (fun h6 => ?_)
     ·
      replace h6 := qT h6
      refine qZ 8 ?_
      refine stp (zB5 rfl rfl ?_ ?_); constructor <;> omega
      refine stp (zA4 (v := .tuple #[.int .u64 ((s.word o.seg (o.at_ + k)).1), .int .i64 ((s.word o.seg (o.at_ + k)).2)]) rfl (H.word _ G o.seg (o.at_ + k) (by simp only [inR]; omega) (by simp only [inR]; omega)) ?_)
      intro w24 g25
      replace hc4 := g25.heap hc4
      replace hc10 := g25.heap hc10
      replace G := G.tr g25
      clear g25
      refine qZ 14 ?_
      refine ret2 (zA1 (v := .int .u64 ((s.word o.seg (o.at_ + k)).1)) rfl) (zA1 (v := .int .i64 ((s.word o.seg (o.at_ + k)).2)) rfl) ⟨?_, G⟩
      have h9 : atS s o k = s.word o.seg (o.at_ + k) := by unfold atS; rw [if_neg h1n, if_neg h3, if_neg h4, if_neg h5, if_pos h6]
      rw [h9]
     ·
      replace h6 := qF h6
      obtain ⟨n1, n2, -, -⟩ := H.num o.seg (o.at_ + k / 8)
      refine qZ 9 ?_
      refine stp (zY0 rfl rfl ?_ ?_ ?_ ?_); omega; omega; (constructor <;> omega)
      refine stp (zB5 rfl rfl ?_ ?_); constructor <;> omega
      refine stp (zA4 (v := .tuple #[.int .u64 ((s.word o.seg (o.at_ + (k / 8))).1), .int .i64 ((s.word o.seg (o.at_ + (k / 8))).2)]) rfl (H.word _ G o.seg (o.at_ + (k / 8)) (by simp only [inR]; omega) (by simp only [inR]; omega)) ?_)
      intro w26 g27
      replace hc4 := g27.heap hc4
      replace hc10 := g27.heap hc10
      replace G := G.tr g27
      clear g27
      refine qZ 12 ?_
      refine zF2 (fun m_ e_ w_ => ∃ (j : Nat), m_ = 8 - j ∧ Fr [(2, .int .i64 k), (6, .int .u64 0), (7, .int .i64 0), (13, .int .i64 ((s.word o.seg (o.at_ + (k / 8))).2)), (12, .int .u64 ((s.word o.seg (o.at_ + k / 8)).1 / 2 ^ (8 * j))), (14, .int .i64 (j : Int))] e_ ∧ ((j : Int) ≤ k % 8) ∧ (w_.heap[b1]? = some (.cells #[ua, .bool b, uh] 86 (0, 0))) ∧ (w_.heap[b7]? = some (.cells #[.int .i64 o.kind, .int .i64 o.seg, .int .i64 o.at_, .int .i64 o.data, .int .i64 o.ptrs, .int .i64 o.size, .int .i64 o.count] 112 (0, 0))) ∧ Grow w w_) _ ⟨0, rfl, zC3 ⟨rfl, rfl, rfl, rfl, congrArg (Value.int .u64) (by simp), rfl, trivial⟩, by omega, hc4, hc10, G⟩ ?_
      clear hc4 hc10
      clear G
      rintro m_ e_ w28 ⟨j, rfl, ⟨e29, rfl⟩, hj, hc4, hc10, G⟩
      have hsr := qU9 (s.word o.seg (o.at_ + k / 8)).1 j n1 n2
      refine qZ 5 ?_
      refine stp (zO7 rfl rfl ?_ ?_ ?_); omega; omega
      refine stp (zF1 rfl rfl ?_)
      refine zA6 ?_
      refine zA2 (b := (decide ((j : Int) < (k % 8)))) rfl (fun hlt => ?_) (fun hlt => ?_)
      ·
       replace hlt := qT hlt
       refine qZ 5 ?_
       refine stp (zY0 rfl rfl ?_ ?_ ?_ ?_); omega; omega; (constructor <;> omega)
       refine qZ 4 ?_
       refine stp (zB5 rfl rfl ?_ ?_); constructor <;> omega
       refine qZ 2 ?_
       refine ⟨_, ?_, j + 1, rfl, zC3 ⟨rfl, rfl, rfl, rfl, congrArg (Value.int .u64) (yF3 _ _), congrArg (Value.int .i64) (by omega), trivial⟩, by omega, hc4, hc10, G⟩
       omega
      ·
       replace hlt := qF hlt
       have hj9 : 8 * j = (k % 8 * 8).toNat := by omega
       rw [hj9] at hsr
       have h9 : atS s o k = ((s.word o.seg (o.at_ + k / 8)).1 / 2 ^ (8 * j) % 256, (s.word o.seg (o.at_ + k / 8)).2) := by rw [hj9]; unfold atS; rw [if_neg h1n, if_neg h3, if_neg h4, if_neg h5, if_neg h6]
       rw [← hj9] at hsr
       refine qZ 4 ?_
       refine stp (zO7 rfl rfl ?_ ?_ ?_); omega; omega
       refine qZ 5 ?_
       refine ret2 (zA1 (v := .int .u64 (((s.word o.seg (o.at_ + k / 8)).1 / 2 ^ (8 * j)) % 256)) rfl) (zA1 (v := .int .i64 ((s.word o.seg (o.at_ + (k / 8))).2)) rfl) ⟨?_, G⟩
       rw [h9]
theorem qR1 (w : World) {ua uh : Value} {b : Bool} {A : List (List Int)} {s : Src} (H : SrcR Tryz.prog 72 w ua b uh A s) (o : Ob) (ho : ObR o) (k : Int) (k1 : inR .i64 k) : zB8 Tryz.prog 69 #[.agg #[ua, .bool b, uh], .agg #[.int .i64 o.kind, .int .i64 o.seg, .int .i64 o.at_, .int .i64 o.data, .int .i64 o.ptrs, .int .i64 o.size, .int .i64 o.count], .int .i64 k] w (.tuple #[.agg #[.int .i64 ((valS s o k).1.kind), .int .i64 ((valS s o k).1.size), .int .i64 ((valS s o k).1.words), .int .i64 ((valS s o k).1.kids), .int .u64 ((valS s o k).1.word)], .int .i64 ((valS s o k).2)]) := by
 simp only [inR] at k1
 have G := Grow.rfl' w
 refine zA9 Tryz.func69 Tryz.ntmps69 Tryz.results69 rfl rfl ?_
 refine qZ 2 ?_
 refine stp ?_
 refine qC ?_
 intro b1 w2 hb3 hc4 g5
 have hge6 := Nat.le_trans G.size hb3
 replace G := G.tr g5
 clear g5 hb3
 refine stp ?_
 refine qC ?_
 intro b7 w8 hb9 hc10 g11
 have hge12 := Nat.le_trans G.size hb9
 replace hc4 := g11.heap hc4
 replace G := G.tr g11
 clear g11 hb9
 refine stp (zA8 ?_)
 intro b13 w14 hb15 hc16 g17
 refine qZ 6 ?_
 refine stp (zO4 rfl rfl ?_)
 refine zA6 ?_
 have hge18 := Nat.le_trans G.size hb15
 have ne19 := qN hc4 hb15
 have ne20 := qN hc10 hb15
 replace hc4 := g17.heap hc4
 replace hc10 := g17.heap hc10
 replace G := G.tr g17
 clear g17 hb15
 refine zA2 (b := (decide (k ≥ 0))) rfl (fun h1 => ?_) (fun h1 => ?_)
 ·
  replace h1 := qT h1
  refine qZ 5 ?_
  refine stp (zA4 (v := .tuple #[.int .u64 ((atS s o k).1), .int .i64 ((atS s o k).2)]) rfl (qX3 _ (H.grow G) o ho k (by omega) (by omega)) ?_)
  intro w21 g22
  replace hc4 := g22.heap hc4
  replace hc10 := g22.heap hc10
  replace hc16 := g22.heap hc16
  replace G := G.tr g22
  clear g22
  refine qZ 10 ?_
  refine stp (zG1 rfl rfl ?_)
  refine zA6 ?_
  refine zA2 (b := (decide (((atS s o k).2) ≠ 0))) rfl (fun h2 => ?_) (fun h2 => ?_)
  ·
   replace h2 := qT h2
   refine qZ 2 ?_
   refine stp (zA7 (v := .agg #[.int .i64 0, .int .i64 0, .int .i64 0, .int .i64 0, .int .u64 0]) (fun w => by kernel_rfl) ?_)
   refine qZ 1 ?_
   refine stn (qS hc16 ?_)
   intro w23 hc24 u25
   replace hc4 := u25.heap hc4 ne19
   replace hc10 := u25.heap hc10 ne20
   replace G := G.upd u25 hge18
   clear u25 hc16
   refine qZ 3 ?_
   have h9 : valS s o k = (Vl0, (atS s o k).2) := by unfold valS; rw [if_neg (by omega), if_pos h2]
   refine ret2 (zA5 rfl hc24 (by rfl)) (zA1 (v := .int .i64 ((atS s o k).2)) rfl) ⟨?_, G⟩
   rw [h9] <;> rfl
  ·
   replace h2 := qF h2
   refine qZ 6 ?_
   refine stp (zA7 (v := .agg #[.int .i64 o.kind, .int .i64 0, .int .i64 0, .int .i64 0, .int .u64 ((atS s o k).1)]) (fun w => by kernel_rfl) ?_)
   refine stn (qS hc16 ?_)
   intro w26 hc27 u28
   replace hc4 := u28.heap hc4 ne19
   replace hc10 := u28.heap hc10 ne20
   replace G := G.upd u28 hge18
   clear u28 hc16
   refine qZ 3 ?_
   have h9 : valS s o k = (⟨o.kind, 0, 0, 0, (atS s o k).1⟩, 0) := by unfold valS; rw [if_neg (by omega), if_neg h2]
   refine ret2 (zA5 rfl hc27 (by rfl)) (zA1 (v := .int .i64 0) rfl) ⟨?_, G⟩
   rw [h9] <;> rfl
 ·
  replace h1 := qF h1
  refine qZ 11 ?_
  refine stp (zA7 (v := .agg #[.int .i64 o.kind, .int .i64 o.size, .int .i64 o.data, .int .i64 o.ptrs, .int .u64 0]) (fun w => by kernel_rfl) ?_)
  refine stp (zA8 ?_)
  intro b29 w30 hb31 hc32 g33
  refine stn (qS hc32 ?_)
  intro w34 hc35 u36
  have g37 := g33.upd u36 hb31
  have hge38 := Nat.le_trans G.size hb31
  have ne39 := qN hc4 hb31
  have ne40 := qN hc10 hb31
  have ne41 := qN hc16 hb31
  replace hc4 := g37.heap hc4
  replace hc10 := g37.heap hc10
  replace hc16 := g37.heap hc16
  replace G := G.tr g37
  clear u36 g33 hb31 hc32
  refine qZ 6 ?_
  refine stp (zC7 rfl rfl ?_)
  refine qZ 1 ?_
  refine qG 2 ?_
  refine zA3 (zB0 (s := .bool _) (v := .bool (decide (o.size = 6))) rfl (zE1 _) (fun hc44 => ?_) ?_)
  ·
   have hc44_ := qT hc44
   refine zC7 (gvt hc44) rfl ?_
   exact ⟨rfl, rfl⟩
  refine stp (zE8 rfl rfl rfl ?_)
  refine zA6 ?_
  refine zA2 (b := ((decide (o.kind = 2)) && (decide (o.size = 6)))) rfl (fun h2 => ?_) (fun h2 => ?_)
  ·
   simp only [sb] at h2
   refine qZ 4 ?_
   refine stn (zB9 (v := .int .i64 o.count) rfl rfl (by rfl) hc35 (by rfl) (by rfl) ?_)
   intro w45 hc46 u47
   replace hc4 := u47.heap hc4 ne39
   replace hc10 := u47.heap hc10 ne40
   replace hc16 := u47.heap hc16 ne41
   replace G := G.upd u47 hge38
   clear u47 hc35
   refine qZ 4 ?_
   refine stn (qS hc16 ?_)
   intro w48 hc49 u50
   replace hc4 := u50.heap hc4 ne19
   replace hc10 := u50.heap hc10 ne20
   replace hc46 := u50.heap hc46 ne41.symm
   replace G := G.upd u50 hge18
   clear u50 hc16
   refine qZ 3 ?_
   have h9 : valS s o k = (⟨o.kind, o.size, o.data, o.count, 0⟩, 0) := by unfold valS; rw [if_pos (by omega)]; unfold isS; rw [if_neg (by omega), if_pos (by omega)]
   refine ret2 (zA5 rfl hc49 (by rfl)) (zA1 (v := .int .i64 0) rfl) ⟨?_, G⟩
   rw [h9] <;> rfl
  ·
   simp only [sb] at h2
   refine qZ 4 ?_
   refine stp (zC7 rfl rfl ?_)
   refine zA6 ?_
   refine zA2 (b := (decide (o.kind = 2))) rfl (fun h3 => ?_) (fun h3 => ?_)
   ·
    replace h3 := qT h3
    refine qZ 4 ?_
    refine stn (zB9 (v := .int .i64 o.count) rfl rfl (by rfl) hc35 (by rfl) (by rfl) ?_)
    intro w51 hc52 u53
    replace hc4 := u53.heap hc4 ne39
    replace hc10 := u53.heap hc10 ne40
    replace hc16 := u53.heap hc16 ne41
    replace G := G.upd u53 hge38
    clear u53 hc35
    refine qZ 4 ?_
    refine stn (qS hc16 ?_)
    intro w54 hc55 u56
    replace hc4 := u56.heap hc4 ne19
    replace hc10 := u56.heap hc10 ne20
    replace hc52 := u56.heap hc52 ne41.symm
    replace G := G.upd u56 hge18
    clear u56 hc16
    refine qZ 3 ?_
    have h9 : valS s o k = (⟨o.kind, o.size, o.count, o.ptrs, 0⟩, 0) := by unfold valS; rw [if_pos (by omega)]; unfold isS; rw [if_pos (by omega), if_neg (by omega)]
    refine ret2 (zA5 rfl hc55 (by rfl)) (zA1 (v := .int .i64 0) rfl) ⟨?_, G⟩
    rw [h9] <;> rfl
   ·
    replace h3 := qF h3
    refine qZ 4 ?_
    refine stn (qS hc16 ?_)
    intro w57 hc58 u59
    replace hc4 := u59.heap hc4 ne19
    replace hc10 := u59.heap hc10 ne20
    replace hc35 := u59.heap hc35 ne41.symm
    replace G := G.upd u59 hge18
    clear u59 hc16
    refine qZ 3 ?_
    have h9 : valS s o k = (⟨o.kind, o.size, o.data, o.ptrs, 0⟩, 0) := by unfold valS; rw [if_pos (by omega)]; unfold isS; rw [if_neg (by omega), if_neg (by omega)]
    refine ret2 (zA5 rfl hc58 (by rfl)) (zA1 (v := .int .i64 0) rfl) ⟨?_, G⟩
    rw [h9] <;> rfl
theorem qX4 (w : World) {ua uh : Value} {b : Bool} {A : List (List Int)} {s : Src} (H : SrcR Tryz.prog 72 w ua b uh A s) {ad : Option Addr} {c : Nat} {steps : List Int} {a cost : Int} (R : RowAt w 1 ad steps.length (steps.map (.int .i64))) (ha : inR .i64 a) (hc : 0 ≤ cost ∧ cost ≤ 9000000000000000000) : zB8 Tryz.prog 35 #[.agg #[ua, .bool b, uh], .agg #[.slice ad steps.length c, .int .i64 a], .int .i64 cost] w (.tuple #[.agg #[.int .i64 ((zF9 s steps a cost).1.kind), .int .i64 ((zF9 s steps a cost).1.size), .int .i64 ((zF9 s steps a cost).1.words), .int .i64 ((zF9 s steps a cost).1.kids), .int .u64 ((zF9 s steps a cost).1.word)], .int .i64 ((zF9 s steps a cost).2)]) := by
 have ll := R.lim
 have G := Grow.rfl' w
 refine zA9 Tryz.func35 Tryz.ntmps35 Tryz.results35 rfl rfl ?_
 refine qZ 2 ?_
 refine stp ?_
 refine qC ?_
 intro b1 w2 hb3 hc4 g5
 have hge6 := Nat.le_trans G.size hb3
 replace G := G.tr g5
 clear g5 hb3
 refine stp ?_
 refine qC ?_
 intro b7 w8 hb9 hc10 g11
 have hge12 := Nat.le_trans G.size hb9
 replace hc4 := g11.heap hc4
 replace G := G.tr g11
 clear g11 hb9
 refine stp (zA8 ?_)
 intro b13 w14 hb15 hc16 g17
 refine qZ 8 ?_
 have hge18 := Nat.le_trans G.size hb15
 have ne19 := qN hc4 hb15
 have ne20 := qN hc10 hb15
 replace hc4 := g17.heap hc4
 replace hc10 := g17.heap hc10
 replace G := G.tr g17
 clear g17 hb15
 refine zF2 (fun m_ e_ w_ => ∃ (k : Nat), m_ = steps.length - k ∧ Fr [(2, .int .i64 cost), (3, .pointer (some ⟨b1, 0, none⟩)), (4, .pointer (some ⟨b7, 0, none⟩)), (6, .pointer (some ⟨b13, 0, none⟩)), (8, .int .i64 (k : Int))] e_ ∧ (k ≤ steps.length) ∧ (∀ j, j < k → 0 ≤ steps.getD j 0) ∧ (w_.heap[b1]? = some (.cells #[ua, .bool b, uh] 86 (0, 0))) ∧ (w_.heap[b7]? = some (.cells #[.slice ad steps.length c, .int .i64 a] 30 (0, 0))) ∧ (w_.heap[b13]? = some (.cells #[.int .i64 0, .int .i64 0, .int .i64 0, .int .i64 0, .int .u64 0] 40 (0, 0))) ∧ Grow w w_) _ ⟨0, rfl, zC3 ⟨rfl, rfl, rfl, rfl, rfl, trivial⟩, by omega, fun j hj => by omega, hc4, hc10, hc16, G⟩ ?_
 clear hc4 hc10 hc16
 clear G
 rintro m_ e_ w21 ⟨k, rfl, ⟨e22, rfl⟩, hk2, hnn, hc4, hc10, hc16, G⟩
 refine qZ 7 ?_
 refine stp (zF1 rfl rfl ?_)
 refine zA6 ?_
 refine zA2 (b := (decide ((k : Int) < (steps.length : Int)))) rfl (fun hlt1 => ?_) (fun hlt1 => ?_)
 ·
  replace hlt1 := qT hlt1
  have hi : k < steps.length := by omega
  refine qZ 8 ?_
  refine stp (zD5 (R.grow G) rfl rfl ?_ ?_); omega
  refine stp (zC6 (v := .int .i64 (steps.getD k 0)) (m := 0) (R.grow G) rfl (zE4 0 (by omega)) ?_)
  refine stp (zF1 rfl rfl ?_)
  refine zA6 ?_
  refine zA2 (b := (decide ((steps.getD k 0) < 0))) rfl (fun h2 => ?_) (fun h2 => ?_)
  ·
   replace h2 := qT h2
   refine qZ 2 ?_
   refine stp (zA7 (v := .agg #[.int .i64 0, .int .i64 0, .int .i64 0, .int .i64 0, .int .u64 0]) (fun w => by kernel_rfl) ?_)
   refine stn (qS hc16 ?_)
   intro w23 hc24 u25
   replace hc4 := u25.heap hc4 ne19
   replace hc10 := u25.heap hc10 ne20
   replace G := G.upd u25 hge18
   clear u25 hc16
   refine qZ 3 ?_
   have h9 : (zF9 s steps a cost) = (Vl0, 1) := by unfold zF9; rw [if_pos ⟨_, qC4 hi, h2⟩]
   refine ret2 (zA5 rfl hc24 (by rfl)) (zA1 (v := .int .i64 1) rfl) ⟨?_, G⟩
   rw [h9] <;> rfl
  ·
   replace h2 := qF h2
   refine qZ 3 ?_
   refine stp (zB5 rfl rfl ?_ ?_); constructor <;> omega
   refine qZ 2 ?_
   refine ⟨_, ?_, k + 1, rfl, zC3 ⟨rfl, rfl, rfl, rfl, rfl, trivial⟩, by omega, fun j hj => by rcases Nat.lt_succ_iff_lt_or_eq.1 hj with h_ | h_; exact hnn j h_; subst h_; omega, hc4, hc10, hc16, G⟩
   omega
 ·
  replace hlt1 := qF hlt1
  replace hnn : ∀ j, j < steps.length → 0 ≤ steps.getD j 0 := fun j hj => hnn j (by omega)
  have hno : ¬ ∃ k ∈ steps, k < 0 := fun ⟨x_, hx_, hlt_⟩ => by obtain ⟨j_, hj_, he_⟩ := List.getElem_of_mem hx_; have := hnn j_ hj_; rw [zE5 hj_] at this; omega
  refine qZ 7 ?_
  refine stp (zM7 rfl rfl ?_)
  refine zA6 ?_
  refine zA2 (b := (decide ((steps.length : Int) > 32))) rfl (fun h3 => ?_) (fun h3 => ?_)
  ·
   replace h3 := qT h3
   refine qZ 2 ?_
   refine stp (zA7 (v := .agg #[.int .i64 0, .int .i64 0, .int .i64 0, .int .i64 0, .int .u64 0]) (fun w => by kernel_rfl) ?_)
   refine stn (qS hc16 ?_)
   intro w26 hc27 u28
   replace hc4 := u28.heap hc4 ne19
   replace hc10 := u28.heap hc10 ne20
   replace G := G.upd u28 hge18
   clear u28 hc16
   refine qZ 3 ?_
   have h9 : (zF9 s steps a cost) = (Vl0, 3) := by unfold zF9; rw [if_neg hno, if_pos h3]
   refine ret2 (zA5 rfl hc27 (by rfl)) (zA1 (v := .int .i64 3) rfl) ⟨?_, G⟩
   rw [h9] <;> rfl
  ·
   replace h3 := qF h3
   have hw0 := yT9 (s := s) (a := a) hno h3 hc.1
   have ho0 := H.follow_range 0 0
   refine qZ 4 ?_
   refine stp (zA4 (v := .tuple #[.agg #[.int .i64 ((zA0 s 0 0).1.kind), .int .i64 ((zA0 s 0 0).1.seg), .int .i64 ((zA0 s 0 0).1.at_), .int .i64 ((zA0 s 0 0).1.data), .int .i64 ((zA0 s 0 0).1.ptrs), .int .i64 ((zA0 s 0 0).1.size), .int .i64 ((zA0 s 0 0).1.count)], .int .i64 ((zA0 s 0 0).2)]) rfl (zP1 _ (H.grow G) 0 0 (by simp [inR]) (by simp [inR])) ?_)
   intro w29 g30
   replace hc4 := g30.heap hc4
   replace hc10 := g30.heap hc10
   replace hc16 := g30.heap hc16
   replace G := G.tr g30
   clear g30
   refine qZ 3 ?_
   refine stp (zA8 ?_)
   intro b31 w32 hb33 hc34 g35
   refine stn (qS hc34 ?_)
   intro w36 hc37 u38
   have g39 := g35.upd u38 hb33
   have hge40 := Nat.le_trans G.size hb33
   have ne41 := qN hc4 hb33
   have ne42 := qN hc10 hb33
   have ne43 := qN hc16 hb33
   replace hc4 := g39.heap hc4
   replace hc10 := g39.heap hc10
   replace hc16 := g39.heap hc16
   replace G := G.tr g39
   clear u38 g35 hb33 hc34
   refine qZ 12 ?_
   refine zF2 (fun m_ e_ w_ => ∃ (i : Nat) (o : Ob) (e : Int) (paid : Int), m_ = steps.length + 1 - i ∧ Fr [(2, .int .i64 cost), (3, .pointer (some ⟨b1, 0, none⟩)), (4, .pointer (some ⟨b7, 0, none⟩)), (6, .pointer (some ⟨b13, 0, none⟩)), (9, .pointer (some ⟨b31, 0, none⟩)), (12, .int .i64 (i : Int)), (10, .int .i64 e), (11, .int .i64 paid)] e_ ∧ (i ≤ steps.length + 1) ∧ (ObR o) ∧ (0 ≤ paid ∧ paid ≤ 536870913 * (i : Int)) ∧ (i ≤ steps.length → (zF9 s steps a cost) = qL8 s steps a cost i o e paid) ∧ (i = steps.length + 1 → (zF9 s steps a cost) = valS s o a) ∧ (w_.heap[b1]? = some (.cells #[ua, .bool b, uh] 86 (0, 0))) ∧ (w_.heap[b7]? = some (.cells #[.slice ad steps.length c, .int .i64 a] 30 (0, 0))) ∧ (w_.heap[b13]? = some (.cells #[.int .i64 0, .int .i64 0, .int .i64 0, .int .i64 0, .int .u64 0] 40 (0, 0))) ∧ (w_.heap[b31]? = some (.cells #[.int .i64 o.kind, .int .i64 o.seg, .int .i64 o.at_, .int .i64 o.data, .int .i64 o.ptrs, .int .i64 o.size, .int .i64 o.count] 112 (0, 0))) ∧ Grow w w_) _ ⟨0, (zA0 s 0 0).1, (zA0 s 0 0).2, 0, rfl, zC3 ⟨rfl, rfl, rfl, rfl, rfl, rfl, rfl, rfl, trivial⟩, by omega, ho0, by omega, fun _ => hw0, fun h_ => by omega, hc4, hc10, hc16, hc37, G⟩ ?_
   clear hc4 hc10 hc16 hc37
   clear G
   rintro m_ e_ w44 ⟨i, o, e, paid, rfl, ⟨e45, rfl⟩, hi1, ho, hpd, hw, hv0, hc4, hc10, hc16, hc37, G⟩
   have hwo := zI6 ho
   refine qZ 7 ?_
   refine stp (zU8 rfl rfl ?_)
   refine zA6 ?_
   refine zA2 (b := (decide ((i : Int) ≤ (steps.length : Int)))) rfl (fun hlt => ?_) (fun hlt => ?_)
   ·
    replace hlt := qT hlt
    have hil : i ≤ steps.length := by omega
    have hw1 := hw hil
    refine qZ 7 ?_
    refine stp (zG1 rfl rfl ?_)
    refine zA6 ?_
    refine zA2 (b := (decide (e ≠ 0))) rfl (fun he => ?_) (fun he => ?_)
    ·
     replace he := qT he
     refine qZ 2 ?_
     refine stp (zA7 (v := .agg #[.int .i64 0, .int .i64 0, .int .i64 0, .int .i64 0, .int .u64 0]) (fun w => by kernel_rfl) ?_)
     refine qZ 1 ?_
     refine stn (qS hc16 ?_)
     intro w46 hc47 u48
     replace hc4 := u48.heap hc4 ne19
     replace hc10 := u48.heap hc10 ne20
     replace hc37 := u48.heap hc37 ne43.symm
     replace G := G.upd u48 hge18
     clear u48 hc16
     refine qZ 3 ?_
     have h9 : (zF9 s steps a cost) = (Vl0, e) := by rw [hw1]; unfold qL8; rw [if_pos he]
     refine ret2 (zA5 rfl hc47 (by rfl)) (zA1 (v := .int .i64 e) rfl) ⟨?_, G⟩
     rw [h9] <;> rfl
    ·
     replace he := qF he
     have he9 : e = 0 := by omega
     subst he9
     refine qZ 5 ?_
     refine stp (zA4 (v := .int .i64 (zB2 o)) rfl (zU1 _ o) ?_)
     intro w49 g50
     replace hc4 := g50.heap hc4
     replace hc10 := g50.heap hc10
     replace hc16 := g50.heap hc16
     replace hc37 := g50.heap hc37
     replace G := G.tr g50
     clear g50
     refine stp (zB5 rfl rfl ?_ ?_); constructor <;> omega
     refine stp (zB5 rfl rfl ?_ ?_); constructor <;> omega
     refine qZ 7 ?_
     refine stp (zM7 rfl rfl ?_)
     refine zA6 ?_
     refine zA2 (b := (decide ((paid + (1 + (zB2 o))) > cost))) rfl (fun h7 => ?_) (fun h7 => ?_)
     ·
      replace h7 := qT h7
      refine qZ 2 ?_
      refine stp (zA7 (v := .agg #[.int .i64 0, .int .i64 0, .int .i64 0, .int .i64 0, .int .u64 0]) (fun w => by kernel_rfl) ?_)
      refine stn (qS hc16 ?_)
      intro w51 hc52 u53
      replace hc4 := u53.heap hc4 ne19
      replace hc10 := u53.heap hc10 ne20
      replace hc37 := u53.heap hc37 ne43.symm
      replace G := G.upd u53 hge18
      clear u53 hc16
      refine qZ 3 ?_
      have h9 : (zF9 s steps a cost) = (Vl0, 22) := by rw [hw1]; unfold qL8; rw [if_neg (by simp), if_pos (by omega)]
      refine ret2 (zA5 rfl hc52 (by rfl)) (zA1 (v := .int .i64 22) rfl) ⟨?_, G⟩
      rw [h9] <;> rfl
     ·
      replace h7 := qF h7
      have hnv : ¬ (paid + (1 + zB2 o)) > cost := by omega
      refine qZ 7 ?_
      refine stp (zF1 rfl rfl ?_)
      refine zA6 ?_
      refine zA2 (b := (decide ((i : Int) < (steps.length : Int)))) rfl (fun h8 => ?_) (fun h8 => ?_)
      ·
       replace h8 := qT h8
       have hi : i < steps.length := by omega
       have hkk := hnn i hi
       have hso := H.stepO_range o (steps.getD i 0)
       have hw2 := yT8 (s := s) (a := a) hi hnv
       have hsz54 : w49.heap.size ≤ w49.heap.size := Nat.le_refl _
       have ltf54_hc4 := zB3 hc4
       have ltf54_hc10 := zB3 hc10
       have ltf54_hc16 := zB3 hc16
       have ltf54_hc37 := zB3 hc37
       have hgz54 := G.size
       refine qA7 ?_
       have kb_hc4 : ∀ w_, (ktR 112 w49.heap.size).r w49 w_ → w_.heap[b1]? = some (.cells #[ua, .bool b, uh] 86 (0, 0)) := fun w_ k_ => (KtP.to_grow k_ (Grow.rfl' _)).heap hc4
       have kb_hc10 : ∀ w_, (ktR 112 w49.heap.size).r w49 w_ → w_.heap[b7]? = some (.cells #[.slice ad steps.length c, .int .i64 a] 30 (0, 0)) := fun w_ k_ => (KtP.to_grow k_ (Grow.rfl' _)).heap hc10
       have kb_hc16 : ∀ w_, (ktR 112 w49.heap.size).r w49 w_ → w_.heap[b13]? = some (.cells #[.int .i64 0, .int .i64 0, .int .i64 0, .int .i64 0, .int .u64 0] 40 (0, 0)) := fun w_ k_ => (KtP.to_grow k_ (Grow.rfl' _)).heap hc16
       have kb_hc37 : ∀ w_, (ktR 112 w49.heap.size).r w49 w_ → w_.heap[b31]? = some (.cells #[.int .i64 o.kind, .int .i64 o.seg, .int .i64 o.at_, .int .i64 o.data, .int .i64 o.ptrs, .int .i64 o.size, .int .i64 o.count] 112 (0, 0)) := fun w_ k_ => (KtP.to_grow k_ (Grow.rfl' _)).heap hc37
       have kb_hsz54 : ∀ w_, (ktR 112 w49.heap.size).r w49 w_ → w49.heap.size ≤ w_.heap.size := fun w_ k_ => Nat.le_trans hsz54 (KtP.to_grow k_ (Grow.rfl' _)).size
       have kb_G : ∀ w_, (ktR 112 w49.heap.size).r w49 w_ → Grow w w_ := fun w_ k_ => G.tr (KtP.to_grow k_ (Grow.rfl' _))
       refine yF2 13 [[], [], [], [0], [], [2, 1, 0], [3, 2, 1, 0], [6, 5, 4, 3, 2, 1, 0], [7, 6, 5, 4, 3, 2, 1, 0], [8, 7, 6, 5, 4, 3, 2, 1, 0], [9, 8, 7, 6, 5, 4, 3, 2, 1], [], [11, 10, 9, 8, 7, 6, 5, 4, 3, 2, 0]] [12] [13] (grQ (ktR 112 w49.heap.size)) (fun k_ e_ w_ => match k_ with | 0 => True | _ => ∃ b : Nat, e_ 13 = .pointer (some ⟨b, 0, none⟩) ∧ w49.heap.size ≤ b ∧ w_.heap[b]? = some (.cells #[.int .i64 ((stepO s o (steps.getD i 0)).1.kind), .int .i64 ((stepO s o (steps.getD i 0)).1.seg), .int .i64 ((stepO s o (steps.getD i 0)).1.at_), .int .i64 ((stepO s o (steps.getD i 0)).1.data), .int .i64 ((stepO s o (steps.getD i 0)).1.ptrs), .int .i64 ((stepO s o (steps.getD i 0)).1.size), .int .i64 ((stepO s o (steps.getD i 0)).1.count)] 112 (0, 0))) mixed (by kernel_rfl) (by kernel_rfl) (by kernel_rfl) (by kernel_rfl) (by kernel_rfl) (fun k_ _ _ _ g_ h_ => match k_, h_ with | 0, _ => trivial | _ + 1, ⟨b_, h1_, h2_, h3_⟩ => ⟨b_, h1_, h2_, g_.heap h3_⟩) (fun k_ _ _ _ hu_ h_ => match k_, h_ with | 0, _ => trivial | _ + 1, ⟨b_, h1_, h2_, h3_⟩ => ⟨b_, (hu_ _ (by simp)).symm.trans h1_, h2_, h3_⟩) (fun _ _ _ h_ => h_) (fun _ _ => trivial) ?_
       intro w55 g56
       replace kb_hc4 : ∀ w_, (ktR 112 w49.heap.size).r w55 w_ → w_.heap[b1]? = some (.cells #[ua, .bool b, uh] 86 (0, 0)) := fun w_ k_ => kb_hc4 w_ ((ktR 112 w49.heap.size).tr ((ktR 112 w49.heap.size).grow g56) k_)
       replace kb_hc10 : ∀ w_, (ktR 112 w49.heap.size).r w55 w_ → w_.heap[b7]? = some (.cells #[.slice ad steps.length c, .int .i64 a] 30 (0, 0)) := fun w_ k_ => kb_hc10 w_ ((ktR 112 w49.heap.size).tr ((ktR 112 w49.heap.size).grow g56) k_)
       replace kb_hc16 : ∀ w_, (ktR 112 w49.heap.size).r w55 w_ → w_.heap[b13]? = some (.cells #[.int .i64 0, .int .i64 0, .int .i64 0, .int .i64 0, .int .u64 0] 40 (0, 0)) := fun w_ k_ => kb_hc16 w_ ((ktR 112 w49.heap.size).tr ((ktR 112 w49.heap.size).grow g56) k_)
       replace kb_hc37 : ∀ w_, (ktR 112 w49.heap.size).r w55 w_ → w_.heap[b31]? = some (.cells #[.int .i64 o.kind, .int .i64 o.seg, .int .i64 o.at_, .int .i64 o.data, .int .i64 o.ptrs, .int .i64 o.size, .int .i64 o.count] 112 (0, 0)) := fun w_ k_ => kb_hc37 w_ ((ktR 112 w49.heap.size).tr ((ktR 112 w49.heap.size).grow g56) k_)
       replace kb_hsz54 : ∀ w_, (ktR 112 w49.heap.size).r w55 w_ → w49.heap.size ≤ w_.heap.size := fun w_ k_ => kb_hsz54 w_ ((ktR 112 w49.heap.size).tr ((ktR 112 w49.heap.size).grow g56) k_)
       replace kb_G : ∀ w_, (ktR 112 w49.heap.size).r w55 w_ → Grow w w_ := fun w_ k_ => kb_G w_ ((ktR 112 w49.heap.size).tr ((ktR 112 w49.heap.size).grow g56) k_)
       have k0_ : (ktR 112 w49.heap.size).r w49 w55 := ((ktR 112 w49.heap.size).grow g56)
       apply zF0 (hm := by rfl)
       ·intro w_ g_; exact og rfl (zD2 rfl (kb_hc4 _ g_) (by rfl) qX)
       apply zF0 (hm := by rfl)
       ·intro w_ g_; exact og rfl (zD2 rfl (kb_hc37 _ g_) (by rfl) qX)
       apply zF0 (hm := by rfl)
       ·intro w_ g_; exact og rfl (zD0 rfl qX)
       apply zF0 (hm := by rfl)
       ·intro w_ g_; exact og rfl (zG2 (v := .slice ad steps.length c) rfl (kb_hc10 _ g_) rfl qX)
       apply zF0 (hm := by rfl)
       ·intro w_ g_; exact og rfl (zC8 rfl qX)
       apply zF0 (hm := by rfl)
       ·intro w_ g_; refine og rfl ?_; refine zD5 (R.grow (kb_G _ g_)) rfl rfl ?_ ?_; omega; exact qX
       apply zF0 (hm := by rfl)
       ·intro w_ g_; exact og rfl (zC6 (v := .int .i64 (steps.getD i 0)) (m := 0) (R.grow (kb_G _ g_)) rfl (zE4 0 (by omega)) qX)
       apply zF0 (hm := by rfl)
       ·intro w_ g_; refine og rfl ?_; exact zA4 (v := .tuple #[.agg #[.int .i64 ((stepO s o (steps.getD i 0)).1.kind), .int .i64 ((stepO s o (steps.getD i 0)).1.seg), .int .i64 ((stepO s o (steps.getD i 0)).1.at_), .int .i64 ((stepO s o (steps.getD i 0)).1.data), .int .i64 ((stepO s o (steps.getD i 0)).1.ptrs), .int .i64 ((stepO s o (steps.getD i 0)).1.size), .int .i64 ((stepO s o (steps.getD i 0)).1.count)], .int .i64 ((stepO s o (steps.getD i 0)).2)]) rfl (qX2 _ (H.grow (kb_G _ g_)) o ho (steps.getD i 0) hkk) (fun w2_ g2_ => ⟨g2_, rfl⟩)
       apply zF0 (hm := by rfl)
       ·intro w_ g_; exact og rfl (zH4 (v := .tuple #[.agg #[.int .i64 ((stepO s o (steps.getD i 0)).1.kind), .int .i64 ((stepO s o (steps.getD i 0)).1.seg), .int .i64 ((stepO s o (steps.getD i 0)).1.at_), .int .i64 ((stepO s o (steps.getD i 0)).1.data), .int .i64 ((stepO s o (steps.getD i 0)).1.ptrs), .int .i64 ((stepO s o (steps.getD i 0)).1.size), .int .i64 ((stepO s o (steps.getD i 0)).1.count)], .int .i64 ((stepO s o (steps.getD i 0)).2)]) rfl qX)
       apply zF0 (hm := by rfl)
       ·intro w_ g_; exact og rfl (zC9 (v := .agg #[.int .i64 ((stepO s o (steps.getD i 0)).1.kind), .int .i64 ((stepO s o (steps.getD i 0)).1.seg), .int .i64 ((stepO s o (steps.getD i 0)).1.at_), .int .i64 ((stepO s o (steps.getD i 0)).1.data), .int .i64 ((stepO s o (steps.getD i 0)).1.ptrs), .int .i64 ((stepO s o (steps.getD i 0)).1.size), .int .i64 ((stepO s o (steps.getD i 0)).1.count)]) rfl rfl qX)
       apply zF0 (hm := by rfl)
       ·intro w_ g_; exact og rfl (zC9 (v := .int .i64 ((stepO s o (steps.getD i 0)).2)) rfl rfl qX)
       refine yF1 (fun w_ v_ => ∃ b cs, v_ = .pointer (some ⟨b, 0, none⟩) ∧ w49.heap.size ≤ b ∧ cs.size = 7 ∧ w_.heap[b]? = some (.cells cs 112 (0, 0))) (fun _ _ _ g_ ⟨b, cs, h1_, h2_, h3_, h4_⟩ => by obtain ⟨cs2, h5_, h6_⟩ := KtP.new g_ b cs h4_; exact ⟨b, cs2, h1_, h2_, h5_.trans h3_, h6_⟩) (by rfl) ?_ ?_
       ·intro w_ g_
        refine og rfl ?_
        refine zA8 ?_
        intro b_ w2_ hb_ hc_ g2_
        exact ⟨g2_, b_, _, rfl, Nat.le_trans (kb_hsz54 _ g_) hb_, rfl, hc_⟩
       apply qP4 0 (hm := by rfl)
       ·intro w_ g_
        intro v11_ hv11_
        intro s_
        show OpG _ _ _ _ _ _
        refine og rfl ?_
        obtain ⟨b_, cs_, rfl, hge_, hsz_, hb_⟩ := hv11_
        refine zJ9 rfl rfl hb_ (by rfl) hsz_ (by rfl) ?_
        intro w2_ s2_ u_
        exact ⟨KtP.of_upd u_ hge_ hb_ s2_ hsz_.symm, ⟨b_, rfl, hge_, s2_⟩, rfl⟩
       refine qP5 ?_
       intro w57 g58
       replace k0_ := ((ktR 112 w49.heap.size).tr k0_ g58)
       replace hc4 := kb_hc4 _ g58
       clear kb_hc4
       replace hc10 := kb_hc10 _ g58
       clear kb_hc10
       replace hc16 := kb_hc16 _ g58
       clear kb_hc16
       replace hc37 := kb_hc37 _ g58
       clear kb_hc37
       replace hsz54 := kb_hsz54 _ g58
       clear kb_hsz54
       replace G := kb_G _ g58
       clear kb_G
       intro v_x54 hv_x54
       rintro ⟨bx54, hbe54, hge54, hc54⟩
       have hbv54 : v_x54 = .pointer (some ⟨bx54, 0, none⟩) := hbe54
       subst hbv54
       clear hv_x54 hbe54
       have hgx54 := Nat.le_trans hgz54 hge54
       refine qZ 5 ?_
       refine stn (qS hc37 ?_)
       intro w59 hc60 u61
       replace hc4 := u61.heap hc4 ne41
       replace hc10 := u61.heap hc10 ne42
       replace hc16 := u61.heap hc16 ne43
       replace hc54 := u61.heap hc54 (Nat.ne_of_lt (Nat.lt_of_lt_of_le ltf54_hc37 hge54)).symm
       replace G := G.upd u61 hge40
       clear u61 hc37
       refine qZ 7 ?_
       refine stp (zB5 rfl rfl ?_ ?_); constructor <;> omega
       refine qZ 2 ?_
       refine ⟨_, ?_, i + 1, (stepO s o (steps.getD i 0)).1, (stepO s o (steps.getD i 0)).2, (paid + (1 + zB2 o)), rfl, zC3 ⟨rfl, rfl, rfl, rfl, rfl, congrArg (Value.int .i64) (by omega), rfl, rfl, trivial⟩, by omega, hso, by omega, fun _ => by rw [hw1]; exact hw2, fun h_ => by omega, hc4, hc10, hc16, hc60, G⟩
       omega
      ·
       replace h8 := qF h8
       have hi9 : i = steps.length := by omega
       refine qZ 3 ?_
       refine stp (zB5 rfl rfl ?_ ?_); constructor <;> omega
       refine qZ 2 ?_
       refine ⟨_, ?_, i + 1, o, 0, (paid + (1 + zB2 o)), rfl, zC3 ⟨rfl, rfl, rfl, rfl, rfl, congrArg (Value.int .i64) (by omega), rfl, rfl, trivial⟩, by omega, ho, by omega, fun h_ => by omega, fun _ => by rw [hw1, hi9]; exact yZ7 hnv, hc4, hc10, hc16, hc37, G⟩
       omega
   ·
    replace hlt := qF hlt
    have hv := hv0 (by omega)
    refine qZ 7 ?_
    refine stp (zA4 (v := .tuple #[.agg #[.int .i64 ((valS s o a).1.kind), .int .i64 ((valS s o a).1.size), .int .i64 ((valS s o a).1.words), .int .i64 ((valS s o a).1.kids), .int .u64 ((valS s o a).1.word)], .int .i64 ((valS s o a).2)]) rfl (qR1 _ (H.grow G) o ho a ha) ?_)
    intro w62 g63
    replace hc4 := g63.heap hc4
    replace hc10 := g63.heap hc10
    replace hc16 := g63.heap hc16
    replace hc37 := g63.heap hc37
    replace G := G.tr g63
    clear g63
    refine qZ 3 ?_
    refine stp (zA8 ?_)
    intro b64 w65 hb66 hc67 g68
    refine stn (qS hc67 ?_)
    intro w69 hc70 u71
    have g72 := g68.upd u71 hb66
    have hge73 := Nat.le_trans G.size hb66
    have ne74 := qN hc4 hb66
    have ne75 := qN hc10 hb66
    have ne76 := qN hc16 hb66
    have ne77 := qN hc37 hb66
    replace hc4 := g72.heap hc4
    replace hc10 := g72.heap hc10
    replace hc16 := g72.heap hc16
    replace hc37 := g72.heap hc37
    replace G := G.tr g72
    clear u71 g68 hb66 hc67
    refine qZ 6 ?_
    refine stn (qS hc16 ?_)
    intro w78 hc79 u80
    replace hc4 := u80.heap hc4 ne19
    replace hc10 := u80.heap hc10 ne20
    replace hc37 := u80.heap hc37 ne43.symm
    replace hc70 := u80.heap hc70 ne76.symm
    replace G := G.upd u80 hge18
    clear u80 hc16
    refine qZ 3 ?_
    refine ret2 (zA5 rfl hc79 (by rfl)) (zA1 (v := .int .i64 ((valS s o a).2)) rfl) ⟨?_, G⟩
    rw [hv]
theorem yL3 (w : World) {u : Value} {A : List (List Int)} (hA : zG5 w u A) (hr : zD1 A = true) (hx : AllU A) {ad : Option Addr} {c : Nat} {steps : List Int} {a cost : Int} (R : RowAt w 1 ad steps.length (steps.map (.int .i64))) (ha : inR .i64 a) (hc : 0 ≤ cost ∧ cost ≤ 9000000000000000000) : zB8 Tryz.prog 14 #[u, .agg #[.slice ad steps.length c, .int .i64 a], .int .i64 cost] w (.tuple #[.agg #[.int .i64 ((zF9 (zB7 A) steps a cost).1.kind), .int .i64 ((zF9 (zB7 A) steps a cost).1.size), .int .i64 ((zF9 (zB7 A) steps a cost).1.words), .int .i64 ((zF9 (zB7 A) steps a cost).1.kids), .int .u64 ((zF9 (zB7 A) steps a cost).1.word)], .int .i64 ((zF9 (zB7 A) steps a cost).2)]) := by
 have hA0 := hA
 obtain ⟨r1, r2, r3, r4⟩ := qT hr
 have hl : ∀ i, len2 A i ≤ 140737488355328 := fun i => by have := zK9 A i; omega
 obtain ⟨ada, ca, segs, sa, sc, rfl, hca, hca2, RA, hsf, hrf⟩ := hA.fn
 have G := Grow.rfl' w
 refine zA9 Tryz.func14 Tryz.ntmps14 Tryz.results14 rfl rfl ?_
 refine qZ 2 ?_
 refine stp ?_
 refine qC ?_
 intro b1 w2 hb3 hc4 g5
 have hge6 := Nat.le_trans G.size hb3
 replace G := G.tr g5
 clear g5 hb3
 refine stp (zA8 ?_)
 intro b7 w8 hb9 hc10 g11
 refine qZ 6 ?_
 have hge12 := Nat.le_trans G.size hb9
 have ne13 := qN hc4 hb9
 replace hc4 := g11.heap hc4
 replace G := G.tr g11
 clear g11 hb9
 refine stp (zA4 (v := .bool true) rfl (zJ5 (qD1 _ (hA0.grow G) (by omega)) (y := .bool true) (by rw [hr])) ?_)
 intro w14 g15
 replace hc4 := g15.heap hc4
 replace hc10 := g15.heap hc10
 replace G := G.tr g15
 clear g15
 refine stp (yN3 rfl rfl ?_)
 refine zA6 ?_
 refine zM3 rfl ?_
 refine qZ 4 ?_
 refine stp (zA7 (v := .agg #[.slice ada A.length ca, .bool false, .slice none 0 0]) (fun w => by kernel_rfl) ?_)
 refine qZ 2 ?_
 refine stp (zA4 (v := .tuple #[.agg #[.int .i64 ((zF9 (zB7 A) steps a cost).1.kind), .int .i64 ((zF9 (zB7 A) steps a cost).1.size), .int .i64 ((zF9 (zB7 A) steps a cost).1.words), .int .i64 ((zF9 (zB7 A) steps a cost).1.kids), .int .u64 ((zF9 (zB7 A) steps a cost).1.word)], .int .i64 ((zF9 (zB7 A) steps a cost).2)]) rfl (qX4 _ (qN2 (uh := .slice none 0 0) (hA0.grow G) (by omega) hx hl) (R.grow G) ha hc) ?_)
 intro w16 g17
 replace hc4 := g17.heap hc4
 replace hc10 := g17.heap hc10
 replace G := G.tr g17
 clear g17
 refine qZ 3 ?_
 refine stp (zA8 ?_)
 intro b18 w19 hb20 hc21 g22
 refine stn (qS hc21 ?_)
 intro w23 hc24 u25
 have g26 := g22.upd u25 hb20
 have hge27 := Nat.le_trans G.size hb20
 have ne28 := qN hc4 hb20
 have ne29 := qN hc10 hb20
 replace hc4 := g26.heap hc4
 replace hc10 := g26.heap hc10
 replace G := G.tr g26
 clear u25 g22 hb20 hc21
 refine qZ 6 ?_
 refine stn (qS hc10 ?_)
 intro w30 hc31 u32
 replace hc4 := u32.heap hc4 ne13
 replace hc24 := u32.heap hc24 ne29.symm
 replace G := G.upd u32 hge12
 clear u32 hc10
 refine qZ 3 ?_
 refine ret2 (zA5 rfl hc31 (by rfl)) (zA1 (v := .int .i64 ((zF9 (zB7 A) steps a cost).2)) rfl) ⟨?_, G⟩
 rfl
theorem qX5 (w : World) {w0 : World} {y0 y1 : Int} {ya za ua : Option Addr} {yn yc zn zc un uc : Nat} {t : Nd} {kc : List Value} (T : NodeR w0 [.int .i64 y0, .int .i64 y1, .slice ya yn yc, .slice za zn zc, .slice ua un uc] t) (RK : RowAt w0 5 ua un kc) (hK : KidsR w0 kc t.kids) (g0 : Grow w0 w) {k : Int} (k0 : 0 ≤ k) : zB8 Tryz.prog 39 #[.agg #[.int .i64 y0, .int .i64 y1, .slice ya yn yc, .slice za zn zc, .slice ua un uc], .int .i64 k] w (.tuple #[.agg ((qL0 kc t k).toArray), .int .i64 ((zJ4 t k).2)]) := by
 obtain ⟨hl1, hl2, -, -, hl5, -, -, hl8⟩ := T.lens
 have G := Grow.rfl' w
 refine zA9 Tryz.func39 Tryz.ntmps39 Tryz.results39 rfl rfl ?_
 refine qZ 2 ?_
 refine stp ?_
 refine qC ?_
 intro b1 w2 hb3 hc4 g5
 have hge6 := Nat.le_trans G.size hb3
 replace G := G.tr g5
 clear g5 hb3
 refine stp (zA8 ?_)
 intro b7 w8 hb9 hc10 g11
 refine qZ 6 ?_
 have hge12 := Nat.le_trans G.size hb9
 have ne13 := qN hc4 hb9
 replace hc4 := g11.heap hc4
 replace G := G.tr g11
 clear g11 hb9
 refine qZ 1 ?_
 refine stp (zC7 rfl rfl ?_)
 refine qZ 1 ?_
 refine qG 2 ?_
 refine zA3 (zB0 (s := .bool _) (v := .bool (decide (y0 = 1))) rfl (zE2 _) (fun hc16 => ?_) ?_)
 ·
  have hc16_ := hc16
  try simp only [sb] at hc16_
  refine zC7 (gvt hc16) rfl ?_
  exact ⟨rfl, rfl⟩
 refine qG 1 ?_
 refine zA3 (zB0 (s := gv (!(decide (y0 = 0))) (.bool (decide (y0 = 1)))) (b := true) (v := .int .i64 k) rfl (zI0 _ _) (fun hc18 => ?_) ?_)
 ·
  obtain ⟨hc18a, hc18b⟩ := and_t hc18
  have hc18a_ := hc18a
  try simp only [sb] at hc18a_
  have hc18b_ := qT hc18b
  refine zC8 rfl ?_
  exact ⟨rfl, rfl⟩
 refine zA3 (zB0 (s := gv (!(decide (y0 = 0))) (.bool (decide (y0 = 1)))) (b := true) (v := .pointer (some ⟨b1, 4, none⟩)) rfl (zI0 _ _) (fun hc19 => ?_) ?_)
 ·
  obtain ⟨hc19a, hc19b⟩ := and_t hc19
  have hc19a_ := hc19a
  try simp only [sb] at hc19a_
  have hc19b_ := qT hc19b
  refine zD0 rfl ?_
  exact ⟨rfl, rfl⟩
 refine zA3 (zB0 (s := gv (!(decide (y0 = 0))) (.bool (decide (y0 = 1)))) (b := true) (v := .slice ua un uc) rfl (zI0 _ _) (fun hc20 => ?_) ?_)
 ·
  obtain ⟨hc20a, hc20b⟩ := and_t hc20
  have hc20a_ := hc20a
  try simp only [sb] at hc20a_
  have hc20b_ := qT hc20b
  refine zG2 (v := .slice ua un uc) (gvt hc20) hc4 rfl ?_
  exact ⟨rfl, rfl⟩
 refine zA3 (zB0 (s := gv (!(decide (y0 = 0))) (.bool (decide (y0 = 1)))) (b := true) (v := .int .i64 (un : Int)) rfl (zI0 _ _) (fun hc21 => ?_) ?_)
 ·
  obtain ⟨hc21a, hc21b⟩ := and_t hc21
  have hc21a_ := hc21a
  try simp only [sb] at hc21a_
  have hc21b_ := qT hc21b
  refine qR6 rfl rfl (gvt hc21) ?_
  exact ⟨rfl, rfl⟩
 refine zA3 (zB0 (s := gv (!(decide (y0 = 0))) (.bool (decide (y0 = 1)))) (b := true) (v := .bool (decide (k ≥ (un : Int)))) rfl (zI0 _ _) (fun hc22 => ?_) ?_)
 ·
  obtain ⟨hc22a, hc22b⟩ := and_t hc22
  have hc22a_ := hc22a
  try simp only [sb] at hc22a_
  have hc22b_ := qT hc22b
  refine zO4 (gvt hc22) (gvt hc22) ?_
  exact ⟨rfl, rfl⟩
 refine zA3 (zB0 (s := .bool _) (v := .bool ((decide (y0 = 1)) && (decide (k ≥ (un : Int))))) rfl (zE2 _) (fun hc23 => ?_) ?_)
 ·
  have hc23_ := hc23
  try simp only [sb] at hc23_
  refine zV5 hc23 (gvt hc23) rfl rfl ?_
  exact ⟨rfl, rfl⟩
 refine stp (zH6 rfl rfl rfl ?_)
 refine zA6 ?_
 refine zA2 (b := ((decide (y0 = 0)) || ((decide (y0 = 1)) && (decide (k ≥ (un : Int)))))) rfl (fun h1 => ?_) (fun h1 => ?_)
 ·
  simp only [sb] at h1
  refine qZ 2 ?_
  refine stp (zA7 (v := .agg #[.int .i64 0, .int .i64 0, .slice none 0 0, .slice none 0 0, .slice none 0 0]) (fun w => by kernel_rfl) ?_)
  refine stn (qS hc10 ?_)
  intro w24 hc25 u26
  replace hc4 := u26.heap hc4 ne13
  replace G := G.upd u26 hge12
  clear u26 hc10
  refine qZ 3 ?_
  have hs : qL0 kc t k = zeroC := by unfold qL0; rw [hl1, hl2, hl5]; (repeat' split) <;> first | rfl | (exfalso; omega)
  have ht : (zJ4 t k).2 = 0 := by unfold zJ4; rw [hl1, hl2, hl5]; (repeat' split) <;> first | rfl | (exfalso; omega)
  refine ret2 (zA5 rfl hc25 (by rfl)) (zA1 (v := .int .i64 0) rfl) ⟨?_, G⟩
  rw [hs, ht] <;> rfl
 ·
  simp only [sb] at h1
  refine qZ 6 ?_
  refine stp (zG1 rfl rfl ?_)
  refine qZ 1 ?_
  refine qG 2 ?_
  refine zA3 (zB0 (s := .bool _) (v := .bool (decide (y1 ≠ 6))) rfl (zE1 _) (fun hc29 => ?_) ?_)
  ·
   have hc29_ := qT hc29
   refine zG1 (gvt hc29) rfl ?_
   exact ⟨rfl, rfl⟩
  refine stp (zE8 rfl rfl rfl ?_)
  refine zA6 ?_
  refine zA2 (b := ((decide (y0 ≠ 1)) && (decide (y1 ≠ 6)))) rfl (fun h2 => ?_) (fun h2 => ?_)
  ·
   simp only [sb] at h2
   refine qZ 2 ?_
   refine stp (zA7 (v := .agg #[.int .i64 0, .int .i64 0, .slice none 0 0, .slice none 0 0, .slice none 0 0]) (fun w => by kernel_rfl) ?_)
   refine stn (qS hc10 ?_)
   intro w30 hc31 u32
   replace hc4 := u32.heap hc4 ne13
   replace G := G.upd u32 hge12
   clear u32 hc10
   refine qZ 3 ?_
   have hs : qL0 kc t k = zeroC := by unfold qL0; rw [hl1, hl2, hl5]; (repeat' split) <;> first | rfl | (exfalso; omega)
   have ht : (zJ4 t k).2 = 23 := by unfold zJ4; rw [hl1, hl2, hl5]; (repeat' split) <;> first | rfl | (exfalso; omega)
   refine ret2 (zA5 rfl hc31 (by rfl)) (zA1 (v := .int .i64 23) rfl) ⟨?_, G⟩
   rw [hs, ht] <;> rfl
  ·
   simp only [sb] at h2
   refine qZ 8 ?_
   refine stp (zO4 rfl rfl ?_)
   refine zA6 ?_
   refine zA2 (b := (decide (k ≥ (un : Int)))) rfl (fun h3 => ?_) (fun h3 => ?_)
   ·
    replace h3 := qT h3
    refine qZ 2 ?_
    refine stp (zA7 (v := .agg #[.int .i64 0, .int .i64 0, .slice none 0 0, .slice none 0 0, .slice none 0 0]) (fun w => by kernel_rfl) ?_)
    refine stn (qS hc10 ?_)
    intro w33 hc34 u35
    replace hc4 := u35.heap hc4 ne13
    replace G := G.upd u35 hge12
    clear u35 hc10
    refine qZ 3 ?_
    have hs : qL0 kc t k = zeroC := by unfold qL0; rw [hl1, hl2, hl5]; (repeat' split) <;> first | rfl | (exfalso; omega)
    have ht : (zJ4 t k).2 = 20 := by unfold zJ4; rw [hl1, hl2, hl5]; (repeat' split) <;> first | rfl | (exfalso; omega)
    refine ret2 (zA5 rfl hc34 (by rfl)) (zA1 (v := .int .i64 20) rfl) ⟨?_, G⟩
    rw [hs, ht] <;> rfl
   ·
    replace h3 := qF h3
    have hj : k.toNat < t.kids.length := by omega
    have hat := KidsR.at_ k.toNat t.kids[k.toNat] hK (List.getElem?_eq_getElem hj)
    obtain ⟨x0, x1, xa, xn, xc, pa, pn, pc, qa, qn, qc, hx⟩ := hat.cells
    refine qZ 6 ?_
    refine stp (zE7 ((RK.grow g0).grow G) rfl rfl ?_ ?_ ?_); omega; omega
    refine stp (zK0 ((RK.grow g0).grow G) rfl (by decide) (by rw [RK.len]; omega) hx ?_)
    refine stn (qS hc10 ?_)
    intro w36 hc37 u38
    replace hc4 := u38.heap hc4 ne13
    replace G := G.upd u38 hge12
    clear u38 hc10
    refine qZ 3 ?_
    have hs : qL0 kc t k = [.int .i64 x0, .int .i64 x1, .slice xa xn xc, .slice pa pn pc, .slice qa qn qc] := by unfold qL0; rw [hl1, hl2, hl5]; ((repeat' split) <;> first | exact hx | rfl | (exfalso; omega))
    have ht : (zJ4 t k).2 = 0 := by unfold zJ4; rw [hl1, hl2, hl5]; ((repeat' split) <;> first | exact hx | rfl | (exfalso; omega))
    refine ret2 (zA5 rfl hc37 (by rfl)) (zA1 (v := .int .i64 0) rfl) ⟨?_, G⟩
    rw [hs, ht] <;> rfl
theorem yL4 (w : World) {c : List Value} {t : Nd} (T : NodeR w c t) {k : Int} (k0 : 0 ≤ k) : zB8 Tryz.prog 40 #[.agg c.toArray, .int .i64 k] w (.tuple #[.int .u64 ((tat t k).1), .int .i64 ((tat t k).2)]) := by
 obtain @⟨kind, size, words, bytes, kids, ws, bs, ks, kc, hk, hs, hW, hwr, hB, hbr, hK, hKs⟩ := T
 obtain ⟨aw, cw, rfl, hcw, hcw2, RW⟩ := hW
 obtain ⟨ab, cb, rfl, hcb, hcb2, RB⟩ := hB
 obtain ⟨ak, ck, rfl, hck, hck2, RK⟩ := hK
 have lw := RW.lim
 have lb := RB.lim
 have lk := RK.lim
 simp only [inR] at hk hs
 obtain ⟨k, rfl⟩ : ∃ j : Nat, k = (j : Int) := ⟨k.toNat, by omega⟩
 have hgb := qJ0 hbr k
 have G := Grow.rfl' w
 refine zA9 Tryz.func40 Tryz.ntmps40 Tryz.results40 rfl rfl ?_
 refine qZ 2 ?_
 refine stp ?_
 refine qC ?_
 intro b1 w2 hb3 hc4 g5
 have hge6 := Nat.le_trans G.size hb3
 replace G := G.tr g5
 clear g5 hb3
 refine qZ 8 ?_
 refine stp (zC7 rfl rfl ?_)
 refine qZ 1 ?_
 refine qG 2 ?_
 refine zA3 (zB0 (s := .bool _) (v := .bool (decide (kind = 1))) rfl (zE2 _) (fun hc9 => ?_) ?_)
 ·
  have hc9_ := hc9
  try simp only [sb] at hc9_
  refine zC7 (gvt hc9) rfl ?_
  exact ⟨rfl, rfl⟩
 refine qG 1 ?_
 refine zA3 (zB0 (s := gv (!(decide (kind = 0))) (.bool (decide (kind = 1)))) (b := true) (v := .int .i64 (k : Int)) rfl (zI0 _ _) (fun hc11 => ?_) ?_)
 ·
  obtain ⟨hc11a, hc11b⟩ := and_t hc11
  have hc11a_ := hc11a
  try simp only [sb] at hc11a_
  have hc11b_ := qT hc11b
  refine zC8 rfl ?_
  exact ⟨rfl, rfl⟩
 refine zA3 (zB0 (s := gv (!(decide (kind = 0))) (.bool (decide (kind = 1)))) (b := true) (v := .pointer (some ⟨b1, 2, none⟩)) rfl (zI0 _ _) (fun hc12 => ?_) ?_)
 ·
  obtain ⟨hc12a, hc12b⟩ := and_t hc12
  have hc12a_ := hc12a
  try simp only [sb] at hc12a_
  have hc12b_ := qT hc12b
  refine zD0 rfl ?_
  exact ⟨rfl, rfl⟩
 refine zA3 (zB0 (s := gv (!(decide (kind = 0))) (.bool (decide (kind = 1)))) (b := true) (v := .slice aw words.length cw) rfl (zI0 _ _) (fun hc13 => ?_) ?_)
 ·
  obtain ⟨hc13a, hc13b⟩ := and_t hc13
  have hc13a_ := hc13a
  try simp only [sb] at hc13a_
  have hc13b_ := qT hc13b
  refine zG2 (v := .slice aw words.length cw) (gvt hc13) hc4 rfl ?_
  exact ⟨rfl, rfl⟩
 refine zA3 (zB0 (s := gv (!(decide (kind = 0))) (.bool (decide (kind = 1)))) (b := true) (v := .int .i64 (words.length : Int)) rfl (zI0 _ _) (fun hc14 => ?_) ?_)
 ·
  obtain ⟨hc14a, hc14b⟩ := and_t hc14
  have hc14a_ := hc14a
  try simp only [sb] at hc14a_
  have hc14b_ := qT hc14b
  refine qR6 rfl rfl (gvt hc14) ?_
  exact ⟨rfl, rfl⟩
 refine zA3 (zB0 (s := gv (!(decide (kind = 0))) (.bool (decide (kind = 1)))) (b := true) (v := .bool (decide ((k : Int) ≥ (words.length : Int)))) rfl (zI0 _ _) (fun hc15 => ?_) ?_)
 ·
  obtain ⟨hc15a, hc15b⟩ := and_t hc15
  have hc15a_ := hc15a
  try simp only [sb] at hc15a_
  have hc15b_ := qT hc15b
  refine zO4 (gvt hc15) (gvt hc15) ?_
  exact ⟨rfl, rfl⟩
 refine zA3 (zB0 (s := .bool _) (v := .bool ((decide (kind = 1)) && (decide ((k : Int) ≥ (words.length : Int))))) rfl (zE2 _) (fun hc16 => ?_) ?_)
 ·
  have hc16_ := hc16
  try simp only [sb] at hc16_
  refine zV5 hc16 (gvt hc16) rfl rfl ?_
  exact ⟨rfl, rfl⟩
 refine stp (zH6 rfl rfl rfl ?_)
 refine zA6 ?_
 refine zA2 (b := ((decide (kind = 0)) || ((decide (kind = 1)) && (decide ((k : Int) ≥ (words.length : Int)))))) rfl (fun h1 => ?_) (fun h1 => ?_)
 ·
  simp only [sb] at h1
  refine qZ 6 ?_
  have h9 : tat (Nd.mk kind size words bytes kids) (k : Int) = (0, 0) := by rw [qC7]; (repeat' split) <;> first | rfl | (exfalso; omega) | (exfalso; simp_all; done) | (exfalso; simp_all; omega)
  refine ret2 (zA1 (v := .int .u64 0) rfl) (zA1 (v := .int .i64 0) rfl) ⟨?_, G⟩
  rw [h9]
 ·
  simp only [sb] at h1
  refine qZ 6 ?_
  refine stp (zG1 rfl rfl ?_)
  refine qZ 1 ?_
  refine qG 2 ?_
  refine zA3 (zB0 (s := .bool _) (v := .bool (decide (size = 6))) rfl (zE1 _) (fun hc19 => ?_) ?_)
  ·
   have hc19_ := qT hc19
   refine zC7 (gvt hc19) rfl ?_
   exact ⟨rfl, rfl⟩
  refine stp (zE8 rfl rfl rfl ?_)
  refine zA6 ?_
  refine zA2 (b := ((decide (kind ≠ 1)) && (decide (size = 6)))) rfl (fun h2 => ?_) (fun h2 => ?_)
  ·
   simp only [sb] at h2
   refine qZ 6 ?_
   have h9 : tat (Nd.mk kind size words bytes kids) (k : Int) = (0, 23) := by rw [qC7]; (repeat' split) <;> first | rfl | (exfalso; omega) | (exfalso; simp_all; done) | (exfalso; simp_all; omega)
   refine ret2 (zA1 (v := .int .u64 0) rfl) (zA1 (v := .int .i64 23) rfl) ⟨?_, G⟩
   rw [h9]
  ·
   simp only [sb] at h2
   refine qZ 8 ?_
   refine stp (zF1 rfl rfl ?_)
   refine zA6 ?_
   refine zA2 (b := (decide ((k : Int) < (words.length : Int)))) rfl (fun h3 => ?_) (fun h3 => ?_)
   ·
    replace h3 := qT h3
    refine qZ 5 ?_
    refine stp (zD5 (RW.grow G) rfl rfl ?_ ?_); omega
    refine stp (zC6 (v := .int .u64 (words.getD k 0)) (m := 0) (RW.grow G) rfl (zE4 0 (by omega)) ?_)
    refine qZ 4 ?_
    have h9 : tat (Nd.mk kind size words bytes kids) (k : Int) = (words.getD k 0, 0) := by rw [qC7]; (repeat' split) <;> first | rfl | (exfalso; omega) | (exfalso; simp_all; done) | (exfalso; simp_all; omega)
    refine ret2 (zA1 (v := .int .u64 (words.getD k 0)) rfl) (zA1 (v := .int .i64 0) rfl) ⟨?_, G⟩
    rw [h9]
   ·
    replace h3 := qF h3
    refine qZ 6 ?_
    refine stp (zG1 rfl rfl ?_)
    refine qZ 1 ?_
    refine qG 2 ?_
    refine zA3 (zB0 (s := .bool _) (v := .bool (decide (size = 2))) rfl (zE1 _) (fun hc22 => ?_) ?_)
    ·
     have hc22_ := qT hc22
     refine zC7 (gvt hc22) rfl ?_
     exact ⟨rfl, rfl⟩
    refine stp (zE8 rfl rfl rfl ?_)
    refine qZ 1 ?_
    refine qG 4 ?_
    refine zA3 (zB0 (s := .bool _) (v := .bool (decide ((k : Int) < (bytes.length : Int)))) rfl (zE1 _) (fun hc27 => ?_) ?_)
    ·
     obtain ⟨hc27a, hc27b⟩ := and_t hc27
     have hc27a_ := qT hc27a
     have hc27b_ := qT hc27b
     refine zF1 (gvt hc27) (gvt hc27) ?_
     exact ⟨rfl, rfl⟩
    refine stp (zE8 rfl rfl rfl ?_)
    refine zA6 ?_
    refine zA2 (b := (((decide (kind ≠ 1)) && (decide (size = 2))) && (decide ((k : Int) < (bytes.length : Int))))) rfl (fun h4 => ?_) (fun h4 => ?_)
    ·
     simp only [sb] at h4
     refine qZ 5 ?_
     refine stp (zD5 (RB.grow G) rfl rfl ?_ ?_); omega
     refine stp (zC6 (v := .int .u8 (bytes.getD k 0)) (m := 0) (RB.grow G) rfl (zE4 0 (by omega)) ?_)
     refine stp (zG0 rfl ?_ ?_); constructor <;> omega
     refine qZ 4 ?_
     have h9 : tat (Nd.mk kind size words bytes kids) (k : Int) = (bytes.getD k 0, 0) := by rw [qC7]; (repeat' split) <;> first | rfl | (exfalso; omega) | (exfalso; simp_all; done) | (exfalso; simp_all; omega)
     refine ret2 (zA1 (v := .int .u64 (bytes.getD k 0)) rfl) (zA1 (v := .int .i64 0) rfl) ⟨?_, G⟩
     rw [h9]
    ·
     simp only [sb] at h4
     refine qZ 7 ?_
     have h9 : tat (Nd.mk kind size words bytes kids) (k : Int) = (0, 20) := by rw [qC7]; (repeat' split) <;> first | rfl | (exfalso; omega) | (exfalso; simp_all; done) | (exfalso; simp_all; omega)
     refine ret2 (zA1 (v := .int .u64 0) rfl) (zA1 (v := .int .i64 20) rfl) ⟨?_, G⟩
     rw [h9]
theorem yL5 (w : World) {c : List Value} {t : Nd} (T : NodeR w c t) {ad : Option Addr} {c2 : Nat} {steps : List Int} {a : Int} (R : RowAt w 1 ad steps.length (steps.map (.int .i64))) (ha : inR .i64 a) : zB8 Tryz.prog 19 #[.agg c.toArray, .agg #[.slice ad steps.length c2, .int .i64 a]] w (.tuple #[.agg #[.int .i64 ((askT t steps a).1.kind), .int .i64 ((askT t steps a).1.size), .int .i64 ((askT t steps a).1.words), .int .i64 ((askT t steps a).1.kids), .int .u64 ((askT t steps a).1.word)], .int .i64 ((askT t steps a).2)]) := by
 have T0 := T
 have ll := R.lim
 simp only [inR] at ha
 obtain @⟨kind, size, words, bytes, kids, ws, bs, ks, kc, hk, hs, hW, hwr, hB, hbr, hK, hKs⟩ := T
 obtain ⟨aw, cw, rfl, hcw, hcw2, RW⟩ := hW
 obtain ⟨ab, cb, rfl, hcb, hcb2, RB⟩ := hB
 obtain ⟨ak, ck, rfl, hck, hck2, RK⟩ := hK
 have lw := RW.lim
 have lb := RB.lim
 have lk := RK.lim
 simp only [inR] at hk hs
 have G := Grow.rfl' w
 refine zA9 Tryz.func19 Tryz.ntmps19 Tryz.results19 rfl rfl ?_
 refine qZ 2 ?_
 refine stp ?_
 refine qC ?_
 intro b1 w2 hb3 hc4 g5
 have hge6 := Nat.le_trans G.size hb3
 replace G := G.tr g5
 clear g5 hb3
 refine stp ?_
 refine qC ?_
 intro b7 w8 hb9 hc10 g11
 have hge12 := Nat.le_trans G.size hb9
 have ne13 := qN hc4 hb9
 replace hc4 := g11.heap hc4
 replace G := G.tr g11
 clear g11 hb9
 refine stp (zA8 ?_)
 intro b14 w15 hb16 hc17 g18
 refine qZ 8 ?_
 have hge19 := Nat.le_trans G.size hb16
 have ne20 := qN hc4 hb16
 have ne21 := qN hc10 hb16
 replace hc4 := g18.heap hc4
 replace hc10 := g18.heap hc10
 replace G := G.tr g18
 clear g18 hb16
 refine zF2 (fun m_ e_ w_ => ∃ (k : Nat), m_ = steps.length - k ∧ Fr [(2, .pointer (some ⟨b1, 0, none⟩)), (3, .pointer (some ⟨b7, 0, none⟩)), (4, .pointer (some ⟨b14, 0, none⟩)), (6, .int .i64 (k : Int))] e_ ∧ (k ≤ steps.length) ∧ (∀ j, j < k → 0 ≤ steps.getD j 0) ∧ (w_.heap[b1]? = some (.cells #[.int .i64 kind, .int .i64 size, .slice aw words.length cw, .slice ab bytes.length cb, .slice ak kids.length ck] 48 (0, 0))) ∧ (w_.heap[b7]? = some (.cells #[.slice ad steps.length c2, .int .i64 a] 30 (0, 0))) ∧ (w_.heap[b14]? = some (.cells #[.int .i64 0, .int .i64 0, .int .i64 0, .int .i64 0, .int .u64 0] 40 (0, 0))) ∧ Grow w w_) _ ⟨0, rfl, zC3 ⟨rfl, rfl, rfl, rfl, trivial⟩, by omega, fun j hj => by omega, hc4, hc10, hc17, G⟩ ?_
 clear hc4 hc10 hc17
 clear G
 rintro m_ e_ w22 ⟨k, rfl, ⟨e23, rfl⟩, hk2, hnn, hc4, hc10, hc17, G⟩
 refine qZ 7 ?_
 refine stp (zF1 rfl rfl ?_)
 refine zA6 ?_
 refine zA2 (b := (decide ((k : Int) < (steps.length : Int)))) rfl (fun hlt1 => ?_) (fun hlt1 => ?_)
 ·
  replace hlt1 := qT hlt1
  have hi : k < steps.length := by omega
  refine qZ 8 ?_
  refine stp (zD5 (R.grow G) rfl rfl ?_ ?_); omega
  refine stp (zC6 (v := .int .i64 (steps.getD k 0)) (m := 0) (R.grow G) rfl (zE4 0 (by omega)) ?_)
  refine stp (zF1 rfl rfl ?_)
  refine zA6 ?_
  refine zA2 (b := (decide ((steps.getD k 0) < 0))) rfl (fun h2 => ?_) (fun h2 => ?_)
  ·
   replace h2 := qT h2
   refine qZ 2 ?_
   refine stp (zA7 (v := .agg #[.int .i64 0, .int .i64 0, .int .i64 0, .int .i64 0, .int .u64 0]) (fun w => by kernel_rfl) ?_)
   refine stn (qS hc17 ?_)
   intro w24 hc25 u26
   replace hc4 := u26.heap hc4 ne20
   replace hc10 := u26.heap hc10 ne21
   replace G := G.upd u26 hge19
   clear u26 hc17
   refine qZ 3 ?_
   have h9 : (askT (Nd.mk kind size words bytes kids) steps a) = (Vl0, 1) := by unfold askT; rw [if_pos ⟨_, qC4 hi, h2⟩]
   refine ret2 (zA5 rfl hc25 (by rfl)) (zA1 (v := .int .i64 1) rfl) ⟨?_, G⟩
   rw [h9] <;> rfl
  ·
   replace h2 := qF h2
   refine qZ 3 ?_
   refine stp (zB5 rfl rfl ?_ ?_); constructor <;> omega
   refine qZ 2 ?_
   refine ⟨_, ?_, k + 1, rfl, zC3 ⟨rfl, rfl, rfl, rfl, trivial⟩, by omega, fun j hj => by rcases Nat.lt_succ_iff_lt_or_eq.1 hj with h_ | h_; exact hnn j h_; subst h_; omega, hc4, hc10, hc17, G⟩
   omega
 ·
  replace hlt1 := qF hlt1
  replace hnn : ∀ j, j < steps.length → 0 ≤ steps.getD j 0 := fun j hj => hnn j (by omega)
  have hno : ¬ ∃ k ∈ steps, k < 0 := fun ⟨x_, hx_, hlt_⟩ => by obtain ⟨j_, hj_, he_⟩ := List.getElem_of_mem hx_; have := hnn j_ hj_; rw [zE5 hj_] at this; omega
  refine qZ 7 ?_
  refine stp (zM7 rfl rfl ?_)
  refine zA6 ?_
  refine zA2 (b := (decide ((steps.length : Int) > 32))) rfl (fun h3 => ?_) (fun h3 => ?_)
  ·
   replace h3 := qT h3
   refine qZ 2 ?_
   refine stp (zA7 (v := .agg #[.int .i64 0, .int .i64 0, .int .i64 0, .int .i64 0, .int .u64 0]) (fun w => by kernel_rfl) ?_)
   refine stn (qS hc17 ?_)
   intro w27 hc28 u29
   replace hc4 := u29.heap hc4 ne20
   replace hc10 := u29.heap hc10 ne21
   replace G := G.upd u29 hge19
   clear u29 hc17
   refine qZ 3 ?_
   have h9 : (askT (Nd.mk kind size words bytes kids) steps a) = (Vl0, 3) := by unfold askT; rw [if_neg hno, if_pos h3]
   refine ret2 (zA5 rfl hc28 (by rfl)) (zA1 (v := .int .i64 3) rfl) ⟨?_, G⟩
   rw [h9] <;> rfl
  ·
   replace h3 := qF h3
   refine qZ 7 ?_
   refine zF2 (fun m_ e_ w_ => ∃ (k : Nat) (y0 : Int) (y1 : Int) (ya : Option Addr) (yn : Nat) (yc : Nat) (za : Option Addr) (zn : Nat) (zc : Nat) (ua : Option Addr) (un : Nat) (uc : Nat) (u : Nd), m_ = steps.length - k ∧ Fr [(2, .pointer (some ⟨b1, 0, none⟩)), (3, .pointer (some ⟨b7, 0, none⟩)), (4, .pointer (some ⟨b14, 0, none⟩)), (7, .int .i64 (k : Int))] e_ ∧ (k ≤ steps.length) ∧ (NodeR w [.int .i64 y0, .int .i64 y1, .slice ya yn yc, .slice za zn zc, .slice ua un uc] u) ∧ (tgo steps (Nd.mk kind size words bytes kids) = tgo (steps.drop k) u) ∧ (w_.heap[b7]? = some (.cells #[.slice ad steps.length c2, .int .i64 a] 30 (0, 0))) ∧ (w_.heap[b14]? = some (.cells #[.int .i64 0, .int .i64 0, .int .i64 0, .int .i64 0, .int .u64 0] 40 (0, 0))) ∧ (w_.heap[b1]? = some (.cells #[.int .i64 y0, .int .i64 y1, .slice ya yn yc, .slice za zn zc, .slice ua un uc] 48 (0, 0))) ∧ Grow w w_) _ ⟨0, kind, size, aw, words.length, cw, ab, bytes.length, cb, ak, kids.length, ck, (Nd.mk kind size words bytes kids), rfl, zC3 ⟨rfl, rfl, rfl, rfl, trivial⟩, by omega, T0, rfl, hc10, hc17, hc4, G⟩ ?_
   clear hc4 hc10 hc17
   clear G
   rintro m_ e_ w30 ⟨k, y0, y1, ya, yn, yc, za, zn, zc, ua, un, uc, u, rfl, ⟨e31, rfl⟩, hk2, hT, hw, hc10, hc17, hc4, G⟩
   refine qZ 7 ?_
   refine stp (zF1 rfl rfl ?_)
   refine zA6 ?_
   refine zA2 (b := (decide ((k : Int) < (steps.length : Int)))) rfl (fun hlt => ?_) (fun hlt => ?_)
   ·
    replace hlt := qT hlt
    have hi : k < steps.length := by omega
    have hkk := hnn k hi
    have hd := yV6 hi u
    obtain ⟨kc2, RKu, hKu⟩ := hT.kidsrow2
    have hTn := yL0 hKu hkk
    obtain ⟨x0, x1, xa, xn, xc, pa, pn, pc, qa, qn, qc, hxs⟩ := hTn.cells
    rw [hxs] at hTn
    refine qZ 3 ?_
    have hsz32 : w30.heap.size ≤ w30.heap.size := Nat.le_refl _
    have ltf32_hc10 := zB3 hc10
    have ltf32_hc17 := zB3 hc17
    have ltf32_hc4 := zB3 hc4
    have hgz32 := G.size
    refine qA7 ?_
    have kb_hc10 : ∀ w_, (ktR 48 w30.heap.size).r w30 w_ → w_.heap[b7]? = some (.cells #[.slice ad steps.length c2, .int .i64 a] 30 (0, 0)) := fun w_ k_ => (KtP.to_grow k_ (Grow.rfl' _)).heap hc10
    have kb_hc17 : ∀ w_, (ktR 48 w30.heap.size).r w30 w_ → w_.heap[b14]? = some (.cells #[.int .i64 0, .int .i64 0, .int .i64 0, .int .i64 0, .int .u64 0] 40 (0, 0)) := fun w_ k_ => (KtP.to_grow k_ (Grow.rfl' _)).heap hc17
    have kb_hc4 : ∀ w_, (ktR 48 w30.heap.size).r w30 w_ → w_.heap[b1]? = some (.cells #[.int .i64 y0, .int .i64 y1, .slice ya yn yc, .slice za zn zc, .slice ua un uc] 48 (0, 0)) := fun w_ k_ => (KtP.to_grow k_ (Grow.rfl' _)).heap hc4
    have kb_hsz32 : ∀ w_, (ktR 48 w30.heap.size).r w30 w_ → w30.heap.size ≤ w_.heap.size := fun w_ k_ => Nat.le_trans hsz32 (KtP.to_grow k_ (Grow.rfl' _)).size
    have kb_G : ∀ w_, (ktR 48 w30.heap.size).r w30 w_ → Grow w w_ := fun w_ k_ => G.tr (KtP.to_grow k_ (Grow.rfl' _))
    refine yF2 12 [[], [], [0], [], [2, 1, 0], [3, 2, 1, 0], [5, 4, 3, 2, 1, 0], [6, 5, 4, 3, 2, 1, 0], [7, 6, 5, 4, 3, 2, 1, 0], [8, 7, 6, 5, 4, 3, 2, 1], [], [10, 9, 8, 7, 6, 5, 4, 3, 2, 0]] [11] [8] (grQ (ktR 48 w30.heap.size)) (fun k_ e_ w_ => match k_ with | 0 => True | _ => ∃ b : Nat, e_ 8 = .pointer (some ⟨b, 0, none⟩) ∧ w30.heap.size ≤ b ∧ w_.heap[b]? = some (.cells #[.int .i64 x0, .int .i64 x1, .slice xa xn xc, .slice pa pn pc, .slice qa qn qc] 48 (0, 0))) mixed (by kernel_rfl) (by kernel_rfl) (by kernel_rfl) (by kernel_rfl) (by kernel_rfl) (fun k_ _ _ _ g_ h_ => match k_, h_ with | 0, _ => trivial | _ + 1, ⟨b_, h1_, h2_, h3_⟩ => ⟨b_, h1_, h2_, g_.heap h3_⟩) (fun k_ _ _ _ hu_ h_ => match k_, h_ with | 0, _ => trivial | _ + 1, ⟨b_, h1_, h2_, h3_⟩ => ⟨b_, (hu_ _ (by simp)).symm.trans h1_, h2_, h3_⟩) (fun _ _ _ h_ => h_) (fun _ _ => trivial) ?_
    intro w33 g34
    replace kb_hc10 : ∀ w_, (ktR 48 w30.heap.size).r w33 w_ → w_.heap[b7]? = some (.cells #[.slice ad steps.length c2, .int .i64 a] 30 (0, 0)) := fun w_ k_ => kb_hc10 w_ ((ktR 48 w30.heap.size).tr ((ktR 48 w30.heap.size).grow g34) k_)
    replace kb_hc17 : ∀ w_, (ktR 48 w30.heap.size).r w33 w_ → w_.heap[b14]? = some (.cells #[.int .i64 0, .int .i64 0, .int .i64 0, .int .i64 0, .int .u64 0] 40 (0, 0)) := fun w_ k_ => kb_hc17 w_ ((ktR 48 w30.heap.size).tr ((ktR 48 w30.heap.size).grow g34) k_)
    replace kb_hc4 : ∀ w_, (ktR 48 w30.heap.size).r w33 w_ → w_.heap[b1]? = some (.cells #[.int .i64 y0, .int .i64 y1, .slice ya yn yc, .slice za zn zc, .slice ua un uc] 48 (0, 0)) := fun w_ k_ => kb_hc4 w_ ((ktR 48 w30.heap.size).tr ((ktR 48 w30.heap.size).grow g34) k_)
    replace kb_hsz32 : ∀ w_, (ktR 48 w30.heap.size).r w33 w_ → w30.heap.size ≤ w_.heap.size := fun w_ k_ => kb_hsz32 w_ ((ktR 48 w30.heap.size).tr ((ktR 48 w30.heap.size).grow g34) k_)
    replace kb_G : ∀ w_, (ktR 48 w30.heap.size).r w33 w_ → Grow w w_ := fun w_ k_ => kb_G w_ ((ktR 48 w30.heap.size).tr ((ktR 48 w30.heap.size).grow g34) k_)
    have k0_ : (ktR 48 w30.heap.size).r w30 w33 := ((ktR 48 w30.heap.size).grow g34)
    apply zF0 (hm := by rfl)
    ·intro w_ g_; exact og rfl (zD2 rfl (kb_hc4 _ g_) (by rfl) qX)
    apply zF0 (hm := by rfl)
    ·intro w_ g_; exact og rfl (zD0 rfl qX)
    apply zF0 (hm := by rfl)
    ·intro w_ g_; exact og rfl (zG2 (v := .slice ad steps.length c2) rfl (kb_hc10 _ g_) rfl qX)
    apply zF0 (hm := by rfl)
    ·intro w_ g_; exact og rfl (zC8 rfl qX)
    apply zF0 (hm := by rfl)
    ·intro w_ g_; refine og rfl ?_; refine zD5 (R.grow (kb_G _ g_)) rfl rfl ?_ ?_; omega; exact qX
    apply zF0 (hm := by rfl)
    ·intro w_ g_; exact og rfl (zC6 (v := .int .i64 (steps.getD k 0)) (m := 0) (R.grow (kb_G _ g_)) rfl (zE4 0 (by omega)) qX)
    apply zF0 (hm := by rfl)
    ·intro w_ g_; refine og rfl ?_; exact zA4 (v := .tuple #[.agg #[.int .i64 x0, .int .i64 x1, .slice xa xn xc, .slice pa pn pc, .slice qa qn qc], .int .i64 ((zJ4 u (steps.getD k 0)).2)]) rfl (zJ5 (qX5 _ hT RKu hKu (kb_G _ g_) hkk) (y := .tuple #[.agg #[.int .i64 x0, .int .i64 x1, .slice xa xn xc, .slice pa pn pc, .slice qa qn qc], .int .i64 ((zJ4 u (steps.getD k 0)).2)]) (by rw [hxs])) (fun w2_ g2_ => ⟨g2_, rfl⟩)
    apply zF0 (hm := by rfl)
    ·intro w_ g_; exact og rfl (zH4 (v := .tuple #[.agg #[.int .i64 x0, .int .i64 x1, .slice xa xn xc, .slice pa pn pc, .slice qa qn qc], .int .i64 ((zJ4 u (steps.getD k 0)).2)]) rfl qX)
    apply zF0 (hm := by rfl)
    ·intro w_ g_; exact og rfl (zC9 (v := .agg #[.int .i64 x0, .int .i64 x1, .slice xa xn xc, .slice pa pn pc, .slice qa qn qc]) rfl rfl qX)
    apply zF0 (hm := by rfl)
    ·intro w_ g_; exact og rfl (zC9 (v := .int .i64 ((zJ4 u (steps.getD k 0)).2)) rfl rfl qX)
    refine yF1 (fun w_ v_ => ∃ b cs, v_ = .pointer (some ⟨b, 0, none⟩) ∧ w30.heap.size ≤ b ∧ cs.size = 5 ∧ w_.heap[b]? = some (.cells cs 48 (0, 0))) (fun _ _ _ g_ ⟨b, cs, h1_, h2_, h3_, h4_⟩ => by obtain ⟨cs2, h5_, h6_⟩ := KtP.new g_ b cs h4_; exact ⟨b, cs2, h1_, h2_, h5_.trans h3_, h6_⟩) (by rfl) ?_ ?_
    ·intro w_ g_
     refine og rfl ?_
     refine zA8 ?_
     intro b_ w2_ hb_ hc_ g2_
     exact ⟨g2_, b_, _, rfl, Nat.le_trans (kb_hsz32 _ g_) hb_, rfl, hc_⟩
    apply qP4 0 (hm := by rfl)
    ·intro w_ g_
     intro v10_ hv10_
     intro s_
     show OpG _ _ _ _ _ _
     refine og rfl ?_
     obtain ⟨b_, cs_, rfl, hge_, hsz_, hb_⟩ := hv10_
     refine zJ9 rfl rfl hb_ (by rfl) hsz_ (by rfl) ?_
     intro w2_ s2_ u_
     exact ⟨KtP.of_upd u_ hge_ hb_ s2_ hsz_.symm, ⟨b_, rfl, hge_, s2_⟩, rfl⟩
    refine qP5 ?_
    intro w35 g36
    replace k0_ := ((ktR 48 w30.heap.size).tr k0_ g36)
    replace hc10 := kb_hc10 _ g36
    clear kb_hc10
    replace hc17 := kb_hc17 _ g36
    clear kb_hc17
    replace hc4 := kb_hc4 _ g36
    clear kb_hc4
    replace hsz32 := kb_hsz32 _ g36
    clear kb_hsz32
    replace G := kb_G _ g36
    clear kb_G
    intro v_x32 hv_x32
    rintro ⟨bx32, hbe32, hge32, hc32⟩
    have hbv32 : v_x32 = .pointer (some ⟨bx32, 0, none⟩) := hbe32
    subst hbv32
    clear hv_x32 hbe32
    have hgx32 := Nat.le_trans hgz32 hge32
    refine qZ 6 ?_
    refine stp (zG1 rfl rfl ?_)
    refine zA6 ?_
    refine zA2 (b := (decide (((zJ4 u (steps.getD k 0)).2) ≠ 0))) rfl (fun h4 => ?_) (fun h4 => ?_)
    ·
     replace h4 := qT h4
     refine qZ 2 ?_
     refine stp (zA7 (v := .agg #[.int .i64 0, .int .i64 0, .int .i64 0, .int .i64 0, .int .u64 0]) (fun w => by kernel_rfl) ?_)
     refine qZ 1 ?_
     refine stn (qS hc17 ?_)
     intro w37 hc38 u39
     replace hc10 := u39.heap hc10 ne21
     replace hc4 := u39.heap hc4 ne20
     replace hc32 := u39.heap hc32 (Nat.ne_of_lt (Nat.lt_of_lt_of_le ltf32_hc17 hge32)).symm
     replace G := G.upd u39 hge19
     clear u39 hc17
     refine qZ 3 ?_
     have h9 : (askT (Nd.mk kind size words bytes kids) steps a) = (Vl0, (zJ4 u (steps.getD k 0)).2) := by unfold askT; rw [if_neg hno, if_neg h3, hw, hd, if_pos h4, if_pos h4]
     refine ret2 (zA5 rfl hc38 (by rfl)) (zA1 (v := .int .i64 ((zJ4 u (steps.getD k 0)).2)) rfl) ⟨?_, G⟩
     rw [h9] <;> rfl
    ·
     replace h4 := qF h4
     refine qZ 3 ?_
     refine stn (qS hc4 ?_)
     intro w40 hc41 u42
     replace hc10 := u42.heap hc10 ne13.symm
     replace hc17 := u42.heap hc17 ne20.symm
     replace hc32 := u42.heap hc32 (Nat.ne_of_lt (Nat.lt_of_lt_of_le ltf32_hc4 hge32)).symm
     replace G := G.upd u42 hge6
     clear u42 hc4
     refine qZ 3 ?_
     refine stp (zB5 rfl rfl ?_ ?_); constructor <;> omega
     refine qZ 2 ?_
     refine ⟨_, ?_, k + 1, x0, x1, xa, xn, xc, pa, pn, pc, qa, qn, qc, (zJ4 u (steps.getD k 0)).1, rfl, zC3 ⟨rfl, rfl, rfl, congrArg (Value.int .i64) (by omega), trivial⟩, by omega, hTn, (by rw [hw, hd, if_neg h4]), hc10, hc17, hc41, G⟩
     omega
   ·
    replace hlt := qF hlt
    have hk9 : k = steps.length := by omega
    rw [hk9, List.drop_length, tgo] at hw
    obtain ⟨hl1, hl2, hl3, hl4, hl5, hl6, hl7, hl8⟩ := hT.lens
    have hv : (askT (Nd.mk kind size words bytes kids) steps a) = tval u a := by unfold askT; rw [if_neg hno, if_neg h3, hw, if_neg (by simp)]
    refine qZ 6 ?_
    refine stp (zF1 rfl rfl ?_)
    refine zA6 ?_
    refine zA2 (b := (decide (a < 0))) rfl (fun h5 => ?_) (fun h5 => ?_)
    ·
     replace h5 := qT h5
     refine qZ 12 ?_
     refine stp (zB5 rfl rfl ?_ ?_); constructor <;> omega
     refine qZ 3 ?_
     refine stp (zA7 (v := .agg #[.int .i64 y0, .int .i64 y1, .int .i64 ((yn : Int) + (zn : Int)), .int .i64 (un : Int), .int .u64 0]) (fun w => by kernel_rfl) ?_)
     refine stn (qS hc17 ?_)
     intro w43 hc44 u45
     replace hc10 := u45.heap hc10 ne21
     replace hc4 := u45.heap hc4 ne20
     replace G := G.upd u45 hge19
     clear u45 hc17
     refine qZ 3 ?_
     have h9 : (askT (Nd.mk kind size words bytes kids) steps a) = (⟨y0, y1, (yn : Int) + zn, un, 0⟩, 0) := by rw [hv, tval, if_pos h5, hl1, hl2, hl3, hl4, hl5]
     refine ret2 (zA5 rfl hc44 (by rfl)) (zA1 (v := .int .i64 0) rfl) ⟨?_, G⟩
     rw [h9] <;> rfl
    ·
     replace h5 := qF h5
     refine qZ 6 ?_
     refine stp (zA4 (v := .tuple #[.int .u64 ((tat u a).1), .int .i64 ((tat u a).2)]) rfl (yL4 _ (hT.grow G) (by omega)) ?_)
     intro w46 g47
     replace hc10 := g47.heap hc10
     replace hc17 := g47.heap hc17
     replace hc4 := g47.heap hc4
     replace G := G.tr g47
     clear g47
     refine qZ 10 ?_
     refine stp (zG1 rfl rfl ?_)
     refine zA6 ?_
     refine zA2 (b := (decide (((tat u a).2) ≠ 0))) rfl (fun h6 => ?_) (fun h6 => ?_)
     ·
      replace h6 := qT h6
      refine qZ 2 ?_
      refine stp (zA7 (v := .agg #[.int .i64 0, .int .i64 0, .int .i64 0, .int .i64 0, .int .u64 0]) (fun w => by kernel_rfl) ?_)
      refine qZ 1 ?_
      refine stn (qS hc17 ?_)
      intro w48 hc49 u50
      replace hc10 := u50.heap hc10 ne21
      replace hc4 := u50.heap hc4 ne20
      replace G := G.upd u50 hge19
      clear u50 hc17
      refine qZ 3 ?_
      have h9 : (askT (Nd.mk kind size words bytes kids) steps a) = (Vl0, (tat u a).2) := by rw [hv, tval, if_neg h5, if_pos h6]
      refine ret2 (zA5 rfl hc49 (by rfl)) (zA1 (v := .int .i64 ((tat u a).2)) rfl) ⟨?_, G⟩
      rw [h9] <;> rfl
     ·
      replace h6 := qF h6
      refine qZ 6 ?_
      refine stp (zA7 (v := .agg #[.int .i64 y0, .int .i64 0, .int .i64 0, .int .i64 0, .int .u64 ((tat u a).1)]) (fun w => by kernel_rfl) ?_)
      refine stn (qS hc17 ?_)
      intro w51 hc52 u53
      replace hc10 := u53.heap hc10 ne21
      replace hc4 := u53.heap hc4 ne20
      replace G := G.upd u53 hge19
      clear u53 hc17
      refine qZ 3 ?_
      have h9 : (askT (Nd.mk kind size words bytes kids) steps a) = (⟨y0, 0, 0, 0, (tat u a).1⟩, 0) := by rw [hv, tval, if_neg h5, if_neg h6, hl1]
      refine ret2 (zA5 rfl hc52 (by rfl)) (zA1 (v := .int .i64 0) rfl) ⟨?_, G⟩
      rw [h9] <;> rfl
end Go.Proofs.YtkkbbhpbcfcplaaGreat.K
namespace Go.Proofs.YtkkbbhpbcfcplaaGreat.K
open Go Go.RowKit
mutual
theorem qA5 : ∀ (t : Nd) (pre : List Int), ∀ p ∈ t.paths pre, p.1.length < pre.length + t.dep
  | .mk k s w b ks, pre, p, h => by
    rw [Nd.paths, List.mem_append] at h
    rcases h with h | h
    · obtain ⟨i, _, rfl⟩ := List.mem_map.1 h
      simp only [Nd.dep]; omega
    · obtain ⟨j, hj, h2⟩ := qF2 h
      have := qG8 ks j hj _ p h2
      simp only [List.length_append, List.length_singleton] at this
      simp only [Nd.dep]
      omega
theorem qG8 : ∀ (ks : List Nd) (j : Nat) (hj : j < ks.length) (pre : List Int), ∀ p ∈ ks[j].paths pre, p.1.length < pre.length + Nd.depL ks
  | t :: ts, 0, _, pre, p, h => by have := qA5 t pre p h; simp only [Nd.depL]; omega
  | t :: ts, j + 1, hj, pre, p, h => by have := qG8 ts j (by simpa using hj) pre p h; simp only [Nd.depL]; omega
end
theorem qL3 {α : Type} {L : List α} {n : Nat} {x : α} (h : L[n]? = some x) : L.take (n + 1) = L.take n ++ [x] := by
  obtain ⟨hlt, rfl⟩ := List.getElem?_eq_some_iff.1 h
  exact List.take_succ_eq_append_getElem hlt
def offK (w b : List Int) (ks : List Nd) (j : Nat) : Nat := own1 w b + (Nd.pathsL (ks.take j) [] 0).length
theorem yU0 (w b : List Int) (ks : List Nd) : offK w b ks 0 = own1 w b := by simp [offK, Nd.pathsL]
theorem yU1 {w b : List Int} {ks : List Nd} {j : Nat} (hj : j < ks.length) : offK w b ks (j + 1) = offK w b ks j + (ks[j].paths []).length := by
  unfold offK
  rw [yC5 ks [] j hj, List.nil_append, zX9, List.length_map]; omega
theorem yZ8 (k s : Int) (w b : List Int) (ks : List Nd) : offK w b ks ks.length = ((Nd.mk k s w b ks).paths []).length := by
  unfold offK
  rw [List.take_length, qW9]
theorem jG9 {k s : Int} {w b : List Int} {ks : List Nd} {j : Nat} (hj : j < ks.length) {i : Nat} {p : List Int × Int} (h : (ks[j].paths [])[i]? = some p) : ((Nd.mk k s w b ks).paths [])[offK w b ks j + i]? = some ((j : Int) :: p.1, p.2) := by
  have hlt := (List.getElem?_eq_some_iff.1 h).1
  have hl : i < (ks[j].paths ([] ++ [(j : Int)])).length := by rw [List.nil_append, zX9, List.length_map]; exact hlt
  have := yT6 (k := k) (s := s) (w := w) (b := b) (pre := []) hj hl
  unfold offK
  rw [this, List.nil_append, zX9, List.getElem?_map, h]
  rfl
theorem yU2 {w w' : World} {row : Option Nat} {base n sz : Nat} {T : TypeId} {v : Value} {xs : List Value} (h : w.ownsRow base T sz v n xs) (g : Kp row.toList w w') (hF : ∀ k, v.ownBlock = some k → row ≠ some k) : w'.ownsRow base T sz v n xs := by
  refine ⟨h.1, ?_⟩
  rcases h.2 with h2 | ⟨q, cap, cur, rfl, hq, hc, rest⟩
  · exact .inl h2
  · exact .inr ⟨q, cap, cur, rfl, hq, g.heap hc (fun hm => hF q rfl (by simpa using hm)), rest⟩
theorem Kp.of_app {row r2 : Option Nat} {a b c : World} (h : Kp row.toList a b) (gr : b.grownBy c r2) (hr : r2 = row ∨ ∀ q, r2 = some q → a.heap.size ≤ q) : Kp row.toList a c :=
  ⟨gr.os.trans h.os, gr.tape.trans h.tape, gr.output.trans h.output, Nat.le_trans h.size gr.size, fun k hk hn => by
    have h1 := h.block k hk hn
    rw [gr.block k (Nat.lt_of_lt_of_le hk h.size) (fun he => ?_), h1]
    rcases hr with rfl | hr
    · exact hn (by rw [← he]; simp)
    · have := hr k he.symm; omega⟩
end Go.Proofs.YtkkbbhpbcfcplaaGreat.K
namespace Go.Proofs.YtkkbbhpbcfcplaaGreat.K
open Go Go.RowKit Go.Proofs
attribute [local irreducible] Run1 OpG WL W AO zB8
theorem qX6 (w : World) {ad : Option Addr} {c : Nat} {steps : List Int} {k a : Int} (R : RowAt w 1 ad steps.length (steps.map (.int .i64))) (hc : steps.length ≤ c) (hc2 : c ≤ maxLen) (hl : steps.length ≤ 100000) : Calls Tryz.prog 38 #[.int .i64 k, .agg #[.slice ad steps.length c, .int .i64 a]] w (Ret fun v w' => ∃ ad9 c9, v = .agg #[.slice ad9 (k :: steps).length c9, .int .i64 a] ∧ (k :: steps).length ≤ c9 ∧ c9 ≤ maxLen ∧ RowAt (seeT 3 w') 1 ad9 (k :: steps).length ((k :: steps).map (.int .i64)) ∧ Grow w w') := by
 have G := Grow.rfl' w
 refine zC2 Tryz.func38 Tryz.ntmps38 Tryz.results38 rfl rfl ?_
 refine qZ 2 ?_
 refine stp ?_
 refine qC ?_
 intro b1 w2 hb3 hc4 g5
 have hge6 := Nat.le_trans G.size hb3
 replace G := G.tr g5
 clear g5 hb3
 refine stp (zA8 ?_)
 intro b7 w8 hb9 hc10 g11
 refine qZ 4 ?_
 have hge12 := Nat.le_trans G.size hb9
 have ne13 := qN hc4 hb9
 replace hc4 := g11.heap hc4
 replace G := G.tr g11
 clear g11 hb9
 refine stp (zC0 (cs := #[.int .i64 k]) (el := 3) (fun w => by kernel_rfl) ?_)
 intro bs14 w15 hb16 hc17 g18
 have hge19 := Nat.le_trans G.size hb16
 have ne20 := qN hc10 hb16
 replace hc4 := g18.heap hc4
 replace hc10 := g18.heap hc10
 replace G := G.tr g18
 clear g18
 refine qZ 7 ?_
 refine stp ?_
 have own0 := qO7 (n := 1) (sz := 1) hc17 hge19 rfl (by decide)
 refine zG7 rfl rfl rfl rfl own0 ⟨_, c, rfl, hc, hc2, R.grow G⟩ (fun q_ hq_ => by obtain ⟨z_, -, rfl⟩ := List.mem_map.1 hq_; rfl) (by simp only [maxLen]; omega) (by omega) G.size ?_
 intro v9 w9 own9 gr9
 have G9 := G.grown gr9 (zH5 own0)
 rw [show 1 + steps.length = (k :: steps).length from by simp only [List.length_cons]; omega] at own9
 obtain ⟨ad9, c9, rfl, h9a, h9b, R9⟩ := jC8 own9 (by simp only [List.length_cons]; omega)
 have k3 := zF5 gr9 hc4 (zD9 own0 hc4 (by decide))
 have k4 := zF5 gr9 hc10 (zD9 own0 hc10 (by decide))
 replace G := G9
 refine qZ 7 ?_
 refine stp (zA7 (v := .agg #[.slice ad9 ((k :: steps).length) c9, .int .i64 a]) (fun w => by kernel_rfl) ?_)
 refine stn (qS k4 ?_)
 intro w21 hc22 u23
 replace k3 := u23.heap k3 ne13
 replace R9 := R9.sees (Sees.typ_upd u23 (fun _ _ he_ => by rw [k4] at he_; simp at he_))
 replace G := G.upd u23 hge12
 clear u23 k4
 refine qZ 2 ?_
 refine ret1 (zA5 rfl hc22 (by rfl)) ⟨_, _, rfl, h9a, h9b, R9, G⟩
theorem qX7 : ∀ (n_ : Nat) (w : World) {c : List Value} {t : Nd} {most : Int} (T : NodeR w c t) (hd : t.dep ≤ 1000) (hm : inR .i64 most), t.sz ≤ n_ → Calls Tryz.prog 18 #[.agg c.toArray, .int .i64 most] w (Ret fun v w' => ∃ xs, w'.ownsRow w.heap.size 30 2 v ((t.paths []).take (min most 10000).toNat).length xs ∧ PathsR (seeT 3 w') xs ((t.paths []).take (min most 10000).toNat) ∧ Grow w w') := by
 intro n_
 induction n_ with
 | zero => intro w c t most T hd hm hm_; exact absurd hm_ (by have := t.sz_pos; omega)
 | succ n_ ih_ =>
 intro w c t most T hd hm hm_
 have T0 := T
 simp only [inR] at hm
 have hshort := fun p hp => qA5 t [] p hp
 obtain @⟨kind, size, words, bytes, kids, ws, bs, ks, kc, hk, hs, hW, hwr, hB, hbr, hK, hKs⟩ := T
 obtain ⟨aw, cw, rfl, hcw, hcw2, RW⟩ := hW
 obtain ⟨ab, cb, rfl, hcb, hcb2, RB⟩ := hB
 obtain ⟨ak, ck, rfl, hck, hck2, RK⟩ := hK
 have lw := RW.lim
 have lb := RB.lim
 have lk := RK.lim
 simp only [inR] at hk hs
 obtain ⟨M, hM⟩ : ∃ M, M = (min most 10000).toNat := ⟨_, rfl⟩
 rw [← hM]
 have G := Grow.rfl' w
 refine zC2 Tryz.func18 Tryz.ntmps18 Tryz.results18 rfl rfl ?_
 refine qZ 2 ?_
 refine stp ?_
 refine qC ?_
 intro b1 w2 hb3 hc4 g5
 have hge6 := Nat.le_trans G.size hb3
 replace G := G.tr g5
 clear g5 hb3
 refine qZ 5 ?_
 refine stp ?_
 refine qI4 rfl rfl rfl ?_
 rw [show (if (10000 : Int) < most then 10000 else most) = min most 10000 from by split <;> omega]
 refine qZ 6 ?_
 refine stp (zF1 rfl rfl ?_)
 refine zA6 ?_
 refine zA2 (b := (decide ((min most 10000) < 1))) rfl (fun hM0 => ?_) (fun hM0 => ?_)
 ·
  replace hM0 := qT hM0
  refine qZ 5 ?_
  have hM0 : M = 0 := by omega
  rw [hM0, List.take_zero]
  refine ret1 (zA1 (v := .slice none 0 0) rfl) ⟨[], World.ownsRow_nil _ _ _ _, .nil, G⟩
 ·
  replace hM0 := qF hM0
  have hM1 : (M : Int) = min most 10000 := by omega
  have hMp : 1 ≤ M := by omega
  have hM2 : M ≤ 10000 := by omega
  have hOl := yZ8 kind size words bytes kids
  have hO0 := yU0 words bytes kids
  have hW : own1 words bytes = 1 + words.length + bytes.length := rfl
  refine qZ 3 ?_
  refine stp (zA7 (v := .agg #[.slice none 0 0, .int .i64 (-1)]) (fun w => by kernel_rfl) ?_)
  refine stp (zC0 (cs := #[.slice none 0 0, .int .i64 (-1)]) (el := 30) (fun w => by kernel_rfl) ?_)
  intro bs7 w8 hb9 hc10 g11
  have hge12 := Nat.le_trans G.size hb9
  replace hc4 := g11.heap hc4
  replace G := G.tr g11
  clear g11
  refine qZ 2 ?_
  have ownO := qO7 (n := 1) (sz := 2) hc10 hge12 rfl (by decide)
  have kP : PathsR (seeT 3 w8) [.slice none 0 0, .int .i64 (-1)] ((Nd.paths (Nd.mk kind size words bytes kids) []).take 1) := by
   have h0_ := qO0 (k := kind) (s := size) (w := words) (b := bytes) (ks := kids) (pre := []) (i := 0) (by omega)
   rw [qL3 h0_]
   exact .cons (p := ([], -1)) (RowAt.empty _ _ _) (Nat.le_refl _) (Nat.zero_le _) .nil
  have hmE : (min most 10000 : Int) = (M : Int) := hM1.symm
  refine qZ 6 ?_
  refine zF2 (fun m_ e_ w_ => ∃ (k : Nat) (ado : Option Addr) (co : Nat) (xs : List Value), m_ = M - k ∧ Fr [(2, .pointer (some ⟨b1, 0, none⟩)), (4, .slice none 0 0), (6, .int .i64 (k : Int)), (5, .slice ado (k + 1) co), (1, .int .i64 (M : Int))] e_ ∧ (k + 1 ≤ M) ∧ (k + 1 ≤ own1 words bytes) ∧ (w_.heap[b1]? = some (.cells #[.int .i64 kind, .int .i64 size, .slice aw words.length cw, .slice ab bytes.length cb, .slice ak kids.length ck] 48 (0, 0))) ∧ (w_.ownsRow w.heap.size 30 2 (.slice ado (k + 1) co) (k + 1) xs) ∧ (PathsR (seeT 3 w_) xs ((Nd.paths (Nd.mk kind size words bytes kids) []).take (k + 1))) ∧ Grow w w_) _ ⟨0, _, _, _, rfl, zC3 ⟨rfl, rfl, rfl, rfl, congrArg (Value.int .i64) hmE, trivial⟩, by omega, by omega, hc4, ownO, kP, G⟩ ?_
  clear hc4 ownO kP
  clear G
  rintro m_ e_ w13 ⟨k, ado, co, xs, rfl, ⟨e14, rfl⟩, hk, hkw, hb2, ownO, kP, G⟩
  refine qZ 10 ?_
  refine stp (zB5 rfl rfl ?_ ?_); constructor <;> omega
  refine stp (zF1 rfl rfl ?_)
  refine qZ 1 ?_
  refine qG 3 ?_
  refine zA3 (zB0 (s := .bool _) (v := .bool (decide (((k + 1) : Int) < (M : Int)))) rfl (zE1 _) (fun hc18 => ?_) ?_)
  ·
   have hc18_ := qT hc18
   refine zF1 (gvt hc18) (gvt hc18) ?_
   exact ⟨rfl, rfl⟩
  refine stp (zE8 rfl rfl rfl ?_)
  refine zA6 ?_
  refine zA2 (b := ((decide ((k : Int) < ((words.length : Int) + (bytes.length : Int)))) && (decide (((k + 1) : Int) < (M : Int))))) rfl (fun hlt => ?_) (fun hlt => ?_)
  ·
   simp only [sb] at hlt
   have hk1 : k + 1 < own1 words bytes := by omega
   have hk2 : k + 1 < M := by omega
   have hwd := qO0 (k := kind) (s := size) (w := words) (b := bytes) (ks := kids) (pre := []) hk1
   rw [show (((k + 1 : Nat) : Int) - 1) = (k : Int) from by omega] at hwd
   refine qZ 6 ?_
   refine stp (zA7 (v := .agg #[.slice none 0 0, .int .i64 (k : Int)]) (fun w => by kernel_rfl) ?_)
   refine stp (zC0 (cs := #[.slice none 0 0, .int .i64 (k : Int)]) (el := 30) (fun w => by kernel_rfl) ?_)
   intro bs19 w20 hb21 hc22 g23
   have hge24 := Nat.le_trans G.size hb21
   replace hb2 := g23.heap hb2
   replace ownO := zB4 ownO g23
   replace kP := kP.sees (Sees.typ_grow g23)
   replace G := G.tr g23
   clear g23
   refine stp (zS4 rfl rfl rfl rfl ownO (Row.of_block (n := 1) hc22 rfl rfl (by omega)) (fun q_ hq_ => by simp at hq_; rcases hq_ with rfl | rfl <;> rfl) (by simp only [maxLen]; omega) (by omega) G.size ?_)
   intro v25 w25 own25 gr25 bk25
   obtain ⟨adN25, nN25, cN25, rfl⟩ := zD7 own25
   have hnN25 : nN25 = _ := qZ1 own25
   subst hnN25
   have G25 := G.grown gr25 (zH5 ownO)
   have hb25 := zF5 gr25 hb2 (zD9 ownO hb2 (by decide))
   have kP25 := PathsR.snoc (w := seeT 3 w25) (p := ([], (k : Int))) (RowAt.empty _ _ (none : Option Addr)) (Nat.le_refl 0) (Nat.zero_le _) (kP.sees (Sees.typ_gr gr25 ownO (by decide)))
   rw [← qL3 (hwd)] at kP25
   replace G := G25
   refine stp (zJ1 rfl ?_)
   refine qZ 3 ?_
   refine stp (zB5 rfl rfl ?_ ?_); constructor <;> omega
   refine qZ 2 ?_
   refine ⟨_, ?_, k + 1, adN25, cN25, _, rfl, zC3 ⟨rfl, rfl, congrArg (Value.int .i64) (by omega), rfl, rfl, trivial⟩, by omega, by omega, hb25, own25, kP25, G⟩
   omega
  ·
   simp only [sb] at hlt
   have hn9 : k + 1 = min M (own1 words bytes) := by omega
   obtain ⟨n, hn⟩ : ∃ n, n = k + 1 := ⟨_, rfl⟩
   rw [← hn] at ownO kP hn9
   refine qZ 7 ?_
   refine zF2 (fun m_ e_ w_ => ∃ (j : Nat) (n : Nat) (ado : Option Addr) (co : Nat) (xs : List Value), m_ = kids.length - j ∧ Fr [(1, .int .i64 (M : Int)), (2, .pointer (some ⟨b1, 0, none⟩)), (4, .slice none 0 0), (7, .int .i64 (j : Int)), (5, .slice ado n co)] e_ ∧ (j ≤ kids.length) ∧ (n = min M (offK words bytes kids j)) ∧ (w_.heap[b1]? = some (.cells #[.int .i64 kind, .int .i64 size, .slice aw words.length cw, .slice ab bytes.length cb, .slice ak kids.length ck] 48 (0, 0))) ∧ (w_.ownsRow w.heap.size 30 2 (.slice ado n co) n xs) ∧ (PathsR (seeT 3 w_) xs ((Nd.paths (Nd.mk kind size words bytes kids) []).take n)) ∧ Grow w w_) _ ⟨0, n, _, _, _, rfl, zC3 ⟨rfl, rfl, rfl, rfl, by rw [hn]; rfl, trivial⟩, by omega, by rw [hO0]; exact hn9, hb2, ownO, kP, G⟩ ?_
   clear hb2 ownO kP
   clear G
   rintro m_ e_ w26 ⟨j, n, ado, co, xs, rfl, ⟨e27, rfl⟩, hj2, hn2, hb2, ownO, kP, G⟩
   refine qZ 7 ?_
   refine stp (zF1 rfl rfl ?_)
   refine qZ 1 ?_
   refine qG 3 ?_
   refine zA3 (zB0 (s := .bool _) (v := .bool (decide ((n : Int) < (M : Int)))) rfl (zE1 _) (fun hc31 => ?_) ?_)
   ·
    have hc31_ := qT hc31
    refine zF1 (gvt hc31) (gvt hc31) ?_
    exact ⟨rfl, rfl⟩
   refine stp (zE8 rfl rfl rfl ?_)
   refine zA6 ?_
   refine zA2 (b := ((decide ((j : Int) < (kids.length : Int))) && (decide ((n : Int) < (M : Int))))) rfl (fun hlt2 => ?_) (fun hlt2 => ?_)
   ·
    simp only [sb] at hlt2
    have hj : j < kids.length := by omega
    have hnM : n < M := by omega
    have hnO : n = (offK words bytes kids j) := by omega
    have hat := KidsR.at_ j kids[j] hKs (by simp [hj])
    have hsz := Nd.szs_at kids j kids[j] (by simp [hj])
    simp only [Nd.sz] at hm_
    have hdk := yG6 (k := kind) (s := size) (w := words) (b := bytes) hj
    have hof := yU1 (w := words) (b := bytes) hj
    refine qZ 8 ?_
    refine stp (zD5 (RK.grow G) rfl rfl ?_ ?_); omega
    refine stp (zK0 (RK.grow G) rfl (by decide) (by rw [RK.len]; omega) rfl ?_)
    refine qZ 3 ?_
    refine stp (zM6 rfl rfl ?_ ?_); constructor <;> omega
    refine stp ?_
    have ltO := ownO.lt
    have hih := ih_ w26 (most := (M : Int) - (n : Int)) (hat.grow G) (by omega) (by simp only [inR]; omega) (by omega)
    rw [show (min ((M : Int) - (n : Int)) 10000).toNat = M - n from by omega] at hih
    obtain ⟨LK, hLK⟩ : ∃ L, L = (kids[j].paths []).take (M - n) := ⟨_, rfl⟩
    rw [← hLK] at hih
    have hLKl : LK.length = min (M - n) (kids[j].paths []).length := by rw [hLK, List.length_take]
    refine zD6 rfl hih ?_
    rintro vc wc ⟨xl, ownL, kL, gc⟩
    clear hih
    replace hb2 := gc.heap hb2
    replace ownO := zB4 ownO gc
    replace kP := kP.sees (Sees.typ_grow gc)
    replace G := G.tr gc
    obtain ⟨adl, nl, cl, rfl⟩ := zD7 ownL
    have hnl : nl = _ := qZ1 ownL
    subst hnl
    have K0 := Kp.refl (Value.slice ado n co).ownBlock.toList wc
    have hlo : ∀ k, (Value.slice adl LK.length cl).ownBlock = some k → (Value.slice ado n co).ownBlock ≠ some k := fun k hk he => by have := (ownL.lt k hk).1; have := (ltO k he).2; omega
    refine qZ 7 ?_
    have hn0 : n = n + 0 := rfl
    obtain ⟨bo, hbo⟩ : ∃ bo, bo = (Value.slice ado n co).ownBlock := ⟨_, rfl⟩
    rw [← hbo] at K0 hlo
    have hob0 : (Value.slice ado (n + 0) co).ownBlock = bo ∨ ∀ q, (Value.slice ado (n + 0) co).ownBlock = some q → wc.heap.size ≤ q := .inl hbo.symm
    refine zF2 (fun m_ e_ w_ => ∃ (i : Nat) (ado3 : Option Addr) (co3 : Nat) (xs3 : List Value), m_ = LK.length - i ∧ Fr [(1, .int .i64 (M : Int)), (2, .pointer (some ⟨b1, 0, none⟩)), (4, .slice none 0 0), (7, .int .i64 (j : Int)), (8, .slice adl LK.length cl), (9, .int .i64 (i : Int)), (5, .slice ado3 (n + i) co3)] e_ ∧ (i ≤ LK.length) ∧ ((Value.slice ado3 (n + i) co3).ownBlock = bo ∨ ∀ q, (Value.slice ado3 (n + i) co3).ownBlock = some q → wc.heap.size ≤ q) ∧ (w_.heap[b1]? = some (.cells #[.int .i64 kind, .int .i64 size, .slice aw words.length cw, .slice ab bytes.length cb, .slice ak kids.length ck] 48 (0, 0))) ∧ (w_.ownsRow w.heap.size 30 2 (.slice ado3 (n + i) co3) (n + i) xs3) ∧ (PathsR (seeT 3 w_) xs3 ((Nd.paths (Nd.mk kind size words bytes kids) []).take (n + i))) ∧ (PathsR (seeT 3 w_) xl LK) ∧ (Kp bo.toList wc w_) ∧ Grow w w_) _ ⟨0, _, _, _, rfl, zC3 ⟨rfl, rfl, rfl, rfl, rfl, rfl, rfl, trivial⟩, by omega, hob0, hb2, ownO, kP, kL, K0, G⟩ ?_
    clear hb2 ownO kP kL
    clear G
    rintro m_ e_ w32 ⟨i, ado3, co3, xs3, rfl, ⟨e33, rfl⟩, hi3, hob, hb2, ownO, kP, kL, K0, G⟩
    refine qZ 6 ?_
    refine stp (zF1 rfl rfl ?_)
    refine zA6 ?_
    refine zA2 (b := (decide ((i : Int) < (LK.length : Int)))) rfl (fun hlt3 => ?_) (fun hlt3 => ?_)
    ·
     replace hlt3 := qT hlt3
     have hi : i < LK.length := by omega
     obtain ⟨p, hp⟩ : ∃ p, LK[i]? = some p := ⟨_, List.getElem?_eq_getElem hi⟩
     have hp2 : (kids[j].paths [])[i]? = some p := by rw [hLK, List.getElem?_take] at hp; split at hp; exact hp; cases hp
     have hpk := jG9 (k := kind) (s := size) (w := words) (b := bytes) hj hp2
     rw [← hnO] at hpk
     have hps := qA5 kids[j] [] p (List.mem_of_getElem? hp2)
     obtain ⟨adp, cp, hcl, hcp, hcp2, Rp⟩ := kL.at_ i p hp
     have RL0 := yU2 ownL K0 hlo
     obtain ⟨adl', cl', hel, -, -, RL⟩ := zI8 RL0 (by omega)
     simp only [Value.slice.injEq, true_and] at hel
     obtain ⟨rfl, rfl⟩ := hel
     refine qZ 8 ?_
     refine stp (zD5 RL rfl rfl ?_ ?_); omega
     refine stp (zK0 RL rfl (by decide) (by rw [RL.len]; omega) hcl ?_)
     refine stp ?_
     have gB := Grow.rfl' w32
     refine zD6 rfl (qX6 _ (k := (j : Int)) (a := p.2) (Rp.sees (Sees.typ _ _)) hcp hcp2 (by simp only [List.length_nil] at hps; omega)) ?_
     rintro vb wb ⟨ad9, c9, rfl, h9a, h9b, R9, gb⟩
     clear RL Rp RL0
     replace hb2 := gb.heap hb2
     replace ownO := zB4 ownO gb
     replace kP := kP.sees (Sees.typ_grow gb)
     replace kL := kL.sees (Sees.typ_grow gb)
     replace K0 := K0.tr (Kp.of_grow gb)
     replace G := G.tr gb
     refine stp (zC0 (cs := #[.slice ad9 (((j : Int) :: p.1).length) c9, .int .i64 p.2]) (el := 30) (fun w => by kernel_rfl) ?_)
     intro bs34 w35 hb36 hc37 g38
     have hge39 := Nat.le_trans G.size hb36
     replace hb2 := g38.heap hb2
     replace ownO := zB4 ownO g38
     replace kP := kP.sees (Sees.typ_grow g38)
     replace kL := kL.sees (Sees.typ_grow g38)
     replace K0 := K0.tr (Kp.of_grow g38)
     replace R9 := R9.sees (Sees.typ_grow g38)
     replace G := G.tr g38
     clear g38
     refine stp ?_
     have hn9 : n + i < M := by omega
     refine zS4 rfl rfl rfl rfl ownO (Row.of_block (n := 1) hc37 rfl rfl (by omega)) (fun q_ hq_ => by simp at hq_; rcases hq_ with rfl | rfl <;> rfl) (by simp only [maxLen]; omega) (by omega) G.size ?_
     intro v40 w40 own40 gr40 bk40
     obtain ⟨adN40, nN40, cN40, rfl⟩ := zD7 own40
     have hnN40 : nN40 = _ := qZ1 own40
     subst hnN40
     have G40 := G.grown gr40 (zH5 ownO)
     have hb40 := zF5 gr40 hb2 (zD9 ownO hb2 (by decide))
     have sees40 := Sees.typ_gr (T := 3) gr40 ownO (by decide)
     have kP40 := PathsR.snoc (w := seeT 3 w40) (p := ((j : Int) :: p.1, p.2)) (R9.sees sees40) h9a h9b (kP.sees sees40)
     rw [← qL3 hpk] at kP40
     have kL40 := kL.sees sees40
     have K40 := Kp.of_app K0 gr40 (hob.imp id id)
     have hob40 : (Value.slice adN40 (n + i + 1) cN40).ownBlock = bo ∨ ∀ q, (Value.slice adN40 (n + i + 1) cN40).ownBlock = some q → wc.heap.size ≤ q := by
      rcases bk40 with h_ | h_
      ·rw [h_]; exact hob
      ·right; intro q hq; rw [h_] at hq; simp only [Option.some.injEq] at hq; have := K0.size; omega
     replace G := G40
     refine stp (zJ1 rfl ?_)
     refine qZ 3 ?_
     refine stp (zB5 rfl rfl ?_ ?_); constructor <;> omega
     refine qZ 2 ?_
     refine ⟨_, ?_, i + 1, adN40, cN40, _, rfl, zC3 ⟨rfl, rfl, rfl, rfl, rfl, congrArg (Value.int .i64) (by omega), rfl, trivial⟩, by omega, hob40, hb40, own40, kP40, kL40, K40, G⟩
     omega
    ·
     replace hlt3 := qF hlt3
     have hi9 : i = LK.length := by omega
     refine qZ 3 ?_
     refine stp (zB5 rfl rfl ?_ ?_); constructor <;> omega
     refine qZ 2 ?_
     -- behind the kid
     refine ⟨_, ?_, j + 1, n + i, ado3, co3, _, rfl, zC3 ⟨rfl, rfl, rfl, congrArg (Value.int .i64) (by omega), rfl, trivial⟩, by omega, by omega, hb2, ownO, kP, G⟩
     omega
   ·
    simp only [sb] at hlt2
    have hpl9 := PathsR.len kP
    have hox9 := ownO.1
    rw [List.length_take] at hpl9
    have hnl : ((Nd.paths (Nd.mk kind size words bytes kids) []).take M).length = n := by
     rw [List.length_take]
     rcases (show j = kids.length ∨ M ≤ n by omega) with h_ | h_
     ·rw [h_] at hn2; omega
     ·omega
    have htk : (Nd.paths (Nd.mk kind size words bytes kids) []).take n = (Nd.paths (Nd.mk kind size words bytes kids) []).take M := by rw [← hnl, List.length_take]; exact List.take_eq_take_iff.2 (by omega)
    refine qZ 7 ?_
    rw [hnl, ← htk]
    refine ret1 (zA1 (v := .slice ado n co) rfl) ⟨_, ownO, kP, G⟩
theorem yL7 (w : World) {ad ae : Option Addr} {cp cq : Nat} {xs ys : List Int} (R : RowAt w 1 ad xs.length (xs.map (.int .u8))) (hx : ∀ x ∈ xs, inR .u8 x) (hcp : xs.length ≤ cp) (hcp2 : cp ≤ maxLen) (R2 : RowAt w 1 ae ys.length (ys.map (.int .u8))) (hy : ∀ x ∈ ys, inR .u8 x) {k : Int} (k0 : 0 ≤ k) (k1 : k ≤ 255) {i_ : Int} (i0 : 0 ≤ i_) (i1 : i_ ≤ 255) : zB8 Tryz.prog 4 #[.slice ad xs.length cp, .slice ae ys.length cq, .int .u8 k, .int .u8 i_] w (.bool true) := by
 have lR := R.lim
 have G := Grow.rfl' w
 refine zA9 Tryz.func4 Tryz.ntmps4 Tryz.results4 rfl rfl ?_
 refine qZ 9 ?_
 refine stp (zM7 rfl rfl ?_)
 refine zA6 ?_
 refine zA2 (b := (decide ((xs.length : Int) > 200))) rfl (fun h1 => ?_) (fun h1 => ?_)
 ·
  replace h1 := qT h1
  refine qZ 2 ?_
  refine stp (zA4 (v := .bool true) rfl (zU6 _) ?_)
  intro w1 g2
  replace G := G.tr g2
  clear g2
  refine qZ 3 ?_
  refine ret1 (zA1 (v := .bool true) rfl) ⟨?_, G⟩
  rfl
 ·
  replace h1 := qF h1
  have hl : xs.length ≤ 200 := by omega
  refine qZ 6 ?_
  refine stp ?_
  refine zD6 rfl (yK8 _ (R.grow G) hx hcp hcp2 hl (R2.grow G) hy k0 k1) ?_
  rintro v_ w3 ⟨adp, cp, sgp, Ap, rfl, hOp, hBp, g_⟩
  replace G := G.tr g_
  clear g_
  obtain ⟨hrp, hup, -, -, h1p, h16p, hsp⟩ := yR7.ok hBp hx hl
  have hAp := hOp.arena (by omega) hsp
  clear hOp
  refine qZ 6 ?_
  refine stp (zA4 (v := .int .u16 ((decV Ap).2)) rfl (qA3 _ hAp (by omega) hup) ?_)
  intro w4 g5
  replace hAp := hAp.grow g5
  replace G := G.tr g5
  clear g5
  refine stp (zG1 rfl rfl ?_)
  refine zA6 ?_
  refine zA2 (b := (decide (((decV Ap).2) ≠ 0))) rfl (fun h2 => ?_) (fun h2 => ?_)
  ·
   replace h2 := qT h2
   refine qZ 2 ?_
   refine stp (zA4 (v := .bool true) rfl (zU6 _) ?_)
   intro w6 g7
   replace hAp := hAp.grow g7
   replace G := G.tr g7
   clear g7
   refine qZ 3 ?_
   refine ret1 (zA1 (v := .bool true) rfl) ⟨?_, G⟩
   rfl
  ·
   replace h2 := qF h2
   have hz0 : (decV Ap).2 = 0 := by omega
   obtain ⟨hd0, hri, -⟩ := yT0 hz0
   have hdp := qL1 _ 32 hri
   refine qZ 4 ?_
   refine stp ?_
   refine zD6 rfl (qP8 _ hAp (by omega) hup) ?_
   rintro v_ w8 ⟨cells_, rfl, hU_, g_⟩
   have hT := hU_.sees (Sees.seen _ _)
   clear hU_
   replace hAp := hAp.grow g_
   replace G := G.tr g_
   clear g_
   obtain ⟨y09, y110, ya11, yn12, yc13, za14, zn15, zc16, ua17, un18, uc19, rfl⟩ := hT.cells
   refine qZ 3 ?_
   refine stp (zA8 ?_)
   intro b20 w21 hb22 hc23 g24
   refine stn (qS hc23 ?_)
   intro w25 hc26 u27
   have g28 := g24.upd u27 hb22
   have hge29 := Nat.le_trans G.size hb22
   replace hAp := hAp.grow g28
   replace hT := hT.grow g28
   replace G := G.tr g28
   clear u27 g24 hb22 hc23
   refine qZ 5 ?_
   refine stp ?_
   have hcal := qX7 _ w25 hT (most := 300) (by omega) (by simp [inR]) (Nat.le_refl _)
   rw [show (min (300 : Int) 10000).toNat = 299 + 1 from by decide] at hcal
   have hL1 := yC6 (decT Ap).1 299
   have hL3 : ((Nd.paths (decT Ap).1 []).take (299 + 1)).length ≤ 300 := by rw [List.length_take]; omega
   have hmem : ∀ p ∈ (Nd.paths (decT Ap).1 []).take (299 + 1), p ∈ Nd.paths (decT Ap).1 [] := fun p h_ => List.mem_of_mem_take h_
   generalize (Nd.paths (decT Ap).1 []).take (299 + 1) = LT at hcal hL1 hL3 hmem
   refine zD6 rfl hcal ?_
   rintro v_ w30 ⟨xsP, ownP, PP0, g_⟩
   clear hcal
   replace hAp := hAp.grow g_
   replace hT := hT.grow g_
   replace hc26 := g_.heap hc26
   replace G := G.tr g_
   clear g_
   obtain ⟨adP, cP, rfl, -, -, RP⟩ := zI8 ownP (by omega)
   have PP := PP0.sees (Sees.typ _ _)
   clear PP0 ownP
   obtain ⟨ix1, hix1⟩ : ∃ k, k = (i_ % (LT.length : Int)).toNat := ⟨_, rfl⟩
   have hm1 := Int.emod_lt_of_pos i_ (show (0 : Int) < (LT.length : Int) by omega)
   have hn1 := Int.emod_nonneg i_ (show (LT.length : Int) ≠ 0 by omega)
   have hi1 : ix1 < LT.length := by omega
   obtain ⟨p1, hp1⟩ : ∃ p, p = LT[ix1] := ⟨_, rfl⟩
   obtain ⟨ad1, c1, hcl1, -, -, Rs1⟩ := PP.at_ ix1 p1 (by rw [hp1]; exact List.getElem?_eq_getElem hi1)
   rw [hix1] at hcl1
   have hpm1 := hmem p1 (by rw [hp1]; exact List.getElem_mem hi1)
   obtain ⟨hw1, he0, hnn, h32⟩ := yC8 hup hd0 hri hpm1
   obtain ⟨V, hV⟩ : ∃ V, V = askT (decT Ap).1 p1.1 p1.2 := ⟨_, rfl⟩
   rw [← hV] at hw1 he0
   have hp1m := (yZ5 hri hpm1)
   have hp1r : inR .i64 p1.2 := yK9 hT hpm1 hp1m
   refine qZ 6 ?_
   refine stp (zG0 rfl ?_ ?_); constructor <;> omega
   refine qZ 2 ?_
   refine stp (zO7 rfl rfl ?_ ?_ ?_); omega; omega
   refine stp (zE7 RP rfl rfl ?_ ?_ ?_); omega; omega
   refine stp (zK0 RP rfl (by decide) (by rw [RP.len]; omega) hcl1 ?_)
   refine stp (zA8 ?_)
   intro b31 w32 hb33 hc34 g35
   refine stn (qS hc34 ?_)
   intro w36 hc37 u38
   have g39 := g35.upd u38 hb33
   have hge40 := Nat.le_trans G.size hb33
   have ne41 := qN hc26 hb33
   replace hAp := hAp.grow g39
   replace hT := hT.grow g39
   replace hc26 := g39.heap hc26
   replace RP := RP.grow g39
   replace Rs1 := Rs1.grow g39
   replace G := G.tr g39
   clear u38 g35 hb33 hc34
   refine qZ 5 ?_
   refine stp (zA4 (v := .tuple #[.agg #[.int .i64 V.1.kind, .int .i64 V.1.size, .int .i64 V.1.words, .int .i64 V.1.kids, .int .u64 V.1.word], .int .i64 V.2]) rfl (zJ5 (yL3 _ hAp hrp hup Rs1 hp1r (by decide)) (y := .tuple #[.agg #[.int .i64 V.1.kind, .int .i64 V.1.size, .int .i64 V.1.words, .int .i64 V.1.kids, .int .u64 V.1.word], .int .i64 V.2]) (by rw [hw1])) ?_)
   intro w42 g43
   replace hAp := hAp.grow g43
   replace hT := hT.grow g43
   replace hc26 := g43.heap hc26
   replace RP := RP.grow g43
   replace Rs1 := Rs1.grow g43
   replace hc37 := g43.heap hc37
   replace G := G.tr g43
   clear g43
   refine qZ 3 ?_
   refine stp (zA8 ?_)
   intro b44 w45 hb46 hc47 g48
   refine stn (qS hc47 ?_)
   intro w49 hc50 u51
   have g52 := g48.upd u51 hb46
   have hge53 := Nat.le_trans G.size hb46
   have ne54 := qN hc26 hb46
   have ne55 := qN hc37 hb46
   replace hAp := hAp.grow g52
   replace hT := hT.grow g52
   replace hc26 := g52.heap hc26
   replace RP := RP.grow g52
   replace Rs1 := Rs1.grow g52
   replace hc37 := g52.heap hc37
   replace G := G.tr g52
   clear u51 g48 hb46 hc47
   refine qZ 6 ?_
   refine stp (zA4 (v := .tuple #[.agg #[.int .i64 V.1.kind, .int .i64 V.1.size, .int .i64 V.1.words, .int .i64 V.1.kids, .int .u64 V.1.word], .int .i64 V.2]) rfl (zJ5 (yL5 _ hT Rs1 hp1r) (y := .tuple #[.agg #[.int .i64 V.1.kind, .int .i64 V.1.size, .int .i64 V.1.words, .int .i64 V.1.kids, .int .u64 V.1.word], .int .i64 V.2]) (by rw [hV])) ?_)
   intro w56 g57
   replace hAp := hAp.grow g57
   replace hT := hT.grow g57
   replace hc26 := g57.heap hc26
   replace RP := RP.grow g57
   replace Rs1 := Rs1.grow g57
   replace hc37 := g57.heap hc37
   replace hc50 := g57.heap hc50
   replace G := G.tr g57
   clear g57
   refine qZ 3 ?_
   refine stp (zA8 ?_)
   intro b58 w59 hb60 hc61 g62
   refine stn (qS hc61 ?_)
   intro w63 hc64 u65
   have g66 := g62.upd u65 hb60
   have hge67 := Nat.le_trans G.size hb60
   have ne68 := qN hc26 hb60
   have ne69 := qN hc37 hb60
   have ne70 := qN hc50 hb60
   replace hAp := hAp.grow g66
   replace hT := hT.grow g66
   replace hc26 := g66.heap hc26
   replace RP := RP.grow g66
   replace Rs1 := Rs1.grow g66
   replace hc37 := g66.heap hc37
   replace hc50 := g66.heap hc50
   replace G := G.tr g66
   clear u65 g62 hb60 hc61
   refine qZ 6 ?_
   refine stp ?_
   have hcal := zY6 _ hAp hrp hup (ks := p1.1) (a := p1.2) (c := c1) Rs1 hp1r
   rw [hw1] at hcal
   refine zD6 rfl hcal ?_
   rintro v_ w71 ⟨adt, nt, ct, rfl, ht, hu, g_⟩
   clear hcal
   replace hAp := hAp.grow g_
   replace hT := hT.grow g_
   replace hc26 := g_.heap hc26
   replace RP := RP.grow g_
   replace Rs1 := Rs1.grow g_
   replace hc37 := g_.heap hc37
   replace hc50 := g_.heap hc50
   replace hc64 := g_.heap hc64
   replace G := G.tr g_
   clear g_
   refine qZ 8 ?_
   refine stp (zA4 (v := .bool true) rfl (zU6 _) ?_)
   intro w72 g73
   replace hAp := hAp.grow g73
   replace hT := hT.grow g73
   replace hc26 := g73.heap hc26
   replace RP := RP.grow g73
   replace Rs1 := Rs1.grow g73
   replace hc37 := g73.heap hc37
   replace hc50 := g73.heap hc50
   replace hc64 := g73.heap hc64
   replace G := G.tr g73
   clear g73
   refine qZ 2 ?_
   refine stp (zR6 rfl rfl (hd0) ?_)
   refine stp (zJ8 (v := .bool true) rfl rfl rfl ?_)
   refine qZ 2 ?_
   refine stp (zR6 rfl rfl (he0) ?_)
   refine stp (zJ8 (v := .bool true) rfl rfl rfl ?_)
   refine qZ 2 ?_
   refine stp (zR6 rfl rfl (he0) ?_)
   refine stp (zJ8 (v := .bool true) rfl rfl rfl ?_)
   refine qZ 2 ?_
   refine stp (zR6 rfl rfl (he0) ?_)
   refine stp (zJ8 (v := .bool true) rfl rfl rfl ?_)
   refine qZ 3 ?_
   refine stp (r_eqlS' (r' := true) rfl rfl (by rfl) (by simp) ?_)
   refine stp (zJ8 (v := .bool true) rfl rfl rfl ?_)
   refine qZ 3 ?_
   refine ret1 (zA1 (v := .bool true) rfl) ⟨?_, G⟩
   rfl
end Go.Proofs.YtkkbbhpbcfcplaaGreat.K
namespace Go.Proofs.YtkkbbhpbcfcplaaGreat.K
open Go Go.RowKit Go.ChangeShapes Go.WideShapes
section
variable {H : Type} {enc : TypeId × Value → H} {P : Program} {w : World}
structure Told (enc : TypeId × Value → H) (P : Program) (w : World) (fuel : Nat) (t : TypeId) (cs : List Value) : Prop where
  h : ∃ d p, DataW.trod enc P w 0 (fun _ => true) true fuel t cs = some (d, p) ∧ ∀ n ∈ d.weights P t, n ≤ reachBytes
theorem jH8 {ts : List TypeId} {ds : List (DataW H)} {j : Nat} {t : TypeId} {d : DataW H} {v : Value} {p : List MemPlace} (h : DataW.Trod enc P w 0 (fun _ => true) true t v d p) (hz : (DataW.weightsEach P ts ds).all (· ≤ reachBytes) = true) (ht : ts[j]? = some t) (hd : ds[j]? = some d) : ∃ fuel, Told enc P w fuel t v.cells.toList := by
  obtain ⟨fuel, hf⟩ := h
  exact ⟨fuel, ⟨d, p, hf, fun n hn => by simpa using List.all_eq_true.1 hz n (DataW.weights_mem_each ht hd n hn)⟩⟩
theorem yU3 {α β : Type} {f : α → Option β} : ∀ {l : List α} {r : List β}, l.mapM f = some r → ∀ (i : Nat) (x : α), l[i]? = some x → ∃ y, f x = some y ∧ r[i]? = some y := by
  intro l r h i x hx
  have h1 := mapM_some_get h i x hx
  have hl := mapM_some_length h
  have hi : i < r.length := by rw [hl]; exact (List.getElem?_eq_some_iff.1 hx).1
  rw [List.getElem?_eq_getElem hi] at h1
  exact ⟨_, h1, List.getElem?_eq_getElem hi⟩
theorem zY7 {e : TypeId} : ∀ {ds : List (DataW H)} {i : Nat} {d : DataW H}, ds[i]? = some d → ∀ n ∈ d.weights P e, n ∈ DataW.weightsAll P e ds
  | [], i, d, h, _, _ => by simp at h
  | x :: ds, 0, d, h, n, hn => by
    simp only [List.getElem?_cons_zero, Option.some.injEq] at h
    subst h
    simp only [DataW.weightsAll, List.mem_append]; exact .inl hn
  | x :: ds, i + 1, d, h, n, hn => by
    simp only [DataW.weightsAll, List.mem_append]; exact .inr (zY7 (by simpa using h) n hn)
theorem yL6 {t e : TypeId} {sz by_ fuel : Nat} {cs : List Value} (ht : P.underlying t = some (.slice e)) (hc : P.cellsOf e = sz) (hsz : 0 < sz) (hby : P.bytesOf e = by_) (hby1 : 1 ≤ by_) (h : Told enc P w fuel t cs) :
    ∃ f ad n c xs, fuel = f + 1 ∧ cs = [.slice ad n c] ∧ n ≤ c ∧ c ≤ maxLen ∧ RowAt w sz ad n xs ∧ ∀ i, i < n → Told enc P w f e ((xs.drop (i * sz)).take sz) := by
  obtain ⟨d, p, hd, hw⟩ := h
  rcases DataW.trod_slice ht hd with ⟨rfl, hx⟩ | ⟨a, len, cap, elems, rest, n, rfl, rfl, hx, _, hl, hm, hlen, hel, _, _⟩
  · cases fuel with
    | zero => simp [DataW.trod] at hd
    | succ f => exact ⟨f, none, 0, 0, [], rfl, rfl, Nat.le_refl _, Nat.zero_le _, RowAt.empty _ _ _, fun i hi => by omega⟩
  · simp only [Prod.mk.injEq] at hx
    obtain ⟨rfl, _⟩ := hx
    have hwt : ∀ n ∈ DataW.weightsAll P e (elems.map (·.1)), n ≤ reachBytes := fun n hn => hw n (by simp only [DataW.weights, ht, List.mem_cons, List.mem_append]; exact .inr (.inl hn))
    have hlim : len * by_ ≤ reachBytes := by
      have := hw (((elems.map (·.1)).length + (rest.map (·.1)).length) * P.bytesOf e) (by simp only [DataW.weights, ht, List.mem_cons, true_or])
      rw [hby, List.length_map, hlen, List.length_map, Nat.add_mul] at this
      omega
    have hlen2 : len ≤ 140737488355328 := by
      have h1 : len * 1 ≤ len * by_ := Nat.mul_le_mul_left _ hby1
      have h2 : reachBytes ≤ 140737488355328 := by decide
      omega
    -- each element
    have each : ∀ i, i < len → ∃ ys x, w.cells? 0 (a.add (i * sz)) sz = some ys ∧ DataW.trod enc P w 0 (fun _ => true) true n e ys = some x ∧ elems[i]? = some x := by
      intro i hi
      have hh := hel i hi
      have hi2 : i < elems.length := by omega
      rw [List.getElem?_eq_getElem hi2, hc] at hh
      simp only [Option.bind_eq_some_iff] at hh
      obtain ⟨ys, h1, h2⟩ := hh
      exact ⟨ys, _, h1, h2, List.getElem?_eq_getElem hi2⟩
    rcases Nat.eq_zero_or_pos len with h0 | h0
    · subst h0
      exact ⟨n, some a, 0, cap, [], rfl, rfl, hl, hm, RowAt.empty _ _ _, fun i hi => by omega⟩
    · -- the block
      have cell : ∀ i j, i < len → j < sz → ∃ v, w.cell? ((a.add (i * sz)).add j) = some v := by
        intro i j hi hj
        obtain ⟨ys, x, h1, _, _⟩ := each i hi
        unfold World.cells? at h1
        rw [if_pos (Nat.zero_le _)] at h1
        obtain ⟨y, hy, _⟩ := yU3 h1 j j (by simp [hj])
        exact ⟨y, hy⟩
      obtain ⟨blk, off, spot⟩ := a
      obtain ⟨v0, hv0⟩ := cell 0 0 h0 hsz
      have hadd0 : ((⟨blk, off, spot⟩ : Addr).add (0 * sz)).add 0 = ⟨blk, off, spot⟩ := by simp [Addr.add]
      rw [hadd0] at hv0
      unfold World.cell? at hv0
      cases hb : w.heap[blk]? with
      | none => rw [hb] at hv0; cases hv0
      | some o =>
        rw [hb] at hv0
        cases o with
        | cells c T fr =>
          simp only at hv0
          have hspot : spot = none := by
            cases spot with
            | none => rfl
            | some _ => simp at hv0
          subst hspot
          have hcell : ∀ k, k < len * sz → ∃ v, c[off + k]? = some v := by
            intro k hk
            have hdm := Nat.div_add_mod k sz
            have h1 : k / sz < len := (Nat.div_lt_iff_lt_mul hsz).2 hk
            obtain ⟨v, hv⟩ := cell (k / sz) (k % sz) h1 (Nat.mod_lt _ hsz)
            rw [add_lit, add_lit, cell_of_row w blk _ c T fr hb] at hv
            refine ⟨v, ?_⟩
            have : off + k / sz * sz + k % sz = off + k := by rw [Nat.mul_comm]; omega
            rwa [this] at hv
          have hsize : off + len * sz ≤ c.size := by
            have hp : 0 < len * sz := Nat.mul_pos h0 hsz
            obtain ⟨v, hv⟩ := hcell (len * sz - 1) (by omega)
            have := (Array.getElem?_eq_some_iff.1 hv).1
            omega
          refine ⟨n, some ⟨blk, off, none⟩, len, cap, (c.toList.drop off).take (len * sz), rfl, rfl, hl, hm, ⟨by rw [List.length_take, List.length_drop, Array.length_toList]; omega, hlen2, fun _ => ⟨blk, off, c, T, fr, rfl, hb, rfl⟩⟩, fun i hi => ?_⟩
          obtain ⟨ys, x, h1, h2, h3⟩ := each i hi
          have hys : ys = (((c.toList.drop off).take (len * sz)).drop (i * sz)).take sz := by
            unfold World.cells? at h1
            rw [if_pos (Nat.zero_le _)] at h1
            have hl2 := mapM_some_length h1
            simp only [List.length_range] at hl2
            have hle : (i + 1) * sz ≤ len * sz := Nat.mul_le_mul_right _ hi
            rw [Nat.add_mul, Nat.one_mul] at hle
            apply List.ext_getElem?
            intro j
            by_cases hj : j < sz
            · obtain ⟨y, hy, hy2⟩ := yU3 h1 j j (by simp [hj])
              rw [add_lit, add_lit, cell_of_row w blk _ c T fr hb] at hy
              rw [hy2, List.getElem?_take, if_pos hj, List.getElem?_drop, List.getElem?_take, if_pos (by omega), List.getElem?_drop, Array.getElem?_toList, ← Nat.add_assoc, hy]
            · rw [List.getElem?_eq_none (by omega), List.getElem?_eq_none (by rw [List.length_take]; omega)]
          rw [← hys]
          exact ⟨⟨x.1, x.2, h2, fun m hm_ => hwt m (zY7 (i := i) (by rw [List.getElem?_map, h3]; rfl) m hm_)⟩⟩
        | _ => cases hv0
theorem yZ9 {t : TypeId} {k : IntKind} {fuel : Nat} {cs : List Value} (ht : P.underlying t = some (.int k)) (h : Told enc P w fuel t cs) : ∃ n, cs = [.int k n] ∧ inR k n := by
  obtain ⟨d, p, hd, _⟩ := h
  obtain ⟨n, h1, _, hw⟩ := DataW.trod_int ht hd
  refine ⟨n, h1, ?_⟩
  cases k <;> simpa [Lit.wf, IntKind.min, IntKind.max, IntKind.bits, IntKind.signed, inR] using hw
theorem jE7 {α : Type} {sz n : Nat} {xs : List Value} {f : α → Value} (hl : xs.length = n) (h : ∀ i, i < n → ∃ a, (xs.drop (i * 1)).take 1 = [f a]) : ∃ l : List α, l.length = n ∧ xs = l.map f := by
  induction xs generalizing n with
  | nil => exact ⟨[], by simpa using hl, rfl⟩
  | cons x xs ih =>
    obtain ⟨a, ha⟩ := h 0 (by simp at hl; omega)
    simp at ha
    obtain ⟨l, h1, h2⟩ := ih (n := n - 1) (by simp at hl; omega) fun i hi => by
      obtain ⟨b, hb⟩ := h (i + 1) (by omega)
      exact ⟨b, by simpa using hb⟩
    exact ⟨a :: l, by simp at hl ⊢; omega, by simp [ha, h2]⟩
theorem jH0 {t e : TypeId} {k : IntKind} {fuel by_ : Nat} {cs : List Value} (ht : P.underlying t = some (.slice e)) (he : P.underlying e = some (.int k)) (hc : P.cellsOf e = 1) (hby : P.bytesOf e = by_) (hby1 : 1 ≤ by_) (h : Told enc P w fuel t cs) :
    ∃ ad n c, ∃ zs : List Int, cs = [.slice ad n c] ∧ n = zs.length ∧ n ≤ c ∧ c ≤ maxLen ∧ RowAt w 1 ad n (zs.map (.int k)) ∧ ∀ z ∈ zs, inR k z := by
  obtain ⟨f, ad, n, c, xs, rfl, rfl, h1, h2, R, hel⟩ := yL6 ht hc (by omega) hby hby1 h
  obtain ⟨l, hl, rfl⟩ := jE7 (sz := 1) (f := fun a : { z : Int // inR k z } => Value.int k a.1) (by rw [R.len, Nat.mul_one]) fun i hi => by
    obtain ⟨z, hz, hr⟩ := yZ9 he (hel i hi)
    exact ⟨⟨z, hr⟩, hz⟩
  refine ⟨ad, n, c, l.map (·.1), rfl, by simp [hl], h1, h2, by rw [List.map_map]; exact R, fun z hz => ?_⟩
  obtain ⟨a, _, rfl⟩ := List.mem_map.1 hz
  exact a.2
theorem jE8 {t e : TypeId} {r : Reach} {b0 : Nat} {v : Value} (ht : P.underlying t = some (.slice e)) (hv : Value.okWide P w r b0 t v) {ad : Option Addr} {n c : Nat} (h : v.cells.toList = [.slice ad n c]) : v = .slice ad n c := by
  unfold Value.okWide at hv
  rw [ht] at hv
  unfold Cell.okWide at hv
  rw [ht] at hv
  cases v <;> first | (simp only [Cell.ok, ht] at hv; done) | (simp [Value.cells] at h; try (obtain ⟨rfl, rfl, rfl⟩ := h); try rfl) | skip
end
end Go.Proofs.YtkkbbhpbcfcplaaGreat.K
