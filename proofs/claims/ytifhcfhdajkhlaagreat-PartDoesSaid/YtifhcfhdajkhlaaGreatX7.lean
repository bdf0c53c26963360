/- Laid together: OD, Ro, Rp, Rq. Each part is plain law, a rule, or a walk of the functions that its names tell. -/
import Derived.Test.YtifhcfhdajkhlaaGreatX6
import Derived.WalkKit
import Derived.ProofKit
import Derived.OpenShut
import Derived.ChangeOld
import Derived.Carry
import Derived.SizedLaws
set_option linter.unusedVariables false
set_option linter.unusedSimpArgs false
namespace Go.Proofs.YtifhcfhdajkhlaaGreat.K
open Go Go.RowKit Go.Proofs
attribute [local irreducible] Run1 OpG WL W AO Gives
set_option maxRecDepth 100000 in
theorem yG2 (w : World) {ses sum : Int} {adm : Option Addr} {cm : Nat} {szm : List Int} (RM : RowAt w 1 adm szm.length (szm.map (.int .i64))) (hrm : ∀ x ∈ szm, inR .i64 x) (hcm : szm.length ≤ cm) (hcm2 : cm ≤ maxLen) {ad1 : Option Addr} {c1 : Nat} {xs1 : List Int} (R1 : RowAt w 1 ad1 xs1.length (xs1.map (.int .u8))) (hx1 : isU8 xs1) (hc1 : xs1.length ≤ c1) (hm1 : c1 ≤ maxLen) {ad2 : Option Addr} {c2 : Nat} {xs2 : List Int} (R2 : RowAt w 1 ad2 xs2.length (xs2.map (.int .u8))) (hx2 : isU8 xs2) (hc2 : xs2.length ≤ c2) (hm2 : c2 ≤ maxLen) {k : Int} (k0 : 0 ≤ k) (k1 : k ≤ 255) {ad4 : Option Addr} {c4 : Nat} {xs4 : List Int} (R4 : RowAt w 1 ad4 xs4.length (xs4.map (.int .u8))) (hx4 : isU8 xs4) (hc4 : xs4.length ≤ c4) (hm4 : c4 ≤ maxLen) {ad5 : Option Addr} {c5 : Nat} {xs5 : List Int} (R5 : RowAt w 1 ad5 xs5.length (xs5.map (.int .u8))) (hx5 : isU8 xs5) (hc5 : xs5.length ≤ c5) (hm5 : c5 ≤ maxLen) {adp : Option Addr} {cp : Nat} {steps : List Int} {pa : Int} (RP : RowAt w 1 adp steps.length (steps.map (.int .i64))) (hRP : ∀ x ∈ steps, inR .i64 x) (hpa : inR .i64 pa) {at_ : Int} (a0 : 0 ≤ at_) (a1 : at_ ≤ 255) : Gives Tryz.prog 5 #[.agg #[.int .u64 ses, .slice adm szm.length cm, .int .u32 sum], .slice ad1 xs1.length c1, .slice ad2 xs2.length c2, .int .u8 k, .slice ad4 xs4.length c4, .slice ad5 xs5.length c5, .agg #[.slice adp steps.length cp, .int .i64 pa], .int .u8 at_] w (.bool true) := by
 have hat0 := a0
 have hat1 := a1
 have lM := RM.lim
 have l1 := R1.lim
 have l4 := R4.lim
 have l5 := R5.lim
 have lP := RP.lim
 have hpr := qR3 (c := xs2)
 have hR9 : ∀ x ∈ pathP xs2, inR .i64 x := fun x_ hx_ => by have := hpr x_ hx_; simp only [inR]; omega
 have G := Grow.rfl' w
 refine zC7 Tryz.func5 Tryz.ntmps5 Tryz.results5 rfl rfl ?_
 refine zA6 (zA1 rfl ?_)
 refine zA3 (og rfl ?_)
 (first | refine zD0 rfl ?_ | refine zD2 rfl ?_ | refine zC5 rfl ?_ | refine zH0 rfl rfl ?_)
 intro b1 w2 hb3 hc4 g5
 have hge6 := Nat.le_trans G.size hb3
 replace G := G.tr g5
 clear g5 hb3
 refine zA3 (og rfl ?_)
 (first | refine zD0 rfl ?_ | refine zD2 rfl ?_ | refine zC5 rfl ?_ | refine zH0 rfl rfl ?_)
 intro b7 w8 hb9 hc10 g11
 have hge12 := Nat.le_trans G.size hb9
 replace hc4 := g11.heap hc4
 replace G := G.tr g11
 clear g11 hb9
 refine stp (zA8 (v := .bool false) rfl ?_)
 refine zA4 ?_
 refine zA6 ?_
 refine zA6 (zA1 rfl ?_)
 refine stp (zA5 rfl ?_)
 refine stp (zB5 (v := .slice adm szm.length cm) rfl hc4 rfl ?_)
 refine stp (zE8 rfl rfl rfl ?_)
 refine stp (zM7 rfl rfl ?_)
 refine stp (zB9 rfl ?_)
 refine zA3 (zC2 (s := .bool (decide ((szm.length : Int) > 40))) (b := false) (v := .slice ad4 xs4.length c4) rfl (zD1 _) (fun hc13 => ?_) ?_)
 ·
  have hc13_ := hc13
  try simp only [sb] at hc13_
  refine zA7 rfl ?_
  exact ⟨rfl, rfl⟩
 refine zA3 (zC2 (s := .bool (decide ((szm.length : Int) > 40))) (b := false) (v := .int .i64 (xs4.length : Int)) rfl (zD1 _) (fun hc14 => ?_) ?_)
 ·
  have hc14_ := hc14
  try simp only [sb] at hc14_
  refine zE8 rfl rfl (gvt hc14) ?_
  exact ⟨rfl, rfl⟩
 refine zA3 (zC2 (s := .bool (decide ((szm.length : Int) > 40))) (b := false) (v := .bool (decide ((xs4.length : Int) > 30))) rfl (zD1 _) (fun hc15 => ?_) ?_)
 ·
  have hc15_ := hc15
  try simp only [sb] at hc15_
  refine zM7 (gvt hc15) rfl ?_
  exact ⟨rfl, rfl⟩
 refine stp (zI6 rfl rfl rfl ?_)
 refine stp (zB9 rfl ?_)
 refine zA3 (zC2 (s := .bool ((decide ((szm.length : Int) > 40)) || (decide ((xs4.length : Int) > 30)))) (b := false) (v := .slice ad5 xs5.length c5) rfl (zD1 _) (fun hc16 => ?_) ?_)
 ·
  have hc16_ := hc16
  try simp only [sb] at hc16_
  refine zA7 rfl ?_
  exact ⟨rfl, rfl⟩
 refine zA3 (zC2 (s := .bool ((decide ((szm.length : Int) > 40)) || (decide ((xs4.length : Int) > 30)))) (b := false) (v := .int .i64 (xs5.length : Int)) rfl (zD1 _) (fun hc17 => ?_) ?_)
 ·
  have hc17_ := hc17
  try simp only [sb] at hc17_
  refine zE8 rfl rfl (gvt hc17) ?_
  exact ⟨rfl, rfl⟩
 refine zA3 (zC2 (s := .bool ((decide ((szm.length : Int) > 40)) || (decide ((xs4.length : Int) > 30)))) (b := false) (v := .bool (decide ((xs5.length : Int) > 80))) rfl (zD1 _) (fun hc18 => ?_) ?_)
 ·
  have hc18_ := hc18
  try simp only [sb] at hc18_
  refine zM7 (gvt hc18) rfl ?_
  exact ⟨rfl, rfl⟩
 refine stp (zI6 rfl rfl rfl ?_)
 refine stp (zB9 rfl ?_)
 refine zA3 (zC2 (s := .bool (((decide ((szm.length : Int) > 40)) || (decide ((xs4.length : Int) > 30))) || (decide ((xs5.length : Int) > 80)))) (b := false) (v := .pointer (some ⟨b7, 0, none⟩)) rfl (zD1 _) (fun hc19 => ?_) ?_)
 ·
  have hc19_ := hc19
  try simp only [sb] at hc19_
  refine zA5 rfl ?_
  exact ⟨rfl, rfl⟩
 refine zA3 (zC2 (s := .bool (((decide ((szm.length : Int) > 40)) || (decide ((xs4.length : Int) > 30))) || (decide ((xs5.length : Int) > 80)))) (b := false) (v := .slice adp steps.length cp) rfl (zD1 _) (fun hc20 => ?_) ?_)
 ·
  have hc20_ := hc20
  try simp only [sb] at hc20_
  refine zB5 (v := .slice adp steps.length cp) (gvt hc20) hc10 rfl ?_
  exact ⟨rfl, rfl⟩
 refine zA3 (zC2 (s := .bool (((decide ((szm.length : Int) > 40)) || (decide ((xs4.length : Int) > 30))) || (decide ((xs5.length : Int) > 80)))) (b := false) (v := .int .i64 (steps.length : Int)) rfl (zD1 _) (fun hc21 => ?_) ?_)
 ·
  have hc21_ := hc21
  try simp only [sb] at hc21_
  refine zE8 rfl rfl (gvt hc21) ?_
  exact ⟨rfl, rfl⟩
 refine zA3 (zC2 (s := .bool (((decide ((szm.length : Int) > 40)) || (decide ((xs4.length : Int) > 30))) || (decide ((xs5.length : Int) > 80)))) (b := false) (v := .bool (decide ((steps.length : Int) > 60))) rfl (zD1 _) (fun hc22 => ?_) ?_)
 ·
  have hc22_ := hc22
  try simp only [sb] at hc22_
  refine zM7 (gvt hc22) rfl ?_
  exact ⟨rfl, rfl⟩
 refine stp (zI6 rfl rfl rfl ?_)
 refine stp (zB9 rfl ?_)
 refine zA3 (zC2 (s := .bool ((((decide ((szm.length : Int) > 40)) || (decide ((xs4.length : Int) > 30))) || (decide ((xs5.length : Int) > 80))) || (decide ((steps.length : Int) > 60)))) (b := false) (v := .slice ad1 xs1.length c1) rfl (zD1 _) (fun hc23 => ?_) ?_)
 ·
  have hc23_ := hc23
  try simp only [sb] at hc23_
  refine zA7 rfl ?_
  exact ⟨rfl, rfl⟩
 refine zA3 (zC2 (s := .bool ((((decide ((szm.length : Int) > 40)) || (decide ((xs4.length : Int) > 30))) || (decide ((xs5.length : Int) > 80))) || (decide ((steps.length : Int) > 60)))) (b := false) (v := .int .i64 (xs1.length : Int)) rfl (zD1 _) (fun hc24 => ?_) ?_)
 ·
  have hc24_ := hc24
  try simp only [sb] at hc24_
  refine zE8 rfl rfl (gvt hc24) ?_
  exact ⟨rfl, rfl⟩
 refine zA3 (zC2 (s := .bool ((((decide ((szm.length : Int) > 40)) || (decide ((xs4.length : Int) > 30))) || (decide ((xs5.length : Int) > 80))) || (decide ((steps.length : Int) > 60)))) (b := false) (v := .bool (decide ((xs1.length : Int) > 100))) rfl (zD1 _) (fun hc25 => ?_) ?_)
 ·
  have hc25_ := hc25
  try simp only [sb] at hc25_
  refine zM7 (gvt hc25) rfl ?_
  exact ⟨rfl, rfl⟩
 refine stp (zI6 rfl rfl rfl ?_)
 refine stp (zB9 rfl ?_)
 refine zA3 (zR6 (s := .bool (((((decide ((szm.length : Int) > 40)) || (decide ((xs4.length : Int) > 30))) || (decide ((xs5.length : Int) > 80))) || (decide ((steps.length : Int) > 60))) || (decide ((xs1.length : Int) > 100)))) (b := false) (v := .bool true) rfl (zD1 _) (fun hc26 => ?_) ?_)
 ·
  have hc26_ := hc26
  try simp only [sb] at hc26_
  exact zC0 rfl (zX1 _) (fun w2_ g2_ => ⟨rfl, g2_⟩)
 intro w27 g28
 replace hc4 := g28.heap hc4
 replace hc10 := g28.heap hc10
 replace G := G.tr g28
 clear g28
 refine zA3 (zC2 (s := .bool (((((decide ((szm.length : Int) > 40)) || (decide ((xs4.length : Int) > 30))) || (decide ((xs5.length : Int) > 80))) || (decide ((steps.length : Int) > 60))) || (decide ((xs1.length : Int) > 100)))) (b := false) (v := .bool false) rfl (zD1 _) (fun hc29 => ?_) ?_)
 ·
  have hc29_ := hc29
  try simp only [sb] at hc29_
  refine zL8 (gvt hc29) rfl ?_
  exact ⟨rfl, rfl⟩
 refine stp (zI6 rfl rfl rfl ?_)
 refine zA4 ?_
 refine zB8 (b := ((((((decide ((szm.length : Int) > 40)) || (decide ((xs4.length : Int) > 30))) || (decide ((xs5.length : Int) > 80))) || (decide ((steps.length : Int) > 60))) || (decide ((xs1.length : Int) > 100))) || false)) rfl (fun h1 => ?_) (fun h1 => ?_)
 ·-- true
  simp only [sb] at h1
  refine zA6 (zA1 rfl ?_)
  refine stp (zC0 (v := .bool true) rfl (zX1 _) ?_)
  intro w30 g31
  replace hc4 := g31.heap hc4
  replace hc10 := g31.heap hc10
  replace G := G.tr g31
  clear g31
  refine stp (zA8 (v := .bool true) rfl ?_)
  refine zA4 ?_
  refine zC4 ?_
  refine ret1 (zB3 (v := .bool true) rfl) ⟨?_, G⟩
  rfl
 ·-- false
  simp only [sb] at h1
  obtain ⟨em, hem⟩ : ∃ em : Int, em = if fitsL szm then 0 else 1 := ⟨_, rfl⟩
  have hem2 : 0 ≤ em ∧ em ≤ 1 := by rw [hem]; split <;> omega
  refine zC3 ?_
  refine zA6 (zA1 rfl ?_)
  refine stp (zB4 rfl hc4 (by rfl) ?_)
  refine zA3 (og rfl ?_)
  refine zF1 rfl (yK7 _ (RM.grow G) hrm hcm hcm2) ?_
  rintro v_ w32 ⟨pv, rfl, g_⟩
  rw [← hem]
  replace hc4 := g_.heap hc4
  replace hc10 := g_.heap hc10
  replace G := G.tr g_
  clear g_
  refine stp (zB6 (v := .tuple #[pv, .int .u16 em]) rfl ?_)
  refine stp (zB2 (v := pv) rfl rfl ?_)
  refine stp (zB2 (v := .int .u16 em) rfl rfl ?_)
  refine stp (zA8 (v := pv) rfl ?_)
  refine stp (zA0 rfl ?_)
  refine zA4 ?_
  refine zA6 (zA1 rfl ?_)
  refine stp (zB4 rfl hc4 (by rfl) ?_)
  refine zA3 (og rfl ?_)
  refine zF1 rfl (qZ8 _ (RM.grow G) hrm) ?_
  rintro v_ w33 ⟨z0, y1, n1_, c1_, z2, y3, n3_, c3_, y4, n4_, c4_, rfl, g_⟩
  rw [← hem]
  replace hc4 := g_.heap hc4
  replace hc10 := g_.heap hc10
  replace G := G.tr g_
  clear g_
  refine stp (zB6 (v := .tuple #[.agg #[.int .u64 z0, .slice y1 n1_ c1_, .int .u32 z2, .slice y3 n3_ c3_, .slice y4 n4_ c4_], .int .i64 em]) rfl ?_)
  refine stp (zB2 (v := .agg #[.int .u64 z0, .slice y1 n1_ c1_, .int .u32 z2, .slice y3 n3_ c3_, .slice y4 n4_ c4_]) rfl rfl ?_)
  refine stp (zB2 (v := .int .i64 em) rfl rfl ?_)
  refine stp (zD3 ?_)
  intro b34 w35 hb36 hc37 g38
  refine stn (zB1 rfl rfl hc37 (by rfl) (by rfl) (by rfl) ?_)
  intro w39 hc40 u41
  have g42 := g38.upd u41 hb36
  have hge43 := Nat.le_trans G.size hb36
  have ne44 := Nat.ne_of_lt (Nat.lt_of_lt_of_le (zA9 hc4) hb36)
  have ne45 := Nat.ne_of_lt (Nat.lt_of_lt_of_le (zA9 hc10) hb36)
  replace hc4 := g42.heap hc4
  replace hc10 := g42.heap hc10
  replace G := G.tr g42
  clear u41 g38 hb36 hc37
  refine stp (zA0 rfl ?_)
  refine zA4 ?_
  refine zA6 (zA1 rfl ?_)
  refine stp (zA7 rfl ?_)
  refine stp (zA7 rfl ?_)
  refine stp (zA2 rfl ?_)
  refine zA3 (og rfl ?_)
  refine zF1 rfl (qZ7 _ (R1.grow G) hx1 hc1 hm1 (by omega) (R2.grow G) hx2 k0 k1) ?_
  rintro v_ w46 ⟨adA, cA, sgA, A, rfl, hO, hB, g_⟩
  replace hc4 := g_.heap hc4
  replace hc10 := g_.heap hc10
  replace hc40 := g_.heap hc40
  replace G := G.tr g_
  clear g_
  obtain ⟨hr, hx, -, -, h1A, h16A, hsA⟩ := Bent1.ok hB hx1 (by omega)
  have zhA := hO.arena (by omega) hsA
  clear hO
  have GA := Grow.rfl' w46
  have hwA := G.size
  obtain ⟨hw1, hch1⟩ := qD7 hr
  have hfit : fitsL (sizesP A) = true := by rw [zN4]; exact hr
  have hrz : ∀ x ∈ sizesP A, inR .i64 x := zI7 hfit
  have hle := zG9 (sizesP A)
  have hch : chunksM (sizesP A) = (wordsM (sizesP A) + 7) / 8 := rfl
  refine stp (zB0 rfl ?_)
  refine zA4 ?_
  refine zA6 (zA1 rfl ?_)
  refine stp (zA7 rfl ?_)
  refine zA3 (og rfl ?_)
  have hGo := GA.size
  have hszl := (zG5 A).symm
  refine zF1 rfl (qN3 _ (zhA.grow GA) hr hx (ses := 3) (by decide) (by decide)) ?_
  rintro v_ w47 ⟨adz, cz, hv_, hcz, oS_, g_⟩
  have oS := zI0 oS_ hGo
  clear oS_
  replace hc4 := g_.heap hc4
  replace hc10 := g_.heap hc10
  replace hc40 := g_.heap hc40
  replace GA := GA.tr g_
  replace G := G.tr g_
  clear g_
  rw [hszl] at oS hcz
  rw [hszl] at hv_
  subst hv_
  refine stp (zB6 (v := .tuple #[.agg #[.int .u64 3, .slice adz ((sizesP A).length) cz, .int .u32 (sumA 3 A)], .int .i64 0]) rfl ?_)
  refine stp (zB2 (v := .agg #[.int .u64 3, .slice adz ((sizesP A).length) cz, .int .u32 (sumA 3 A)]) rfl rfl ?_)
  refine stp (zB2 (v := .int .i64 0) rfl rfl ?_)
  refine stp (zD3 ?_)
  intro b48 w49 hb50 hc51 g52
  refine stn (zB1 rfl rfl hc51 (by rfl) (by rfl) (by rfl) ?_)
  intro w53 hc54 u55
  have g56 := g52.upd u55 hb50
  have gge57 := Nat.le_trans GA.size hb50
  have hge58 := Nat.le_trans G.size hb50
  have ne59 := Nat.ne_of_lt (Nat.lt_of_lt_of_le (zA9 hc4) hb50)
  have ne60 := Nat.ne_of_lt (Nat.lt_of_lt_of_le (zA9 hc10) hb50)
  have ne61 := Nat.ne_of_lt (Nat.lt_of_lt_of_le (zA9 hc40) hb50)
  replace hc4 := g56.heap hc4
  replace hc10 := g56.heap hc10
  replace hc40 := g56.heap hc40
  replace GA := GA.tr g56
  replace oS := zC8 oS g56
  replace G := G.tr g56
  clear u55 g52 hb50 hc51
  refine stp (zA0 rfl ?_)
  refine zA4 ?_
  refine zA6 (zA1 rfl ?_)
  refine stp (zB4 rfl hc54 (by rfl) ?_)
  refine zA3 (og rfl ?_)
  have hGA0 := GA.size
  have oS9 := zI0 oS (Nat.zero_le _)
  obtain ⟨_, _, hs9, hcs, hcs2, RS⟩ := zE2 oS (by rw [zG5]; omega)
  cases hs9
  have hM := G.size
  refine zF1 rfl (zY7 _ RS hcs hcs2 hfit (ses := 3) (sum := sumA 3 A)) ?_
  rintro v_ w62 ⟨b, g, h, rfl, HP, g_⟩
  have GM := g_
  have hB0 := hc54
  have RS0 := RS
  replace hc4 := g_.heap hc4
  replace hc10 := g_.heap hc10
  replace hc40 := g_.heap hc40
  replace GA := GA.tr g_
  replace oS := zC8 oS g_
  replace G := G.tr g_
  clear g_
  have oSG := zC8 oS9 GM
  refine stp (zB6 (v := .tuple #[.pointer (some ⟨b, 0, none⟩), .int .u16 0]) rfl ?_)
  refine stp (zB2 (v := .pointer (some ⟨b, 0, none⟩)) rfl rfl ?_)
  refine stp (zB2 (v := .int .u16 0) rfl rfl ?_)
  refine stp (zA8 (v := .pointer (some ⟨b, 0, none⟩)) rfl ?_)
  refine stp (zA0 rfl ?_)
  refine zA4 ?_
  refine zA6 (zA1 rfl ?_)
  refine stp (zB4 rfl (GM.heap hB0) (by rfl) ?_)
  refine zA3 (og rfl ?_)
  refine zF1 rfl (qO6 _ oSG hfit) ?_
  rintro v_ w63 ⟨bY5, bY7, rfl, Y, g_⟩
  replace hc4 := g_.heap hc4
  replace hc10 := g_.heap hc10
  replace hc40 := g_.heap hc40
  replace GA := GA.tr g_
  replace oS := zC8 oS g_
  replace GM := GM.tr g_
  replace HP := HP.grow g_
  replace oSG := zC8 oSG g_
  replace G := G.tr g_
  clear g_
  refine stp (zB6 (v := .tuple #[.agg #[.int .u64 3, .slice adz ((sizesP A).length) cz, .int .u32 (sumA 3 A), .slice (some ⟨bY5, 0, none⟩) (8 * wordsM (sizesP A)) (8 * wordsM (sizesP A)), .slice (some ⟨bY7, 0, none⟩) (chunksM (sizesP A)) (chunksM (sizesP A))], .int .i64 0]) rfl ?_)
  refine stp (zB2 (v := .agg #[.int .u64 3, .slice adz ((sizesP A).length) cz, .int .u32 (sumA 3 A), .slice (some ⟨bY5, 0, none⟩) (8 * wordsM (sizesP A)) (8 * wordsM (sizesP A)), .slice (some ⟨bY7, 0, none⟩) (chunksM (sizesP A)) (chunksM (sizesP A))]) rfl rfl ?_)
  refine stp (zB2 (v := .int .i64 0) rfl rfl ?_)
  refine stp (zD3 ?_)
  intro b64 w65 hb66 hc67 g68
  refine stn (zB1 rfl rfl hc67 (by rfl) (by rfl) (by rfl) ?_)
  intro w69 hc70 u71
  have g72 := g68.upd u71 hb66
  have gge73 := Nat.le_trans GA.size hb66
  have hge74 := Nat.le_trans G.size hb66
  have ne75 := Nat.ne_of_lt (Nat.lt_of_lt_of_le (zA9 hc4) hb66)
  have ne76 := Nat.ne_of_lt (Nat.lt_of_lt_of_le (zA9 hc10) hb66)
  have ne77 := Nat.ne_of_lt (Nat.lt_of_lt_of_le (zA9 hc40) hb66)
  replace hc4 := g72.heap hc4
  replace hc10 := g72.heap hc10
  replace hc40 := g72.heap hc40
  replace GA := GA.tr g72
  replace oS := zC8 oS g72
  replace GM := GM.tr g72
  replace HP := HP.grow g72
  replace oSG := zC8 oSG g72
  replace Y := Y.grow g72
  replace G := G.tr g72
  clear u71 g68 hb66 hc67
  refine stp (zA0 rfl ?_)
  refine zA4 ?_
  refine zA6 ?_
  refine zA6 (zA1 rfl ?_)
  refine stp (zB6 (v := .pointer (some ⟨b, 0, none⟩)) rfl ?_)
  refine stp (qC3 Tryz.underlying31 rfl rfl ?_)
  refine stp (zB6 (v := .bool false) rfl ?_)
  refine stp (zA2 rfl ?_)
  refine stp (zF8 rfl ?_ ?_); constructor <;> omega
  refine stp (zA2 rfl ?_)
  refine stp (zM4 rfl rfl (by simp) ?_)
  refine stp (zG8 (v := .bool false) rfl rfl rfl ?_)
  refine zA4 ?_
  refine zI8 rfl ?_
  refine zC3 ?_
  refine zA6 ?_
  refine zA6 (zA1 rfl ?_)
  refine stp (zA0 rfl ?_)
  refine zA4 ?_
  refine zC6 ?_
  have hbz := HP.bases
  have hlt26 := zA9 hc70
  have hgA26 := gge73
  refine zG6 (fun m_ e_ w_ => ∃ (j : Nat) (adb : Option Addr) (adh : Option Addr) (cb : Nat) (ch : Nat) (wl : List Int) (kb : List Int) (h : Nat), m_ = xs4.length - j ∧ Fr [(2, .slice ad2 xs2.length c2), (4, .slice ad4 xs4.length c4), (5, .slice ad5 xs5.length c5), (7, .int .u8 at_), (14, .pointer (some ⟨b7, 0, none⟩)), (21, .slice adA A.length cA), (24, .pointer (some ⟨b, 0, none⟩)), (26, .pointer (some ⟨b64, 0, none⟩)), (28, .int .i64 (j : Int))] e_ ∧ (j ≤ xs4.length) ∧ (Grow w46 w_) ∧ (PartR 86 3 33 5 w_ w53.heap.size b g h 3 (sumA 3 A) (sizesP A) wl kb) ∧ (TR 3 5 4 w_ adz adb adh cz cb ch (sizesP A) wl kb) ∧ (w_.heap[b64]? = some (.cells #[.int .u64 3, .slice adz ((sizesP A).length) cz, .int .u32 (sumA 3 A), .slice adb (8 * wl.length) cb, .slice adh (chunksM (sizesP A)) ch] 56 (0, 0))) ∧ (w_.heap[b7]? = some (.cells #[.slice adp steps.length cp, .int .i64 pa] 29 (0, 0))) ∧ Grow w w_) _ ⟨0, _, _, _, _, _, _, _, rfl, zE6 ⟨rfl, rfl, rfl, rfl, rfl, rfl, rfl, rfl, rfl, trivial⟩, by omega, GA, HP, Y, (by simpa using hc70), hc10, G⟩ ?_
  clear hc4 hc10 hc40 GA oS GM HP oSG Y hc70
  clear G
  rintro m_ e_ w78 ⟨j, adb, adh, cb, ch, wl, kb, h, rfl, ⟨e79, rfl⟩, hj, GA, HP, Y, hc70, hc10, G⟩
  refine zA6 ?_
  refine zA6 (zA1 rfl ?_)
  refine stp (zA2 rfl ?_)
  refine stp (zA7 rfl ?_)
  refine stp (zE8 rfl rfl rfl ?_)
  refine stp (zF9 rfl rfl ?_)
  refine zA4 ?_
  refine zB8 (b := (decide ((j : Int) < (xs4.length : Int)))) rfl (fun hlt => ?_) (fun hlt => ?_)
  ·-- true
   replace hlt := of_decide_eq_true hlt
   have hi : j < xs4.length := by omega
   have hu := zY1 hx4 j
   obtain ⟨q, hq⟩ : ∃ q : Nat, (q : Int) = xs4.getD j 0 % 12 := ⟨(xs4.getD j 0 % 12).toNat, by omega⟩
   obtain ⟨_, hgw_HP⟩ := HP.words
   have hgl0 := zA9 hgw_HP
   obtain ⟨-, -, -, -, -, -, _, _, _, _, hBb, -⟩ := id HP
   have hbl0 := zA9 hBb
   clear hBb hgw_HP
   refine zC3 ?_
   refine zA6 ?_
   refine zC6 ?_
   refine zA6 (zA1 rfl ?_)
   refine stp (zA7 rfl ?_)
   refine stp (zA7 rfl ?_)
   refine stp (zA2 rfl ?_)
   refine stp (zD9 (R4.grow G) rfl rfl ?_ ?_); omega
   refine stp (zD7 (v := .int .u8 (xs4.getD j 0)) (m := 0) (R4.grow G) rfl (zE4 0 (by omega)) ?_)
   refine zA3 (og rfl ?_)
   refine zJ5 rfl rfl ?_ ?_ ?_; omega; omega
   rw [← hq]
   refine stp (zF8 rfl ?_ ?_); constructor <;> omega
   refine zA3 (og rfl ?_)
   obtain ⟨_, hgw_HP⟩ := HP.words
   have hgl_HP := zA9 hgw_HP
   clear hgw_HP
   refine zF1 rfl (qN4 _ (zhA.grow GA) hr hx (i := q) (by omega)) ?_
   rintro v_ w80 ⟨ad9, c9, rfl, hc9, hcm9, R9, hfr9, g_⟩
   replace GA := GA.tr g_
   replace HP := HP.grow g_
   replace Y := Y.grow g_
   replace hc70 := g_.heap hc70
   replace hc10 := g_.heap hc10
   replace G := G.tr g_
   clear g_
   refine stp (zB0 rfl ?_)
   refine zA4 ?_
   refine zA6 ?_
   refine zA6 (zA1 rfl ?_)
   refine stp (zA7 rfl ?_)
   refine stp (zA2 rfl ?_)
   refine stp (zD9 (R4.grow G) rfl rfl ?_ ?_); omega
   refine stp (zD7 (v := .int .u8 (xs4.getD j 0)) (m := 0) (R4.grow G) rfl (zE4 0 (by omega)) ?_)
   refine stp (zM7 rfl rfl ?_)
   refine zA4 ?_
   refine zB8 (b := (decide ((xs4.getD j 0) > 220))) rfl (fun h220 => ?_) (fun h220 => ?_)
   ·-- true
    replace h220 := of_decide_eq_true h220
    have RX := R5.grow G
    have hdis : 0 < xs5.length → ∀ q_ o_, ad5 = some ⟨q_, o_, none⟩ → q_ ∉ [b, g] := fun h0_ q_ o_ he_ => by obtain ⟨b_, o2_, cs_, T_, fr_, he2_, hb_, -⟩ := R5.at_ h0_; have := zA9 hb_; rw [he2_] at he_; simp only [Option.some.injEq, Addr.mk.injEq] at he_; simp only [List.mem_cons, List.not_mem_nil, or_false]; omega
    refine zA1 rfl ?_
    refine stp (zA7 rfl ?_)
    refine stp (zB0 rfl ?_)
    refine zA4 ?_
    refine zA6 (zA1 rfl ?_)
    refine stp (zB6 (v := .pointer (some ⟨b, 0, none⟩)) rfl ?_)
    refine stp (zA7 rfl ?_)
    refine stp (zA2 rfl ?_)
    refine stp (zD9 (R4.grow G) rfl rfl ?_ ?_); omega
    refine stp (zD7 (v := .int .u8 (xs4.getD j 0)) (m := 0) (R4.grow G) rfl (zE4 0 (by omega)) ?_)
    refine zA3 (og rfl ?_)
    refine zJ5 rfl rfl ?_ ?_ ?_; omega; omega
    rw [← hq]
    refine stp (zF8 rfl ?_ ?_); constructor <;> omega
    refine stp (zA7 rfl ?_)
    refine zA3 (og rfl ?_)
    have hd9 : 0 < (xs5).length → ∀ q_ o_, ad5 = some ⟨q_, o_, none⟩ → q_ ≠ g := fun h0_ q_ o_ he_ hg_ => hdis h0_ q_ o_ he_ (by rw [hg_]; simp)
    refine zF1 rfl (zY8 _ HP (xs := xs5) RX (hx5) hc5 hd9 (i := (q : Int)) (by simp only [inR]; omega)) ?_
    rintro v_ w81 ⟨h2, rfl, HP2, K2, hh2⟩
    have hbg2 := HP.bases
    replace G := G.trK K2 (fun x_ hx_ => by simp only [List.mem_cons, List.not_mem_nil, or_false] at hx_; omega)
    replace GA := GA.trK K2 (fun x_ hx_ => by simp only [List.mem_cons, List.not_mem_nil, or_false] at hx_; omega)
    replace hc70 := K2.heap hc70 (HP.apart hc70 (by decide) (by decide))
    replace hc10 := K2.heap hc10 (HP.apart hc10 (by decide) (by decide))
    replace Y := Y.kp HP K2 (by decide) (by decide) (by decide) (by decide) (by decide) (by decide)
    replace RX := RX.keepF K2 hdis
    clear K2 HP
    have HP := HP2
    clear HP2
    refine stp (zC1 rfl ?_)
    refine zA4 ?_
    have hsz82 : w81.heap.size ≤ w81.heap.size := Nat.le_refl _
    have ltf82_hc70 := zA9 hc70
    have ltf82_hc10 := zA9 hc10
    have hgz82 := G.size
    refine zA6 ?_
    have kb_GA : ∀ w_, (ktR 56 w81.heap.size).r w81 w_ → Grow w46 w_ := fun w_ k_ => GA.tr (KtP.to_grow k_ (Grow.rfl' _))
    have kb_Y : ∀ w_, (ktR 56 w81.heap.size).r w81 w_ → TR 3 5 4 w_ adz adb adh cz cb ch (sizesP A) wl kb := fun w_ k_ => Y.grow (KtP.to_grow k_ (Grow.rfl' _))
    have kb_hc70 : ∀ w_, (ktR 56 w81.heap.size).r w81 w_ → w_.heap[b64]? = some (.cells #[.int .u64 3, .slice adz ((sizesP A).length) cz, .int .u32 (sumA 3 A), .slice adb (8 * wl.length) cb, .slice adh (chunksM (sizesP A)) ch] 56 (0, 0)) := fun w_ k_ => (KtP.to_grow k_ (Grow.rfl' _)).heap hc70
    have kb_hc10 : ∀ w_, (ktR 56 w81.heap.size).r w81 w_ → w_.heap[b7]? = some (.cells #[.slice adp steps.length cp, .int .i64 pa] 29 (0, 0)) := fun w_ k_ => (KtP.to_grow k_ (Grow.rfl' _)).heap hc10
    have kb_RX : ∀ w_, (ktR 56 w81.heap.size).r w81 w_ → RowAt w_ 1 ad5 (xs5).length ((xs5).map (.int .u8)) := fun w_ k_ => RX.grow (KtP.to_grow k_ (Grow.rfl' _))
    have kb_HP : ∀ w_, (ktR 56 w81.heap.size).r w81 w_ → PartR 86 3 33 5 w_ w53.heap.size b g h2 3 (sumA 3 A) (sizesP A) (putW (sizesP A) wl kb (q : Int) (xs5)) (putK (sizesP A) kb (q : Int) (xs5).length) := fun w_ k_ => HP.grow (KtP.to_grow k_ (Grow.rfl' _))
    have kb_hsz82 : ∀ w_, (ktR 56 w81.heap.size).r w81 w_ → w81.heap.size ≤ w_.heap.size := fun w_ k_ => Nat.le_trans hsz82 (KtP.to_grow k_ (Grow.rfl' _)).size
    have kb_G : ∀ w_, (ktR 56 w81.heap.size).r w81 w_ → Grow w w_ := fun w_ k_ => G.tr (KtP.to_grow k_ (Grow.rfl' _))
    refine qL9 14 [[], [], [], [1, 0], [2, 1, 0], [3, 2, 1, 0], [4, 3, 2, 1, 0], [], [7, 6, 5, 4, 3, 2, 1, 0], [8, 7, 6, 5, 4, 3, 2, 1, 0], [9, 8, 7, 6, 5, 4, 3, 2, 1, 0], [10, 9, 8, 7, 6, 5, 4, 3, 2, 1], [], [12, 11, 10, 9, 8, 7, 6, 5, 4, 3, 2, 0]] [13] [31] (grQ (ktR 56 w81.heap.size)) (fun k_ e_ w_ => match k_ with | 0 => True | _ => ∃ (b : Nat) (a1 : Option Addr) (a2 : Option Addr) (c1 : Nat) (c2 : Nat), e_ 31 = .pointer (some ⟨b, 0, none⟩) ∧ w81.heap.size ≤ b ∧ w_.heap[b]? = some (.cells #[.int .u64 3, .slice adz ((sizesP A).length) cz, .int .u32 (sumA 3 A), .slice a1 (8 * (putW (sizesP A) wl kb (q : Int) (xs5)).length) c1, .slice a2 (chunksM (sizesP A)) c2] 56 (0, 0)) ∧ TR 3 5 4 w_ adz a1 a2 cz c1 c2 (sizesP A) (putW (sizesP A) wl kb (q : Int) (xs5)) (putK (sizesP A) kb (q : Int) (xs5).length)) mixed (by kernel_rfl) (by kernel_rfl) (by kernel_rfl) (by kernel_rfl) (by kernel_rfl) (fun k_ _ _ _ g_ h_ => match k_, h_ with | 0, _ => trivial | _ + 1, ⟨b_, a1, a2, c1, c2, h1_, h2_, h3_, h4_⟩ => ⟨b_, a1, a2, c1, c2, h1_, h2_, g_.heap h3_, h4_.grow g_⟩) (fun k_ _ _ _ hu_ h_ => match k_, h_ with | 0, _ => trivial | _ + 1, ⟨b_, a1, a2, c1, c2, h1_, h2_, h3_, h4_⟩ => ⟨b_, a1, a2, c1, c2, (hu_ _ (by simp)).symm.trans h1_, h2_, h3_, h4_⟩) (fun _ _ _ h_ => h_) (fun _ _ => trivial) ?_
    intro w83 g84
    replace kb_GA : ∀ w_, (ktR 56 w81.heap.size).r w83 w_ → Grow w46 w_ := fun w_ k_ => kb_GA w_ ((ktR 56 w81.heap.size).tr ((ktR 56 w81.heap.size).grow g84) k_)
    replace kb_Y : ∀ w_, (ktR 56 w81.heap.size).r w83 w_ → TR 3 5 4 w_ adz adb adh cz cb ch (sizesP A) wl kb := fun w_ k_ => kb_Y w_ ((ktR 56 w81.heap.size).tr ((ktR 56 w81.heap.size).grow g84) k_)
    replace kb_hc70 : ∀ w_, (ktR 56 w81.heap.size).r w83 w_ → w_.heap[b64]? = some (.cells #[.int .u64 3, .slice adz ((sizesP A).length) cz, .int .u32 (sumA 3 A), .slice adb (8 * wl.length) cb, .slice adh (chunksM (sizesP A)) ch] 56 (0, 0)) := fun w_ k_ => kb_hc70 w_ ((ktR 56 w81.heap.size).tr ((ktR 56 w81.heap.size).grow g84) k_)
    replace kb_hc10 : ∀ w_, (ktR 56 w81.heap.size).r w83 w_ → w_.heap[b7]? = some (.cells #[.slice adp steps.length cp, .int .i64 pa] 29 (0, 0)) := fun w_ k_ => kb_hc10 w_ ((ktR 56 w81.heap.size).tr ((ktR 56 w81.heap.size).grow g84) k_)
    replace kb_RX : ∀ w_, (ktR 56 w81.heap.size).r w83 w_ → RowAt w_ 1 ad5 (xs5).length ((xs5).map (.int .u8)) := fun w_ k_ => kb_RX w_ ((ktR 56 w81.heap.size).tr ((ktR 56 w81.heap.size).grow g84) k_)
    replace kb_HP : ∀ w_, (ktR 56 w81.heap.size).r w83 w_ → PartR 86 3 33 5 w_ w53.heap.size b g h2 3 (sumA 3 A) (sizesP A) (putW (sizesP A) wl kb (q : Int) (xs5)) (putK (sizesP A) kb (q : Int) (xs5).length) := fun w_ k_ => kb_HP w_ ((ktR 56 w81.heap.size).tr ((ktR 56 w81.heap.size).grow g84) k_)
    replace kb_hsz82 : ∀ w_, (ktR 56 w81.heap.size).r w83 w_ → w81.heap.size ≤ w_.heap.size := fun w_ k_ => kb_hsz82 w_ ((ktR 56 w81.heap.size).tr ((ktR 56 w81.heap.size).grow g84) k_)
    replace kb_G : ∀ w_, (ktR 56 w81.heap.size).r w83 w_ → Grow w w_ := fun w_ k_ => kb_G w_ ((ktR 56 w81.heap.size).tr ((ktR 56 w81.heap.size).grow g84) k_)
    have k0_ : (ktR 56 w81.heap.size).r w81 w83 := ((ktR 56 w81.heap.size).grow g84)
    apply zF5 (hm := by rfl)
    ·intro w_ g_; refine og rfl ?_; refine zB4 rfl (kb_hc70 _ g_) (by rfl) ?_; exact ⟨Grow.rfl' _, rfl⟩
    apply zF5 (hm := by rfl)
    ·intro w_ g_; refine og rfl ?_; refine zA7 rfl ?_; exact ⟨Grow.rfl' _, rfl⟩
    apply zF5 (hm := by rfl)
    ·intro w_ g_; refine og rfl ?_; refine zA2 rfl ?_; exact ⟨Grow.rfl' _, rfl⟩
    apply zF5 (hm := by rfl)
    ·intro w_ g_; refine og rfl ?_; refine zD9 (R4.grow (kb_G _ g_)) rfl rfl ?_ ?_; omega; exact ⟨Grow.rfl' _, rfl⟩
    apply zF5 (hm := by rfl)
    ·intro w_ g_; refine og rfl ?_; refine zD7 (v := .int .u8 (xs4.getD j 0)) (m := 0) (R4.grow (kb_G _ g_)) rfl (zE4 0 (by omega)) ?_; exact ⟨Grow.rfl' _, rfl⟩
    apply zF5 (hm := by rfl)
    ·intro w_ g_; refine og rfl ?_; refine zJ5 rfl rfl ?_ ?_ ?_; omega; omega; rw [← hq]; exact ⟨Grow.rfl' _, rfl⟩
    apply zF5 (hm := by rfl)
    ·intro w_ g_; refine og rfl ?_; refine zF8 rfl ?_ ?_; constructor <;> omega; exact ⟨Grow.rfl' _, rfl⟩
    apply zF5 (hm := by rfl)
    ·intro w_ g_; refine og rfl ?_; refine zA7 rfl ?_; exact ⟨Grow.rfl' _, rfl⟩
    refine zS7 (fun w_ v_ => ∃ a1 a2 c1 c2, v_ = .tuple #[.agg #[.int .u64 3, .slice adz (sizesP A).length cz, .int .u32 (sumA 3 A), .slice a1 (8 * (putW (sizesP A) wl kb (q : Int) (xs5)).length) c1, .slice a2 (chunksM (sizesP A)) c2], .bool (putOk (sizesP A) (q : Int) (xs5).length)] ∧ TR 3 5 4 w_ adz a1 a2 cz c1 c2 (sizesP A) (putW (sizesP A) wl kb (q : Int) (xs5)) (putK (sizesP A) kb (q : Int) (xs5).length)) (fun _ _ _ g_ ⟨a1, a2, c1, c2, h1_, h2_⟩ => ⟨a1, a2, c1, c2, h1_, h2_.kt g_ (by decide) (by decide) (by decide)⟩) (by rfl) ?_ ?_
    ·intro w_ g_
     refine og rfl ?_
     refine zF1 rfl (qA2 _ (kb_Y _ g_) (i := q) (by omega) (kb_RX _ g_) (hx5) hc5 hm5) ?_
     rintro v9_ w9_ ⟨a1, a2, c1, c2, rfl, Y_, g9_⟩
     exact ⟨g9_, a1, a2, c1, c2, rfl, Y_⟩
    refine zS7 (fun w_ v_ => ∃ a1 a2 c1 c2, v_ = .tuple #[.agg #[.int .u64 3, .slice adz (sizesP A).length cz, .int .u32 (sumA 3 A), .slice a1 (8 * (putW (sizesP A) wl kb (q : Int) (xs5)).length) c1, .slice a2 (chunksM (sizesP A)) c2], .bool (putOk (sizesP A) (q : Int) (xs5).length)] ∧ TR 3 5 4 w_ adz a1 a2 cz c1 c2 (sizesP A) (putW (sizesP A) wl kb (q : Int) (xs5)) (putK (sizesP A) kb (q : Int) (xs5).length)) (fun _ _ _ g_ ⟨a1, a2, c1, c2, h1_, h2_⟩ => ⟨a1, a2, c1, c2, h1_, h2_.kt g_ (by decide) (by decide) (by decide)⟩) (by rfl) ?_ ?_
    ·intro w_ g_
     intro v8_ hv8_; show OpG _ _ _ _ _ _
     refine og rfl ?_
     obtain ⟨a1, a2, c1, c2, rfl, Y_⟩ := hv8_
     refine zB6 (v := .tuple #[.agg #[.int .u64 3, .slice adz (sizesP A).length cz, .int .u32 (sumA 3 A), .slice a1 (8 * (putW (sizesP A) wl kb (q : Int) (xs5)).length) c1, .slice a2 (chunksM (sizesP A)) c2], .bool (putOk (sizesP A) (q : Int) (xs5).length)]) rfl ?_
     exact ⟨Grow.rfl' _, a1, a2, c1, c2, rfl, Y_⟩
    refine zS7 (fun w_ v_ => ∃ a1 a2 c1 c2, v_ = .agg #[.int .u64 3, .slice adz (sizesP A).length cz, .int .u32 (sumA 3 A), .slice a1 (8 * (putW (sizesP A) wl kb (q : Int) (xs5)).length) c1, .slice a2 (chunksM (sizesP A)) c2] ∧ TR 3 5 4 w_ adz a1 a2 cz c1 c2 (sizesP A) (putW (sizesP A) wl kb (q : Int) (xs5)) (putK (sizesP A) kb (q : Int) (xs5).length)) (fun _ _ _ g_ ⟨a1, a2, c1, c2, h1_, h2_⟩ => ⟨a1, a2, c1, c2, h1_, h2_.kt g_ (by decide) (by decide) (by decide)⟩) (by rfl) ?_ ?_
    ·intro w_ g_
     intro v8_ hv8_; intro v9_ hv9_; show OpG _ _ _ _ _ _
     refine og rfl ?_
     obtain ⟨a1, a2, c1, c2, rfl, Y_⟩ := hv9_
     refine zB2 (v := .agg #[.int .u64 3, .slice adz (sizesP A).length cz, .int .u32 (sumA 3 A), .slice a1 (8 * (putW (sizesP A) wl kb (q : Int) (xs5)).length) c1, .slice a2 (chunksM (sizesP A)) c2]) rfl rfl ?_
     exact ⟨Grow.rfl' _, a1, a2, c1, c2, rfl, Y_⟩
    apply zF5 (hm := by rfl)
    ·intro w_ g_; intro v8_ hv8_; intro v9_ hv9_; show OpG _ _ _ _ _ _; refine og rfl ?_; obtain ⟨a1, a2, c1, c2, rfl, Y_⟩ := hv9_; refine zB2 (v := .bool (putOk (sizesP A) (q : Int) (xs5).length)) rfl rfl ?_; exact ⟨Grow.rfl' _, rfl⟩
    refine zS7 (fun w_ v_ => ∃ b cs, v_ = .pointer (some ⟨b, 0, none⟩) ∧ w81.heap.size ≤ b ∧ cs.size = 5 ∧ w_.heap[b]? = some (.cells cs 56 (0, 0))) (fun _ _ _ g_ ⟨b, cs, h1_, h2_, h3_, h4_⟩ => by obtain ⟨cs2, h5_, h6_⟩ := KtP.new g_ b cs h4_; exact ⟨b, cs2, h1_, h2_, h5_.trans h3_, h6_⟩) (by rfl) ?_ ?_
    ·intro w_ g_
     refine og rfl ?_
     refine zD3 ?_
     intro b_ w2_ hb_ hc_ g2_
     exact ⟨g2_, b_, _, rfl, Nat.le_trans (kb_hsz82 _ g_) hb_, rfl, hc_⟩
    apply qC5 0 (hm := by rfl)
    ·intro w_ g_
     intro v8_ hv8_; intro v9_ hv9_; intro v10_ hv10_; intro v12_ hv12_
     intro s_
     show OpG _ _ _ _ _ _
     refine og rfl ?_
     obtain ⟨a1, a2, c1, c2, rfl, hx_⟩ := hv10_
     obtain ⟨b_, cs_, rfl, hge_, hsz_, hb_⟩ := hv12_
     refine zB1 rfl rfl hb_ (by rfl) hsz_ (by rfl) ?_
     intro w2_ s2_ u_
     exact ⟨KtP.of_upd u_ hge_ hb_ s2_ hsz_.symm, ⟨b_, _, _, _, _, rfl, hge_, s2_, TR.upd hx_ u_ hb_ (by decide) (by decide) (by decide)⟩, rfl⟩
    refine qC6 ?_
    intro w85 g86
    replace k0_ := ((ktR 56 w81.heap.size).tr k0_ g86)
    replace GA := kb_GA _ g86
    clear kb_GA
    replace Y := kb_Y _ g86
    clear kb_Y
    replace hc70 := kb_hc70 _ g86
    clear kb_hc70
    replace hc10 := kb_hc10 _ g86
    clear kb_hc10
    replace RX := kb_RX _ g86
    clear kb_RX
    replace HP := kb_HP _ g86
    clear kb_HP
    replace hsz82 := kb_hsz82 _ g86
    clear kb_hsz82
    replace G := kb_G _ g86
    clear kb_G
    intro v_y hv_y
    intro v_y2 hv_y2
    intro v_y3 hv_y3
    intro v_x82 hv_x82
    rintro ⟨bx82, a1, a2, c1, c2, hbe82, hge82, hc82, hx82⟩
    have hbv82 : v_x82 = .pointer (some ⟨bx82, 0, none⟩) := hbe82
    subst hbv82
    clear hv_x82 hbe82
    have hgx82 := Nat.le_trans hgz82 hge82
    refine stp (zC1 rfl ?_)
    refine zA4 ?_
    refine zA6 (zA1 rfl ?_)
    refine stp (zB4 rfl hc82 (by rfl) ?_)
    refine stn (zB1 rfl rfl hc70 (by rfl) (by rfl) (by rfl) ?_)
    intro w87 hc88 u89
    replace GA := Grow.upd GA u89 gge73
    replace hc10 := u89.heap hc10 ne76
    replace HP := PartR.upd HP u89 hc70 (by decide) (by decide) (by decide) (by decide)
    replace hsz82 := Nat.le_trans hsz82 (Nat.le_of_eq u89.size.symm)
    replace hc82 := u89.heap hc82 (Nat.ne_of_lt (Nat.lt_of_lt_of_le ltf82_hc70 hge82)).symm
    replace hx82 := TR.upd hx82 u89 hc70 (by decide) (by decide) (by decide)
    replace G := G.upd u89 hge74
    clear u89 hc70
    refine zA4 ?_
    refine zA6 ?_
    refine zJ4 19 [[], [], [1, 0], [2, 1, 0], [3, 2, 1, 0], [4, 3, 2, 1], [5, 4, 3, 2], [6, 5, 4, 3, 2, 1, 0], [7, 6, 5, 4, 3, 2, 1, 0], [8, 7, 6, 5, 4, 3, 2, 1, 0], [9, 8, 7, 6, 5, 4, 3, 2, 1, 0], [10, 9, 8, 7, 6, 5, 4, 3, 2, 1, 0], [11, 10, 9, 8, 7, 6, 5, 4, 3, 2, 1], [12, 11, 10, 9, 8, 7, 6, 5, 4, 3, 2], [13, 12, 11, 10, 9, 8, 7, 6, 5, 4, 3], [14, 13, 12, 11, 10, 9, 8, 7, 6, 5, 4, 1, 0], [15, 14, 13, 12, 11, 10, 9, 8, 7, 6, 5, 4, 3, 2, 1, 0], [16, 15, 14, 13, 12, 11, 10, 9, 8, 7, 6, 5, 4, 3, 2, 1, 0], [17, 16, 15, 14, 13, 12, 11, 10, 9, 8, 7, 6, 5, 4, 3, 2, 1, 0]] mixed (by kernel_rfl) (by kernel_rfl) (by kernel_rfl) ?_
    intro w90 g91
    replace GA := GA.tr g91
    replace hc10 := g91.heap hc10
    replace HP := HP.grow g91
    replace hsz82 := Nat.le_trans hsz82 g91.size
    replace hc82 := g91.heap hc82
    replace hx82 := hx82.grow g91
    replace hc88 := g91.heap hc88
    replace G := G.tr g91
    clear g91
    apply zB7
    ·intro w_ g_; refine og rfl ?_; refine zB9 rfl ?_; exact ⟨Grow.rfl' _, rfl⟩
    apply zB7
    ·intro w_ g_; refine og rfl ?_; refine zB9 rfl ?_; exact ⟨Grow.rfl' _, rfl⟩
    apply zB7
    ·intro w_ g_; refine og rfl ?_; refine yN6 rfl rfl ?_; rw [show (!((putOk (sizesP A) (q : Int) (xs5).length) == (putOk (sizesP A) (q : Int) (xs5).length))) = false from by simp]; exact ⟨Grow.rfl' _, rfl⟩
    apply zB7
    ·intro w_ g_; refine og rfl ?_; refine zB6 (v := .bool false) rfl ?_; exact ⟨Grow.rfl' _, rfl⟩
    apply zB7
    ·intro w_ g_; refine og rfl ?_; refine zB6 (v := .pointer (some ⟨b, 0, none⟩)) rfl ?_; exact ⟨Grow.rfl' _, rfl⟩
    apply zB7
    ·intro w_ g_; refine og rfl ?_; refine zB4 rfl (g_.heap hc88) (by rfl) ?_; exact ⟨Grow.rfl' _, rfl⟩
    apply zB7
    ·intro w_ g_; refine og rfl ?_; refine zB4 rfl (g_.heap hc10) (by rfl) ?_; exact ⟨Grow.rfl' _, rfl⟩
    apply zB7
    ·intro w_ g_; refine og rfl ?_; exact zC0 (v := .bool true) rfl (zQ4 _ (HP.grow g_) (hx82.grow g_) (RP.grow (G.tr g_)) hRP hpa) (fun w2_ g2_ => ⟨g2_, rfl⟩)
    apply zB7
    ·intro w_ g_; refine og rfl ?_; refine zL8 rfl rfl ?_; exact ⟨Grow.rfl' _, rfl⟩
    apply zB7
    ·intro w_ g_; refine og rfl ?_; refine zG8 (v := .bool false) rfl rfl rfl ?_; exact ⟨Grow.rfl' _, rfl⟩
    apply zB7
    ·intro w_ g_; refine og rfl ?_; refine zB6 (v := .bool false) rfl ?_; exact ⟨Grow.rfl' _, rfl⟩
    apply zB7
    ·intro w_ g_; refine og rfl ?_; refine zB6 (v := .pointer (some ⟨b, 0, none⟩)) rfl ?_; exact ⟨Grow.rfl' _, rfl⟩
    apply zB7
    ·intro w_ g_; refine og rfl ?_; refine zB4 rfl (g_.heap hc88) (by rfl) ?_; exact ⟨Grow.rfl' _, rfl⟩
    apply zB7
    ·intro w_ g_; refine og rfl ?_; refine zA7 rfl ?_; exact ⟨Grow.rfl' _, rfl⟩
    apply zB7
    ·intro w_ g_; refine og rfl ?_; refine zA2 rfl ?_; exact ⟨Grow.rfl' _, rfl⟩
    refine zK2 (fun w_ v_ => ∃ ad c, v_ = .agg #[.slice ad (pathP xs2).length c, .int .i64 (at_ % 12 - 2)] ∧ RowAt w_ 1 ad (pathP xs2).length ((pathP xs2).map (.int .i64))) (fun _ _ _ g_ ⟨ad, c, h1_, h2_⟩ => ⟨ad, c, h1_, h2_.grow g_⟩) ?_ ?_
    ·intro w_ g_
     refine og rfl ?_
     refine zF1 rfl (qG6 _ (R2.grow (G.tr g_)) rfl hx2 hat0 hat1) ?_
     rintro v9_ w9_ ⟨ad_, c_, rfl, R_, g9_⟩
     exact ⟨g9_, ad_, c_, rfl, R_⟩
    apply zB7
    ·intro w_ g_; intro v15_ hv15_; show OpG _ _ _ _ _ _; refine og rfl ?_; obtain ⟨ad_, c_, rfl, R_⟩ := hv15_; exact zC0 (v := .bool true) rfl (zQ4 _ (HP.grow g_) (hx82.grow g_) R_ hR9 (by simp only [inR]; omega)) (fun w2_ g2_ => ⟨g2_, rfl⟩)
    apply zB7
    ·intro w_ g_; intro v15_ hv15_; show OpG _ _ _ _ _ _; refine og rfl ?_; refine zL8 rfl rfl ?_; exact ⟨Grow.rfl' _, rfl⟩
    apply zB7
    ·intro w_ g_; intro v15_ hv15_; show OpG _ _ _ _ _ _; refine og rfl ?_; refine zG8 (v := .bool false) rfl rfl rfl ?_; exact ⟨Grow.rfl' _, rfl⟩
    refine zI5 ?_
    intro w92 g93
    replace GA := GA.tr g93
    replace hc10 := g93.heap hc10
    replace HP := HP.grow g93
    replace hsz82 := Nat.le_trans hsz82 g93.size
    replace hc82 := g93.heap hc82
    replace hx82 := hx82.grow g93
    replace hc88 := g93.heap hc88
    replace G := G.tr g93
    clear g93
    intro v_p hv_p
    refine zA4 ?_
    refine zI8 rfl ?_
    refine zC3 ?_
    refine zA1 rfl ?_
    refine stp (zA2 rfl ?_)
    refine stp (zD8 rfl rfl ?_ ?_); constructor <;> omega
    refine stp (zA0 rfl ?_)
    refine zA4 ?_
    refine ⟨_, ?_, j + 1, _, _, _, _, _, _, _, rfl, zE6 ⟨rfl, rfl, rfl, rfl, rfl, rfl, rfl, rfl, congrArg (Value.int .i64) (by omega), trivial⟩, by omega, GA, HP, hx82, hc88, hc10, G⟩
    omega
   ·-- false
    replace h220 := of_decide_eq_false h220
    have RX := R9
    have hdis : 0 < (chunkA A q).length → ∀ q_ o_, ad9 = some ⟨q_, o_, none⟩ → q_ ∉ [b, g] := fun h0_ q_ o_ he_ => by obtain ⟨g_, q2_, cs_, he2_, hge_, -, -⟩ := hfr9 h0_; rw [he2_] at he_; simp only [Option.some.injEq, Addr.mk.injEq] at he_; simp only [List.mem_cons, List.not_mem_nil, or_false]; omega
    refine zC3 ?_
    refine zA6 (zA1 rfl ?_)
    refine stp (zB6 (v := .pointer (some ⟨b, 0, none⟩)) rfl ?_)
    refine stp (zA7 rfl ?_)
    refine stp (zA2 rfl ?_)
    refine stp (zD9 (R4.grow G) rfl rfl ?_ ?_); omega
    refine stp (zD7 (v := .int .u8 (xs4.getD j 0)) (m := 0) (R4.grow G) rfl (zE4 0 (by omega)) ?_)
    refine zA3 (og rfl ?_)
    refine zJ5 rfl rfl ?_ ?_ ?_; omega; omega
    rw [← hq]
    refine stp (zF8 rfl ?_ ?_); constructor <;> omega
    refine stp (zA7 rfl ?_)
    refine zA3 (og rfl ?_)
    have hd9 : 0 < (chunkA A q).length → ∀ q_ o_, ad9 = some ⟨q_, o_, none⟩ → q_ ≠ g := fun h0_ q_ o_ he_ hg_ => hdis h0_ q_ o_ he_ (by rw [hg_]; simp)
    refine zF1 rfl (zY8 _ HP (xs := chunkA A q) RX (qG1 A q) hc9 hd9 (i := (q : Int)) (by simp only [inR]; omega)) ?_
    rintro v_ w94 ⟨h2, rfl, HP2, K2, hh2⟩
    have hbg2 := HP.bases
    replace G := G.trK K2 (fun x_ hx_ => by simp only [List.mem_cons, List.not_mem_nil, or_false] at hx_; omega)
    replace GA := GA.trK K2 (fun x_ hx_ => by simp only [List.mem_cons, List.not_mem_nil, or_false] at hx_; omega)
    replace hc70 := K2.heap hc70 (HP.apart hc70 (by decide) (by decide))
    replace hc10 := K2.heap hc10 (HP.apart hc10 (by decide) (by decide))
    replace Y := Y.kp HP K2 (by decide) (by decide) (by decide) (by decide) (by decide) (by decide)
    replace RX := RX.keepF K2 hdis
    clear K2 HP
    have HP := HP2
    clear HP2
    refine stp (zC1 rfl ?_)
    refine zA4 ?_
    have hsz95 : w94.heap.size ≤ w94.heap.size := Nat.le_refl _
    have ltf95_hc70 := zA9 hc70
    have ltf95_hc10 := zA9 hc10
    have hgz95 := G.size
    refine zA6 ?_
    have kb_GA : ∀ w_, (ktR 56 w94.heap.size).r w94 w_ → Grow w46 w_ := fun w_ k_ => GA.tr (KtP.to_grow k_ (Grow.rfl' _))
    have kb_Y : ∀ w_, (ktR 56 w94.heap.size).r w94 w_ → TR 3 5 4 w_ adz adb adh cz cb ch (sizesP A) wl kb := fun w_ k_ => Y.grow (KtP.to_grow k_ (Grow.rfl' _))
    have kb_hc70 : ∀ w_, (ktR 56 w94.heap.size).r w94 w_ → w_.heap[b64]? = some (.cells #[.int .u64 3, .slice adz ((sizesP A).length) cz, .int .u32 (sumA 3 A), .slice adb (8 * wl.length) cb, .slice adh (chunksM (sizesP A)) ch] 56 (0, 0)) := fun w_ k_ => (KtP.to_grow k_ (Grow.rfl' _)).heap hc70
    have kb_hc10 : ∀ w_, (ktR 56 w94.heap.size).r w94 w_ → w_.heap[b7]? = some (.cells #[.slice adp steps.length cp, .int .i64 pa] 29 (0, 0)) := fun w_ k_ => (KtP.to_grow k_ (Grow.rfl' _)).heap hc10
    have kb_RX : ∀ w_, (ktR 56 w94.heap.size).r w94 w_ → RowAt w_ 1 ad9 (chunkA A q).length ((chunkA A q).map (.int .u8)) := fun w_ k_ => RX.grow (KtP.to_grow k_ (Grow.rfl' _))
    have kb_HP : ∀ w_, (ktR 56 w94.heap.size).r w94 w_ → PartR 86 3 33 5 w_ w53.heap.size b g h2 3 (sumA 3 A) (sizesP A) (putW (sizesP A) wl kb (q : Int) (chunkA A q)) (putK (sizesP A) kb (q : Int) (chunkA A q).length) := fun w_ k_ => HP.grow (KtP.to_grow k_ (Grow.rfl' _))
    have kb_hsz95 : ∀ w_, (ktR 56 w94.heap.size).r w94 w_ → w94.heap.size ≤ w_.heap.size := fun w_ k_ => Nat.le_trans hsz95 (KtP.to_grow k_ (Grow.rfl' _)).size
    have kb_G : ∀ w_, (ktR 56 w94.heap.size).r w94 w_ → Grow w w_ := fun w_ k_ => G.tr (KtP.to_grow k_ (Grow.rfl' _))
    refine qL9 14 [[], [], [], [1, 0], [2, 1, 0], [3, 2, 1, 0], [4, 3, 2, 1, 0], [], [7, 6, 5, 4, 3, 2, 1, 0], [8, 7, 6, 5, 4, 3, 2, 1, 0], [9, 8, 7, 6, 5, 4, 3, 2, 1, 0], [10, 9, 8, 7, 6, 5, 4, 3, 2, 1], [], [12, 11, 10, 9, 8, 7, 6, 5, 4, 3, 2, 0]] [13] [31] (grQ (ktR 56 w94.heap.size)) (fun k_ e_ w_ => match k_ with | 0 => True | _ => ∃ (b : Nat) (a1 : Option Addr) (a2 : Option Addr) (c1 : Nat) (c2 : Nat), e_ 31 = .pointer (some ⟨b, 0, none⟩) ∧ w94.heap.size ≤ b ∧ w_.heap[b]? = some (.cells #[.int .u64 3, .slice adz ((sizesP A).length) cz, .int .u32 (sumA 3 A), .slice a1 (8 * (putW (sizesP A) wl kb (q : Int) (chunkA A q)).length) c1, .slice a2 (chunksM (sizesP A)) c2] 56 (0, 0)) ∧ TR 3 5 4 w_ adz a1 a2 cz c1 c2 (sizesP A) (putW (sizesP A) wl kb (q : Int) (chunkA A q)) (putK (sizesP A) kb (q : Int) (chunkA A q).length)) mixed (by kernel_rfl) (by kernel_rfl) (by kernel_rfl) (by kernel_rfl) (by kernel_rfl) (fun k_ _ _ _ g_ h_ => match k_, h_ with | 0, _ => trivial | _ + 1, ⟨b_, a1, a2, c1, c2, h1_, h2_, h3_, h4_⟩ => ⟨b_, a1, a2, c1, c2, h1_, h2_, g_.heap h3_, h4_.grow g_⟩) (fun k_ _ _ _ hu_ h_ => match k_, h_ with | 0, _ => trivial | _ + 1, ⟨b_, a1, a2, c1, c2, h1_, h2_, h3_, h4_⟩ => ⟨b_, a1, a2, c1, c2, (hu_ _ (by simp)).symm.trans h1_, h2_, h3_, h4_⟩) (fun _ _ _ h_ => h_) (fun _ _ => trivial) ?_
    intro w96 g97
    replace kb_GA : ∀ w_, (ktR 56 w94.heap.size).r w96 w_ → Grow w46 w_ := fun w_ k_ => kb_GA w_ ((ktR 56 w94.heap.size).tr ((ktR 56 w94.heap.size).grow g97) k_)
    replace kb_Y : ∀ w_, (ktR 56 w94.heap.size).r w96 w_ → TR 3 5 4 w_ adz adb adh cz cb ch (sizesP A) wl kb := fun w_ k_ => kb_Y w_ ((ktR 56 w94.heap.size).tr ((ktR 56 w94.heap.size).grow g97) k_)
    replace kb_hc70 : ∀ w_, (ktR 56 w94.heap.size).r w96 w_ → w_.heap[b64]? = some (.cells #[.int .u64 3, .slice adz ((sizesP A).length) cz, .int .u32 (sumA 3 A), .slice adb (8 * wl.length) cb, .slice adh (chunksM (sizesP A)) ch] 56 (0, 0)) := fun w_ k_ => kb_hc70 w_ ((ktR 56 w94.heap.size).tr ((ktR 56 w94.heap.size).grow g97) k_)
    replace kb_hc10 : ∀ w_, (ktR 56 w94.heap.size).r w96 w_ → w_.heap[b7]? = some (.cells #[.slice adp steps.length cp, .int .i64 pa] 29 (0, 0)) := fun w_ k_ => kb_hc10 w_ ((ktR 56 w94.heap.size).tr ((ktR 56 w94.heap.size).grow g97) k_)
    replace kb_RX : ∀ w_, (ktR 56 w94.heap.size).r w96 w_ → RowAt w_ 1 ad9 (chunkA A q).length ((chunkA A q).map (.int .u8)) := fun w_ k_ => kb_RX w_ ((ktR 56 w94.heap.size).tr ((ktR 56 w94.heap.size).grow g97) k_)
    replace kb_HP : ∀ w_, (ktR 56 w94.heap.size).r w96 w_ → PartR 86 3 33 5 w_ w53.heap.size b g h2 3 (sumA 3 A) (sizesP A) (putW (sizesP A) wl kb (q : Int) (chunkA A q)) (putK (sizesP A) kb (q : Int) (chunkA A q).length) := fun w_ k_ => kb_HP w_ ((ktR 56 w94.heap.size).tr ((ktR 56 w94.heap.size).grow g97) k_)
    replace kb_hsz95 : ∀ w_, (ktR 56 w94.heap.size).r w96 w_ → w94.heap.size ≤ w_.heap.size := fun w_ k_ => kb_hsz95 w_ ((ktR 56 w94.heap.size).tr ((ktR 56 w94.heap.size).grow g97) k_)
    replace kb_G : ∀ w_, (ktR 56 w94.heap.size).r w96 w_ → Grow w w_ := fun w_ k_ => kb_G w_ ((ktR 56 w94.heap.size).tr ((ktR 56 w94.heap.size).grow g97) k_)
    have k0_ : (ktR 56 w94.heap.size).r w94 w96 := ((ktR 56 w94.heap.size).grow g97)
    apply zF5 (hm := by rfl)
    ·intro w_ g_; refine og rfl ?_; refine zB4 rfl (kb_hc70 _ g_) (by rfl) ?_; exact ⟨Grow.rfl' _, rfl⟩
    apply zF5 (hm := by rfl)
    ·intro w_ g_; refine og rfl ?_; refine zA7 rfl ?_; exact ⟨Grow.rfl' _, rfl⟩
    apply zF5 (hm := by rfl)
    ·intro w_ g_; refine og rfl ?_; refine zA2 rfl ?_; exact ⟨Grow.rfl' _, rfl⟩
    apply zF5 (hm := by rfl)
    ·intro w_ g_; refine og rfl ?_; refine zD9 (R4.grow (kb_G _ g_)) rfl rfl ?_ ?_; omega; exact ⟨Grow.rfl' _, rfl⟩
    apply zF5 (hm := by rfl)
    ·intro w_ g_; refine og rfl ?_; refine zD7 (v := .int .u8 (xs4.getD j 0)) (m := 0) (R4.grow (kb_G _ g_)) rfl (zE4 0 (by omega)) ?_; exact ⟨Grow.rfl' _, rfl⟩
    apply zF5 (hm := by rfl)
    ·intro w_ g_; refine og rfl ?_; refine zJ5 rfl rfl ?_ ?_ ?_; omega; omega; rw [← hq]; exact ⟨Grow.rfl' _, rfl⟩
    apply zF5 (hm := by rfl)
    ·intro w_ g_; refine og rfl ?_; refine zF8 rfl ?_ ?_; constructor <;> omega; exact ⟨Grow.rfl' _, rfl⟩
    apply zF5 (hm := by rfl)
    ·intro w_ g_; refine og rfl ?_; refine zA7 rfl ?_; exact ⟨Grow.rfl' _, rfl⟩
    refine zS7 (fun w_ v_ => ∃ a1 a2 c1 c2, v_ = .tuple #[.agg #[.int .u64 3, .slice adz (sizesP A).length cz, .int .u32 (sumA 3 A), .slice a1 (8 * (putW (sizesP A) wl kb (q : Int) (chunkA A q)).length) c1, .slice a2 (chunksM (sizesP A)) c2], .bool (putOk (sizesP A) (q : Int) (chunkA A q).length)] ∧ TR 3 5 4 w_ adz a1 a2 cz c1 c2 (sizesP A) (putW (sizesP A) wl kb (q : Int) (chunkA A q)) (putK (sizesP A) kb (q : Int) (chunkA A q).length)) (fun _ _ _ g_ ⟨a1, a2, c1, c2, h1_, h2_⟩ => ⟨a1, a2, c1, c2, h1_, h2_.kt g_ (by decide) (by decide) (by decide)⟩) (by rfl) ?_ ?_
    ·intro w_ g_
     refine og rfl ?_
     refine zF1 rfl (qA2 _ (kb_Y _ g_) (i := q) (by omega) (kb_RX _ g_) (qG1 A q) hc9 hcm9) ?_
     rintro v9_ w9_ ⟨a1, a2, c1, c2, rfl, Y_, g9_⟩
     exact ⟨g9_, a1, a2, c1, c2, rfl, Y_⟩
    refine zS7 (fun w_ v_ => ∃ a1 a2 c1 c2, v_ = .tuple #[.agg #[.int .u64 3, .slice adz (sizesP A).length cz, .int .u32 (sumA 3 A), .slice a1 (8 * (putW (sizesP A) wl kb (q : Int) (chunkA A q)).length) c1, .slice a2 (chunksM (sizesP A)) c2], .bool (putOk (sizesP A) (q : Int) (chunkA A q).length)] ∧ TR 3 5 4 w_ adz a1 a2 cz c1 c2 (sizesP A) (putW (sizesP A) wl kb (q : Int) (chunkA A q)) (putK (sizesP A) kb (q : Int) (chunkA A q).length)) (fun _ _ _ g_ ⟨a1, a2, c1, c2, h1_, h2_⟩ => ⟨a1, a2, c1, c2, h1_, h2_.kt g_ (by decide) (by decide) (by decide)⟩) (by rfl) ?_ ?_
    ·intro w_ g_
     intro v8_ hv8_; show OpG _ _ _ _ _ _
     refine og rfl ?_
     obtain ⟨a1, a2, c1, c2, rfl, Y_⟩ := hv8_
     refine zB6 (v := .tuple #[.agg #[.int .u64 3, .slice adz (sizesP A).length cz, .int .u32 (sumA 3 A), .slice a1 (8 * (putW (sizesP A) wl kb (q : Int) (chunkA A q)).length) c1, .slice a2 (chunksM (sizesP A)) c2], .bool (putOk (sizesP A) (q : Int) (chunkA A q).length)]) rfl ?_
     exact ⟨Grow.rfl' _, a1, a2, c1, c2, rfl, Y_⟩
    refine zS7 (fun w_ v_ => ∃ a1 a2 c1 c2, v_ = .agg #[.int .u64 3, .slice adz (sizesP A).length cz, .int .u32 (sumA 3 A), .slice a1 (8 * (putW (sizesP A) wl kb (q : Int) (chunkA A q)).length) c1, .slice a2 (chunksM (sizesP A)) c2] ∧ TR 3 5 4 w_ adz a1 a2 cz c1 c2 (sizesP A) (putW (sizesP A) wl kb (q : Int) (chunkA A q)) (putK (sizesP A) kb (q : Int) (chunkA A q).length)) (fun _ _ _ g_ ⟨a1, a2, c1, c2, h1_, h2_⟩ => ⟨a1, a2, c1, c2, h1_, h2_.kt g_ (by decide) (by decide) (by decide)⟩) (by rfl) ?_ ?_
    ·intro w_ g_
     intro v8_ hv8_; intro v9_ hv9_; show OpG _ _ _ _ _ _
     refine og rfl ?_
     obtain ⟨a1, a2, c1, c2, rfl, Y_⟩ := hv9_
     refine zB2 (v := .agg #[.int .u64 3, .slice adz (sizesP A).length cz, .int .u32 (sumA 3 A), .slice a1 (8 * (putW (sizesP A) wl kb (q : Int) (chunkA A q)).length) c1, .slice a2 (chunksM (sizesP A)) c2]) rfl rfl ?_
     exact ⟨Grow.rfl' _, a1, a2, c1, c2, rfl, Y_⟩
    apply zF5 (hm := by rfl)
    ·intro w_ g_; intro v8_ hv8_; intro v9_ hv9_; show OpG _ _ _ _ _ _; refine og rfl ?_; obtain ⟨a1, a2, c1, c2, rfl, Y_⟩ := hv9_; refine zB2 (v := .bool (putOk (sizesP A) (q : Int) (chunkA A q).length)) rfl rfl ?_; exact ⟨Grow.rfl' _, rfl⟩
    refine zS7 (fun w_ v_ => ∃ b cs, v_ = .pointer (some ⟨b, 0, none⟩) ∧ w94.heap.size ≤ b ∧ cs.size = 5 ∧ w_.heap[b]? = some (.cells cs 56 (0, 0))) (fun _ _ _ g_ ⟨b, cs, h1_, h2_, h3_, h4_⟩ => by obtain ⟨cs2, h5_, h6_⟩ := KtP.new g_ b cs h4_; exact ⟨b, cs2, h1_, h2_, h5_.trans h3_, h6_⟩) (by rfl) ?_ ?_
    ·intro w_ g_
     refine og rfl ?_
     refine zD3 ?_
     intro b_ w2_ hb_ hc_ g2_
     exact ⟨g2_, b_, _, rfl, Nat.le_trans (kb_hsz95 _ g_) hb_, rfl, hc_⟩
    apply qC5 0 (hm := by rfl)
    ·intro w_ g_
     intro v8_ hv8_; intro v9_ hv9_; intro v10_ hv10_; intro v12_ hv12_
     intro s_
     show OpG _ _ _ _ _ _
     refine og rfl ?_
     obtain ⟨a1, a2, c1, c2, rfl, hx_⟩ := hv10_
     obtain ⟨b_, cs_, rfl, hge_, hsz_, hb_⟩ := hv12_
     refine zB1 rfl rfl hb_ (by rfl) hsz_ (by rfl) ?_
     intro w2_ s2_ u_
     exact ⟨KtP.of_upd u_ hge_ hb_ s2_ hsz_.symm, ⟨b_, _, _, _, _, rfl, hge_, s2_, TR.upd hx_ u_ hb_ (by decide) (by decide) (by decide)⟩, rfl⟩
    refine qC6 ?_
    intro w98 g99
    replace k0_ := ((ktR 56 w94.heap.size).tr k0_ g99)
    replace GA := kb_GA _ g99
    clear kb_GA
    replace Y := kb_Y _ g99
    clear kb_Y
    replace hc70 := kb_hc70 _ g99
    clear kb_hc70
    replace hc10 := kb_hc10 _ g99
    clear kb_hc10
    replace RX := kb_RX _ g99
    clear kb_RX
    replace HP := kb_HP _ g99
    clear kb_HP
    replace hsz95 := kb_hsz95 _ g99
    clear kb_hsz95
    replace G := kb_G _ g99
    clear kb_G
    intro v_y hv_y
    intro v_y2 hv_y2
    intro v_y3 hv_y3
    intro v_x95 hv_x95
    rintro ⟨bx95, a1, a2, c1, c2, hbe95, hge95, hc95, hx95⟩
    have hbv95 : v_x95 = .pointer (some ⟨bx95, 0, none⟩) := hbe95
    subst hbv95
    clear hv_x95 hbe95
    have hgx95 := Nat.le_trans hgz95 hge95
    refine stp (zC1 rfl ?_)
    refine zA4 ?_
    refine zA6 (zA1 rfl ?_)
    refine stp (zB4 rfl hc95 (by rfl) ?_)
    refine stn (zB1 rfl rfl hc70 (by rfl) (by rfl) (by rfl) ?_)
    intro w100 hc101 u102
    replace GA := Grow.upd GA u102 gge73
    replace hc10 := u102.heap hc10 ne76
    replace HP := PartR.upd HP u102 hc70 (by decide) (by decide) (by decide) (by decide)
    replace hsz95 := Nat.le_trans hsz95 (Nat.le_of_eq u102.size.symm)
    replace hc95 := u102.heap hc95 (Nat.ne_of_lt (Nat.lt_of_lt_of_le ltf95_hc70 hge95)).symm
    replace hx95 := TR.upd hx95 u102 hc70 (by decide) (by decide) (by decide)
    replace G := G.upd u102 hge74
    clear u102 hc70
    refine zA4 ?_
    refine zA6 ?_
    refine zJ4 19 [[], [], [1, 0], [2, 1, 0], [3, 2, 1, 0], [4, 3, 2, 1], [5, 4, 3, 2], [6, 5, 4, 3, 2, 1, 0], [7, 6, 5, 4, 3, 2, 1, 0], [8, 7, 6, 5, 4, 3, 2, 1, 0], [9, 8, 7, 6, 5, 4, 3, 2, 1, 0], [10, 9, 8, 7, 6, 5, 4, 3, 2, 1, 0], [11, 10, 9, 8, 7, 6, 5, 4, 3, 2, 1], [12, 11, 10, 9, 8, 7, 6, 5, 4, 3, 2], [13, 12, 11, 10, 9, 8, 7, 6, 5, 4, 3], [14, 13, 12, 11, 10, 9, 8, 7, 6, 5, 4, 1, 0], [15, 14, 13, 12, 11, 10, 9, 8, 7, 6, 5, 4, 3, 2, 1, 0], [16, 15, 14, 13, 12, 11, 10, 9, 8, 7, 6, 5, 4, 3, 2, 1, 0], [17, 16, 15, 14, 13, 12, 11, 10, 9, 8, 7, 6, 5, 4, 3, 2, 1, 0]] mixed (by kernel_rfl) (by kernel_rfl) (by kernel_rfl) ?_
    intro w103 g104
    replace GA := GA.tr g104
    replace hc10 := g104.heap hc10
    replace HP := HP.grow g104
    replace hsz95 := Nat.le_trans hsz95 g104.size
    replace hc95 := g104.heap hc95
    replace hx95 := hx95.grow g104
    replace hc101 := g104.heap hc101
    replace G := G.tr g104
    clear g104
    apply zB7
    ·intro w_ g_; refine og rfl ?_; refine zB9 rfl ?_; exact ⟨Grow.rfl' _, rfl⟩
    apply zB7
    ·intro w_ g_; refine og rfl ?_; refine zB9 rfl ?_; exact ⟨Grow.rfl' _, rfl⟩
    apply zB7
    ·intro w_ g_; refine og rfl ?_; refine yN6 rfl rfl ?_; rw [show (!((putOk (sizesP A) (q : Int) (chunkA A q).length) == (putOk (sizesP A) (q : Int) (chunkA A q).length))) = false from by simp]; exact ⟨Grow.rfl' _, rfl⟩
    apply zB7
    ·intro w_ g_; refine og rfl ?_; refine zB6 (v := .bool false) rfl ?_; exact ⟨Grow.rfl' _, rfl⟩
    apply zB7
    ·intro w_ g_; refine og rfl ?_; refine zB6 (v := .pointer (some ⟨b, 0, none⟩)) rfl ?_; exact ⟨Grow.rfl' _, rfl⟩
    apply zB7
    ·intro w_ g_; refine og rfl ?_; refine zB4 rfl (g_.heap hc101) (by rfl) ?_; exact ⟨Grow.rfl' _, rfl⟩
    apply zB7
    ·intro w_ g_; refine og rfl ?_; refine zB4 rfl (g_.heap hc10) (by rfl) ?_; exact ⟨Grow.rfl' _, rfl⟩
    apply zB7
    ·intro w_ g_; refine og rfl ?_; exact zC0 (v := .bool true) rfl (zQ4 _ (HP.grow g_) (hx95.grow g_) (RP.grow (G.tr g_)) hRP hpa) (fun w2_ g2_ => ⟨g2_, rfl⟩)
    apply zB7
    ·intro w_ g_; refine og rfl ?_; refine zL8 rfl rfl ?_; exact ⟨Grow.rfl' _, rfl⟩
    apply zB7
    ·intro w_ g_; refine og rfl ?_; refine zG8 (v := .bool false) rfl rfl rfl ?_; exact ⟨Grow.rfl' _, rfl⟩
    apply zB7
    ·intro w_ g_; refine og rfl ?_; refine zB6 (v := .bool false) rfl ?_; exact ⟨Grow.rfl' _, rfl⟩
    apply zB7
    ·intro w_ g_; refine og rfl ?_; refine zB6 (v := .pointer (some ⟨b, 0, none⟩)) rfl ?_; exact ⟨Grow.rfl' _, rfl⟩
    apply zB7
    ·intro w_ g_; refine og rfl ?_; refine zB4 rfl (g_.heap hc101) (by rfl) ?_; exact ⟨Grow.rfl' _, rfl⟩
    apply zB7
    ·intro w_ g_; refine og rfl ?_; refine zA7 rfl ?_; exact ⟨Grow.rfl' _, rfl⟩
    apply zB7
    ·intro w_ g_; refine og rfl ?_; refine zA2 rfl ?_; exact ⟨Grow.rfl' _, rfl⟩
    refine zK2 (fun w_ v_ => ∃ ad c, v_ = .agg #[.slice ad (pathP xs2).length c, .int .i64 (at_ % 12 - 2)] ∧ RowAt w_ 1 ad (pathP xs2).length ((pathP xs2).map (.int .i64))) (fun _ _ _ g_ ⟨ad, c, h1_, h2_⟩ => ⟨ad, c, h1_, h2_.grow g_⟩) ?_ ?_
    ·intro w_ g_
     refine og rfl ?_
     refine zF1 rfl (qG6 _ (R2.grow (G.tr g_)) rfl hx2 hat0 hat1) ?_
     rintro v9_ w9_ ⟨ad_, c_, rfl, R_, g9_⟩
     exact ⟨g9_, ad_, c_, rfl, R_⟩
    apply zB7
    ·intro w_ g_; intro v15_ hv15_; show OpG _ _ _ _ _ _; refine og rfl ?_; obtain ⟨ad_, c_, rfl, R_⟩ := hv15_; exact zC0 (v := .bool true) rfl (zQ4 _ (HP.grow g_) (hx95.grow g_) R_ hR9 (by simp only [inR]; omega)) (fun w2_ g2_ => ⟨g2_, rfl⟩)
    apply zB7
    ·intro w_ g_; intro v15_ hv15_; show OpG _ _ _ _ _ _; refine og rfl ?_; refine zL8 rfl rfl ?_; exact ⟨Grow.rfl' _, rfl⟩
    apply zB7
    ·intro w_ g_; intro v15_ hv15_; show OpG _ _ _ _ _ _; refine og rfl ?_; refine zG8 (v := .bool false) rfl rfl rfl ?_; exact ⟨Grow.rfl' _, rfl⟩
    refine zI5 ?_
    intro w105 g106
    replace GA := GA.tr g106
    replace hc10 := g106.heap hc10
    replace HP := HP.grow g106
    replace hsz95 := Nat.le_trans hsz95 g106.size
    replace hc95 := g106.heap hc95
    replace hx95 := hx95.grow g106
    replace hc101 := g106.heap hc101
    replace G := G.tr g106
    clear g106
    intro v_p hv_p
    refine zA4 ?_
    refine zI8 rfl ?_
    refine zC3 ?_
    refine zA1 rfl ?_
    refine stp (zA2 rfl ?_)
    refine stp (zD8 rfl rfl ?_ ?_); constructor <;> omega
    refine stp (zA0 rfl ?_)
    refine zA4 ?_
    refine ⟨_, ?_, j + 1, _, _, _, _, _, _, _, rfl, zE6 ⟨rfl, rfl, rfl, rfl, rfl, rfl, rfl, rfl, congrArg (Value.int .i64) (by omega), trivial⟩, by omega, GA, HP, hx95, hc101, hc10, G⟩
    omega
  ·-- false
   replace hlt := of_decide_eq_false hlt
   refine zF6 ?_
   refine zA6 (zA1 rfl ?_)
   refine stp (zB6 (v := .pointer (some ⟨b, 0, none⟩)) rfl ?_)
   refine stp (zB4 rfl hc70 (by rfl) ?_)
   refine stp (zB4 rfl hc10 (by rfl) ?_)
   refine stp (zC0 (v := .bool true) rfl (zQ4 _ HP Y (RP.grow G) hRP hpa) ?_)
   intro w107 g108
   replace GA := GA.tr g108
   replace HP := HP.grow g108
   replace Y := Y.grow g108
   replace hc70 := g108.heap hc70
   replace hc10 := g108.heap hc10
   replace G := G.tr g108
   clear g108
   refine stp (zA8 (v := .bool true) rfl ?_)
   refine zA4 ?_
   refine zC4 ?_
   refine ret1 (zB3 (v := .bool true) rfl) ⟨?_, G⟩
   rfl
end Go.Proofs.YtifhcfhdajkhlaaGreat.K

namespace Go.Proofs.YtifhcfhdajkhlaaGreat.K
open Go Go.RowKit Go.ChangeShapes Go.WideShapes

section
variable {H : Type} {enc : TypeId × Value → H} {P : Program} {w : World}
structure Told (enc : TypeId × Value → H) (P : Program) (w : World) (fuel : Nat) (t : TypeId) (cs : List Value) : Prop where
  h : ∃ d p, DataW.trod enc P w 0 (fun _ => true) true fuel t cs = some (d, p) ∧ ∀ n ∈ d.weights P t, n ≤ reachBytes
theorem yP5 {ts : List TypeId} {ds : List (DataW H)} {j : Nat} {t : TypeId} {d : DataW H} {v : Value} {p : List MemPlace} (h : DataW.Trod enc P w 0 (fun _ => true) true t v d p) (hz : (DataW.weightsEach P ts ds).all (· ≤ reachBytes) = true) (ht : ts[j]? = some t) (hd : ds[j]? = some d) : ∃ fuel, Told enc P w fuel t v.cells.toList := by
  obtain ⟨fuel, hf⟩ := h
  exact ⟨fuel, ⟨d, p, hf, fun n hn => by simpa using List.all_eq_true.1 hz n (DataW.weights_mem_each ht hd n hn)⟩⟩
theorem yG0 {α β : Type} {f : α → Option β} : ∀ {l : List α} {r : List β}, l.mapM f = some r → ∀ (i : Nat) (x : α), l[i]? = some x → ∃ y, f x = some y ∧ r[i]? = some y := by
  intro l r h i x hx
  have h1 := mapM_some_get h i x hx
  have hl := mapM_some_length h
  have hi : i < r.length := by rw [hl]; exact (List.getElem?_eq_some_iff.1 hx).1
  rw [List.getElem?_eq_getElem hi] at h1
  exact ⟨_, h1, List.getElem?_eq_getElem hi⟩
theorem zU2 {e : TypeId} : ∀ {ds : List (DataW H)} {i : Nat} {d : DataW H}, ds[i]? = some d → ∀ n ∈ d.weights P e, n ∈ DataW.weightsAll P e ds
  | [], i, d, h, _, _ => by simp at h
  | x :: ds, 0, d, h, n, hn => by
    simp only [List.getElem?_cons_zero, Option.some.injEq] at h
    subst h
    simp only [DataW.weightsAll, List.mem_append]; exact .inl hn
  | x :: ds, i + 1, d, h, n, hn => by
    simp only [DataW.weightsAll, List.mem_append]; exact .inr (zU2 (by simpa using h) n hn)
theorem qZ9 {t e : TypeId} {sz by_ fuel : Nat} {cs : List Value} (ht : P.underlying t = some (.slice e)) (hc : P.cellsOf e = sz) (hsz : 0 < sz) (hby : P.bytesOf e = by_) (hby1 : 1 ≤ by_) (h : Told enc P w fuel t cs) :
    ∃ f ad n c xs, fuel = f + 1 ∧ cs = [.slice ad n c] ∧ n ≤ c ∧ c ≤ maxLen ∧ RowAt w sz ad n xs ∧ ∀ i, i < n → Told enc P w f e ((xs.drop (i * sz)).take sz) := by
  obtain ⟨d, p, hd, hw⟩ := h
  rcases DataW.trod_slice ht hd with ⟨rfl, hx⟩ | ⟨a, len, cap, elems, rest, n, rfl, rfl, hx, _, hl, hm, hlen, hel, _, _⟩
  · cases fuel with
    | zero => simp [DataW.trod] at hd
    | succ f => exact ⟨f, none, 0, 0, [], rfl, rfl, Nat.le_refl _, Nat.zero_le _, RowAt.empty _ _ _, fun i hi => by omega⟩
  · simp only [Prod.mk.injEq] at hx
    obtain ⟨rfl, _⟩ := hx
    have hwt : ∀ n ∈ DataW.weightsAll P e (elems.map (·.1)), n ≤ reachBytes := fun n hn => hw n (by simp only [DataW.weights, ht, List.mem_cons, List.mem_append]; exact .inr (.inl hn))
    have hlim : len * by_ ≤ reachBytes := by
      have := hw (((elems.map (·.1)).length + (rest.map (·.1)).length) * P.bytesOf e) (by simp only [DataW.weights, ht, List.mem_cons, true_or])
      rw [hby, List.length_map, hlen, List.length_map, Nat.add_mul] at this
      omega
    have hlen2 : len ≤ 140737488355328 := by
      have h1 : len * 1 ≤ len * by_ := Nat.mul_le_mul_left _ hby1
      have h2 : reachBytes ≤ 140737488355328 := by decide
      omega
    -- each element
    have each : ∀ i, i < len → ∃ ys x, w.cells? 0 (a.add (i * sz)) sz = some ys ∧ DataW.trod enc P w 0 (fun _ => true) true n e ys = some x ∧ elems[i]? = some x := by
      intro i hi
      have hh := hel i hi
      have hi2 : i < elems.length := by omega
      rw [List.getElem?_eq_getElem hi2, hc] at hh
      simp only [Option.bind_eq_some_iff] at hh
      obtain ⟨ys, h1, h2⟩ := hh
      exact ⟨ys, _, h1, h2, List.getElem?_eq_getElem hi2⟩
    rcases Nat.eq_zero_or_pos len with h0 | h0
    · subst h0
      exact ⟨n, some a, 0, cap, [], rfl, rfl, hl, hm, RowAt.empty _ _ _, fun i hi => by omega⟩
    · -- the block
      have cell : ∀ i j, i < len → j < sz → ∃ v, w.cell? ((a.add (i * sz)).add j) = some v := by
        intro i j hi hj
        obtain ⟨ys, x, h1, _, _⟩ := each i hi
        unfold World.cells? at h1
        rw [if_pos (Nat.zero_le _)] at h1
        obtain ⟨y, hy, _⟩ := yG0 h1 j j (by simp [hj])
        exact ⟨y, hy⟩
      obtain ⟨blk, off, spot⟩ := a
      obtain ⟨v0, hv0⟩ := cell 0 0 h0 hsz
      have hadd0 : ((⟨blk, off, spot⟩ : Addr).add (0 * sz)).add 0 = ⟨blk, off, spot⟩ := by simp [Addr.add]
      rw [hadd0] at hv0
      unfold World.cell? at hv0
      cases hb : w.heap[blk]? with
      | none => rw [hb] at hv0; cases hv0
      | some o =>
        rw [hb] at hv0
        cases o with
        | cells c T fr =>
          simp only at hv0
          have hspot : spot = none := by
            cases spot with
            | none => rfl
            | some _ => simp at hv0
          subst hspot
          have hcell : ∀ k, k < len * sz → ∃ v, c[off + k]? = some v := by
            intro k hk
            have hdm := Nat.div_add_mod k sz
            have h1 : k / sz < len := (Nat.div_lt_iff_lt_mul hsz).2 hk
            obtain ⟨v, hv⟩ := cell (k / sz) (k % sz) h1 (Nat.mod_lt _ hsz)
            rw [add_lit, add_lit, cell_of_row w blk _ c T fr hb] at hv
            refine ⟨v, ?_⟩
            have : off + k / sz * sz + k % sz = off + k := by rw [Nat.mul_comm]; omega
            rwa [this] at hv
          have hsize : off + len * sz ≤ c.size := by
            have hp : 0 < len * sz := Nat.mul_pos h0 hsz
            obtain ⟨v, hv⟩ := hcell (len * sz - 1) (by omega)
            have := (Array.getElem?_eq_some_iff.1 hv).1
            omega
          refine ⟨n, some ⟨blk, off, none⟩, len, cap, (c.toList.drop off).take (len * sz), rfl, rfl, hl, hm, ⟨by rw [List.length_take, List.length_drop, Array.length_toList]; omega, hlen2, fun _ => ⟨blk, off, c, T, fr, rfl, hb, rfl⟩⟩, fun i hi => ?_⟩
          obtain ⟨ys, x, h1, h2, h3⟩ := each i hi
          have hys : ys = (((c.toList.drop off).take (len * sz)).drop (i * sz)).take sz := by
            unfold World.cells? at h1
            rw [if_pos (Nat.zero_le _)] at h1
            have hl2 := mapM_some_length h1
            simp only [List.length_range] at hl2
            have hle : (i + 1) * sz ≤ len * sz := Nat.mul_le_mul_right _ hi
            rw [Nat.add_mul, Nat.one_mul] at hle
            apply List.ext_getElem?
            intro j
            by_cases hj : j < sz
            · obtain ⟨y, hy, hy2⟩ := yG0 h1 j j (by simp [hj])
              rw [add_lit, add_lit, cell_of_row w blk _ c T fr hb] at hy
              rw [hy2, List.getElem?_take, if_pos hj, List.getElem?_drop, List.getElem?_take, if_pos (by omega), List.getElem?_drop, Array.getElem?_toList, ← Nat.add_assoc, hy]
            · rw [List.getElem?_eq_none (by omega), List.getElem?_eq_none (by rw [List.length_take]; omega)]
          rw [← hys]
          exact ⟨⟨x.1, x.2, h2, fun m hm_ => hwt m (zU2 (i := i) (by rw [List.getElem?_map, h3]; rfl) m hm_)⟩⟩
        | _ => cases hv0
theorem qB0 {t : TypeId} {k : IntKind} {fuel : Nat} {cs : List Value} (ht : P.underlying t = some (.int k)) (h : Told enc P w fuel t cs) : ∃ n, cs = [.int k n] ∧ inR k n := by
  obtain ⟨d, p, hd, _⟩ := h
  obtain ⟨n, h1, _, hw⟩ := DataW.trod_int ht hd
  refine ⟨n, h1, ?_⟩
  cases k <;> simpa [Lit.wf, IntKind.min, IntKind.max, IntKind.bits, IntKind.signed, inR] using hw
theorem zX2 {t ft : TypeId} {f off fuel : Nat} {cs : List Value} (hf : fldS P t f = some off) (hft : ftS P t f = some ft) (h : Told enc P w fuel t cs) : ∃ g, fuel = g + 1 ∧ cs.length = P.cellsOf t ∧ Told enc P w g ft ((cs.drop off).take (P.cellsOf ft)) := by
  obtain ⟨d, p, hd, hw⟩ := h
  obtain ⟨fs, fl, hu, hfl, ho⟩ := yA6 hf
  unfold ftS at hft
  rw [hu] at hft
  simp only [hfl, Option.map_some, Option.some.injEq] at hft
  subst hft; subst ho
  obtain ⟨xs, n, rfl, hx, hlen, hxl, hg⟩ := DataW.trod_struct hu hd
  refine ⟨n, rfl, hlen, ?_⟩
  have hi : f < xs.length := by rw [hxl]; exact (Array.getElem?_eq_some_iff.1 hfl).1
  have hh := hg f fl hfl
  rw [List.getElem?_eq_getElem hi] at hh
  simp only [Prod.mk.injEq] at hx
  obtain ⟨rfl, _⟩ := hx
  refine ⟨⟨_, _, hh, fun m hm => hw m ?_⟩⟩
  simp only [DataW.weights, hu]
  refine DataW.weights_mem_each (j := f) (t := fl.type) (d := xs[f].1) ?_ ?_ m hm
  · rw [List.getElem?_map]
    have := hfl
    rw [← Array.getElem?_toList] at this
    rw [this]; rfl
  · rw [List.getElem?_map, List.getElem?_eq_getElem hi]; rfl
theorem yN3 {α : Type} {sz n : Nat} {xs : List Value} {f : α → Value} (hl : xs.length = n) (h : ∀ i, i < n → ∃ a, (xs.drop (i * 1)).take 1 = [f a]) : ∃ l : List α, l.length = n ∧ xs = l.map f := by
  induction xs generalizing n with
  | nil => exact ⟨[], by simpa using hl, rfl⟩
  | cons x xs ih =>
    obtain ⟨a, ha⟩ := h 0 (by simp at hl; omega)
    simp at ha
    obtain ⟨l, h1, h2⟩ := ih (n := n - 1) (by simp at hl; omega) fun i hi => by
      obtain ⟨b, hb⟩ := h (i + 1) (by omega)
      exact ⟨b, by simpa using hb⟩
    exact ⟨a :: l, by simp at hl ⊢; omega, by simp [ha, h2]⟩
theorem qP1 {t e : TypeId} {k : IntKind} {fuel by_ : Nat} {cs : List Value} (ht : P.underlying t = some (.slice e)) (he : P.underlying e = some (.int k)) (hc : P.cellsOf e = 1) (hby : P.bytesOf e = by_) (hby1 : 1 ≤ by_) (h : Told enc P w fuel t cs) :
    ∃ ad n c, ∃ zs : List Int, cs = [.slice ad n c] ∧ n = zs.length ∧ n ≤ c ∧ c ≤ maxLen ∧ RowAt w 1 ad n (zs.map (.int k)) ∧ ∀ z ∈ zs, inR k z := by
  obtain ⟨f, ad, n, c, xs, rfl, rfl, h1, h2, R, hel⟩ := qZ9 ht hc (by omega) hby hby1 h
  obtain ⟨l, hl, rfl⟩ := yN3 (sz := 1) (f := fun a : { z : Int // inR k z } => Value.int k a.1) (by rw [R.len, Nat.mul_one]) fun i hi => by
    obtain ⟨z, hz, hr⟩ := qB0 he (hel i hi)
    exact ⟨⟨z, hr⟩, hz⟩
  refine ⟨ad, n, c, l.map (·.1), rfl, by simp [hl], h1, h2, by rw [List.map_map]; exact R, fun z hz => ?_⟩
  obtain ⟨a, _, rfl⟩ := List.mem_map.1 hz
  exact a.2
theorem yN4 {t e : TypeId} {r : Reach} {b0 : Nat} {v : Value} (ht : P.underlying t = some (.slice e)) (hv : Value.okWide P w r b0 t v) {ad : Option Addr} {n c : Nat} (h : v.cells.toList = [.slice ad n c]) : v = .slice ad n c := by
  unfold Value.okWide at hv
  rw [ht] at hv
  unfold Cell.okWide at hv
  rw [ht] at hv
  cases v <;> first | (simp only [Cell.ok, ht] at hv; done) | (simp [Value.cells] at h; try (obtain ⟨rfl, rfl, rfl⟩ := h); try rfl) | skip
theorem yO7 {t : TypeId} {r : Reach} {b0 : Nat} {v : Value} {fs : Array Field} (ht : P.underlying t = some (.struct fs)) (hv : Value.okWide P w r b0 t v) : v = .agg v.cells := by
  unfold Value.okWide at hv
  rw [ht] at hv
  obtain ⟨cs, rfl, _⟩ := hv
  rfl
end
end Go.Proofs.YtifhcfhdajkhlaaGreat.K

namespace Go.Proofs.YtifhcfhdajkhlaaGreat.K
open Go Go.RowKit Go.ChangeShapes Go.WideShapes
structure PathT (P : Program) (TP TS TI : TypeId) : Prop where
  f0 : fldS P TP 0 = some 0
  f1 : fldS P TP 1 = some 1
  t0 : ftS P TP 0 = some TS
  t1 : ftS P TP 1 = some TI
  uS : P.underlying TS = some (.slice TI)
  uI : P.underlying TI = some (.int .i64)
  cP : P.cellsOf TP = 2
  cS : P.cellsOf TS = 1
  cI : P.cellsOf TI = 1
  bI : P.bytesOf TI = 8
section
variable {H : Type} {enc : TypeId × Value → H} {P : Program} {w : World} {TP TS TI : TypeId}
theorem yG1 {c : List Value} {x0 x1 : Value} (h : c.length = 2) (h0 : (c.drop 0).take 1 = [x0]) (h1 : (c.drop 1).take 1 = [x1]) : c = [x0, x1] := by
  match c, h with
  | [y0, y1], _ => simp at h0 h1; simp [*]
theorem yO8 (K : PathT P TP TS TI) {fuel : Nat} {cs : List Value} (h : Told enc P w fuel TP cs) :
    ∃ ad c, ∃ zs : List Int, ∃ a : Int, cs = [.slice ad zs.length c, .int .i64 a] ∧ zs.length ≤ c ∧ c ≤ maxLen ∧ RowAt w 1 ad zs.length (zs.map (.int .i64)) ∧ (∀ z ∈ zs, inR .i64 z) ∧ inR .i64 a := by
  obtain ⟨g, rfl, hl, q0⟩ := zX2 K.f0 K.t0 h
  obtain ⟨g1, hg1, _, q1⟩ := zX2 K.f1 K.t1 h
  rw [K.cS] at q0
  rw [K.cI] at q1
  rw [K.cP] at hl
  obtain ⟨ad, n, c, zs, e0, rfl, hc, hm, R, hz⟩ := qP1 K.uS K.uI K.cI K.bI (by omega) q0
  obtain ⟨a, e1, ha⟩ := qB0 K.uI q1
  exact ⟨ad, c, zs, a, yG1 hl e0 e1, hc, hm, R, hz, ha⟩
end
end Go.Proofs.YtifhcfhdajkhlaaGreat.K

namespace Go.Proofs.YtifhcfhdajkhlaaGreat.K
open Go Go.RowKit Go.ChangeShapes Go.WideShapes
structure ManiT (P : Program) (TM TU TS TI TV : TypeId) : Prop where
  f0 : fldS P TM 0 = some 0
  f1 : fldS P TM 1 = some 1
  f2 : fldS P TM 2 = some 2
  t0 : ftS P TM 0 = some TU
  t1 : ftS P TM 1 = some TS
  t2 : ftS P TM 2 = some TV
  uU : P.underlying TU = some (.int .u64)
  uS : P.underlying TS = some (.slice TI)
  uI : P.underlying TI = some (.int .i64)
  uV : P.underlying TV = some (.int .u32)
  cM : P.cellsOf TM = 3
  cU : P.cellsOf TU = 1
  cS : P.cellsOf TS = 1
  cI : P.cellsOf TI = 1
  cV : P.cellsOf TV = 1
  bI : P.bytesOf TI = 8
section
variable {H : Type} {enc : TypeId × Value → H} {P : Program} {w : World} {TM TU TS TI TV : TypeId}
theorem qS6 {c : List Value} {x0 x1 x2 : Value} (h : c.length = 3) (h0 : (c.drop 0).take 1 = [x0]) (h1 : (c.drop 1).take 1 = [x1]) (h2 : (c.drop 2).take 1 = [x2]) : c = [x0, x1, x2] := by
  match c, h with
  | [y0, y1, y2], _ => simp at h0 h1 h2; simp [*]
theorem yO9 (K : ManiT P TM TU TS TI TV) {fuel : Nat} {cs : List Value} (h : Told enc P w fuel TM cs) :
    ∃ ses : Int, ∃ ad c, ∃ zs : List Int, ∃ s : Int, cs = [.int .u64 ses, .slice ad zs.length c, .int .u32 s] ∧ zs.length ≤ c ∧ c ≤ maxLen ∧ RowAt w 1 ad zs.length (zs.map (.int .i64)) ∧ (∀ z ∈ zs, inR .i64 z) := by
  obtain ⟨g, rfl, hl, q0⟩ := zX2 K.f0 K.t0 h
  obtain ⟨g1, hg1, _, q1⟩ := zX2 K.f1 K.t1 h
  obtain ⟨g2, hg2, _, q2⟩ := zX2 K.f2 K.t2 h
  rw [K.cU] at q0
  rw [K.cS] at q1
  rw [K.cV] at q2
  rw [K.cM] at hl
  obtain ⟨ses, e0, _⟩ := qB0 K.uU q0
  obtain ⟨ad, n, c, zs, e1, rfl, hc, hm, R, hz⟩ := qP1 K.uS K.uI K.cI K.bI (by omega) q1
  obtain ⟨s, e2, _⟩ := qB0 K.uV q2
  exact ⟨ses, ad, c, zs, s, qS6 hl e0 e1 e2, hc, hm, R, hz⟩
end
end Go.Proofs.YtifhcfhdajkhlaaGreat.K

