/- Laid together: RR, MA, K10, R16, BB, BC. Each part is plain law, a rule, or a walk of the functions that its names tell. -/
import Derived.Test.YtifhcfhdajkhlaaGreatX3
set_option linter.unusedVariables false
set_option linter.unusedSimpArgs false
namespace Go.Proofs.YtifhcfhdajkhlaaGreat.K
open Go Go.RowKit Go.Proofs
attribute [local irreducible] Run1 OpG WL W AO Gives
set_option maxRecDepth 100000 in
theorem zZ6 (w : World) {u : Value} {A : List (List Int)} (hA : ArenaR w u A) (hn : A.length ≤ 8796093022208) : Calls Tryz.prog 39 #[u] w (Ret fun v w' => ∃ ad c, v = .slice ad A.length c ∧ RowAt w' 1 ad A.length ((sizesP A).map (.int .i64)) ∧ Grow w w') := by
 obtain ⟨ada, ca, segs, sa, sc, rfl, hca, hca2, RA, hsf, hrf⟩ := hA.fn
 have G := Grow.rfl' w
 refine zE3 Tryz.func39 Tryz.ntmps39 Tryz.results39 rfl rfl ?_
 refine zA6 (zA1 rfl ?_)
 refine stp (zB0 rfl ?_)
 refine zA4 ?_
 refine zA6 (zA1 rfl ?_)
 refine stp (zB0 rfl ?_)
 refine zA4 ?_
 refine zA6 ?_
 refine zA6 (zA1 rfl ?_)
 refine stp (zA0 rfl ?_)
 refine zA4 ?_
 refine zC6 ?_
 refine zG6 (fun m_ e_ w_ => ∃ (k : Nat) (ad3 : Option Addr) (n3 : Nat) (c3 : Nat), m_ = A.length - k ∧ Fr [(0, .slice ada A.length ca), (2, .slice none 0 0), (3, .slice ad3 n3 c3), (4, .int .i64 (k : Int))] e_ ∧ (k ≤ A.length) ∧ (w_.ownsRow w.heap.size 3 1 (.slice ad3 n3 c3) k ((sizesP (A.take k)).map (.int .i64))) ∧ Grow w w_) _ ⟨0, none, 0, 0, rfl, zE6 ⟨rfl, rfl, rfl, rfl, trivial⟩, by omega, World.ownsRow_nil _ _ _ _, G⟩ ?_
 clear G
 rintro m_ e_ w1 ⟨k, ad3, n3, c3, rfl, ⟨e2, rfl⟩, hk, own, G⟩
 refine zA6 ?_
 refine zA6 (zA1 rfl ?_)
 refine stp (zA2 rfl ?_)
 refine stp (zA7 rfl ?_)
 refine stp (zE8 rfl rfl rfl ?_)
 refine stp (zF9 rfl rfl ?_)
 refine zA4 ?_
 refine zB8 (b := (decide ((k : Int) < (A.length : Int)))) rfl (fun hlt => ?_) (fun hlt => ?_)
 ·-- true
  replace hlt := of_decide_eq_true hlt
  have hi : k < A.length := by omega
  have hlk := (hrf k hi).2.2.lim
  refine zC3 ?_
  refine zA6 ?_
  refine zC6 ?_
  refine zA1 rfl ?_
  refine stp (zA7 rfl ?_)
  refine stp (zA7 rfl ?_)
  refine stp (zA2 rfl ?_)
  refine stp (zD9 (RA.grow G) rfl rfl ?_ ?_); omega
  refine stp (zD7 (v := .slice (sa k) (len2 A k) (sc k)) (m := 0) (RA.grow G) rfl (by rw [Nat.mul_one]; exact hsf _ (by omega)) ?_)
  refine stp (zE8 rfl rfl rfl ?_)
  refine stp (zE5 (cs := #[.int .i64 ((len2 A k) : Int)]) (el := 3) (fun w => by kernel_rfl) ?_)
  intro bs3 w4 hb5 hc6 g7
  have hge8 := Nat.le_trans G.size hb5
  replace own := zC8 own g7
  replace G := G.tr g7
  clear g7
  refine stp (zG4 rfl rfl rfl rfl own (Row.of_block (n := 1) hc6 rfl rfl (by omega)) (fun q_ hq_ => by simp at hq_; subst hq_; rfl) (by simp only [maxLen]; omega) (by omega) G.size ?_)
  intro v9 w10 own6 gr6
  replace G := G.grown gr6 (zI2 own)
  clear own gr6
  obtain ⟨ad4, n4, c4, rfl⟩ := zF3 own6
  refine stp (zB0 rfl ?_)
  refine zA4 ?_
  refine zA1 rfl ?_
  refine stp (zA2 rfl ?_)
  refine stp (zD8 rfl rfl ?_ ?_); constructor <;> omega
  refine stp (zA0 rfl ?_)
  refine zA4 ?_
  refine ⟨_, ?_, k + 1, ad4, n4, c4, rfl, zE6 ⟨rfl, rfl, rfl, congrArg (Value.int .i64) (by omega), trivial⟩, by omega, (by rw [qD1 hi, List.map_append]; exact own6), G⟩
  omega
 ·-- false
  replace hlt := of_decide_eq_false hlt
  have hk2 : k = A.length := by omega
  subst hk2
  rw [List.take_length] at own
  obtain ⟨ad9, c9, hs9, -, -, R9⟩ := zE2 own (by omega)
  simp only [Value.slice.injEq] at hs9
  obtain ⟨rfl, rfl, rfl⟩ := hs9
  refine zF6 ?_
  refine zA6 (zA1 rfl ?_)
  refine stp (zA7 rfl ?_)
  refine stp (zB0 rfl ?_)
  refine zA4 ?_
  refine zC4 ?_
  refine ret1 (zB3 (v := .slice ad3 A.length c3) rfl) ⟨_, _, rfl, R9, G⟩

set_option maxRecDepth 100000 in
theorem zQ9 (w : World) {ad : Option Addr} {c : Nat} {sz : List Int} {seg a n : Int} (R : RowAt w 1 ad sz.length (sz.map (.int .i64))) (hs : ∀ i, 0 ≤ sz.getD i 0 ∧ sz.getD i 0 ≤ 140737488355328) : Gives Tryz.prog 109 #[.slice ad sz.length c, .int .i64 seg, .int .i64 a, .int .i64 n] w (.bool (withinP sz seg a n)) := by
 have ll := R.lim
 have h9 := hs seg.toNat
 have G := Grow.rfl' w
 refine zC7 Tryz.func109 Tryz.ntmps109 Tryz.results109 rfl rfl ?_
 refine zA6 (zA1 rfl ?_)
 refine stp (zA8 (v := .bool false) rfl ?_)
 refine zA4 ?_
 refine zA6 (zA1 rfl ?_)
 refine stp (zA2 rfl ?_)
 refine stp (zL7 rfl rfl ?_)
 refine stp (zB9 rfl ?_)
 refine zA3 (zC2 (s := .bool (decide (seg ≥ 0))) (b := true) (v := .int .i64 seg) rfl (zF2 _) (fun hc1 => ?_) ?_)
 ·
  have hc1_ := of_decide_eq_true hc1
  refine zA2 rfl ?_
  exact ⟨rfl, rfl⟩
 refine zA3 (zC2 (s := .bool (decide (seg ≥ 0))) (b := true) (v := .slice ad sz.length c) rfl (zF2 _) (fun hc2 => ?_) ?_)
 ·
  have hc2_ := of_decide_eq_true hc2
  refine zA7 rfl ?_
  exact ⟨rfl, rfl⟩
 refine zA3 (zC2 (s := .bool (decide (seg ≥ 0))) (b := true) (v := .int .i64 (sz.length : Int)) rfl (zF2 _) (fun hc3 => ?_) ?_)
 ·
  have hc3_ := of_decide_eq_true hc3
  refine zE8 rfl rfl (gvt hc3) ?_
  exact ⟨rfl, rfl⟩
 refine zA3 (zC2 (s := .bool (decide (seg ≥ 0))) (b := true) (v := .bool (decide (seg < (sz.length : Int)))) rfl (zF2 _) (fun hc4 => ?_) ?_)
 ·
  have hc4_ := of_decide_eq_true hc4
  refine zF9 (gvt hc4) (gvt hc4) ?_
  exact ⟨rfl, rfl⟩
 refine stp (zJ2 rfl rfl rfl ?_)
 refine stp (zB9 rfl ?_)
 refine zA3 (zC2 (s := .bool ((decide (seg ≥ 0)) && (decide (seg < (sz.length : Int))))) (b := true) (v := .int .i64 a) rfl (zF2 _) (fun hc5 => ?_) ?_)
 ·
  obtain ⟨hc5a, hc5b⟩ := and_t hc5
  have hc5a_ := of_decide_eq_true hc5a
  have hc5b_ := of_decide_eq_true hc5b
  refine zA2 rfl ?_
  exact ⟨rfl, rfl⟩
 refine zA3 (zC2 (s := .bool ((decide (seg ≥ 0)) && (decide (seg < (sz.length : Int))))) (b := true) (v := .bool (decide (a ≥ 0))) rfl (zF2 _) (fun hc6 => ?_) ?_)
 ·
  obtain ⟨hc6a, hc6b⟩ := and_t hc6
  have hc6a_ := of_decide_eq_true hc6a
  have hc6b_ := of_decide_eq_true hc6b
  refine zL7 (gvt hc6) rfl ?_
  exact ⟨rfl, rfl⟩
 refine stp (zJ2 rfl rfl rfl ?_)
 refine stp (zB9 rfl ?_)
 refine zA3 (zC2 (s := .bool (((decide (seg ≥ 0)) && (decide (seg < (sz.length : Int)))) && (decide (a ≥ 0)))) (b := true) (v := .int .i64 n) rfl (zF2 _) (fun hc7 => ?_) ?_)
 ·
  obtain ⟨hc7a, hc7b⟩ := and_t hc7
  obtain ⟨hc7aa, hc7ab⟩ := and_t hc7a
  have hc7aa_ := of_decide_eq_true hc7aa
  have hc7ab_ := of_decide_eq_true hc7ab
  have hc7b_ := of_decide_eq_true hc7b
  refine zA2 rfl ?_
  exact ⟨rfl, rfl⟩
 refine zA3 (zC2 (s := .bool (((decide (seg ≥ 0)) && (decide (seg < (sz.length : Int)))) && (decide (a ≥ 0)))) (b := true) (v := .bool (decide (n ≥ 0))) rfl (zF2 _) (fun hc8 => ?_) ?_)
 ·
  obtain ⟨hc8a, hc8b⟩ := and_t hc8
  obtain ⟨hc8aa, hc8ab⟩ := and_t hc8a
  have hc8aa_ := of_decide_eq_true hc8aa
  have hc8ab_ := of_decide_eq_true hc8ab
  have hc8b_ := of_decide_eq_true hc8b
  refine zL7 (gvt hc8) rfl ?_
  exact ⟨rfl, rfl⟩
 refine stp (zJ2 rfl rfl rfl ?_)
 refine stp (zB9 rfl ?_)
 refine zA3 (zC2 (s := .bool ((((decide (seg ≥ 0)) && (decide (seg < (sz.length : Int)))) && (decide (a ≥ 0))) && (decide (n ≥ 0)))) (b := true) (v := .int .i64 a) rfl (zF2 _) (fun hc9 => ?_) ?_)
 ·
  obtain ⟨hc9a, hc9b⟩ := and_t hc9
  obtain ⟨hc9aa, hc9ab⟩ := and_t hc9a
  obtain ⟨hc9aaa, hc9aab⟩ := and_t hc9aa
  have hc9aaa_ := of_decide_eq_true hc9aaa
  have hc9aab_ := of_decide_eq_true hc9aab
  have hc9ab_ := of_decide_eq_true hc9ab
  have hc9b_ := of_decide_eq_true hc9b
  refine zA2 rfl ?_
  exact ⟨rfl, rfl⟩
 refine zA3 (zC2 (s := .bool ((((decide (seg ≥ 0)) && (decide (seg < (sz.length : Int)))) && (decide (a ≥ 0))) && (decide (n ≥ 0)))) (b := true) (v := .slice ad sz.length c) rfl (zF2 _) (fun hc10 => ?_) ?_)
 ·
  obtain ⟨hc10a, hc10b⟩ := and_t hc10
  obtain ⟨hc10aa, hc10ab⟩ := and_t hc10a
  obtain ⟨hc10aaa, hc10aab⟩ := and_t hc10aa
  have hc10aaa_ := of_decide_eq_true hc10aaa
  have hc10aab_ := of_decide_eq_true hc10aab
  have hc10ab_ := of_decide_eq_true hc10ab
  have hc10b_ := of_decide_eq_true hc10b
  refine zA7 rfl ?_
  exact ⟨rfl, rfl⟩
 refine zA3 (zC2 (s := .bool ((((decide (seg ≥ 0)) && (decide (seg < (sz.length : Int)))) && (decide (a ≥ 0))) && (decide (n ≥ 0)))) (b := true) (v := .int .i64 seg) rfl (zF2 _) (fun hc11 => ?_) ?_)
 ·
  obtain ⟨hc11a, hc11b⟩ := and_t hc11
  obtain ⟨hc11aa, hc11ab⟩ := and_t hc11a
  obtain ⟨hc11aaa, hc11aab⟩ := and_t hc11aa
  have hc11aaa_ := of_decide_eq_true hc11aaa
  have hc11aab_ := of_decide_eq_true hc11aab
  have hc11ab_ := of_decide_eq_true hc11ab
  have hc11b_ := of_decide_eq_true hc11b
  refine zA2 rfl ?_
  exact ⟨rfl, rfl⟩
 refine zA3 (zC2 (s := .bool ((((decide (seg ≥ 0)) && (decide (seg < (sz.length : Int)))) && (decide (a ≥ 0))) && (decide (n ≥ 0)))) (b := true) (v := .pointer (some (eadr ad ((seg).toNat * 1)))) rfl (zF2 _) (fun hc12 => ?_) ?_)
 ·
  obtain ⟨hc12a, hc12b⟩ := and_t hc12
  obtain ⟨hc12aa, hc12ab⟩ := and_t hc12a
  obtain ⟨hc12aaa, hc12aab⟩ := and_t hc12aa
  have hc12aaa_ := of_decide_eq_true hc12aaa
  have hc12aab_ := of_decide_eq_true hc12aab
  have hc12ab_ := of_decide_eq_true hc12ab
  have hc12b_ := of_decide_eq_true hc12b
  refine zI4 (R.grow G) (gvt hc12) (gvt hc12) ?_ ?_ ?_; omega; omega
  exact ⟨rfl, rfl⟩
 refine zA3 (zC2 (s := .bool ((((decide (seg ≥ 0)) && (decide (seg < (sz.length : Int)))) && (decide (a ≥ 0))) && (decide (n ≥ 0)))) (b := true) (v := .int .i64 (sz.getD seg.toNat 0)) rfl (zF2 _) (fun hc13 => ?_) ?_)
 ·
  obtain ⟨hc13a, hc13b⟩ := and_t hc13
  obtain ⟨hc13aa, hc13ab⟩ := and_t hc13a
  obtain ⟨hc13aaa, hc13aab⟩ := and_t hc13aa
  have hc13aaa_ := of_decide_eq_true hc13aaa
  have hc13aab_ := of_decide_eq_true hc13aab
  have hc13ab_ := of_decide_eq_true hc13ab
  have hc13b_ := of_decide_eq_true hc13b
  refine zD7 (v := .int .i64 (sz.getD seg.toNat 0)) (m := 0) (R.grow G) (gvt hc13) (by rw [Nat.mul_one]; exact zX6 0 (by omega)) ?_
  exact ⟨rfl, rfl⟩
 refine zA3 (zC2 (s := .bool ((((decide (seg ≥ 0)) && (decide (seg < (sz.length : Int)))) && (decide (a ≥ 0))) && (decide (n ≥ 0)))) (b := true) (v := .bool (decide (a ≤ (sz.getD seg.toNat 0)))) rfl (zF2 _) (fun hc14 => ?_) ?_)
 ·
  obtain ⟨hc14a, hc14b⟩ := and_t hc14
  obtain ⟨hc14aa, hc14ab⟩ := and_t hc14a
  obtain ⟨hc14aaa, hc14aab⟩ := and_t hc14aa
  have hc14aaa_ := of_decide_eq_true hc14aaa
  have hc14aab_ := of_decide_eq_true hc14aab
  have hc14ab_ := of_decide_eq_true hc14ab
  have hc14b_ := of_decide_eq_true hc14b
  refine qG9 (gvt hc14) (gvt hc14) ?_
  exact ⟨rfl, rfl⟩
 refine stp (zJ2 rfl rfl rfl ?_)
 refine stp (zB9 rfl ?_)
 refine zA3 (zC2 (s := .bool (((((decide (seg ≥ 0)) && (decide (seg < (sz.length : Int)))) && (decide (a ≥ 0))) && (decide (n ≥ 0))) && (decide (a ≤ (sz.getD seg.toNat 0))))) (b := true) (v := .int .i64 n) rfl (zF2 _) (fun hc15 => ?_) ?_)
 ·
  obtain ⟨hc15a, hc15b⟩ := and_t hc15
  obtain ⟨hc15aa, hc15ab⟩ := and_t hc15a
  obtain ⟨hc15aaa, hc15aab⟩ := and_t hc15aa
  obtain ⟨hc15aaaa, hc15aaab⟩ := and_t hc15aaa
  have hc15aaaa_ := of_decide_eq_true hc15aaaa
  have hc15aaab_ := of_decide_eq_true hc15aaab
  have hc15aab_ := of_decide_eq_true hc15aab
  have hc15ab_ := of_decide_eq_true hc15ab
  have hc15b_ := of_decide_eq_true hc15b
  refine zA2 rfl ?_
  exact ⟨rfl, rfl⟩
 refine zA3 (zC2 (s := .bool (((((decide (seg ≥ 0)) && (decide (seg < (sz.length : Int)))) && (decide (a ≥ 0))) && (decide (n ≥ 0))) && (decide (a ≤ (sz.getD seg.toNat 0))))) (b := true) (v := .slice ad sz.length c) rfl (zF2 _) (fun hc16 => ?_) ?_)
 ·
  obtain ⟨hc16a, hc16b⟩ := and_t hc16
  obtain ⟨hc16aa, hc16ab⟩ := and_t hc16a
  obtain ⟨hc16aaa, hc16aab⟩ := and_t hc16aa
  obtain ⟨hc16aaaa, hc16aaab⟩ := and_t hc16aaa
  have hc16aaaa_ := of_decide_eq_true hc16aaaa
  have hc16aaab_ := of_decide_eq_true hc16aaab
  have hc16aab_ := of_decide_eq_true hc16aab
  have hc16ab_ := of_decide_eq_true hc16ab
  have hc16b_ := of_decide_eq_true hc16b
  refine zA7 rfl ?_
  exact ⟨rfl, rfl⟩
 refine zA3 (zC2 (s := .bool (((((decide (seg ≥ 0)) && (decide (seg < (sz.length : Int)))) && (decide (a ≥ 0))) && (decide (n ≥ 0))) && (decide (a ≤ (sz.getD seg.toNat 0))))) (b := true) (v := .int .i64 seg) rfl (zF2 _) (fun hc17 => ?_) ?_)
 ·
  obtain ⟨hc17a, hc17b⟩ := and_t hc17
  obtain ⟨hc17aa, hc17ab⟩ := and_t hc17a
  obtain ⟨hc17aaa, hc17aab⟩ := and_t hc17aa
  obtain ⟨hc17aaaa, hc17aaab⟩ := and_t hc17aaa
  have hc17aaaa_ := of_decide_eq_true hc17aaaa
  have hc17aaab_ := of_decide_eq_true hc17aaab
  have hc17aab_ := of_decide_eq_true hc17aab
  have hc17ab_ := of_decide_eq_true hc17ab
  have hc17b_ := of_decide_eq_true hc17b
  refine zA2 rfl ?_
  exact ⟨rfl, rfl⟩
 refine zA3 (zC2 (s := .bool (((((decide (seg ≥ 0)) && (decide (seg < (sz.length : Int)))) && (decide (a ≥ 0))) && (decide (n ≥ 0))) && (decide (a ≤ (sz.getD seg.toNat 0))))) (b := true) (v := .pointer (some (eadr ad ((seg).toNat * 1)))) rfl (zF2 _) (fun hc18 => ?_) ?_)
 ·
  obtain ⟨hc18a, hc18b⟩ := and_t hc18
  obtain ⟨hc18aa, hc18ab⟩ := and_t hc18a
  obtain ⟨hc18aaa, hc18aab⟩ := and_t hc18aa
  obtain ⟨hc18aaaa, hc18aaab⟩ := and_t hc18aaa
  have hc18aaaa_ := of_decide_eq_true hc18aaaa
  have hc18aaab_ := of_decide_eq_true hc18aaab
  have hc18aab_ := of_decide_eq_true hc18aab
  have hc18ab_ := of_decide_eq_true hc18ab
  have hc18b_ := of_decide_eq_true hc18b
  refine zI4 (R.grow G) (gvt hc18) (gvt hc18) ?_ ?_ ?_; omega; omega
  exact ⟨rfl, rfl⟩
 refine zA3 (zC2 (s := .bool (((((decide (seg ≥ 0)) && (decide (seg < (sz.length : Int)))) && (decide (a ≥ 0))) && (decide (n ≥ 0))) && (decide (a ≤ (sz.getD seg.toNat 0))))) (b := true) (v := .int .i64 (sz.getD seg.toNat 0)) rfl (zF2 _) (fun hc19 => ?_) ?_)
 ·
  obtain ⟨hc19a, hc19b⟩ := and_t hc19
  obtain ⟨hc19aa, hc19ab⟩ := and_t hc19a
  obtain ⟨hc19aaa, hc19aab⟩ := and_t hc19aa
  obtain ⟨hc19aaaa, hc19aaab⟩ := and_t hc19aaa
  have hc19aaaa_ := of_decide_eq_true hc19aaaa
  have hc19aaab_ := of_decide_eq_true hc19aaab
  have hc19aab_ := of_decide_eq_true hc19aab
  have hc19ab_ := of_decide_eq_true hc19ab
  have hc19b_ := of_decide_eq_true hc19b
  refine zD7 (v := .int .i64 (sz.getD seg.toNat 0)) (m := 0) (R.grow G) (gvt hc19) (by rw [Nat.mul_one]; exact zX6 0 (by omega)) ?_
  exact ⟨rfl, rfl⟩
 refine zA3 (zC2 (s := .bool (((((decide (seg ≥ 0)) && (decide (seg < (sz.length : Int)))) && (decide (a ≥ 0))) && (decide (n ≥ 0))) && (decide (a ≤ (sz.getD seg.toNat 0))))) (b := true) (v := .int .i64 a) rfl (zF2 _) (fun hc20 => ?_) ?_)
 ·
  obtain ⟨hc20a, hc20b⟩ := and_t hc20
  obtain ⟨hc20aa, hc20ab⟩ := and_t hc20a
  obtain ⟨hc20aaa, hc20aab⟩ := and_t hc20aa
  obtain ⟨hc20aaaa, hc20aaab⟩ := and_t hc20aaa
  have hc20aaaa_ := of_decide_eq_true hc20aaaa
  have hc20aaab_ := of_decide_eq_true hc20aaab
  have hc20aab_ := of_decide_eq_true hc20aab
  have hc20ab_ := of_decide_eq_true hc20ab
  have hc20b_ := of_decide_eq_true hc20b
  refine zA2 rfl ?_
  exact ⟨rfl, rfl⟩
 refine zA3 (zC2 (s := .bool (((((decide (seg ≥ 0)) && (decide (seg < (sz.length : Int)))) && (decide (a ≥ 0))) && (decide (n ≥ 0))) && (decide (a ≤ (sz.getD seg.toNat 0))))) (b := true) (v := .int .i64 ((sz.getD seg.toNat 0) - a)) rfl (zF2 _) (fun hc21 => ?_) ?_)
 ·
  obtain ⟨hc21a, hc21b⟩ := and_t hc21
  obtain ⟨hc21aa, hc21ab⟩ := and_t hc21a
  obtain ⟨hc21aaa, hc21aab⟩ := and_t hc21aa
  obtain ⟨hc21aaaa, hc21aaab⟩ := and_t hc21aaa
  have hc21aaaa_ := of_decide_eq_true hc21aaaa
  have hc21aaab_ := of_decide_eq_true hc21aaab
  have hc21aab_ := of_decide_eq_true hc21aab
  have hc21ab_ := of_decide_eq_true hc21ab
  have hc21b_ := of_decide_eq_true hc21b
  refine zM0 (gvt hc21) (gvt hc21) ?_ ?_; constructor <;> omega
  exact ⟨rfl, rfl⟩
 refine zA3 (zC2 (s := .bool (((((decide (seg ≥ 0)) && (decide (seg < (sz.length : Int)))) && (decide (a ≥ 0))) && (decide (n ≥ 0))) && (decide (a ≤ (sz.getD seg.toNat 0))))) (b := true) (v := .bool (decide (n ≤ ((sz.getD seg.toNat 0) - a)))) rfl (zF2 _) (fun hc22 => ?_) ?_)
 ·
  obtain ⟨hc22a, hc22b⟩ := and_t hc22
  obtain ⟨hc22aa, hc22ab⟩ := and_t hc22a
  obtain ⟨hc22aaa, hc22aab⟩ := and_t hc22aa
  obtain ⟨hc22aaaa, hc22aaab⟩ := and_t hc22aaa
  have hc22aaaa_ := of_decide_eq_true hc22aaaa
  have hc22aaab_ := of_decide_eq_true hc22aaab
  have hc22aab_ := of_decide_eq_true hc22aab
  have hc22ab_ := of_decide_eq_true hc22ab
  have hc22b_ := of_decide_eq_true hc22b
  refine qG9 (gvt hc22) (gvt hc22) ?_
  exact ⟨rfl, rfl⟩
 refine stp (zJ2 rfl rfl rfl ?_)
 refine stp (zC1 rfl ?_)
 refine zA4 ?_
 refine zC4 ?_
 refine ret1 (zB3 (v := .bool ((((((decide (seg ≥ 0)) && (decide (seg < (sz.length : Int)))) && (decide (a ≥ 0))) && (decide (n ≥ 0))) && (decide (a ≤ (sz.getD seg.toNat 0)))) && (decide (n ≤ ((sz.getD seg.toNat 0) - a))))) rfl) ⟨?_, G⟩
 congr 1; rw [Bool.eq_iff_iff]; unfold withinP addOk; simp only [Bool.and_eq_true, decide_eq_true_eq]; constructor <;> (intro h; omega)

set_option maxRecDepth 100000 in
theorem qM3 (w : World) {u : Value} {A : List (List Int)} {seg a : Int} (hA : ArenaR w u A) (hn : A.length ≤ 8796093022208) : Gives Tryz.prog 71 #[u, .int .i64 seg, .int .i64 a] w (.tuple #[.int .u64 ((wordA A seg a).1), .int .i64 ((wordA A seg a).2)]) := by
 have hA0 := hA
 obtain ⟨ada, ca, segsa, sa, sca, rfl, -, -, RA, hsa, hra⟩ := hA.fn
 have la := RA.lim
 have hwo := qX9 (A := A) (seg := seg) (at_ := a)
 have hs : ∀ i, 0 ≤ (sizesP A).getD i 0 ∧ (sizesP A).getD i 0 ≤ 140737488355328 := fun i => by rw [zL4]; by_cases hi : i < A.length; (have := (hra i hi).2.2.lim; omega); (have := zW3 (A := A) (j := i) (by omega); omega)
 have G := Grow.rfl' w
 refine zC7 Tryz.func71 Tryz.ntmps71 Tryz.results71 rfl rfl ?_
 refine zA6 (zA1 rfl ?_)
 refine stp (zA0 rfl ?_)
 refine stp (zA0 rfl ?_)
 refine zA4 ?_
 refine zA6 ?_
 refine zA6 (zA1 rfl ?_)
 refine stp (zA7 rfl ?_)
 refine zA3 (og rfl ?_)
 refine zF1 rfl (zZ6 _ (hA0.grow G) hn) ?_
 rintro v_ w1 ⟨ad9, c9, rfl, RZ, g_⟩
 replace G := G.tr g_
 clear g_
 refine stp (zA2 rfl ?_)
 refine stp (zA2 rfl ?_)
 refine stp (zC0 (v := .bool (decide (0 ≤ seg ∧ seg < A.length ∧ 0 ≤ a ∧ a < len2 A seg.toNat))) rfl ((by have h_ := zQ9 w1 (c := c9) (seg := seg) (a := a) (n := 1) (by rw [zG5]; exact RZ) hs; rw [hwo, zG5] at h_; exact h_)) ?_)
 intro w2 g3
 replace RZ := RZ.grow g3
 replace G := G.tr g3
 clear g3
 refine stp (zN6 rfl ?_)
 refine zA4 ?_
 refine zB8 (b := (!(decide (0 ≤ seg ∧ seg < A.length ∧ 0 ≤ a ∧ a < len2 A seg.toNat)))) rfl (fun h1 => ?_) (fun h1 => ?_)
 ·-- true
  simp only [sb] at h1
  have h1' : ¬ (0 ≤ seg ∧ seg < A.length ∧ 0 ≤ a ∧ a < len2 A seg.toNat) := by simpa using h1
  refine zA6 (zA1 rfl ?_)
  refine stp (zA0 rfl ?_)
  refine stp (zA0 rfl ?_)
  refine zA4 ?_
  refine zC4 ?_
  refine ret2 (zB3 (v := .int .u64 0) rfl) (zB3 (v := .int .i64 20) rfl) ⟨?_, G⟩
  have h9 : wordA A seg a = (0, 20) := by unfold wordA; rw [if_neg h1']
  rw [h9]
 ·-- false
  simp only [sb] at h1
  have h1' : 0 ≤ seg ∧ seg < A.length ∧ 0 ≤ a ∧ a < len2 A seg.toNat := by simpa using h1
  obtain ⟨-, -, Rk⟩ := hra seg.toNat (by omega)
  have lk := Rk.lim
  refine zC3 ?_
  refine zA6 (zA1 rfl ?_)
  refine stp (zA7 rfl ?_)
  refine stp (zA2 rfl ?_)
  refine stp (zI4 (RA.grow G) rfl rfl ?_ ?_ ?_); omega; omega
  refine stp (zD7 (v := .slice (sa seg.toNat) (len2 A seg.toNat) (sca seg.toNat)) (m := 0) (RA.grow G) rfl (by rw [Nat.mul_one]; exact hsa _ (by omega)) ?_)
  refine stp (zA2 rfl ?_)
  refine stp (zI4 (Rk.grow G) rfl rfl ?_ ?_ ?_); omega; omega
  refine stp (zD7 (v := .int .u64 ((A.getD seg.toNat []).getD a.toNat 0)) (m := 0) (Rk.grow G) rfl (by rw [Nat.mul_one]; exact zX6 0 (by simp only [len2] at *; omega)) ?_)
  refine stp (zA0 rfl ?_)
  refine stp (zA0 rfl ?_)
  refine zA4 ?_
  refine zC4 ?_
  refine ret2 (zB3 (v := .int .u64 ((A.getD seg.toNat []).getD a.toNat 0)) rfl) (zB3 (v := .int .i64 0) rfl) ⟨?_, G⟩
  have h9 : wordA A seg a = ((A.getD seg.toNat []).getD a.toNat 0, 0) := by unfold wordA; rw [if_pos h1']
  rw [h9]

set_option maxRecDepth 100000 in
theorem zS8 (w : World) (p : Pt) : Gives Tryz.prog 73 #[.agg #[.int .i64 p.kind, .int .i64 p.off, .int .i64 p.data, .int .i64 p.ptrs, .int .i64 p.size, .int .i64 p.count, .int .i64 p.seg, .bool p.dbl]] w (.bool (nearP p)) := by
 have G := Grow.rfl' w
 refine zC7 Tryz.func73 Tryz.ntmps73 Tryz.results73 rfl rfl ?_
 refine zA6 (zA1 rfl ?_)
 refine zA3 (og rfl ?_)
 (first | refine zD0 rfl ?_ | refine zD2 rfl ?_ | refine zC5 rfl ?_ | refine zH0 rfl rfl ?_)
 intro b1 w2 hb3 hc4 g5
 have hge6 := Nat.le_trans G.size hb3
 replace G := G.tr g5
 clear g5 hb3
 refine stp (zA8 (v := .bool false) rfl ?_)
 refine zA4 ?_
 refine zA6 (zA1 rfl ?_)
 refine stp (zA5 rfl ?_)
 refine stp (zB5 (v := .int .i64 p.kind) rfl hc4 rfl ?_)
 refine stp (zE9 rfl rfl ?_)
 refine stp (zB9 rfl ?_)
 refine zA3 (zC2 (s := .bool (decide (p.kind = 1))) (b := false) (v := .pointer (some ⟨b1, 0, none⟩)) rfl (zD1 _) (fun hc7 => ?_) ?_)
 ·
  have hc7_ := hc7
  try simp only [sb] at hc7_
  refine zA5 rfl ?_
  exact ⟨rfl, rfl⟩
 refine zA3 (zC2 (s := .bool (decide (p.kind = 1))) (b := false) (v := .int .i64 p.kind) rfl (zD1 _) (fun hc8 => ?_) ?_)
 ·
  have hc8_ := hc8
  try simp only [sb] at hc8_
  refine zB5 (v := .int .i64 p.kind) (gvt hc8) hc4 rfl ?_
  exact ⟨rfl, rfl⟩
 refine zA3 (zC2 (s := .bool (decide (p.kind = 1))) (b := false) (v := .bool (decide (p.kind = 2))) rfl (zD1 _) (fun hc9 => ?_) ?_)
 ·
  have hc9_ := hc9
  try simp only [sb] at hc9_
  refine zE9 (gvt hc9) rfl ?_
  exact ⟨rfl, rfl⟩
 refine stp (zI6 rfl rfl rfl ?_)
 refine stp (zC1 rfl ?_)
 refine zA4 ?_
 refine zC4 ?_
 refine ret1 (zB3 (v := .bool ((decide (p.kind = 1)) || (decide (p.kind = 2)))) rfl) ⟨?_, G⟩
 rfl

set_option maxRecDepth 100000 in
theorem zY2 (w : World) (p : Pt) (seg a : Int) : Gives Tryz.prog 75 #[.agg #[.int .i64 p.kind, .int .i64 p.off, .int .i64 p.data, .int .i64 p.ptrs, .int .i64 p.size, .int .i64 p.count, .int .i64 p.seg, .bool p.dbl], .int .i64 seg, .int .i64 a] w (.agg #[.int .i64 ((objP p seg a).kind), .int .i64 ((objP p seg a).seg), .int .i64 ((objP p seg a).at_), .int .i64 ((objP p seg a).data), .int .i64 ((objP p seg a).ptrs), .int .i64 ((objP p seg a).size), .int .i64 ((objP p seg a).count)]) := by
 have G := Grow.rfl' w
 refine zC7 Tryz.func75 Tryz.ntmps75 Tryz.results75 rfl rfl ?_
 refine zA6 (zA1 rfl ?_)
 refine zA3 (og rfl ?_)
 (first | refine zD0 rfl ?_ | refine zD2 rfl ?_ | refine zC5 rfl ?_ | refine zH0 rfl rfl ?_)
 intro b1 w2 hb3 hc4 g5
 have hge6 := Nat.le_trans G.size hb3
 replace G := G.tr g5
 clear g5 hb3
 refine stp (zD3 ?_)
 intro b7 w8 hb9 hc10 g11
 refine zA4 ?_
 refine zA6 (zA1 rfl ?_)
 refine stp (zA5 rfl ?_)
 have hge12 := Nat.le_trans G.size hb9
 have ne13 := Nat.ne_of_lt (Nat.lt_of_lt_of_le (zA9 hc4) hb9)
 replace hc4 := g11.heap hc4
 replace G := G.tr g11
 clear g11 hb9
 refine stp (zB5 (v := .int .i64 p.kind) rfl hc4 rfl ?_)
 refine stp (zA2 rfl ?_)
 refine stp (zA2 rfl ?_)
 refine stp (zA5 rfl ?_)
 refine stp (zB5 (v := .int .i64 p.data) rfl hc4 rfl ?_)
 refine stp (zA5 rfl ?_)
 refine stp (zB5 (v := .int .i64 p.ptrs) rfl hc4 rfl ?_)
 refine stp (zA5 rfl ?_)
 refine stp (zB5 (v := .int .i64 p.size) rfl hc4 rfl ?_)
 refine stp (zA5 rfl ?_)
 refine stp (zB5 (v := .int .i64 p.count) rfl hc4 rfl ?_)
 refine stp (zD4 (v := .agg #[.int .i64 p.kind, .int .i64 seg, .int .i64 a, .int .i64 p.data, .int .i64 p.ptrs, .int .i64 p.size, .int .i64 p.count]) (fun w => by kernel_rfl) ?_)
 refine stn (zB1 rfl rfl hc10 (by rfl) (by rfl) (by rfl) ?_)
 intro w14 hc15 u16
 replace hc4 := u16.heap hc4 ne13
 replace G := G.upd u16 hge12
 clear u16 hc10
 refine zA4 ?_
 refine zC4 ?_
 refine ret1 (zC9 rfl hc15 (by rfl)) ⟨?_, G⟩
 rfl

set_option maxRecDepth 100000 in
theorem qI5 (w : World) (o : Ob) : Gives Tryz.prog 67 #[.agg #[.int .i64 o.kind, .int .i64 o.seg, .int .i64 o.at_, .int .i64 o.data, .int .i64 o.ptrs, .int .i64 o.size, .int .i64 o.count]] w (.int .i64 (wordsO o)) := by
 have G := Grow.rfl' w
 refine zC7 Tryz.func67 Tryz.ntmps67 Tryz.results67 rfl rfl ?_
 refine zA6 (zA1 rfl ?_)
 refine zA3 (og rfl ?_)
 (first | refine zD0 rfl ?_ | refine zD2 rfl ?_ | refine zC5 rfl ?_ | refine zH0 rfl rfl ?_)
 intro b1 w2 hb3 hc4 g5
 have hge6 := Nat.le_trans G.size hb3
 replace G := G.tr g5
 clear g5 hb3
 refine stp (zA0 rfl ?_)
 refine zA4 ?_
 refine zA6 ?_
 refine zA6 (zA1 rfl ?_)
 refine stp (zA5 rfl ?_)
 refine stp (zB5 (v := .int .i64 o.kind) rfl hc4 rfl ?_)
 refine stp (zE9 rfl rfl ?_)
 refine zA4 ?_
 refine zB8 (b := (decide (o.kind = 3))) rfl (fun h1 => ?_) (fun h1 => ?_)
 ·-- true
  replace h1 := of_decide_eq_true h1
  refine zA6 (zA1 rfl ?_)
  refine stp (zA0 rfl ?_)
  refine zA4 ?_
  refine zC4 ?_
  refine ret1 (zB3 (v := .int .i64 0) rfl) ⟨?_, G⟩
  simp [wordsO, Ob.pt, *]
 ·-- false
  replace h1 := of_decide_eq_false h1
  refine zC3 ?_
  refine zA6 (zA1 rfl ?_)
  refine stp (zA5 rfl ?_)
  refine stp (zB5 (v := .int .i64 o.kind) rfl hc4 rfl ?_)
  refine stp (zA5 rfl ?_)
  refine stp (zB5 (v := .int .i64 o.data) rfl hc4 rfl ?_)
  refine stp (zA5 rfl ?_)
  refine stp (zB5 (v := .int .i64 o.ptrs) rfl hc4 rfl ?_)
  refine stp (zA5 rfl ?_)
  refine stp (zB5 (v := .int .i64 o.size) rfl hc4 rfl ?_)
  refine stp (zA5 rfl ?_)
  refine stp (zB5 (v := .int .i64 o.count) rfl hc4 rfl ?_)
  refine stp (zD4 (v := .agg #[.int .i64 o.kind, .int .i64 0, .int .i64 o.data, .int .i64 o.ptrs, .int .i64 o.size, .int .i64 o.count, .int .i64 0, .bool false]) (fun w => by kernel_rfl) ?_)
  refine stp (zC0 (v := .tuple #[.int .i64 (wordsN ⟨o.kind, 0, o.data, o.ptrs, o.size, o.count, 0, false⟩), .int .i64 (wordsE ⟨o.kind, 0, o.data, o.ptrs, o.size, o.count, 0, false⟩)]) rfl (zZ5 _ ⟨o.kind, 0, o.data, o.ptrs, o.size, o.count, 0, false⟩) ?_)
  intro w7 g8
  replace hc4 := g8.heap hc4
  replace G := G.tr g8
  clear g8
  refine stp (zB6 (v := .tuple #[.int .i64 (wordsN ⟨o.kind, 0, o.data, o.ptrs, o.size, o.count, 0, false⟩), .int .i64 (wordsE ⟨o.kind, 0, o.data, o.ptrs, o.size, o.count, 0, false⟩)]) rfl ?_)
  refine stp (zB2 (v := .int .i64 (wordsN ⟨o.kind, 0, o.data, o.ptrs, o.size, o.count, 0, false⟩)) rfl rfl ?_)
  refine stp (zB2 (v := .int .i64 (wordsE ⟨o.kind, 0, o.data, o.ptrs, o.size, o.count, 0, false⟩)) rfl rfl ?_)
  refine stp (zA0 rfl ?_)
  refine stp (zA0 rfl ?_)
  refine zA4 ?_
  refine zA6 (zA1 rfl ?_)
  refine stp (zA2 rfl ?_)
  refine stp (zA0 rfl ?_)
  refine zA4 ?_
  refine zC4 ?_
  refine ret1 (zB3 (v := .int .i64 (wordsN ⟨o.kind, 0, o.data, o.ptrs, o.size, o.count, 0, false⟩)) rfl) ⟨?_, G⟩
  simp [wordsO, Ob.pt, *]

set_option maxRecDepth 100000 in
theorem qF8 (w : World) {ua uh : Value} {b : Bool} {A : List (List Int)} {s : Src} (H : SrcR Tryz.prog 110 w ua b uh A s) (seg a : Int) (h1 : inR .i64 seg) (h2 : inR .i64 a) : Gives Tryz.prog 72 #[.agg #[ua, .bool b, uh], .int .i64 seg, .int .i64 a] w (.tuple #[.agg #[.int .i64 ((ptrS s seg a).1.kind), .int .i64 ((ptrS s seg a).1.off), .int .i64 ((ptrS s seg a).1.data), .int .i64 ((ptrS s seg a).1.ptrs), .int .i64 ((ptrS s seg a).1.size), .int .i64 ((ptrS s seg a).1.count), .int .i64 ((ptrS s seg a).1.seg), .bool ((ptrS s seg a).1.dbl)], .int .i64 ((ptrS s seg a).2)]) := by
 simp only [inR] at h1 h2
 have G := Grow.rfl' w
 refine zC7 Tryz.func72 Tryz.ntmps72 Tryz.results72 rfl rfl ?_
 refine zA6 (zA1 rfl ?_)
 refine zA3 (og rfl ?_)
 (first | refine zD0 rfl ?_ | refine zD2 rfl ?_ | refine zC5 rfl ?_ | refine zH0 rfl rfl ?_)
 intro b1 w2 hb3 hc4 g5
 have hge6 := Nat.le_trans G.size hb3
 replace G := G.tr g5
 clear g5 hb3
 refine stp (zD3 ?_)
 intro b7 w8 hb9 hc10 g11
 refine stp (zA0 rfl ?_)
 refine zA4 ?_
 refine zA6 (zA1 rfl ?_)
 have hge12 := Nat.le_trans G.size hb9
 have ne13 := Nat.ne_of_lt (Nat.lt_of_lt_of_le (zA9 hc4) hb9)
 replace hc4 := g11.heap hc4
 replace G := G.tr g11
 clear g11 hb9
 refine stp (zB4 rfl hc4 (by rfl) ?_)
 refine stp (zA2 rfl ?_)
 refine stp (zA2 rfl ?_)
 refine stp (zC0 (v := .tuple #[.int .u64 ((s.word seg a).1), .int .i64 ((s.word seg a).2)]) rfl (H.word _ G seg a (by simp only [inR]; omega) (by simp only [inR]; omega)) ?_)
 intro w14 g15
 replace hc4 := g15.heap hc4
 replace hc10 := g15.heap hc10
 replace G := G.tr g15
 clear g15
 refine stp (zB6 (v := .tuple #[.int .u64 ((s.word seg a).1), .int .i64 ((s.word seg a).2)]) rfl ?_)
 refine stp (zB2 (v := .int .u64 ((s.word seg a).1)) rfl rfl ?_)
 refine stp (zB2 (v := .int .i64 ((s.word seg a).2)) rfl rfl ?_)
 refine stp (zA0 rfl ?_)
 refine stp (zA0 rfl ?_)
 refine zA4 ?_
 refine zA6 ?_
 refine zA6 (zA1 rfl ?_)
 refine stp (zA2 rfl ?_)
 refine stp (zI9 rfl rfl ?_)
 refine zA4 ?_
 refine zB8 (b := (decide (((s.word seg a).2) ≠ 0))) rfl (fun hz => ?_) (fun hz => ?_)
 ·-- true
  replace hz := of_decide_eq_true hz
  refine zA6 (zA1 rfl ?_)
  refine stp (zD4 (v := .agg #[.int .i64 0, .int .i64 0, .int .i64 0, .int .i64 0, .int .i64 0, .int .i64 0, .int .i64 0, .bool false]) (fun w => by kernel_rfl) ?_)
  refine stp (zA2 rfl ?_)
  refine stn (zB1 rfl rfl hc10 (by rfl) (by rfl) (by rfl) ?_)
  intro w16 hc17 u18
  replace hc4 := u18.heap hc4 ne13
  replace G := G.upd u18 hge12
  clear u18 hc10
  refine stp (zA0 rfl ?_)
  refine zA4 ?_
  refine zC4 ?_
  refine ret2 (zC9 rfl hc17 (by rfl)) (zB3 (v := .int .i64 ((s.word seg a).2)) rfl) ⟨?_, G⟩
  have h9 : ptrS s seg a = (Pt0, (s.word seg a).2) := by unfold ptrS; exact if_pos hz
  rw [h9]; rfl
 ·-- false
  replace hz := of_decide_eq_false hz
  refine zC3 ?_
  refine zA6 (zA1 rfl ?_)
  refine stp (zA2 rfl ?_)
  refine stp (zC0 (v := .tuple #[.agg #[.int .i64 ((decP (s.word seg a).1).kind), .int .i64 ((decP (s.word seg a).1).off), .int .i64 ((decP (s.word seg a).1).data), .int .i64 ((decP (s.word seg a).1).ptrs), .int .i64 ((decP (s.word seg a).1).size), .int .i64 ((decP (s.word seg a).1).count), .int .i64 ((decP (s.word seg a).1).seg), .bool ((decP (s.word seg a).1).dbl)], .int .i64 (decE (s.word seg a).1)]) rfl (zH2 _ _ (H.num seg a).1 (H.num seg a).2.1) ?_)
  intro w19 g20
  replace hc4 := g20.heap hc4
  replace hc10 := g20.heap hc10
  replace G := G.tr g20
  clear g20
  refine stp (zB6 (v := .tuple #[.agg #[.int .i64 ((decP (s.word seg a).1).kind), .int .i64 ((decP (s.word seg a).1).off), .int .i64 ((decP (s.word seg a).1).data), .int .i64 ((decP (s.word seg a).1).ptrs), .int .i64 ((decP (s.word seg a).1).size), .int .i64 ((decP (s.word seg a).1).count), .int .i64 ((decP (s.word seg a).1).seg), .bool ((decP (s.word seg a).1).dbl)], .int .i64 (decE (s.word seg a).1)]) rfl ?_)
  refine stp (zB2 (v := .agg #[.int .i64 ((decP (s.word seg a).1).kind), .int .i64 ((decP (s.word seg a).1).off), .int .i64 ((decP (s.word seg a).1).data), .int .i64 ((decP (s.word seg a).1).ptrs), .int .i64 ((decP (s.word seg a).1).size), .int .i64 ((decP (s.word seg a).1).count), .int .i64 ((decP (s.word seg a).1).seg), .bool ((decP (s.word seg a).1).dbl)]) rfl rfl ?_)
  refine stp (zB2 (v := .int .i64 (decE (s.word seg a).1)) rfl rfl ?_)
  refine stp (zD3 ?_)
  intro b21 w22 hb23 hc24 g25
  refine stn (zB1 rfl rfl hc24 (by rfl) (by rfl) (by rfl) ?_)
  intro w26 hc27 u28
  have g29 := g25.upd u28 hb23
  have hge30 := Nat.le_trans G.size hb23
  have ne31 := Nat.ne_of_lt (Nat.lt_of_lt_of_le (zA9 hc4) hb23)
  have ne32 := Nat.ne_of_lt (Nat.lt_of_lt_of_le (zA9 hc10) hb23)
  replace hc4 := g29.heap hc4
  replace hc10 := g29.heap hc10
  replace G := G.tr g29
  clear u28 g25 hb23 hc24
  refine stp (zA0 rfl ?_)
  refine zA4 ?_
  refine zA6 (zA1 rfl ?_)
  refine stp (zB4 rfl hc27 (by rfl) ?_)
  refine stp (zA2 rfl ?_)
  refine stn (zB1 rfl rfl hc10 (by rfl) (by rfl) (by rfl) ?_)
  intro w33 hc34 u35
  replace hc4 := u35.heap hc4 ne13
  replace hc27 := u35.heap hc27 ne32.symm
  replace G := G.upd u35 hge12
  clear u35 hc10
  refine stp (zA0 rfl ?_)
  refine zA4 ?_
  refine zC4 ?_
  refine ret2 (zC9 rfl hc34 (by rfl)) (zB3 (v := .int .i64 (decE (s.word seg a).1)) rfl) ⟨?_, G⟩
  have h9 : ptrS s seg a = (decP (s.word seg a).1, decE (s.word seg a).1) := by unfold ptrS; exact if_neg hz
  rw [h9]

set_option maxRecDepth 100000 in
theorem zR0 (w : World) {ua uh : Value} {b : Bool} {A : List (List Int)} {s : Src} (H : SrcR Tryz.prog 110 w ua b uh A s) (o : Ob) (ho : ObW o) : Gives Tryz.prog 74 #[.agg #[ua, .bool b, uh], .agg #[.int .i64 o.kind, .int .i64 o.seg, .int .i64 o.at_, .int .i64 o.data, .int .i64 o.ptrs, .int .i64 o.size, .int .i64 o.count]] w (.tuple #[.agg #[.int .i64 ((bndS s o).1.kind), .int .i64 ((bndS s o).1.seg), .int .i64 ((bndS s o).1.at_), .int .i64 ((bndS s o).1.data), .int .i64 ((bndS s o).1.ptrs), .int .i64 ((bndS s o).1.size), .int .i64 ((bndS s o).1.count)], .int .i64 ((bndS s o).2)]) := by
 have hw9 := zS1 ho.pt
 have hsz := H.sizes
 have hs : ∀ i, 0 ≤ (sizesP A).getD i 0 ∧ (sizesP A).getD i 0 ≤ 140737488355328 := fun i => by rw [zL4]; have := H.each i; omega
 have G := Grow.rfl' w
 refine zC7 Tryz.func74 Tryz.ntmps74 Tryz.results74 rfl rfl ?_
 refine zA6 (zA1 rfl ?_)
 refine zA3 (og rfl ?_)
 (first | refine zD0 rfl ?_ | refine zD2 rfl ?_ | refine zC5 rfl ?_ | refine zH0 rfl rfl ?_)
 intro b1 w2 hb3 hc4 g5
 have hge6 := Nat.le_trans G.size hb3
 replace G := G.tr g5
 clear g5 hb3
 refine zA3 (og rfl ?_)
 (first | refine zD0 rfl ?_ | refine zD2 rfl ?_ | refine zC5 rfl ?_ | refine zH0 rfl rfl ?_)
 intro b7 w8 hb9 hc10 g11
 have hge12 := Nat.le_trans G.size hb9
 replace hc4 := g11.heap hc4
 replace G := G.tr g11
 clear g11 hb9
 refine stp (zD3 ?_)
 intro b13 w14 hb15 hc16 g17
 refine stp (zA0 rfl ?_)
 refine zA4 ?_
 refine zA6 (zA1 rfl ?_)
 refine stp (zA5 rfl ?_)
 have hge18 := Nat.le_trans G.size hb15
 have ne19 := Nat.ne_of_lt (Nat.lt_of_lt_of_le (zA9 hc4) hb15)
 have ne20 := Nat.ne_of_lt (Nat.lt_of_lt_of_le (zA9 hc10) hb15)
 replace hc4 := g17.heap hc4
 replace hc10 := g17.heap hc10
 replace G := G.tr g17
 clear g17 hb15
 refine stp (zB5 (v := .int .i64 o.kind) rfl hc10 rfl ?_)
 refine stp (zA5 rfl ?_)
 refine stp (zB5 (v := .int .i64 o.data) rfl hc10 rfl ?_)
 refine stp (zA5 rfl ?_)
 refine stp (zB5 (v := .int .i64 o.ptrs) rfl hc10 rfl ?_)
 refine stp (zA5 rfl ?_)
 refine stp (zB5 (v := .int .i64 o.size) rfl hc10 rfl ?_)
 refine stp (zA5 rfl ?_)
 refine stp (zB5 (v := .int .i64 o.count) rfl hc10 rfl ?_)
 refine stp (zD4 (v := .agg #[.int .i64 o.kind, .int .i64 0, .int .i64 o.data, .int .i64 o.ptrs, .int .i64 o.size, .int .i64 o.count, .int .i64 0, .bool false]) (fun w => by kernel_rfl) ?_)
 refine stp (zC0 (v := .tuple #[.int .i64 (wordsN ⟨o.kind, 0, o.data, o.ptrs, o.size, o.count, 0, false⟩), .int .i64 (wordsE ⟨o.kind, 0, o.data, o.ptrs, o.size, o.count, 0, false⟩)]) rfl (zZ5 _ ⟨o.kind, 0, o.data, o.ptrs, o.size, o.count, 0, false⟩) ?_)
 intro w21 g22
 replace hc4 := g22.heap hc4
 replace hc10 := g22.heap hc10
 replace hc16 := g22.heap hc16
 replace G := G.tr g22
 clear g22
 refine stp (zB6 (v := .tuple #[.int .i64 (wordsN ⟨o.kind, 0, o.data, o.ptrs, o.size, o.count, 0, false⟩), .int .i64 (wordsE ⟨o.kind, 0, o.data, o.ptrs, o.size, o.count, 0, false⟩)]) rfl ?_)
 refine stp (zB2 (v := .int .i64 (wordsN ⟨o.kind, 0, o.data, o.ptrs, o.size, o.count, 0, false⟩)) rfl rfl ?_)
 refine stp (zB2 (v := .int .i64 (wordsE ⟨o.kind, 0, o.data, o.ptrs, o.size, o.count, 0, false⟩)) rfl rfl ?_)
 refine stp (zA0 rfl ?_)
 refine stp (zA0 rfl ?_)
 refine zA4 ?_
 refine zA6 ?_
 refine zA6 (zA1 rfl ?_)
 refine stp (zA2 rfl ?_)
 refine stp (zI9 rfl rfl ?_)
 refine zA4 ?_
 refine zB8 (b := (decide ((wordsE ⟨o.kind, 0, o.data, o.ptrs, o.size, o.count, 0, false⟩) ≠ 0))) rfl (fun h1 => ?_) (fun h1 => ?_)
 ·-- true
  replace h1 := of_decide_eq_true h1
  refine zA6 (zA1 rfl ?_)
  refine stp (zD4 (v := .agg #[.int .i64 0, .int .i64 0, .int .i64 0, .int .i64 0, .int .i64 0, .int .i64 0, .int .i64 0]) (fun w => by kernel_rfl) ?_)
  refine stp (zA2 rfl ?_)
  refine stn (zB1 rfl rfl hc16 (by rfl) (by rfl) (by rfl) ?_)
  intro w23 hc24 u25
  replace hc4 := u25.heap hc4 ne19
  replace hc10 := u25.heap hc10 ne20
  replace G := G.upd u25 hge18
  clear u25 hc16
  refine stp (zA0 rfl ?_)
  refine zA4 ?_
  refine zC4 ?_
  refine ret2 (zC9 rfl hc24 (by rfl)) (zB3 (v := .int .i64 (wordsE ⟨o.kind, 0, o.data, o.ptrs, o.size, o.count, 0, false⟩)) rfl) ⟨?_, G⟩
  have h9 : bndS s o = (Ob0, wordsE ⟨o.kind, 0, o.data, o.ptrs, o.size, o.count, 0, false⟩) := by unfold bndS; exact if_pos h1
  rw [h9]; rfl
 ·-- false
  replace h1 := of_decide_eq_false h1
  refine zC3 ?_
  refine zA6 ?_
  refine zA6 ?_
  refine zJ4 10 [[], [0], [1, 0], [], [0], [], [0], [], [7, 6, 5, 4, 3, 2, 1, 0], [8, 7, 6, 5, 4, 3, 2, 1, 0]] mixed (by kernel_rfl) (by kernel_rfl) (by kernel_rfl) ?_
  intro w26 g27
  replace hc4 := g27.heap hc4
  replace hc10 := g27.heap hc10
  replace hc16 := g27.heap hc16
  replace G := G.tr g27
  clear g27
  apply zB7
  ·intro w_ g_; refine og rfl ?_; refine zA5 rfl ?_; exact ⟨Grow.rfl' _, rfl⟩
  apply zB7
  ·intro w_ g_; refine og rfl ?_; refine zB5 (v := ua) rfl (g_.heap hc4) rfl ?_; exact ⟨Grow.rfl' _, rfl⟩
  refine zK2 (fun w_ v_ => ∃ ad9 c9, v_ = .slice ad9 A.length c9 ∧ RowAt w_ 1 ad9 A.length ((sizesP A).map (.int .i64))) (fun _ _ _ g_ ⟨a_, c_, h1_, h2_⟩ => ⟨a_, c_, h1_, h2_.grow g_⟩) ?_ ?_
  ·intro w_ g_
   refine og rfl ?_
   refine zF1 rfl (zZ6 w_ (H.arena.grow (G.tr g_)) (by have := H.len; omega)) ?_
   rintro v9_ w9_ ⟨a_, c_, rfl, R9_, g9_⟩
   exact ⟨g9_, a_, c_, rfl, R9_⟩
  apply zB7
  ·intro w_ g_; refine og rfl ?_; refine zA5 rfl ?_; exact ⟨Grow.rfl' _, rfl⟩
  apply zB7
  ·intro w_ g_; refine og rfl ?_; refine zB5 (v := .int .i64 o.seg) rfl (g_.heap hc10) rfl ?_; exact ⟨Grow.rfl' _, rfl⟩
  apply zB7
  ·intro w_ g_; refine og rfl ?_; refine zA5 rfl ?_; exact ⟨Grow.rfl' _, rfl⟩
  apply zB7
  ·intro w_ g_; refine og rfl ?_; refine zB5 (v := .int .i64 o.at_) rfl (g_.heap hc10) rfl ?_; exact ⟨Grow.rfl' _, rfl⟩
  apply zB7
  ·intro w_ g_; refine og rfl ?_; refine zA2 rfl ?_; exact ⟨Grow.rfl' _, rfl⟩
  apply zB7
  ·intro w_ g_; intro v2_ hv2_; show OpG _ _ _ _ _ _; refine og rfl ?_; obtain ⟨ad9, c9, rfl, RZ⟩ := hv2_; exact zC0 (v := .bool (withinP s.sizes o.seg o.at_ (wordsN o.pt))) rfl (by rw [hsz]; have h_ := zQ9 w_ (c := c9) (seg := o.seg) (a := o.at_) (n := wordsN o.pt) (by rw [zG5]; exact RZ) hs; rw [zG5] at h_; exact h_) (fun w2_ g2_ => ⟨g2_, rfl⟩)
  apply zB7
  ·intro w_ g_; intro v2_ hv2_; show OpG _ _ _ _ _ _; refine og rfl ?_; refine zN6 rfl ?_; exact ⟨Grow.rfl' _, rfl⟩
  refine zI5 ?_
  intro w28 g29
  replace hc4 := g29.heap hc4
  replace hc10 := g29.heap hc10
  replace hc16 := g29.heap hc16
  replace G := G.tr g29
  clear g29
  intro v_z hv_z
  refine zA4 ?_
  refine zB8 (b := (!(withinP s.sizes o.seg o.at_ (wordsN o.pt)))) rfl (fun h2 => ?_) (fun h2 => ?_)
  ·-- true
   simp only [sb] at h2
   refine zA6 (zA1 rfl ?_)
   refine stp (zD4 (v := .agg #[.int .i64 0, .int .i64 0, .int .i64 0, .int .i64 0, .int .i64 0, .int .i64 0, .int .i64 0]) (fun w => by kernel_rfl) ?_)
   refine stn (zB1 rfl rfl hc16 (by rfl) (by rfl) (by rfl) ?_)
   intro w30 hc31 u32
   replace hc4 := u32.heap hc4 ne19
   replace hc10 := u32.heap hc10 ne20
   replace G := G.upd u32 hge18
   clear u32 hc16
   refine stp (zA0 rfl ?_)
   refine zA4 ?_
   refine zC4 ?_
   refine ret2 (zC9 rfl hc31 (by rfl)) (zB3 (v := .int .i64 20) rfl) ⟨?_, G⟩
   have h9 : bndS s o = (Ob0, 20) := by unfold bndS; exact (if_neg h1).trans (if_pos (by simpa using h2))
   rw [h9]; rfl
  ·-- false
   simp only [sb] at h2
   refine zC3 ?_
   refine zA6 (zA1 rfl ?_)
   refine stp (zB4 rfl hc10 (by rfl) ?_)
   refine stn (zB1 rfl rfl hc16 (by rfl) (by rfl) (by rfl) ?_)
   intro w33 hc34 u35
   replace hc4 := u35.heap hc4 ne19
   replace hc10 := u35.heap hc10 ne20
   replace G := G.upd u35 hge18
   clear u35 hc16
   refine stp (zA0 rfl ?_)
   refine zA4 ?_
   refine zC4 ?_
   refine ret2 (zC9 rfl hc34 (by rfl)) (zB3 (v := .int .i64 0) rfl) ⟨?_, G⟩
   have h9 : bndS s o = (o, 0) := by unfold bndS; exact (if_neg h1).trans (if_neg (by simpa using h2))
   rw [h9]

set_option maxRecDepth 100000 in
theorem qI6 (w : World) {ua uh : Value} {b : Bool} {A : List (List Int)} {s : Src} (H : SrcR Tryz.prog 110 w ua b uh A s) (p : Pt) (hp : PtR p) : Gives Tryz.prog 76 #[.agg #[ua, .bool b, uh], .agg #[.int .i64 p.kind, .int .i64 p.off, .int .i64 p.data, .int .i64 p.ptrs, .int .i64 p.size, .int .i64 p.count, .int .i64 p.seg, .bool p.dbl]] w (.tuple #[.agg #[.int .i64 ((dblS s p).1.kind), .int .i64 ((dblS s p).1.seg), .int .i64 ((dblS s p).1.at_), .int .i64 ((dblS s p).1.data), .int .i64 ((dblS s p).1.ptrs), .int .i64 ((dblS s p).1.size), .int .i64 ((dblS s p).1.count)], .int .i64 ((dblS s p).2)]) := by
 have hpo := hp.off
 have hpg := hp.seg
 obtain ⟨n1, n2, -, -⟩ := H.num p.seg p.off
 obtain ⟨n3, n4, -, -⟩ := H.num p.seg (p.off + 1)
 have G := Grow.rfl' w
 refine zC7 Tryz.func76 Tryz.ntmps76 Tryz.results76 rfl rfl ?_
 refine zA6 (zA1 rfl ?_)
 refine zA3 (og rfl ?_)
 (first | refine zD0 rfl ?_ | refine zD2 rfl ?_ | refine zC5 rfl ?_ | refine zH0 rfl rfl ?_)
 intro b1 w2 hb3 hc4 g5
 have hge6 := Nat.le_trans G.size hb3
 replace G := G.tr g5
 clear g5 hb3
 refine zA3 (og rfl ?_)
 (first | refine zD0 rfl ?_ | refine zD2 rfl ?_ | refine zC5 rfl ?_ | refine zH0 rfl rfl ?_)
 intro b7 w8 hb9 hc10 g11
 have hge12 := Nat.le_trans G.size hb9
 replace hc4 := g11.heap hc4
 replace G := G.tr g11
 clear g11 hb9
 refine stp (zD3 ?_)
 intro b13 w14 hb15 hc16 g17
 refine stp (zA0 rfl ?_)
 refine zA4 ?_
 refine zA6 (zA1 rfl ?_)
 have hge18 := Nat.le_trans G.size hb15
 have ne19 := Nat.ne_of_lt (Nat.lt_of_lt_of_le (zA9 hc4) hb15)
 have ne20 := Nat.ne_of_lt (Nat.lt_of_lt_of_le (zA9 hc10) hb15)
 replace hc4 := g17.heap hc4
 replace hc10 := g17.heap hc10
 replace G := G.tr g17
 clear g17 hb15
 refine stp (zB4 rfl hc4 (by rfl) ?_)
 refine stp (zA5 rfl ?_)
 refine stp (zB5 (v := .int .i64 p.seg) rfl hc10 rfl ?_)
 refine stp (zA5 rfl ?_)
 refine stp (zB5 (v := .int .i64 p.off) rfl hc10 rfl ?_)
 refine stp (zC0 (v := .tuple #[.int .u64 ((s.word p.seg p.off).1), .int .i64 ((s.word p.seg p.off).2)]) rfl (H.word _ G p.seg p.off (by simp only [inR]; omega) (by simp only [inR]; omega)) ?_)
 intro w21 g22
 replace hc4 := g22.heap hc4
 replace hc10 := g22.heap hc10
 replace hc16 := g22.heap hc16
 replace G := G.tr g22
 clear g22
 refine stp (zB6 (v := .tuple #[.int .u64 ((s.word p.seg p.off).1), .int .i64 ((s.word p.seg p.off).2)]) rfl ?_)
 refine stp (zB2 (v := .int .u64 ((s.word p.seg p.off).1)) rfl rfl ?_)
 refine stp (zB2 (v := .int .i64 ((s.word p.seg p.off).2)) rfl rfl ?_)
 refine stp (zA0 rfl ?_)
 refine stp (zA0 rfl ?_)
 refine zA4 ?_
 refine zA6 ?_
 refine zA6 (zA1 rfl ?_)
 refine stp (zA2 rfl ?_)
 refine stp (zI9 rfl rfl ?_)
 refine zA4 ?_
 refine zB8 (b := (decide (((s.word p.seg p.off).2) ≠ 0))) rfl (fun h1 => ?_) (fun h1 => ?_)
 ·-- true
  replace h1 := of_decide_eq_true h1
  refine zA6 (zA1 rfl ?_)
  refine stp (zD4 (v := .agg #[.int .i64 0, .int .i64 0, .int .i64 0, .int .i64 0, .int .i64 0, .int .i64 0, .int .i64 0]) (fun w => by kernel_rfl) ?_)
  refine stp (zA2 rfl ?_)
  refine stn (zB1 rfl rfl hc16 (by rfl) (by rfl) (by rfl) ?_)
  intro w23 hc24 u25
  replace hc4 := u25.heap hc4 ne19
  replace hc10 := u25.heap hc10 ne20
  replace G := G.upd u25 hge18
  clear u25 hc16
  refine stp (zA0 rfl ?_)
  refine zA4 ?_
  refine zC4 ?_
  refine ret2 (zC9 rfl hc24 (by rfl)) (zB3 (v := .int .i64 ((s.word p.seg p.off).2)) rfl) ⟨?_, G⟩
  have h9 : dblS s p = (Ob0, (s.word p.seg p.off).2) := by unfold dblS; rw [if_pos h1]
  rw [h9]; rfl
 ·-- false
  replace h1 := of_decide_eq_false h1
  refine zC3 ?_
  refine zA6 (zA1 rfl ?_)
  refine stp (zB4 rfl hc4 (by rfl) ?_)
  refine stp (zA5 rfl ?_)
  refine stp (zB5 (v := .int .i64 p.seg) rfl hc10 rfl ?_)
  refine stp (zA5 rfl ?_)
  refine stp (zB5 (v := .int .i64 p.off) rfl hc10 rfl ?_)
  refine stp (zD8 rfl rfl ?_ ?_); constructor <;> omega
  refine stp (zC0 (v := .tuple #[.int .u64 ((s.word p.seg (p.off + 1)).1), .int .i64 ((s.word p.seg (p.off + 1)).2)]) rfl (H.word _ G p.seg (p.off + 1) (by simp only [inR]; omega) (by simp only [inR]; omega)) ?_)
  intro w26 g27
  replace hc4 := g27.heap hc4
  replace hc10 := g27.heap hc10
  replace hc16 := g27.heap hc16
  replace G := G.tr g27
  clear g27
  refine stp (zB6 (v := .tuple #[.int .u64 ((s.word p.seg (p.off + 1)).1), .int .i64 ((s.word p.seg (p.off + 1)).2)]) rfl ?_)
  refine stp (zB2 (v := .int .u64 ((s.word p.seg (p.off + 1)).1)) rfl rfl ?_)
  refine stp (zB2 (v := .int .i64 ((s.word p.seg (p.off + 1)).2)) rfl rfl ?_)
  refine stp (zA0 rfl ?_)
  refine stp (zA0 rfl ?_)
  refine zA4 ?_
  refine zA6 ?_
  refine zA6 (zA1 rfl ?_)
  refine stp (zA2 rfl ?_)
  refine stp (zI9 rfl rfl ?_)
  refine zA4 ?_
  refine zB8 (b := (decide (((s.word p.seg (p.off + 1)).2) ≠ 0))) rfl (fun h2 => ?_) (fun h2 => ?_)
  ·-- true
   replace h2 := of_decide_eq_true h2
   refine zA6 (zA1 rfl ?_)
   refine stp (zD4 (v := .agg #[.int .i64 0, .int .i64 0, .int .i64 0, .int .i64 0, .int .i64 0, .int .i64 0, .int .i64 0]) (fun w => by kernel_rfl) ?_)
   refine stp (zA2 rfl ?_)
   refine stn (zB1 rfl rfl hc16 (by rfl) (by rfl) (by rfl) ?_)
   intro w28 hc29 u30
   replace hc4 := u30.heap hc4 ne19
   replace hc10 := u30.heap hc10 ne20
   replace G := G.upd u30 hge18
   clear u30 hc16
   refine stp (zA0 rfl ?_)
   refine zA4 ?_
   refine zC4 ?_
   refine ret2 (zC9 rfl hc29 (by rfl)) (zB3 (v := .int .i64 ((s.word p.seg (p.off + 1)).2)) rfl) ⟨?_, G⟩
   have h9 : dblS s p = (Ob0, (s.word p.seg (p.off + 1)).2) := by unfold dblS; rw [if_neg h1, if_pos h2]
   rw [h9]; rfl
  ·-- false
   replace h2 := of_decide_eq_false h2
   refine zC3 ?_
   refine zA6 (zA1 rfl ?_)
   refine stp (zA2 rfl ?_)
   refine stp (zC0 (v := .tuple #[.agg #[.int .i64 ((decP (s.word p.seg p.off).1).kind), .int .i64 ((decP (s.word p.seg p.off).1).off), .int .i64 ((decP (s.word p.seg p.off).1).data), .int .i64 ((decP (s.word p.seg p.off).1).ptrs), .int .i64 ((decP (s.word p.seg p.off).1).size), .int .i64 ((decP (s.word p.seg p.off).1).count), .int .i64 ((decP (s.word p.seg p.off).1).seg), .bool ((decP (s.word p.seg p.off).1).dbl)], .int .i64 (decE (s.word p.seg p.off).1)]) rfl (zH2 _ _ (H.num p.seg p.off).1 (H.num p.seg p.off).2.1) ?_)
   intro w31 g32
   replace hc4 := g32.heap hc4
   replace hc10 := g32.heap hc10
   replace hc16 := g32.heap hc16
   replace G := G.tr g32
   clear g32
   refine stp (zB6 (v := .tuple #[.agg #[.int .i64 ((decP (s.word p.seg p.off).1).kind), .int .i64 ((decP (s.word p.seg p.off).1).off), .int .i64 ((decP (s.word p.seg p.off).1).data), .int .i64 ((decP (s.word p.seg p.off).1).ptrs), .int .i64 ((decP (s.word p.seg p.off).1).size), .int .i64 ((decP (s.word p.seg p.off).1).count), .int .i64 ((decP (s.word p.seg p.off).1).seg), .bool ((decP (s.word p.seg p.off).1).dbl)], .int .i64 (decE (s.word p.seg p.off).1)]) rfl ?_)
   refine stp (zB2 (v := .agg #[.int .i64 ((decP (s.word p.seg p.off).1).kind), .int .i64 ((decP (s.word p.seg p.off).1).off), .int .i64 ((decP (s.word p.seg p.off).1).data), .int .i64 ((decP (s.word p.seg p.off).1).ptrs), .int .i64 ((decP (s.word p.seg p.off).1).size), .int .i64 ((decP (s.word p.seg p.off).1).count), .int .i64 ((decP (s.word p.seg p.off).1).seg), .bool ((decP (s.word p.seg p.off).1).dbl)]) rfl rfl ?_)
   refine stp (zB2 (v := .int .i64 (decE (s.word p.seg p.off).1)) rfl rfl ?_)
   refine stp (zD3 ?_)
   intro b33 w34 hb35 hc36 g37
   refine stn (zB1 rfl rfl hc36 (by rfl) (by rfl) (by rfl) ?_)
   intro w38 hc39 u40
   have g41 := g37.upd u40 hb35
   have hge42 := Nat.le_trans G.size hb35
   have ne43 := Nat.ne_of_lt (Nat.lt_of_lt_of_le (zA9 hc4) hb35)
   have ne44 := Nat.ne_of_lt (Nat.lt_of_lt_of_le (zA9 hc10) hb35)
   have ne45 := Nat.ne_of_lt (Nat.lt_of_lt_of_le (zA9 hc16) hb35)
   replace hc4 := g41.heap hc4
   replace hc10 := g41.heap hc10
   replace hc16 := g41.heap hc16
   replace G := G.tr g41
   clear u40 g37 hb35 hc36
   refine stp (zA0 rfl ?_)
   refine zA4 ?_
   refine zA6 ?_
   refine zA6 (zA1 rfl ?_)
   refine stp (zA2 rfl ?_)
   refine stp (zI9 rfl rfl ?_)
   refine zA4 ?_
   refine zB8 (b := (decide ((decE (s.word p.seg p.off).1) ≠ 0))) rfl (fun h3 => ?_) (fun h3 => ?_)
   ·-- true
    replace h3 := of_decide_eq_true h3
    refine zA6 (zA1 rfl ?_)
    refine stp (zD4 (v := .agg #[.int .i64 0, .int .i64 0, .int .i64 0, .int .i64 0, .int .i64 0, .int .i64 0, .int .i64 0]) (fun w => by kernel_rfl) ?_)
    refine stp (zA2 rfl ?_)
    refine stn (zB1 rfl rfl hc16 (by rfl) (by rfl) (by rfl) ?_)
    intro w46 hc47 u48
    replace hc4 := u48.heap hc4 ne19
    replace hc10 := u48.heap hc10 ne20
    replace hc39 := u48.heap hc39 ne45.symm
    replace G := G.upd u48 hge18
    clear u48 hc16
    refine stp (zA0 rfl ?_)
    refine zA4 ?_
    refine zC4 ?_
    refine ret2 (zC9 rfl hc47 (by rfl)) (zB3 (v := .int .i64 (decE (s.word p.seg p.off).1)) rfl) ⟨?_, G⟩
    have h9 : dblS s p = (Ob0, decE (s.word p.seg p.off).1) := by unfold dblS; rw [if_neg h1, if_neg h2, if_pos h3]
    rw [h9]; rfl
   ·-- false
    replace h3 := of_decide_eq_false h3
    refine zC3 ?_
    refine zA6 (zA1 rfl ?_)
    refine stp (zA2 rfl ?_)
    refine stp (zC0 (v := .tuple #[.agg #[.int .i64 ((decP (s.word p.seg (p.off + 1)).1).kind), .int .i64 ((decP (s.word p.seg (p.off + 1)).1).off), .int .i64 ((decP (s.word p.seg (p.off + 1)).1).data), .int .i64 ((decP (s.word p.seg (p.off + 1)).1).ptrs), .int .i64 ((decP (s.word p.seg (p.off + 1)).1).size), .int .i64 ((decP (s.word p.seg (p.off + 1)).1).count), .int .i64 ((decP (s.word p.seg (p.off + 1)).1).seg), .bool ((decP (s.word p.seg (p.off + 1)).1).dbl)], .int .i64 (decE (s.word p.seg (p.off + 1)).1)]) rfl (zH2 _ _ (H.num p.seg (p.off + 1)).1 (H.num p.seg (p.off + 1)).2.1) ?_)
    intro w49 g50
    replace hc4 := g50.heap hc4
    replace hc10 := g50.heap hc10
    replace hc16 := g50.heap hc16
    replace hc39 := g50.heap hc39
    replace G := G.tr g50
    clear g50
    refine stp (zB6 (v := .tuple #[.agg #[.int .i64 ((decP (s.word p.seg (p.off + 1)).1).kind), .int .i64 ((decP (s.word p.seg (p.off + 1)).1).off), .int .i64 ((decP (s.word p.seg (p.off + 1)).1).data), .int .i64 ((decP (s.word p.seg (p.off + 1)).1).ptrs), .int .i64 ((decP (s.word p.seg (p.off + 1)).1).size), .int .i64 ((decP (s.word p.seg (p.off + 1)).1).count), .int .i64 ((decP (s.word p.seg (p.off + 1)).1).seg), .bool ((decP (s.word p.seg (p.off + 1)).1).dbl)], .int .i64 (decE (s.word p.seg (p.off + 1)).1)]) rfl ?_)
    refine stp (zB2 (v := .agg #[.int .i64 ((decP (s.word p.seg (p.off + 1)).1).kind), .int .i64 ((decP (s.word p.seg (p.off + 1)).1).off), .int .i64 ((decP (s.word p.seg (p.off + 1)).1).data), .int .i64 ((decP (s.word p.seg (p.off + 1)).1).ptrs), .int .i64 ((decP (s.word p.seg (p.off + 1)).1).size), .int .i64 ((decP (s.word p.seg (p.off + 1)).1).count), .int .i64 ((decP (s.word p.seg (p.off + 1)).1).seg), .bool ((decP (s.word p.seg (p.off + 1)).1).dbl)]) rfl rfl ?_)
    refine stp (zB2 (v := .int .i64 (decE (s.word p.seg (p.off + 1)).1)) rfl rfl ?_)
    refine stp (zD3 ?_)
    intro b51 w52 hb53 hc54 g55
    refine stn (zB1 rfl rfl hc54 (by rfl) (by rfl) (by rfl) ?_)
    intro w56 hc57 u58
    have g59 := g55.upd u58 hb53
    have hge60 := Nat.le_trans G.size hb53
    have ne61 := Nat.ne_of_lt (Nat.lt_of_lt_of_le (zA9 hc4) hb53)
    have ne62 := Nat.ne_of_lt (Nat.lt_of_lt_of_le (zA9 hc10) hb53)
    have ne63 := Nat.ne_of_lt (Nat.lt_of_lt_of_le (zA9 hc16) hb53)
    have ne64 := Nat.ne_of_lt (Nat.lt_of_lt_of_le (zA9 hc39) hb53)
    replace hc4 := g59.heap hc4
    replace hc10 := g59.heap hc10
    replace hc16 := g59.heap hc16
    replace hc39 := g59.heap hc39
    replace G := G.tr g59
    clear u58 g55 hb53 hc54
    refine stp (zA0 rfl ?_)
    refine zA4 ?_
    refine zA6 ?_
    refine zA6 (zA1 rfl ?_)
    refine stp (zA2 rfl ?_)
    refine stp (zI9 rfl rfl ?_)
    refine zA4 ?_
    refine zB8 (b := (decide ((decE (s.word p.seg (p.off + 1)).1) ≠ 0))) rfl (fun h4 => ?_) (fun h4 => ?_)
    ·-- true
     replace h4 := of_decide_eq_true h4
     refine zA6 (zA1 rfl ?_)
     refine stp (zD4 (v := .agg #[.int .i64 0, .int .i64 0, .int .i64 0, .int .i64 0, .int .i64 0, .int .i64 0, .int .i64 0]) (fun w => by kernel_rfl) ?_)
     refine stp (zA2 rfl ?_)
     refine stn (zB1 rfl rfl hc16 (by rfl) (by rfl) (by rfl) ?_)
     intro w65 hc66 u67
     replace hc4 := u67.heap hc4 ne19
     replace hc10 := u67.heap hc10 ne20
     replace hc39 := u67.heap hc39 ne45.symm
     replace hc57 := u67.heap hc57 ne63.symm
     replace G := G.upd u67 hge18
     clear u67 hc16
     refine stp (zA0 rfl ?_)
     refine zA4 ?_
     refine zC4 ?_
     refine ret2 (zC9 rfl hc66 (by rfl)) (zB3 (v := .int .i64 (decE (s.word p.seg (p.off + 1)).1)) rfl) ⟨?_, G⟩
     have h9 : dblS s p = (Ob0, decE (s.word p.seg (p.off + 1)).1) := by unfold dblS; rw [if_neg h1, if_neg h2, if_neg h3, if_pos h4]
     rw [h9]; rfl
    ·-- false
     replace h4 := of_decide_eq_false h4
     refine zC3 ?_
     refine zA6 ?_
     refine zA6 (zA1 rfl ?_)
     refine stp (zA5 rfl ?_)
     refine stp (zB5 (v := .int .i64 ((decP (s.word p.seg p.off).1).kind)) rfl hc39 rfl ?_)
     refine stp (zI9 rfl rfl ?_)
     refine stp (zB9 rfl ?_)
     refine zA3 (zC2 (s := .bool (decide (((decP (s.word p.seg p.off).1).kind) ≠ 3))) (b := false) (v := .pointer (some ⟨b33, 7, none⟩)) rfl (zD1 _) (fun hc68 => ?_) ?_)
     ·
      have hc68_ := hc68
      try simp only [sb] at hc68_
      refine zA5 rfl ?_
      exact ⟨rfl, rfl⟩
     refine zA3 (zC2 (s := .bool (decide (((decP (s.word p.seg p.off).1).kind) ≠ 3))) (b := false) (v := .bool ((decP (s.word p.seg p.off).1).dbl)) rfl (zD1 _) (fun hc69 => ?_) ?_)
     ·
      have hc69_ := hc69
      try simp only [sb] at hc69_
      refine zB5 (v := .bool ((decP (s.word p.seg p.off).1).dbl)) (gvt hc69) hc39 rfl ?_
      exact ⟨rfl, rfl⟩
     refine stp (zI6 rfl rfl rfl ?_)
     refine stp (zB9 rfl ?_)
     refine zA3 (zC2 (s := .bool ((decide (((decP (s.word p.seg p.off).1).kind) ≠ 3)) || ((decP (s.word p.seg p.off).1).dbl))) (b := false) (v := .agg #[.int .i64 ((decP (s.word p.seg (p.off + 1)).1).kind), .int .i64 ((decP (s.word p.seg (p.off + 1)).1).off), .int .i64 ((decP (s.word p.seg (p.off + 1)).1).data), .int .i64 ((decP (s.word p.seg (p.off + 1)).1).ptrs), .int .i64 ((decP (s.word p.seg (p.off + 1)).1).size), .int .i64 ((decP (s.word p.seg (p.off + 1)).1).count), .int .i64 ((decP (s.word p.seg (p.off + 1)).1).seg), .bool ((decP (s.word p.seg (p.off + 1)).1).dbl)]) rfl (zD1 _) (fun hc70 => ?_) ?_)
     ·
      have hc70_ := hc70
      try simp only [sb] at hc70_
      refine zB4 rfl hc57 (by rfl) ?_
      exact ⟨rfl, rfl⟩
     refine zA3 (zR6 (s := .bool ((decide (((decP (s.word p.seg p.off).1).kind) ≠ 3)) || ((decP (s.word p.seg p.off).1).dbl))) (b := false) (v := .bool (nearP (decP (s.word p.seg (p.off + 1)).1))) rfl (zD1 _) (fun hc71 => ?_) ?_)
     ·
      have hc71_ := hc71
      try simp only [sb] at hc71_
      exact zL0 (l := ([.agg #[.int .i64 ((decP (s.word p.seg (p.off + 1)).1).kind), .int .i64 ((decP (s.word p.seg (p.off + 1)).1).off), .int .i64 ((decP (s.word p.seg (p.off + 1)).1).data), .int .i64 ((decP (s.word p.seg (p.off + 1)).1).ptrs), .int .i64 ((decP (s.word p.seg (p.off + 1)).1).size), .int .i64 ((decP (s.word p.seg (p.off + 1)).1).count), .int .i64 ((decP (s.word p.seg (p.off + 1)).1).seg), .bool ((decP (s.word p.seg (p.off + 1)).1).dbl)]] : List Value)) rfl (by show ([gv (!((decide (((decP (s.word p.seg p.off).1).kind) ≠ 3)) || ((decP (s.word p.seg p.off).1).dbl))) (.agg #[.int .i64 ((decP (s.word p.seg (p.off + 1)).1).kind), .int .i64 ((decP (s.word p.seg (p.off + 1)).1).off), .int .i64 ((decP (s.word p.seg (p.off + 1)).1).data), .int .i64 ((decP (s.word p.seg (p.off + 1)).1).ptrs), .int .i64 ((decP (s.word p.seg (p.off + 1)).1).size), .int .i64 ((decP (s.word p.seg (p.off + 1)).1).count), .int .i64 ((decP (s.word p.seg (p.off + 1)).1).seg), .bool ((decP (s.word p.seg (p.off + 1)).1).dbl)])] : List Value) = _; rw [gvt hc71]) (zS8 _ (decP (s.word p.seg (p.off + 1)).1)) (fun w2_ g2_ => ⟨rfl, g2_⟩)
     intro w72 g73
     replace hc4 := g73.heap hc4
     replace hc10 := g73.heap hc10
     replace hc16 := g73.heap hc16
     replace hc39 := g73.heap hc39
     replace hc57 := g73.heap hc57
     replace G := G.tr g73
     clear g73
     refine zA3 (zC2 (s := .bool ((decide (((decP (s.word p.seg p.off).1).kind) ≠ 3)) || ((decP (s.word p.seg p.off).1).dbl))) (b := false) (v := .bool (!(nearP (decP (s.word p.seg (p.off + 1)).1)))) rfl (zD1 _) (fun hc74 => ?_) ?_)
     ·
      have hc74_ := hc74
      try simp only [sb] at hc74_
      refine zN6 (gvt hc74) ?_
      exact ⟨rfl, rfl⟩
     refine stp (zI6 rfl rfl rfl ?_)
     refine stp (zB9 rfl ?_)
     refine zA3 (zC2 (s := .bool (((decide (((decP (s.word p.seg p.off).1).kind) ≠ 3)) || ((decP (s.word p.seg p.off).1).dbl)) || (!(nearP (decP (s.word p.seg (p.off + 1)).1))))) (b := false) (v := .pointer (some ⟨b51, 1, none⟩)) rfl (zD1 _) (fun hc75 => ?_) ?_)
     ·
      have hc75_ := hc75
      try simp only [sb] at hc75_
      refine zA5 rfl ?_
      exact ⟨rfl, rfl⟩
     refine zA3 (zC2 (s := .bool (((decide (((decP (s.word p.seg p.off).1).kind) ≠ 3)) || ((decP (s.word p.seg p.off).1).dbl)) || (!(nearP (decP (s.word p.seg (p.off + 1)).1))))) (b := false) (v := .int .i64 ((decP (s.word p.seg (p.off + 1)).1).off)) rfl (zD1 _) (fun hc76 => ?_) ?_)
     ·
      have hc76_ := hc76
      try simp only [sb] at hc76_
      refine zB5 (v := .int .i64 ((decP (s.word p.seg (p.off + 1)).1).off)) (gvt hc76) hc57 rfl ?_
      exact ⟨rfl, rfl⟩
     refine zA3 (zC2 (s := .bool (((decide (((decP (s.word p.seg p.off).1).kind) ≠ 3)) || ((decP (s.word p.seg p.off).1).dbl)) || (!(nearP (decP (s.word p.seg (p.off + 1)).1))))) (b := false) (v := .bool (decide (((decP (s.word p.seg (p.off + 1)).1).off) ≠ 0))) rfl (zD1 _) (fun hc77 => ?_) ?_)
     ·
      have hc77_ := hc77
      try simp only [sb] at hc77_
      refine zI9 (gvt hc77) rfl ?_
      exact ⟨rfl, rfl⟩
     refine stp (zI6 rfl rfl rfl ?_)
     refine zA4 ?_
     refine zB8 (b := ((((decide (((decP (s.word p.seg p.off).1).kind) ≠ 3)) || ((decP (s.word p.seg p.off).1).dbl)) || (!(nearP (decP (s.word p.seg (p.off + 1)).1)))) || (decide (((decP (s.word p.seg (p.off + 1)).1).off) ≠ 0)))) rfl (fun h5 => ?_) (fun h5 => ?_)
     ·-- true
      simp only [sb] at h5
      have h8 : (decP (s.word p.seg p.off).1).kind ≠ 3 ∨ (decP (s.word p.seg p.off).1).dbl = true ∨ nearP (decP (s.word p.seg (p.off + 1)).1) = false ∨ (decP (s.word p.seg (p.off + 1)).1).off ≠ 0 := by simpa [or_assoc] using h5
      refine zA6 (zA1 rfl ?_)
      refine stp (zD4 (v := .agg #[.int .i64 0, .int .i64 0, .int .i64 0, .int .i64 0, .int .i64 0, .int .i64 0, .int .i64 0]) (fun w => by kernel_rfl) ?_)
      refine stn (zB1 rfl rfl hc16 (by rfl) (by rfl) (by rfl) ?_)
      intro w78 hc79 u80
      replace hc4 := u80.heap hc4 ne19
      replace hc10 := u80.heap hc10 ne20
      replace hc39 := u80.heap hc39 ne45.symm
      replace hc57 := u80.heap hc57 ne63.symm
      replace G := G.upd u80 hge18
      clear u80 hc16
      refine stp (zA0 rfl ?_)
      refine zA4 ?_
      refine zC4 ?_
      refine ret2 (zC9 rfl hc79 (by rfl)) (zB3 (v := .int .i64 23) rfl) ⟨?_, G⟩
      have h9 : dblS s p = (Ob0, 23) := by unfold dblS; rw [if_neg h1, if_neg h2, if_neg h3, if_neg h4, if_pos h8]
      rw [h9]; rfl
     ·-- false
      simp only [sb] at h5
      have h8 : ¬ ((decP (s.word p.seg p.off).1).kind ≠ 3 ∨ (decP (s.word p.seg p.off).1).dbl = true ∨ nearP (decP (s.word p.seg (p.off + 1)).1) = false ∨ (decP (s.word p.seg (p.off + 1)).1).off ≠ 0) := by simpa [and_assoc] using h5
      refine zC3 ?_
      refine zA6 (zA1 rfl ?_)
      refine stp (zB4 rfl hc57 (by rfl) ?_)
      refine stp (zA5 rfl ?_)
      refine stp (zB5 (v := .int .i64 ((decP (s.word p.seg p.off).1).seg)) rfl hc39 rfl ?_)
      refine stp (zA5 rfl ?_)
      refine stp (zB5 (v := .int .i64 ((decP (s.word p.seg p.off).1).off)) rfl hc39 rfl ?_)
      refine stp (zC0 (v := .agg #[.int .i64 ((objP (decP (s.word p.seg (p.off + 1)).1) ((decP (s.word p.seg p.off).1).seg) ((decP (s.word p.seg p.off).1).off)).kind), .int .i64 ((objP (decP (s.word p.seg (p.off + 1)).1) ((decP (s.word p.seg p.off).1).seg) ((decP (s.word p.seg p.off).1).off)).seg), .int .i64 ((objP (decP (s.word p.seg (p.off + 1)).1) ((decP (s.word p.seg p.off).1).seg) ((decP (s.word p.seg p.off).1).off)).at_), .int .i64 ((objP (decP (s.word p.seg (p.off + 1)).1) ((decP (s.word p.seg p.off).1).seg) ((decP (s.word p.seg p.off).1).off)).data), .int .i64 ((objP (decP (s.word p.seg (p.off + 1)).1) ((decP (s.word p.seg p.off).1).seg) ((decP (s.word p.seg p.off).1).off)).ptrs), .int .i64 ((objP (decP (s.word p.seg (p.off + 1)).1) ((decP (s.word p.seg p.off).1).seg) ((decP (s.word p.seg p.off).1).off)).size), .int .i64 ((objP (decP (s.word p.seg (p.off + 1)).1) ((decP (s.word p.seg p.off).1).seg) ((decP (s.word p.seg p.off).1).off)).count)]) rfl (zY2 _ (decP (s.word p.seg (p.off + 1)).1) ((decP (s.word p.seg p.off).1).seg) ((decP (s.word p.seg p.off).1).off)) ?_)
      intro w81 g82
      replace hc4 := g82.heap hc4
      replace hc10 := g82.heap hc10
      replace hc16 := g82.heap hc16
      replace hc39 := g82.heap hc39
      replace hc57 := g82.heap hc57
      replace G := G.tr g82
      clear g82
      refine stn (zB1 rfl rfl hc16 (by rfl) (by rfl) (by rfl) ?_)
      intro w83 hc84 u85
      replace hc4 := u85.heap hc4 ne19
      replace hc10 := u85.heap hc10 ne20
      replace hc39 := u85.heap hc39 ne45.symm
      replace hc57 := u85.heap hc57 ne63.symm
      replace G := G.upd u85 hge18
      clear u85 hc16
      refine stp (zA0 rfl ?_)
      refine zA4 ?_
      refine zC4 ?_
      refine ret2 (zC9 rfl hc84 (by rfl)) (zB3 (v := .int .i64 0) rfl) ⟨?_, G⟩
      have h9 : dblS s p = (objP (decP (s.word p.seg (p.off + 1)).1) (decP (s.word p.seg p.off).1).seg (decP (s.word p.seg p.off).1).off, 0) := by unfold dblS; rw [if_neg h1, if_neg h2, if_neg h3, if_neg h4, if_neg h8]
      rw [h9]

set_option maxRecDepth 100000 in
theorem zR1 (w : World) {ua uh : Value} {b : Bool} {A : List (List Int)} {s : Src} (H : SrcR Tryz.prog 110 w ua b uh A s) (seg a : Int) (g1 : inR .i64 seg) (g2 : inR .i64 a) : Gives Tryz.prog 29 #[.agg #[ua, .bool b, uh], .int .i64 seg, .int .i64 a] w (.tuple #[.agg #[.int .i64 ((followS s seg a).1.kind), .int .i64 ((followS s seg a).1.seg), .int .i64 ((followS s seg a).1.at_), .int .i64 ((followS s seg a).1.data), .int .i64 ((followS s seg a).1.ptrs), .int .i64 ((followS s seg a).1.size), .int .i64 ((followS s seg a).1.count)], .int .i64 ((followS s seg a).2)]) := by
 have g1' := g1
 have g2' := g2
 simp only [inR] at g1 g2
 have hq := H.ptr_range seg a
 have hqo := hq.off
 have hqs := hq.seg
 have hqf := hq.far
 have G := Grow.rfl' w
 refine zC7 Tryz.func29 Tryz.ntmps29 Tryz.results29 rfl rfl ?_
 refine zA6 (zA1 rfl ?_)
 refine zA3 (og rfl ?_)
 (first | refine zD0 rfl ?_ | refine zD2 rfl ?_ | refine zC5 rfl ?_ | refine zH0 rfl rfl ?_)
 intro b1 w2 hb3 hc4 g5
 have hge6 := Nat.le_trans G.size hb3
 replace G := G.tr g5
 clear g5 hb3
 refine stp (zD3 ?_)
 intro b7 w8 hb9 hc10 g11
 refine stp (zA0 rfl ?_)
 refine zA4 ?_
 refine zA6 (zA1 rfl ?_)
 have hge12 := Nat.le_trans G.size hb9
 have ne13 := Nat.ne_of_lt (Nat.lt_of_lt_of_le (zA9 hc4) hb9)
 replace hc4 := g11.heap hc4
 replace G := G.tr g11
 clear g11 hb9
 refine stp (zB4 rfl hc4 (by rfl) ?_)
 refine stp (zA2 rfl ?_)
 refine stp (zA2 rfl ?_)
 refine stp (zC0 (v := .tuple #[.agg #[.int .i64 ((ptrS s seg a).1.kind), .int .i64 ((ptrS s seg a).1.off), .int .i64 ((ptrS s seg a).1.data), .int .i64 ((ptrS s seg a).1.ptrs), .int .i64 ((ptrS s seg a).1.size), .int .i64 ((ptrS s seg a).1.count), .int .i64 ((ptrS s seg a).1.seg), .bool ((ptrS s seg a).1.dbl)], .int .i64 ((ptrS s seg a).2)]) rfl (qF8 _ (H.grow G) seg a (by simp only [inR]; omega) (by simp only [inR]; omega)) ?_)
 intro w14 g15
 replace hc4 := g15.heap hc4
 replace hc10 := g15.heap hc10
 replace G := G.tr g15
 clear g15
 refine stp (zB6 (v := .tuple #[.agg #[.int .i64 ((ptrS s seg a).1.kind), .int .i64 ((ptrS s seg a).1.off), .int .i64 ((ptrS s seg a).1.data), .int .i64 ((ptrS s seg a).1.ptrs), .int .i64 ((ptrS s seg a).1.size), .int .i64 ((ptrS s seg a).1.count), .int .i64 ((ptrS s seg a).1.seg), .bool ((ptrS s seg a).1.dbl)], .int .i64 ((ptrS s seg a).2)]) rfl ?_)
 refine stp (zB2 (v := .agg #[.int .i64 ((ptrS s seg a).1.kind), .int .i64 ((ptrS s seg a).1.off), .int .i64 ((ptrS s seg a).1.data), .int .i64 ((ptrS s seg a).1.ptrs), .int .i64 ((ptrS s seg a).1.size), .int .i64 ((ptrS s seg a).1.count), .int .i64 ((ptrS s seg a).1.seg), .bool ((ptrS s seg a).1.dbl)]) rfl rfl ?_)
 refine stp (zB2 (v := .int .i64 ((ptrS s seg a).2)) rfl rfl ?_)
 refine stp (zD3 ?_)
 intro b16 w17 hb18 hc19 g20
 refine stn (zB1 rfl rfl hc19 (by rfl) (by rfl) (by rfl) ?_)
 intro w21 hc22 u23
 have g24 := g20.upd u23 hb18
 have hge25 := Nat.le_trans G.size hb18
 have ne26 := Nat.ne_of_lt (Nat.lt_of_lt_of_le (zA9 hc4) hb18)
 have ne27 := Nat.ne_of_lt (Nat.lt_of_lt_of_le (zA9 hc10) hb18)
 replace hc4 := g24.heap hc4
 replace hc10 := g24.heap hc10
 replace G := G.tr g24
 clear u23 g20 hb18 hc19
 refine stp (zA0 rfl ?_)
 refine zA4 ?_
 refine zA6 ?_
 refine zA6 (zA1 rfl ?_)
 refine stp (zA2 rfl ?_)
 refine stp (zI9 rfl rfl ?_)
 refine stp (zB9 rfl ?_)
 refine zA3 (zC2 (s := .bool (decide (((ptrS s seg a).2) ≠ 0))) (b := false) (v := .pointer (some ⟨b16, 0, none⟩)) rfl (zD1 _) (fun hc28 => ?_) ?_)
 ·
  have hc28_ := hc28
  try simp only [sb] at hc28_
  refine zA5 rfl ?_
  exact ⟨rfl, rfl⟩
 refine zA3 (zC2 (s := .bool (decide (((ptrS s seg a).2) ≠ 0))) (b := false) (v := .int .i64 ((ptrS s seg a).1.kind)) rfl (zD1 _) (fun hc29 => ?_) ?_)
 ·
  have hc29_ := hc29
  try simp only [sb] at hc29_
  refine zB5 (v := .int .i64 ((ptrS s seg a).1.kind)) (gvt hc29) hc22 rfl ?_
  exact ⟨rfl, rfl⟩
 refine zA3 (zC2 (s := .bool (decide (((ptrS s seg a).2) ≠ 0))) (b := false) (v := .bool (decide (((ptrS s seg a).1.kind) = 0))) rfl (zD1 _) (fun hc30 => ?_) ?_)
 ·
  have hc30_ := hc30
  try simp only [sb] at hc30_
  refine zE9 (gvt hc30) rfl ?_
  exact ⟨rfl, rfl⟩
 refine stp (zI6 rfl rfl rfl ?_)
 refine zA4 ?_
 refine zB8 (b := ((decide (((ptrS s seg a).2) ≠ 0)) || (decide (((ptrS s seg a).1.kind) = 0)))) rfl (fun h1 => ?_) (fun h1 => ?_)
 ·-- true
  simp only [sb] at h1
  refine zA6 (zA1 rfl ?_)
  refine stp (zD4 (v := .agg #[.int .i64 0, .int .i64 0, .int .i64 0, .int .i64 0, .int .i64 0, .int .i64 0, .int .i64 0]) (fun w => by kernel_rfl) ?_)
  refine stp (zA2 rfl ?_)
  refine stn (zB1 rfl rfl hc10 (by rfl) (by rfl) (by rfl) ?_)
  intro w31 hc32 u33
  replace hc4 := u33.heap hc4 ne13
  replace hc22 := u33.heap hc22 ne27.symm
  replace G := G.upd u33 hge12
  clear u33 hc10
  refine stp (zA0 rfl ?_)
  refine zA4 ?_
  refine zC4 ?_
  refine ret2 (zC9 rfl hc32 (by rfl)) (zB3 (v := .int .i64 ((ptrS s seg a).2)) rfl) ⟨?_, G⟩
  have h9 : followS s seg a = (Ob0, (ptrS s seg a).2) := by unfold followS; rw [if_pos h1]
  rw [h9]; rfl
 ·-- false
  simp only [sb] at h1
  have hz : (ptrS s seg a).2 = 0 := by omega
  have hb := H.ptr_at hz
  have h1n : ¬ ((ptrS s seg a).2 ≠ 0 ∨ (ptrS s seg a).1.kind = 0) := by omega
  refine zC3 ?_
  refine zA6 ?_
  refine zA6 (zA1 rfl ?_)
  refine stp (zB4 rfl hc22 (by rfl) ?_)
  refine stp (zC0 (v := .bool (nearP ((ptrS s seg a).1))) rfl (zS8 _ ((ptrS s seg a).1)) ?_)
  intro w34 g35
  replace hc4 := g35.heap hc4
  replace hc10 := g35.heap hc10
  replace hc22 := g35.heap hc22
  replace G := G.tr g35
  clear g35
  refine zA4 ?_
  refine zB8 (b := (nearP ((ptrS s seg a).1))) rfl (fun h2 => ?_) (fun h2 => ?_)
  ·-- true
   have hsz36 : w34.heap.size ≤ w34.heap.size := Nat.le_refl _
   have ltf36_hc4 := zA9 hc4
   have ltf36_hc10 := zA9 hc10
   have ltf36_hc22 := zA9 hc22
   have hgz36 := G.size
   refine zA6 ?_
   have kb_hc4 : ∀ w_, (ktR 93 w34.heap.size).r w34 w_ → w_.heap[b1]? = some (.cells #[ua, .bool b, uh] 90 (0, 0)) := fun w_ k_ => (KtP.to_grow k_ (Grow.rfl' _)).heap hc4
   have kb_hc10 : ∀ w_, (ktR 93 w34.heap.size).r w34 w_ → w_.heap[b7]? = some (.cells #[.int .i64 0, .int .i64 0, .int .i64 0, .int .i64 0, .int .i64 0, .int .i64 0, .int .i64 0] 93 (0, 0)) := fun w_ k_ => (KtP.to_grow k_ (Grow.rfl' _)).heap hc10
   have kb_hc22 : ∀ w_, (ktR 93 w34.heap.size).r w34 w_ → w_.heap[b16]? = some (.cells #[.int .i64 ((ptrS s seg a).1.kind), .int .i64 ((ptrS s seg a).1.off), .int .i64 ((ptrS s seg a).1.data), .int .i64 ((ptrS s seg a).1.ptrs), .int .i64 ((ptrS s seg a).1.size), .int .i64 ((ptrS s seg a).1.count), .int .i64 ((ptrS s seg a).1.seg), .bool ((ptrS s seg a).1.dbl)] 77 (0, 0)) := fun w_ k_ => (KtP.to_grow k_ (Grow.rfl' _)).heap hc22
   have kb_hsz36 : ∀ w_, (ktR 93 w34.heap.size).r w34 w_ → w34.heap.size ≤ w_.heap.size := fun w_ k_ => Nat.le_trans hsz36 (KtP.to_grow k_ (Grow.rfl' _)).size
   have kb_G : ∀ w_, (ktR 93 w34.heap.size).r w34 w_ → Grow w w_ := fun w_ k_ => G.tr (KtP.to_grow k_ (Grow.rfl' _))
   refine qL9 15 [[], [], [], [], [0], [], [0], [3, 2, 1, 0], [6, 5, 4, 3, 2, 1, 0], [8, 7, 6, 5, 4, 3, 2, 1, 0], [9, 8, 7, 6, 5, 4, 3, 2, 1, 0], [10, 9, 8, 7, 6, 5, 4, 3, 2, 1, 0], [11, 10, 9, 8, 7, 6, 5, 4, 3, 2, 1], [], [13, 12, 11, 10, 9, 8, 7, 6, 5, 4, 3, 2, 0]] [14] [10] (grQ (ktR 93 w34.heap.size)) (fun k_ e_ w_ => match k_ with | 0 => True | _ => ∃ b : Nat, e_ 10 = .pointer (some ⟨b, 0, none⟩) ∧ w34.heap.size ≤ b ∧ w_.heap[b]? = some (.cells #[.int .i64 ((bndS s (objP (ptrS s seg a).1 seg (a + 1 + (ptrS s seg a).1.off))).1.kind), .int .i64 ((bndS s (objP (ptrS s seg a).1 seg (a + 1 + (ptrS s seg a).1.off))).1.seg), .int .i64 ((bndS s (objP (ptrS s seg a).1 seg (a + 1 + (ptrS s seg a).1.off))).1.at_), .int .i64 ((bndS s (objP (ptrS s seg a).1 seg (a + 1 + (ptrS s seg a).1.off))).1.data), .int .i64 ((bndS s (objP (ptrS s seg a).1 seg (a + 1 + (ptrS s seg a).1.off))).1.ptrs), .int .i64 ((bndS s (objP (ptrS s seg a).1 seg (a + 1 + (ptrS s seg a).1.off))).1.size), .int .i64 ((bndS s (objP (ptrS s seg a).1 seg (a + 1 + (ptrS s seg a).1.off))).1.count)] 93 (0, 0))) mixed (by kernel_rfl) (by kernel_rfl) (by kernel_rfl) (by kernel_rfl) (by kernel_rfl) (fun k_ _ _ _ g_ h_ => match k_, h_ with | 0, _ => trivial | _ + 1, ⟨b_, h1_, h2_, h3_⟩ => ⟨b_, h1_, h2_, g_.heap h3_⟩) (fun k_ _ _ _ hu_ h_ => match k_, h_ with | 0, _ => trivial | _ + 1, ⟨b_, h1_, h2_, h3_⟩ => ⟨b_, (hu_ _ (by simp)).symm.trans h1_, h2_, h3_⟩) (fun _ _ _ h_ => h_) (fun _ _ => trivial) ?_
   intro w37 g38
   replace kb_hc4 : ∀ w_, (ktR 93 w34.heap.size).r w37 w_ → w_.heap[b1]? = some (.cells #[ua, .bool b, uh] 90 (0, 0)) := fun w_ k_ => kb_hc4 w_ ((ktR 93 w34.heap.size).tr ((ktR 93 w34.heap.size).grow g38) k_)
   replace kb_hc10 : ∀ w_, (ktR 93 w34.heap.size).r w37 w_ → w_.heap[b7]? = some (.cells #[.int .i64 0, .int .i64 0, .int .i64 0, .int .i64 0, .int .i64 0, .int .i64 0, .int .i64 0] 93 (0, 0)) := fun w_ k_ => kb_hc10 w_ ((ktR 93 w34.heap.size).tr ((ktR 93 w34.heap.size).grow g38) k_)
   replace kb_hc22 : ∀ w_, (ktR 93 w34.heap.size).r w37 w_ → w_.heap[b16]? = some (.cells #[.int .i64 ((ptrS s seg a).1.kind), .int .i64 ((ptrS s seg a).1.off), .int .i64 ((ptrS s seg a).1.data), .int .i64 ((ptrS s seg a).1.ptrs), .int .i64 ((ptrS s seg a).1.size), .int .i64 ((ptrS s seg a).1.count), .int .i64 ((ptrS s seg a).1.seg), .bool ((ptrS s seg a).1.dbl)] 77 (0, 0)) := fun w_ k_ => kb_hc22 w_ ((ktR 93 w34.heap.size).tr ((ktR 93 w34.heap.size).grow g38) k_)
   replace kb_hsz36 : ∀ w_, (ktR 93 w34.heap.size).r w37 w_ → w34.heap.size ≤ w_.heap.size := fun w_ k_ => kb_hsz36 w_ ((ktR 93 w34.heap.size).tr ((ktR 93 w34.heap.size).grow g38) k_)
   replace kb_G : ∀ w_, (ktR 93 w34.heap.size).r w37 w_ → Grow w w_ := fun w_ k_ => kb_G w_ ((ktR 93 w34.heap.size).tr ((ktR 93 w34.heap.size).grow g38) k_)
   have k0_ : (ktR 93 w34.heap.size).r w34 w37 := ((ktR 93 w34.heap.size).grow g38)
   apply zF5 (hm := by rfl)
   ·intro w_ g_; refine og rfl ?_; refine zB4 rfl (kb_hc4 _ g_) (by rfl) ?_; exact ⟨Grow.rfl' _, rfl⟩
   apply zF5 (hm := by rfl)
   ·intro w_ g_; refine og rfl ?_; refine zB4 rfl (kb_hc22 _ g_) (by rfl) ?_; exact ⟨Grow.rfl' _, rfl⟩
   apply zF5 (hm := by rfl)
   ·intro w_ g_; refine og rfl ?_; refine zA2 rfl ?_; exact ⟨Grow.rfl' _, rfl⟩
   apply zF5 (hm := by rfl)
   ·intro w_ g_; refine og rfl ?_; refine zA2 rfl ?_; exact ⟨Grow.rfl' _, rfl⟩
   apply zF5 (hm := by rfl)
   ·intro w_ g_; refine og rfl ?_; refine zD8 rfl rfl ?_ ?_; constructor <;> omega; exact ⟨Grow.rfl' _, rfl⟩
   apply zF5 (hm := by rfl)
   ·intro w_ g_; refine og rfl ?_; refine zA5 rfl ?_; exact ⟨Grow.rfl' _, rfl⟩
   apply zF5 (hm := by rfl)
   ·intro w_ g_; refine og rfl ?_; refine zB5 (v := .int .i64 ((ptrS s seg a).1.off)) rfl (kb_hc22 _ g_) rfl ?_; exact ⟨Grow.rfl' _, rfl⟩
   apply zF5 (hm := by rfl)
   ·intro w_ g_; refine og rfl ?_; refine zD8 rfl rfl ?_ ?_; constructor <;> omega; exact ⟨Grow.rfl' _, rfl⟩
   apply zF5 (hm := by rfl)
   ·intro w_ g_; refine og rfl ?_; exact zC0 (v := .agg #[.int .i64 ((objP ((ptrS s seg a).1) seg ((a + 1) + ((ptrS s seg a).1.off))).kind), .int .i64 ((objP ((ptrS s seg a).1) seg ((a + 1) + ((ptrS s seg a).1.off))).seg), .int .i64 ((objP ((ptrS s seg a).1) seg ((a + 1) + ((ptrS s seg a).1.off))).at_), .int .i64 ((objP ((ptrS s seg a).1) seg ((a + 1) + ((ptrS s seg a).1.off))).data), .int .i64 ((objP ((ptrS s seg a).1) seg ((a + 1) + ((ptrS s seg a).1.off))).ptrs), .int .i64 ((objP ((ptrS s seg a).1) seg ((a + 1) + ((ptrS s seg a).1.off))).size), .int .i64 ((objP ((ptrS s seg a).1) seg ((a + 1) + ((ptrS s seg a).1.off))).count)]) rfl (zY2 _ ((ptrS s seg a).1) seg ((a + 1) + ((ptrS s seg a).1.off))) (fun w2_ g2_ => ⟨g2_, rfl⟩)
   apply zF5 (hm := by rfl)
   ·intro w_ g_; refine og rfl ?_; exact zC0 (v := .tuple #[.agg #[.int .i64 ((bndS s (objP ((ptrS s seg a).1) seg ((a + 1) + ((ptrS s seg a).1.off)))).1.kind), .int .i64 ((bndS s (objP ((ptrS s seg a).1) seg ((a + 1) + ((ptrS s seg a).1.off)))).1.seg), .int .i64 ((bndS s (objP ((ptrS s seg a).1) seg ((a + 1) + ((ptrS s seg a).1.off)))).1.at_), .int .i64 ((bndS s (objP ((ptrS s seg a).1) seg ((a + 1) + ((ptrS s seg a).1.off)))).1.data), .int .i64 ((bndS s (objP ((ptrS s seg a).1) seg ((a + 1) + ((ptrS s seg a).1.off)))).1.ptrs), .int .i64 ((bndS s (objP ((ptrS s seg a).1) seg ((a + 1) + ((ptrS s seg a).1.off)))).1.size), .int .i64 ((bndS s (objP ((ptrS s seg a).1) seg ((a + 1) + ((ptrS s seg a).1.off)))).1.count)], .int .i64 ((bndS s (objP ((ptrS s seg a).1) seg ((a + 1) + ((ptrS s seg a).1.off)))).2)]) rfl (zR0 _ (H.grow (kb_G _ g_)) (objP ((ptrS s seg a).1) seg ((a + 1) + ((ptrS s seg a).1.off))) (yD1 hq g1' (by simp only [inR]; omega))) (fun w2_ g2_ => ⟨g2_, rfl⟩)
   apply zF5 (hm := by rfl)
   ·intro w_ g_; refine og rfl ?_; refine zB6 (v := .tuple #[.agg #[.int .i64 ((bndS s (objP ((ptrS s seg a).1) seg ((a + 1) + ((ptrS s seg a).1.off)))).1.kind), .int .i64 ((bndS s (objP ((ptrS s seg a).1) seg ((a + 1) + ((ptrS s seg a).1.off)))).1.seg), .int .i64 ((bndS s (objP ((ptrS s seg a).1) seg ((a + 1) + ((ptrS s seg a).1.off)))).1.at_), .int .i64 ((bndS s (objP ((ptrS s seg a).1) seg ((a + 1) + ((ptrS s seg a).1.off)))).1.data), .int .i64 ((bndS s (objP ((ptrS s seg a).1) seg ((a + 1) + ((ptrS s seg a).1.off)))).1.ptrs), .int .i64 ((bndS s (objP ((ptrS s seg a).1) seg ((a + 1) + ((ptrS s seg a).1.off)))).1.size), .int .i64 ((bndS s (objP ((ptrS s seg a).1) seg ((a + 1) + ((ptrS s seg a).1.off)))).1.count)], .int .i64 ((bndS s (objP ((ptrS s seg a).1) seg ((a + 1) + ((ptrS s seg a).1.off)))).2)]) rfl ?_; exact ⟨Grow.rfl' _, rfl⟩
   apply zF5 (hm := by rfl)
   ·intro w_ g_; refine og rfl ?_; refine zB2 (v := .agg #[.int .i64 ((bndS s (objP ((ptrS s seg a).1) seg ((a + 1) + ((ptrS s seg a).1.off)))).1.kind), .int .i64 ((bndS s (objP ((ptrS s seg a).1) seg ((a + 1) + ((ptrS s seg a).1.off)))).1.seg), .int .i64 ((bndS s (objP ((ptrS s seg a).1) seg ((a + 1) + ((ptrS s seg a).1.off)))).1.at_), .int .i64 ((bndS s (objP ((ptrS s seg a).1) seg ((a + 1) + ((ptrS s seg a).1.off)))).1.data), .int .i64 ((bndS s (objP ((ptrS s seg a).1) seg ((a + 1) + ((ptrS s seg a).1.off)))).1.ptrs), .int .i64 ((bndS s (objP ((ptrS s seg a).1) seg ((a + 1) + ((ptrS s seg a).1.off)))).1.size), .int .i64 ((bndS s (objP ((ptrS s seg a).1) seg ((a + 1) + ((ptrS s seg a).1.off)))).1.count)]) rfl rfl ?_; exact ⟨Grow.rfl' _, rfl⟩
   apply zF5 (hm := by rfl)
   ·intro w_ g_; refine og rfl ?_; refine zB2 (v := .int .i64 ((bndS s (objP ((ptrS s seg a).1) seg ((a + 1) + ((ptrS s seg a).1.off)))).2)) rfl rfl ?_; exact ⟨Grow.rfl' _, rfl⟩
   refine zS7 (fun w_ v_ => ∃ b cs, v_ = .pointer (some ⟨b, 0, none⟩) ∧ w34.heap.size ≤ b ∧ cs.size = 7 ∧ w_.heap[b]? = some (.cells cs 93 (0, 0))) (fun _ _ _ g_ ⟨b, cs, h1_, h2_, h3_, h4_⟩ => by obtain ⟨cs2, h5_, h6_⟩ := KtP.new g_ b cs h4_; exact ⟨b, cs2, h1_, h2_, h5_.trans h3_, h6_⟩) (by rfl) ?_ ?_
   ·intro w_ g_
    refine og rfl ?_
    refine zD3 ?_
    intro b_ w2_ hb_ hc_ g2_
    exact ⟨g2_, b_, _, rfl, Nat.le_trans (kb_hsz36 _ g_) hb_, rfl, hc_⟩
   apply qC5 0 (hm := by rfl)
   ·intro w_ g_
    intro v13_ hv13_
    intro s_
    show OpG _ _ _ _ _ _
    refine og rfl ?_
    obtain ⟨b_, cs_, rfl, hge_, hsz_, hb_⟩ := hv13_
    refine zB1 rfl rfl hb_ (by rfl) hsz_ (by rfl) ?_
    intro w2_ s2_ u_
    exact ⟨KtP.of_upd u_ hge_ hb_ s2_ hsz_.symm, ⟨b_, rfl, hge_, s2_⟩, rfl⟩
   refine qC6 ?_
   intro w39 g40
   replace k0_ := ((ktR 93 w34.heap.size).tr k0_ g40)
   replace hc4 := kb_hc4 _ g40
   clear kb_hc4
   replace hc10 := kb_hc10 _ g40
   clear kb_hc10
   replace hc22 := kb_hc22 _ g40
   clear kb_hc22
   replace hsz36 := kb_hsz36 _ g40
   clear kb_hsz36
   replace G := kb_G _ g40
   clear kb_G
   intro v_x36 hv_x36
   rintro ⟨bx36, hbe36, hge36, hc36⟩
   have hbv36 : v_x36 = .pointer (some ⟨bx36, 0, none⟩) := hbe36
   subst hbv36
   clear hv_x36 hbe36
   have hgx36 := Nat.le_trans hgz36 hge36
   refine stp (zA0 rfl ?_)
   refine zA4 ?_
   refine zA6 (zA1 rfl ?_)
   refine stp (zB4 rfl hc36 (by rfl) ?_)
   refine stp (zA2 rfl ?_)
   refine stn (zB1 rfl rfl hc10 (by rfl) (by rfl) (by rfl) ?_)
   intro w41 hc42 u43
   replace hc4 := u43.heap hc4 ne13
   replace hc22 := u43.heap hc22 ne27.symm
   replace hc36 := u43.heap hc36 (Nat.ne_of_lt (Nat.lt_of_lt_of_le ltf36_hc10 hge36)).symm
   replace G := G.upd u43 hge12
   clear u43 hc10
   refine stp (zA0 rfl ?_)
   refine zA4 ?_
   refine zC4 ?_
   refine ret2 (zC9 rfl hc42 (by rfl)) (zB3 (v := .int .i64 ((bndS s (objP ((ptrS s seg a).1) seg ((a + 1) + ((ptrS s seg a).1.off)))).2)) rfl) ⟨?_, G⟩
   have h9 : followS s seg a = bndS s (objP (ptrS s seg a).1 seg (a + 1 + (ptrS s seg a).1.off)) := by unfold followS; rw [if_neg h1n, if_pos h2, qM1]
   rw [h9]
  ·-- false
   refine zC3 ?_
   refine zA6 ?_
   refine zA6 (zA1 rfl ?_)
   refine stp (zA5 rfl ?_)
   refine stp (zB5 (v := .bool ((ptrS s seg a).1.dbl)) rfl hc22 rfl ?_)
   refine zA4 ?_
   refine zB8 (b := ((ptrS s seg a).1.dbl)) rfl (fun h3 => ?_) (fun h3 => ?_)
   ·-- true
    refine zA6 (zA1 rfl ?_)
    refine stp (zB4 rfl hc4 (by rfl) ?_)
    refine stp (zB4 rfl hc22 (by rfl) ?_)
    refine stp (zC0 (v := .tuple #[.agg #[.int .i64 ((dblS s (ptrS s seg a).1).1.kind), .int .i64 ((dblS s (ptrS s seg a).1).1.seg), .int .i64 ((dblS s (ptrS s seg a).1).1.at_), .int .i64 ((dblS s (ptrS s seg a).1).1.data), .int .i64 ((dblS s (ptrS s seg a).1).1.ptrs), .int .i64 ((dblS s (ptrS s seg a).1).1.size), .int .i64 ((dblS s (ptrS s seg a).1).1.count)], .int .i64 ((dblS s (ptrS s seg a).1).2)]) rfl (qI6 _ (H.grow G) (ptrS s seg a).1 hq) ?_)
    intro w44 g45
    replace hc4 := g45.heap hc4
    replace hc10 := g45.heap hc10
    replace hc22 := g45.heap hc22
    replace G := G.tr g45
    clear g45
    refine stp (zB6 (v := .tuple #[.agg #[.int .i64 ((dblS s (ptrS s seg a).1).1.kind), .int .i64 ((dblS s (ptrS s seg a).1).1.seg), .int .i64 ((dblS s (ptrS s seg a).1).1.at_), .int .i64 ((dblS s (ptrS s seg a).1).1.data), .int .i64 ((dblS s (ptrS s seg a).1).1.ptrs), .int .i64 ((dblS s (ptrS s seg a).1).1.size), .int .i64 ((dblS s (ptrS s seg a).1).1.count)], .int .i64 ((dblS s (ptrS s seg a).1).2)]) rfl ?_)
    refine stp (zB2 (v := .agg #[.int .i64 ((dblS s (ptrS s seg a).1).1.kind), .int .i64 ((dblS s (ptrS s seg a).1).1.seg), .int .i64 ((dblS s (ptrS s seg a).1).1.at_), .int .i64 ((dblS s (ptrS s seg a).1).1.data), .int .i64 ((dblS s (ptrS s seg a).1).1.ptrs), .int .i64 ((dblS s (ptrS s seg a).1).1.size), .int .i64 ((dblS s (ptrS s seg a).1).1.count)]) rfl rfl ?_)
    refine stp (zB2 (v := .int .i64 ((dblS s (ptrS s seg a).1).2)) rfl rfl ?_)
    refine stp (zD3 ?_)
    intro b46 w47 hb48 hc49 g50
    refine stn (zB1 rfl rfl hc49 (by rfl) (by rfl) (by rfl) ?_)
    intro w51 hc52 u53
    have g54 := g50.upd u53 hb48
    have hge55 := Nat.le_trans G.size hb48
    have ne56 := Nat.ne_of_lt (Nat.lt_of_lt_of_le (zA9 hc4) hb48)
    have ne57 := Nat.ne_of_lt (Nat.lt_of_lt_of_le (zA9 hc10) hb48)
    have ne58 := Nat.ne_of_lt (Nat.lt_of_lt_of_le (zA9 hc22) hb48)
    replace hc4 := g54.heap hc4
    replace hc10 := g54.heap hc10
    replace hc22 := g54.heap hc22
    replace G := G.tr g54
    clear u53 g50 hb48 hc49
    refine stp (zA0 rfl ?_)
    refine zA4 ?_
    refine zA6 ?_
    refine zA6 (zA1 rfl ?_)
    refine stp (zA2 rfl ?_)
    refine stp (zI9 rfl rfl ?_)
    refine zA4 ?_
    refine zB8 (b := (decide (((dblS s (ptrS s seg a).1).2) ≠ 0))) rfl (fun h4 => ?_) (fun h4 => ?_)
    ·-- true
     replace h4 := of_decide_eq_true h4
     refine zA6 (zA1 rfl ?_)
     refine stp (zD4 (v := .agg #[.int .i64 0, .int .i64 0, .int .i64 0, .int .i64 0, .int .i64 0, .int .i64 0, .int .i64 0]) (fun w => by kernel_rfl) ?_)
     refine stp (zA2 rfl ?_)
     refine stn (zB1 rfl rfl hc10 (by rfl) (by rfl) (by rfl) ?_)
     intro w59 hc60 u61
     replace hc4 := u61.heap hc4 ne13
     replace hc22 := u61.heap hc22 ne27.symm
     replace hc52 := u61.heap hc52 ne57.symm
     replace G := G.upd u61 hge12
     clear u61 hc10
     refine stp (zA0 rfl ?_)
     refine zA4 ?_
     refine zC4 ?_
     refine ret2 (zC9 rfl hc60 (by rfl)) (zB3 (v := .int .i64 ((dblS s (ptrS s seg a).1).2)) rfl) ⟨?_, G⟩
     have h9 : followS s seg a = (Ob0, (dblS s (ptrS s seg a).1).2) := by unfold followS; rw [if_neg h1n, if_neg (by simp [h2]), if_pos h3, qM2, if_pos h4]
     rw [h9]; rfl
    ·-- false
     replace h4 := of_decide_eq_false h4
     refine zC3 ?_
     refine zA6 (zA1 rfl ?_)
     refine stp (zB4 rfl hc4 (by rfl) ?_)
     refine stp (zB4 rfl hc52 (by rfl) ?_)
     refine stp (zC0 (v := .tuple #[.agg #[.int .i64 ((bndS s (dblS s (ptrS s seg a).1).1).1.kind), .int .i64 ((bndS s (dblS s (ptrS s seg a).1).1).1.seg), .int .i64 ((bndS s (dblS s (ptrS s seg a).1).1).1.at_), .int .i64 ((bndS s (dblS s (ptrS s seg a).1).1).1.data), .int .i64 ((bndS s (dblS s (ptrS s seg a).1).1).1.ptrs), .int .i64 ((bndS s (dblS s (ptrS s seg a).1).1).1.size), .int .i64 ((bndS s (dblS s (ptrS s seg a).1).1).1.count)], .int .i64 ((bndS s (dblS s (ptrS s seg a).1).1).2)]) rfl (zR0 _ (H.grow G) (dblS s (ptrS s seg a).1).1 (H.dbl_W (ptrS s seg a).1)) ?_)
     intro w62 g63
     replace hc4 := g63.heap hc4
     replace hc10 := g63.heap hc10
     replace hc22 := g63.heap hc22
     replace hc52 := g63.heap hc52
     replace G := G.tr g63
     clear g63
     refine stp (zB6 (v := .tuple #[.agg #[.int .i64 ((bndS s (dblS s (ptrS s seg a).1).1).1.kind), .int .i64 ((bndS s (dblS s (ptrS s seg a).1).1).1.seg), .int .i64 ((bndS s (dblS s (ptrS s seg a).1).1).1.at_), .int .i64 ((bndS s (dblS s (ptrS s seg a).1).1).1.data), .int .i64 ((bndS s (dblS s (ptrS s seg a).1).1).1.ptrs), .int .i64 ((bndS s (dblS s (ptrS s seg a).1).1).1.size), .int .i64 ((bndS s (dblS s (ptrS s seg a).1).1).1.count)], .int .i64 ((bndS s (dblS s (ptrS s seg a).1).1).2)]) rfl ?_)
     refine stp (zB2 (v := .agg #[.int .i64 ((bndS s (dblS s (ptrS s seg a).1).1).1.kind), .int .i64 ((bndS s (dblS s (ptrS s seg a).1).1).1.seg), .int .i64 ((bndS s (dblS s (ptrS s seg a).1).1).1.at_), .int .i64 ((bndS s (dblS s (ptrS s seg a).1).1).1.data), .int .i64 ((bndS s (dblS s (ptrS s seg a).1).1).1.ptrs), .int .i64 ((bndS s (dblS s (ptrS s seg a).1).1).1.size), .int .i64 ((bndS s (dblS s (ptrS s seg a).1).1).1.count)]) rfl rfl ?_)
     refine stp (zB2 (v := .int .i64 ((bndS s (dblS s (ptrS s seg a).1).1).2)) rfl rfl ?_)
     refine stp (zD3 ?_)
     intro b64 w65 hb66 hc67 g68
     refine stn (zB1 rfl rfl hc67 (by rfl) (by rfl) (by rfl) ?_)
     intro w69 hc70 u71
     have g72 := g68.upd u71 hb66
     have hge73 := Nat.le_trans G.size hb66
     have ne74 := Nat.ne_of_lt (Nat.lt_of_lt_of_le (zA9 hc4) hb66)
     have ne75 := Nat.ne_of_lt (Nat.lt_of_lt_of_le (zA9 hc10) hb66)
     have ne76 := Nat.ne_of_lt (Nat.lt_of_lt_of_le (zA9 hc22) hb66)
     have ne77 := Nat.ne_of_lt (Nat.lt_of_lt_of_le (zA9 hc52) hb66)
     replace hc4 := g72.heap hc4
     replace hc10 := g72.heap hc10
     replace hc22 := g72.heap hc22
     replace hc52 := g72.heap hc52
     replace G := G.tr g72
     clear u71 g68 hb66 hc67
     refine stp (zA0 rfl ?_)
     refine zA4 ?_
     refine zA6 (zA1 rfl ?_)
     refine stp (zB4 rfl hc70 (by rfl) ?_)
     refine stp (zA2 rfl ?_)
     refine stn (zB1 rfl rfl hc10 (by rfl) (by rfl) (by rfl) ?_)
     intro w78 hc79 u80
     replace hc4 := u80.heap hc4 ne13
     replace hc22 := u80.heap hc22 ne27.symm
     replace hc52 := u80.heap hc52 ne57.symm
     replace hc70 := u80.heap hc70 ne75.symm
     replace G := G.upd u80 hge12
     clear u80 hc10
     refine stp (zA0 rfl ?_)
     refine zA4 ?_
     refine zC4 ?_
     refine ret2 (zC9 rfl hc79 (by rfl)) (zB3 (v := .int .i64 ((bndS s (dblS s (ptrS s seg a).1).1).2)) rfl) ⟨?_, G⟩
     have h9 : followS s seg a = bndS s (dblS s (ptrS s seg a).1).1 := by unfold followS; rw [if_neg h1n, if_neg (by simp [h2]), if_pos h3, qM2, if_neg h4]
     rw [h9]
   ·-- false
    have hq2 := H.ptr_range (ptrS s seg a).1.seg (ptrS s seg a).1.off
    have hqo2 := hq2.off
    refine zC3 ?_
    refine zA6 (zA1 rfl ?_)
    refine stp (zB4 rfl hc4 (by rfl) ?_)
    refine stp (zA5 rfl ?_)
    refine stp (zB5 (v := .int .i64 ((ptrS s seg a).1.seg)) rfl hc22 rfl ?_)
    refine stp (zA5 rfl ?_)
    refine stp (zB5 (v := .int .i64 ((ptrS s seg a).1.off)) rfl hc22 rfl ?_)
    refine stp (zC0 (v := .tuple #[.agg #[.int .i64 ((ptrS s ((ptrS s seg a).1.seg) ((ptrS s seg a).1.off)).1.kind), .int .i64 ((ptrS s ((ptrS s seg a).1.seg) ((ptrS s seg a).1.off)).1.off), .int .i64 ((ptrS s ((ptrS s seg a).1.seg) ((ptrS s seg a).1.off)).1.data), .int .i64 ((ptrS s ((ptrS s seg a).1.seg) ((ptrS s seg a).1.off)).1.ptrs), .int .i64 ((ptrS s ((ptrS s seg a).1.seg) ((ptrS s seg a).1.off)).1.size), .int .i64 ((ptrS s ((ptrS s seg a).1.seg) ((ptrS s seg a).1.off)).1.count), .int .i64 ((ptrS s ((ptrS s seg a).1.seg) ((ptrS s seg a).1.off)).1.seg), .bool ((ptrS s ((ptrS s seg a).1.seg) ((ptrS s seg a).1.off)).1.dbl)], .int .i64 ((ptrS s ((ptrS s seg a).1.seg) ((ptrS s seg a).1.off)).2)]) rfl (qF8 _ (H.grow G) ((ptrS s seg a).1.seg) ((ptrS s seg a).1.off) (by simp only [inR]; omega) (by simp only [inR]; omega)) ?_)
    intro w81 g82
    replace hc4 := g82.heap hc4
    replace hc10 := g82.heap hc10
    replace hc22 := g82.heap hc22
    replace G := G.tr g82
    clear g82
    refine stp (zB6 (v := .tuple #[.agg #[.int .i64 ((ptrS s ((ptrS s seg a).1.seg) ((ptrS s seg a).1.off)).1.kind), .int .i64 ((ptrS s ((ptrS s seg a).1.seg) ((ptrS s seg a).1.off)).1.off), .int .i64 ((ptrS s ((ptrS s seg a).1.seg) ((ptrS s seg a).1.off)).1.data), .int .i64 ((ptrS s ((ptrS s seg a).1.seg) ((ptrS s seg a).1.off)).1.ptrs), .int .i64 ((ptrS s ((ptrS s seg a).1.seg) ((ptrS s seg a).1.off)).1.size), .int .i64 ((ptrS s ((ptrS s seg a).1.seg) ((ptrS s seg a).1.off)).1.count), .int .i64 ((ptrS s ((ptrS s seg a).1.seg) ((ptrS s seg a).1.off)).1.seg), .bool ((ptrS s ((ptrS s seg a).1.seg) ((ptrS s seg a).1.off)).1.dbl)], .int .i64 ((ptrS s ((ptrS s seg a).1.seg) ((ptrS s seg a).1.off)).2)]) rfl ?_)
    refine stp (zB2 (v := .agg #[.int .i64 ((ptrS s ((ptrS s seg a).1.seg) ((ptrS s seg a).1.off)).1.kind), .int .i64 ((ptrS s ((ptrS s seg a).1.seg) ((ptrS s seg a).1.off)).1.off), .int .i64 ((ptrS s ((ptrS s seg a).1.seg) ((ptrS s seg a).1.off)).1.data), .int .i64 ((ptrS s ((ptrS s seg a).1.seg) ((ptrS s seg a).1.off)).1.ptrs), .int .i64 ((ptrS s ((ptrS s seg a).1.seg) ((ptrS s seg a).1.off)).1.size), .int .i64 ((ptrS s ((ptrS s seg a).1.seg) ((ptrS s seg a).1.off)).1.count), .int .i64 ((ptrS s ((ptrS s seg a).1.seg) ((ptrS s seg a).1.off)).1.seg), .bool ((ptrS s ((ptrS s seg a).1.seg) ((ptrS s seg a).1.off)).1.dbl)]) rfl rfl ?_)
    refine stp (zB2 (v := .int .i64 ((ptrS s ((ptrS s seg a).1.seg) ((ptrS s seg a).1.off)).2)) rfl rfl ?_)
    refine stp (zD3 ?_)
    intro b83 w84 hb85 hc86 g87
    refine stn (zB1 rfl rfl hc86 (by rfl) (by rfl) (by rfl) ?_)
    intro w88 hc89 u90
    have g91 := g87.upd u90 hb85
    have hge92 := Nat.le_trans G.size hb85
    have ne93 := Nat.ne_of_lt (Nat.lt_of_lt_of_le (zA9 hc4) hb85)
    have ne94 := Nat.ne_of_lt (Nat.lt_of_lt_of_le (zA9 hc10) hb85)
    have ne95 := Nat.ne_of_lt (Nat.lt_of_lt_of_le (zA9 hc22) hb85)
    replace hc4 := g91.heap hc4
    replace hc10 := g91.heap hc10
    replace hc22 := g91.heap hc22
    replace G := G.tr g91
    clear u90 g87 hb85 hc86
    refine stp (zA0 rfl ?_)
    refine zA4 ?_
    refine zA6 ?_
    refine zA6 (zA1 rfl ?_)
    refine stp (zA2 rfl ?_)
    refine stp (zI9 rfl rfl ?_)
    refine zA4 ?_
    refine zB8 (b := (decide (((ptrS s ((ptrS s seg a).1.seg) ((ptrS s seg a).1.off)).2) ≠ 0))) rfl (fun h4 => ?_) (fun h4 => ?_)
    ·-- true
     replace h4 := of_decide_eq_true h4
     refine zA6 (zA1 rfl ?_)
     refine stp (zD4 (v := .agg #[.int .i64 0, .int .i64 0, .int .i64 0, .int .i64 0, .int .i64 0, .int .i64 0, .int .i64 0]) (fun w => by kernel_rfl) ?_)
     refine stp (zA2 rfl ?_)
     refine stn (zB1 rfl rfl hc10 (by rfl) (by rfl) (by rfl) ?_)
     intro w96 hc97 u98
     replace hc4 := u98.heap hc4 ne13
     replace hc22 := u98.heap hc22 ne27.symm
     replace hc89 := u98.heap hc89 ne94.symm
     replace G := G.upd u98 hge12
     clear u98 hc10
     refine stp (zA0 rfl ?_)
     refine zA4 ?_
     refine zC4 ?_
     refine ret2 (zC9 rfl hc97 (by rfl)) (zB3 (v := .int .i64 ((ptrS s ((ptrS s seg a).1.seg) ((ptrS s seg a).1.off)).2)) rfl) ⟨?_, G⟩
     have h9 : followS s seg a = (Ob0, (ptrS s (ptrS s seg a).1.seg (ptrS s seg a).1.off).2) := by unfold followS; rw [if_neg h1n, if_neg (by simp [h2]), if_neg (by simp [h3])]; unfold landedS; rw [if_pos h4]
     rw [h9]; rfl
    ·-- false
     replace h4 := of_decide_eq_false h4
     refine zC3 ?_
     refine zA6 ?_
     refine zA6 (zA1 rfl ?_)
     refine stp (zB4 rfl hc89 (by rfl) ?_)
     refine stp (zC0 (v := .bool (nearP ((ptrS s ((ptrS s seg a).1.seg) ((ptrS s seg a).1.off)).1))) rfl (zS8 _ ((ptrS s ((ptrS s seg a).1.seg) ((ptrS s seg a).1.off)).1)) ?_)
     intro w99 g100
     replace hc4 := g100.heap hc4
     replace hc10 := g100.heap hc10
     replace hc22 := g100.heap hc22
     replace hc89 := g100.heap hc89
     replace G := G.tr g100
     clear g100
     refine stp (zN6 rfl ?_)
     refine zA4 ?_
     refine zB8 (b := (!(nearP ((ptrS s ((ptrS s seg a).1.seg) ((ptrS s seg a).1.off)).1)))) rfl (fun h5 => ?_) (fun h5 => ?_)
     ·-- true
      simp only [sb] at h5
      refine zA6 (zA1 rfl ?_)
      refine stp (zD4 (v := .agg #[.int .i64 0, .int .i64 0, .int .i64 0, .int .i64 0, .int .i64 0, .int .i64 0, .int .i64 0]) (fun w => by kernel_rfl) ?_)
      refine stn (zB1 rfl rfl hc10 (by rfl) (by rfl) (by rfl) ?_)
      intro w101 hc102 u103
      replace hc4 := u103.heap hc4 ne13
      replace hc22 := u103.heap hc22 ne27.symm
      replace hc89 := u103.heap hc89 ne94.symm
      replace G := G.upd u103 hge12
      clear u103 hc10
      refine stp (zA0 rfl ?_)
      refine zA4 ?_
      refine zC4 ?_
      refine ret2 (zC9 rfl hc102 (by rfl)) (zB3 (v := .int .i64 23) rfl) ⟨?_, G⟩
      have h9 : followS s seg a = (Ob0, 23) := by unfold followS; rw [if_neg h1n, if_neg (by simp [h2]), if_neg (by simp [h3])]; unfold landedS; rw [if_neg h4, if_pos (by simpa using h5)]
      rw [h9]; rfl
     ·-- false
      simp only [sb] at h5
      refine zC3 ?_
      have hsz104 : w99.heap.size ≤ w99.heap.size := Nat.le_refl _
      have ltf104_hc4 := zA9 hc4
      have ltf104_hc10 := zA9 hc10
      have ltf104_hc22 := zA9 hc22
      have ltf104_hc89 := zA9 hc89
      have hgz104 := G.size
      refine zA6 ?_
      have kb_hc4 : ∀ w_, (ktR 93 w99.heap.size).r w99 w_ → w_.heap[b1]? = some (.cells #[ua, .bool b, uh] 90 (0, 0)) := fun w_ k_ => (KtP.to_grow k_ (Grow.rfl' _)).heap hc4
      have kb_hc10 : ∀ w_, (ktR 93 w99.heap.size).r w99 w_ → w_.heap[b7]? = some (.cells #[.int .i64 0, .int .i64 0, .int .i64 0, .int .i64 0, .int .i64 0, .int .i64 0, .int .i64 0] 93 (0, 0)) := fun w_ k_ => (KtP.to_grow k_ (Grow.rfl' _)).heap hc10
      have kb_hc22 : ∀ w_, (ktR 93 w99.heap.size).r w99 w_ → w_.heap[b16]? = some (.cells #[.int .i64 ((ptrS s seg a).1.kind), .int .i64 ((ptrS s seg a).1.off), .int .i64 ((ptrS s seg a).1.data), .int .i64 ((ptrS s seg a).1.ptrs), .int .i64 ((ptrS s seg a).1.size), .int .i64 ((ptrS s seg a).1.count), .int .i64 ((ptrS s seg a).1.seg), .bool ((ptrS s seg a).1.dbl)] 77 (0, 0)) := fun w_ k_ => (KtP.to_grow k_ (Grow.rfl' _)).heap hc22
      have kb_hc89 : ∀ w_, (ktR 93 w99.heap.size).r w99 w_ → w_.heap[b83]? = some (.cells #[.int .i64 ((ptrS s ((ptrS s seg a).1.seg) ((ptrS s seg a).1.off)).1.kind), .int .i64 ((ptrS s ((ptrS s seg a).1.seg) ((ptrS s seg a).1.off)).1.off), .int .i64 ((ptrS s ((ptrS s seg a).1.seg) ((ptrS s seg a).1.off)).1.data), .int .i64 ((ptrS s ((ptrS s seg a).1.seg) ((ptrS s seg a).1.off)).1.ptrs), .int .i64 ((ptrS s ((ptrS s seg a).1.seg) ((ptrS s seg a).1.off)).1.size), .int .i64 ((ptrS s ((ptrS s seg a).1.seg) ((ptrS s seg a).1.off)).1.count), .int .i64 ((ptrS s ((ptrS s seg a).1.seg) ((ptrS s seg a).1.off)).1.seg), .bool ((ptrS s ((ptrS s seg a).1.seg) ((ptrS s seg a).1.off)).1.dbl)] 77 (0, 0)) := fun w_ k_ => (KtP.to_grow k_ (Grow.rfl' _)).heap hc89
      have kb_hsz104 : ∀ w_, (ktR 93 w99.heap.size).r w99 w_ → w99.heap.size ≤ w_.heap.size := fun w_ k_ => Nat.le_trans hsz104 (KtP.to_grow k_ (Grow.rfl' _)).size
      have kb_G : ∀ w_, (ktR 93 w99.heap.size).r w99 w_ → Grow w w_ := fun w_ k_ => G.tr (KtP.to_grow k_ (Grow.rfl' _))
      refine qL9 17 [[], [], [], [0], [], [0], [1, 0], [], [0], [4, 3, 2, 1, 0], [8, 7, 6, 5, 4, 3, 2, 1, 0], [10, 9, 8, 7, 6, 5, 4, 3, 2, 1, 0], [11, 10, 9, 8, 7, 6, 5, 4, 3, 2, 1, 0], [12, 11, 10, 9, 8, 7, 6, 5, 4, 3, 2, 1, 0], [13, 12, 11, 10, 9, 8, 7, 6, 5, 4, 3, 2, 1], [], [15, 14, 13, 12, 11, 10, 9, 8, 7, 6, 5, 4, 3, 2, 0]] [16] [18] (grQ (ktR 93 w99.heap.size)) (fun k_ e_ w_ => match k_ with | 0 => True | _ => ∃ b : Nat, e_ 18 = .pointer (some ⟨b, 0, none⟩) ∧ w99.heap.size ≤ b ∧ w_.heap[b]? = some (.cells #[.int .i64 ((bndS s (objP (ptrS s (ptrS s seg a).1.seg (ptrS s seg a).1.off).1 (ptrS s seg a).1.seg ((ptrS s seg a).1.off + 1 + (ptrS s (ptrS s seg a).1.seg (ptrS s seg a).1.off).1.off))).1.kind), .int .i64 ((bndS s (objP (ptrS s (ptrS s seg a).1.seg (ptrS s seg a).1.off).1 (ptrS s seg a).1.seg ((ptrS s seg a).1.off + 1 + (ptrS s (ptrS s seg a).1.seg (ptrS s seg a).1.off).1.off))).1.seg), .int .i64 ((bndS s (objP (ptrS s (ptrS s seg a).1.seg (ptrS s seg a).1.off).1 (ptrS s seg a).1.seg ((ptrS s seg a).1.off + 1 + (ptrS s (ptrS s seg a).1.seg (ptrS s seg a).1.off).1.off))).1.at_), .int .i64 ((bndS s (objP (ptrS s (ptrS s seg a).1.seg (ptrS s seg a).1.off).1 (ptrS s seg a).1.seg ((ptrS s seg a).1.off + 1 + (ptrS s (ptrS s seg a).1.seg (ptrS s seg a).1.off).1.off))).1.data), .int .i64 ((bndS s (objP (ptrS s (ptrS s seg a).1.seg (ptrS s seg a).1.off).1 (ptrS s seg a).1.seg ((ptrS s seg a).1.off + 1 + (ptrS s (ptrS s seg a).1.seg (ptrS s seg a).1.off).1.off))).1.ptrs), .int .i64 ((bndS s (objP (ptrS s (ptrS s seg a).1.seg (ptrS s seg a).1.off).1 (ptrS s seg a).1.seg ((ptrS s seg a).1.off + 1 + (ptrS s (ptrS s seg a).1.seg (ptrS s seg a).1.off).1.off))).1.size), .int .i64 ((bndS s (objP (ptrS s (ptrS s seg a).1.seg (ptrS s seg a).1.off).1 (ptrS s seg a).1.seg ((ptrS s seg a).1.off + 1 + (ptrS s (ptrS s seg a).1.seg (ptrS s seg a).1.off).1.off))).1.count)] 93 (0, 0))) mixed (by kernel_rfl) (by kernel_rfl) (by kernel_rfl) (by kernel_rfl) (by kernel_rfl) (fun k_ _ _ _ g_ h_ => match k_, h_ with | 0, _ => trivial | _ + 1, ⟨b_, h1_, h2_, h3_⟩ => ⟨b_, h1_, h2_, g_.heap h3_⟩) (fun k_ _ _ _ hu_ h_ => match k_, h_ with | 0, _ => trivial | _ + 1, ⟨b_, h1_, h2_, h3_⟩ => ⟨b_, (hu_ _ (by simp)).symm.trans h1_, h2_, h3_⟩) (fun _ _ _ h_ => h_) (fun _ _ => trivial) ?_
      intro w105 g106
      replace kb_hc4 : ∀ w_, (ktR 93 w99.heap.size).r w105 w_ → w_.heap[b1]? = some (.cells #[ua, .bool b, uh] 90 (0, 0)) := fun w_ k_ => kb_hc4 w_ ((ktR 93 w99.heap.size).tr ((ktR 93 w99.heap.size).grow g106) k_)
      replace kb_hc10 : ∀ w_, (ktR 93 w99.heap.size).r w105 w_ → w_.heap[b7]? = some (.cells #[.int .i64 0, .int .i64 0, .int .i64 0, .int .i64 0, .int .i64 0, .int .i64 0, .int .i64 0] 93 (0, 0)) := fun w_ k_ => kb_hc10 w_ ((ktR 93 w99.heap.size).tr ((ktR 93 w99.heap.size).grow g106) k_)
      replace kb_hc22 : ∀ w_, (ktR 93 w99.heap.size).r w105 w_ → w_.heap[b16]? = some (.cells #[.int .i64 ((ptrS s seg a).1.kind), .int .i64 ((ptrS s seg a).1.off), .int .i64 ((ptrS s seg a).1.data), .int .i64 ((ptrS s seg a).1.ptrs), .int .i64 ((ptrS s seg a).1.size), .int .i64 ((ptrS s seg a).1.count), .int .i64 ((ptrS s seg a).1.seg), .bool ((ptrS s seg a).1.dbl)] 77 (0, 0)) := fun w_ k_ => kb_hc22 w_ ((ktR 93 w99.heap.size).tr ((ktR 93 w99.heap.size).grow g106) k_)
      replace kb_hc89 : ∀ w_, (ktR 93 w99.heap.size).r w105 w_ → w_.heap[b83]? = some (.cells #[.int .i64 ((ptrS s ((ptrS s seg a).1.seg) ((ptrS s seg a).1.off)).1.kind), .int .i64 ((ptrS s ((ptrS s seg a).1.seg) ((ptrS s seg a).1.off)).1.off), .int .i64 ((ptrS s ((ptrS s seg a).1.seg) ((ptrS s seg a).1.off)).1.data), .int .i64 ((ptrS s ((ptrS s seg a).1.seg) ((ptrS s seg a).1.off)).1.ptrs), .int .i64 ((ptrS s ((ptrS s seg a).1.seg) ((ptrS s seg a).1.off)).1.size), .int .i64 ((ptrS s ((ptrS s seg a).1.seg) ((ptrS s seg a).1.off)).1.count), .int .i64 ((ptrS s ((ptrS s seg a).1.seg) ((ptrS s seg a).1.off)).1.seg), .bool ((ptrS s ((ptrS s seg a).1.seg) ((ptrS s seg a).1.off)).1.dbl)] 77 (0, 0)) := fun w_ k_ => kb_hc89 w_ ((ktR 93 w99.heap.size).tr ((ktR 93 w99.heap.size).grow g106) k_)
      replace kb_hsz104 : ∀ w_, (ktR 93 w99.heap.size).r w105 w_ → w99.heap.size ≤ w_.heap.size := fun w_ k_ => kb_hsz104 w_ ((ktR 93 w99.heap.size).tr ((ktR 93 w99.heap.size).grow g106) k_)
      replace kb_G : ∀ w_, (ktR 93 w99.heap.size).r w105 w_ → Grow w w_ := fun w_ k_ => kb_G w_ ((ktR 93 w99.heap.size).tr ((ktR 93 w99.heap.size).grow g106) k_)
      have k0_ : (ktR 93 w99.heap.size).r w99 w105 := ((ktR 93 w99.heap.size).grow g106)
      apply zF5 (hm := by rfl)
      ·intro w_ g_; refine og rfl ?_; refine zB4 rfl (kb_hc4 _ g_) (by rfl) ?_; exact ⟨Grow.rfl' _, rfl⟩
      apply zF5 (hm := by rfl)
      ·intro w_ g_; refine og rfl ?_; refine zB4 rfl (kb_hc89 _ g_) (by rfl) ?_; exact ⟨Grow.rfl' _, rfl⟩
      apply zF5 (hm := by rfl)
      ·intro w_ g_; refine og rfl ?_; refine zA5 rfl ?_; exact ⟨Grow.rfl' _, rfl⟩
      apply zF5 (hm := by rfl)
      ·intro w_ g_; refine og rfl ?_; refine zB5 (v := .int .i64 ((ptrS s seg a).1.seg)) rfl (kb_hc22 _ g_) rfl ?_; exact ⟨Grow.rfl' _, rfl⟩
      apply zF5 (hm := by rfl)
      ·intro w_ g_; refine og rfl ?_; refine zA5 rfl ?_; exact ⟨Grow.rfl' _, rfl⟩
      apply zF5 (hm := by rfl)
      ·intro w_ g_; refine og rfl ?_; refine zB5 (v := .int .i64 ((ptrS s seg a).1.off)) rfl (kb_hc22 _ g_) rfl ?_; exact ⟨Grow.rfl' _, rfl⟩
      apply zF5 (hm := by rfl)
      ·intro w_ g_; refine og rfl ?_; refine zD8 rfl rfl ?_ ?_; constructor <;> omega; exact ⟨Grow.rfl' _, rfl⟩
      apply zF5 (hm := by rfl)
      ·intro w_ g_; refine og rfl ?_; refine zA5 rfl ?_; exact ⟨Grow.rfl' _, rfl⟩
      apply zF5 (hm := by rfl)
      ·intro w_ g_; refine og rfl ?_; refine zB5 (v := .int .i64 ((ptrS s ((ptrS s seg a).1.seg) ((ptrS s seg a).1.off)).1.off)) rfl (kb_hc89 _ g_) rfl ?_; exact ⟨Grow.rfl' _, rfl⟩
      apply zF5 (hm := by rfl)
      ·intro w_ g_; refine og rfl ?_; refine zD8 rfl rfl ?_ ?_; constructor <;> omega; exact ⟨Grow.rfl' _, rfl⟩
      apply zF5 (hm := by rfl)
      ·intro w_ g_; refine og rfl ?_; exact zC0 (v := .agg #[.int .i64 ((objP ((ptrS s ((ptrS s seg a).1.seg) ((ptrS s seg a).1.off)).1) ((ptrS s seg a).1.seg) ((((ptrS s seg a).1.off) + 1) + ((ptrS s ((ptrS s seg a).1.seg) ((ptrS s seg a).1.off)).1.off))).kind), .int .i64 ((objP ((ptrS s ((ptrS s seg a).1.seg) ((ptrS s seg a).1.off)).1) ((ptrS s seg a).1.seg) ((((ptrS s seg a).1.off) + 1) + ((ptrS s ((ptrS s seg a).1.seg) ((ptrS s seg a).1.off)).1.off))).seg), .int .i64 ((objP ((ptrS s ((ptrS s seg a).1.seg) ((ptrS s seg a).1.off)).1) ((ptrS s seg a).1.seg) ((((ptrS s seg a).1.off) + 1) + ((ptrS s ((ptrS s seg a).1.seg) ((ptrS s seg a).1.off)).1.off))).at_), .int .i64 ((objP ((ptrS s ((ptrS s seg a).1.seg) ((ptrS s seg a).1.off)).1) ((ptrS s seg a).1.seg) ((((ptrS s seg a).1.off) + 1) + ((ptrS s ((ptrS s seg a).1.seg) ((ptrS s seg a).1.off)).1.off))).data), .int .i64 ((objP ((ptrS s ((ptrS s seg a).1.seg) ((ptrS s seg a).1.off)).1) ((ptrS s seg a).1.seg) ((((ptrS s seg a).1.off) + 1) + ((ptrS s ((ptrS s seg a).1.seg) ((ptrS s seg a).1.off)).1.off))).ptrs), .int .i64 ((objP ((ptrS s ((ptrS s seg a).1.seg) ((ptrS s seg a).1.off)).1) ((ptrS s seg a).1.seg) ((((ptrS s seg a).1.off) + 1) + ((ptrS s ((ptrS s seg a).1.seg) ((ptrS s seg a).1.off)).1.off))).size), .int .i64 ((objP ((ptrS s ((ptrS s seg a).1.seg) ((ptrS s seg a).1.off)).1) ((ptrS s seg a).1.seg) ((((ptrS s seg a).1.off) + 1) + ((ptrS s ((ptrS s seg a).1.seg) ((ptrS s seg a).1.off)).1.off))).count)]) rfl (zY2 _ ((ptrS s ((ptrS s seg a).1.seg) ((ptrS s seg a).1.off)).1) ((ptrS s seg a).1.seg) ((((ptrS s seg a).1.off) + 1) + ((ptrS s ((ptrS s seg a).1.seg) ((ptrS s seg a).1.off)).1.off))) (fun w2_ g2_ => ⟨g2_, rfl⟩)
      apply zF5 (hm := by rfl)
      ·intro w_ g_; refine og rfl ?_; exact zC0 (v := .tuple #[.agg #[.int .i64 ((bndS s (objP ((ptrS s ((ptrS s seg a).1.seg) ((ptrS s seg a).1.off)).1) ((ptrS s seg a).1.seg) ((((ptrS s seg a).1.off) + 1) + ((ptrS s ((ptrS s seg a).1.seg) ((ptrS s seg a).1.off)).1.off)))).1.kind), .int .i64 ((bndS s (objP ((ptrS s ((ptrS s seg a).1.seg) ((ptrS s seg a).1.off)).1) ((ptrS s seg a).1.seg) ((((ptrS s seg a).1.off) + 1) + ((ptrS s ((ptrS s seg a).1.seg) ((ptrS s seg a).1.off)).1.off)))).1.seg), .int .i64 ((bndS s (objP ((ptrS s ((ptrS s seg a).1.seg) ((ptrS s seg a).1.off)).1) ((ptrS s seg a).1.seg) ((((ptrS s seg a).1.off) + 1) + ((ptrS s ((ptrS s seg a).1.seg) ((ptrS s seg a).1.off)).1.off)))).1.at_), .int .i64 ((bndS s (objP ((ptrS s ((ptrS s seg a).1.seg) ((ptrS s seg a).1.off)).1) ((ptrS s seg a).1.seg) ((((ptrS s seg a).1.off) + 1) + ((ptrS s ((ptrS s seg a).1.seg) ((ptrS s seg a).1.off)).1.off)))).1.data), .int .i64 ((bndS s (objP ((ptrS s ((ptrS s seg a).1.seg) ((ptrS s seg a).1.off)).1) ((ptrS s seg a).1.seg) ((((ptrS s seg a).1.off) + 1) + ((ptrS s ((ptrS s seg a).1.seg) ((ptrS s seg a).1.off)).1.off)))).1.ptrs), .int .i64 ((bndS s (objP ((ptrS s ((ptrS s seg a).1.seg) ((ptrS s seg a).1.off)).1) ((ptrS s seg a).1.seg) ((((ptrS s seg a).1.off) + 1) + ((ptrS s ((ptrS s seg a).1.seg) ((ptrS s seg a).1.off)).1.off)))).1.size), .int .i64 ((bndS s (objP ((ptrS s ((ptrS s seg a).1.seg) ((ptrS s seg a).1.off)).1) ((ptrS s seg a).1.seg) ((((ptrS s seg a).1.off) + 1) + ((ptrS s ((ptrS s seg a).1.seg) ((ptrS s seg a).1.off)).1.off)))).1.count)], .int .i64 ((bndS s (objP ((ptrS s ((ptrS s seg a).1.seg) ((ptrS s seg a).1.off)).1) ((ptrS s seg a).1.seg) ((((ptrS s seg a).1.off) + 1) + ((ptrS s ((ptrS s seg a).1.seg) ((ptrS s seg a).1.off)).1.off)))).2)]) rfl (zR0 _ (H.grow (kb_G _ g_)) (objP ((ptrS s ((ptrS s seg a).1.seg) ((ptrS s seg a).1.off)).1) ((ptrS s seg a).1.seg) ((((ptrS s seg a).1.off) + 1) + ((ptrS s ((ptrS s seg a).1.seg) ((ptrS s seg a).1.off)).1.off))) (yD1 hq2 (by simp only [inR]; omega) (by simp only [inR]; omega))) (fun w2_ g2_ => ⟨g2_, rfl⟩)
      apply zF5 (hm := by rfl)
      ·intro w_ g_; refine og rfl ?_; refine zB6 (v := .tuple #[.agg #[.int .i64 ((bndS s (objP ((ptrS s ((ptrS s seg a).1.seg) ((ptrS s seg a).1.off)).1) ((ptrS s seg a).1.seg) ((((ptrS s seg a).1.off) + 1) + ((ptrS s ((ptrS s seg a).1.seg) ((ptrS s seg a).1.off)).1.off)))).1.kind), .int .i64 ((bndS s (objP ((ptrS s ((ptrS s seg a).1.seg) ((ptrS s seg a).1.off)).1) ((ptrS s seg a).1.seg) ((((ptrS s seg a).1.off) + 1) + ((ptrS s ((ptrS s seg a).1.seg) ((ptrS s seg a).1.off)).1.off)))).1.seg), .int .i64 ((bndS s (objP ((ptrS s ((ptrS s seg a).1.seg) ((ptrS s seg a).1.off)).1) ((ptrS s seg a).1.seg) ((((ptrS s seg a).1.off) + 1) + ((ptrS s ((ptrS s seg a).1.seg) ((ptrS s seg a).1.off)).1.off)))).1.at_), .int .i64 ((bndS s (objP ((ptrS s ((ptrS s seg a).1.seg) ((ptrS s seg a).1.off)).1) ((ptrS s seg a).1.seg) ((((ptrS s seg a).1.off) + 1) + ((ptrS s ((ptrS s seg a).1.seg) ((ptrS s seg a).1.off)).1.off)))).1.data), .int .i64 ((bndS s (objP ((ptrS s ((ptrS s seg a).1.seg) ((ptrS s seg a).1.off)).1) ((ptrS s seg a).1.seg) ((((ptrS s seg a).1.off) + 1) + ((ptrS s ((ptrS s seg a).1.seg) ((ptrS s seg a).1.off)).1.off)))).1.ptrs), .int .i64 ((bndS s (objP ((ptrS s ((ptrS s seg a).1.seg) ((ptrS s seg a).1.off)).1) ((ptrS s seg a).1.seg) ((((ptrS s seg a).1.off) + 1) + ((ptrS s ((ptrS s seg a).1.seg) ((ptrS s seg a).1.off)).1.off)))).1.size), .int .i64 ((bndS s (objP ((ptrS s ((ptrS s seg a).1.seg) ((ptrS s seg a).1.off)).1) ((ptrS s seg a).1.seg) ((((ptrS s seg a).1.off) + 1) + ((ptrS s ((ptrS s seg a).1.seg) ((ptrS s seg a).1.off)).1.off)))).1.count)], .int .i64 ((bndS s (objP ((ptrS s ((ptrS s seg a).1.seg) ((ptrS s seg a).1.off)).1) ((ptrS s seg a).1.seg) ((((ptrS s seg a).1.off) + 1) + ((ptrS s ((ptrS s seg a).1.seg) ((ptrS s seg a).1.off)).1.off)))).2)]) rfl ?_; exact ⟨Grow.rfl' _, rfl⟩
      apply zF5 (hm := by rfl)
      ·intro w_ g_; refine og rfl ?_; refine zB2 (v := .agg #[.int .i64 ((bndS s (objP ((ptrS s ((ptrS s seg a).1.seg) ((ptrS s seg a).1.off)).1) ((ptrS s seg a).1.seg) ((((ptrS s seg a).1.off) + 1) + ((ptrS s ((ptrS s seg a).1.seg) ((ptrS s seg a).1.off)).1.off)))).1.kind), .int .i64 ((bndS s (objP ((ptrS s ((ptrS s seg a).1.seg) ((ptrS s seg a).1.off)).1) ((ptrS s seg a).1.seg) ((((ptrS s seg a).1.off) + 1) + ((ptrS s ((ptrS s seg a).1.seg) ((ptrS s seg a).1.off)).1.off)))).1.seg), .int .i64 ((bndS s (objP ((ptrS s ((ptrS s seg a).1.seg) ((ptrS s seg a).1.off)).1) ((ptrS s seg a).1.seg) ((((ptrS s seg a).1.off) + 1) + ((ptrS s ((ptrS s seg a).1.seg) ((ptrS s seg a).1.off)).1.off)))).1.at_), .int .i64 ((bndS s (objP ((ptrS s ((ptrS s seg a).1.seg) ((ptrS s seg a).1.off)).1) ((ptrS s seg a).1.seg) ((((ptrS s seg a).1.off) + 1) + ((ptrS s ((ptrS s seg a).1.seg) ((ptrS s seg a).1.off)).1.off)))).1.data), .int .i64 ((bndS s (objP ((ptrS s ((ptrS s seg a).1.seg) ((ptrS s seg a).1.off)).1) ((ptrS s seg a).1.seg) ((((ptrS s seg a).1.off) + 1) + ((ptrS s ((ptrS s seg a).1.seg) ((ptrS s seg a).1.off)).1.off)))).1.ptrs), .int .i64 ((bndS s (objP ((ptrS s ((ptrS s seg a).1.seg) ((ptrS s seg a).1.off)).1) ((ptrS s seg a).1.seg) ((((ptrS s seg a).1.off) + 1) + ((ptrS s ((ptrS s seg a).1.seg) ((ptrS s seg a).1.off)).1.off)))).1.size), .int .i64 ((bndS s (objP ((ptrS s ((ptrS s seg a).1.seg) ((ptrS s seg a).1.off)).1) ((ptrS s seg a).1.seg) ((((ptrS s seg a).1.off) + 1) + ((ptrS s ((ptrS s seg a).1.seg) ((ptrS s seg a).1.off)).1.off)))).1.count)]) rfl rfl ?_; exact ⟨Grow.rfl' _, rfl⟩
      apply zF5 (hm := by rfl)
      ·intro w_ g_; refine og rfl ?_; refine zB2 (v := .int .i64 ((bndS s (objP ((ptrS s ((ptrS s seg a).1.seg) ((ptrS s seg a).1.off)).1) ((ptrS s seg a).1.seg) ((((ptrS s seg a).1.off) + 1) + ((ptrS s ((ptrS s seg a).1.seg) ((ptrS s seg a).1.off)).1.off)))).2)) rfl rfl ?_; exact ⟨Grow.rfl' _, rfl⟩
      refine zS7 (fun w_ v_ => ∃ b cs, v_ = .pointer (some ⟨b, 0, none⟩) ∧ w99.heap.size ≤ b ∧ cs.size = 7 ∧ w_.heap[b]? = some (.cells cs 93 (0, 0))) (fun _ _ _ g_ ⟨b, cs, h1_, h2_, h3_, h4_⟩ => by obtain ⟨cs2, h5_, h6_⟩ := KtP.new g_ b cs h4_; exact ⟨b, cs2, h1_, h2_, h5_.trans h3_, h6_⟩) (by rfl) ?_ ?_
      ·intro w_ g_
       refine og rfl ?_
       refine zD3 ?_
       intro b_ w2_ hb_ hc_ g2_
       exact ⟨g2_, b_, _, rfl, Nat.le_trans (kb_hsz104 _ g_) hb_, rfl, hc_⟩
      apply qC5 0 (hm := by rfl)
      ·intro w_ g_
       intro v15_ hv15_
       intro s_
       show OpG _ _ _ _ _ _
       refine og rfl ?_
       obtain ⟨b_, cs_, rfl, hge_, hsz_, hb_⟩ := hv15_
       refine zB1 rfl rfl hb_ (by rfl) hsz_ (by rfl) ?_
       intro w2_ s2_ u_
       exact ⟨KtP.of_upd u_ hge_ hb_ s2_ hsz_.symm, ⟨b_, rfl, hge_, s2_⟩, rfl⟩
      refine qC6 ?_
      intro w107 g108
      replace k0_ := ((ktR 93 w99.heap.size).tr k0_ g108)
      replace hc4 := kb_hc4 _ g108
      clear kb_hc4
      replace hc10 := kb_hc10 _ g108
      clear kb_hc10
      replace hc22 := kb_hc22 _ g108
      clear kb_hc22
      replace hc89 := kb_hc89 _ g108
      clear kb_hc89
      replace hsz104 := kb_hsz104 _ g108
      clear kb_hsz104
      replace G := kb_G _ g108
      clear kb_G
      intro v_x104 hv_x104
      rintro ⟨bx104, hbe104, hge104, hc104⟩
      have hbv104 : v_x104 = .pointer (some ⟨bx104, 0, none⟩) := hbe104
      subst hbv104
      clear hv_x104 hbe104
      have hgx104 := Nat.le_trans hgz104 hge104
      refine stp (zA0 rfl ?_)
      refine zA4 ?_
      refine zA6 (zA1 rfl ?_)
      refine stp (zB4 rfl hc104 (by rfl) ?_)
      refine stp (zA2 rfl ?_)
      refine stn (zB1 rfl rfl hc10 (by rfl) (by rfl) (by rfl) ?_)
      intro w109 hc110 u111
      replace hc4 := u111.heap hc4 ne13
      replace hc22 := u111.heap hc22 ne27.symm
      replace hc89 := u111.heap hc89 ne94.symm
      replace hc104 := u111.heap hc104 (Nat.ne_of_lt (Nat.lt_of_lt_of_le ltf104_hc10 hge104)).symm
      replace G := G.upd u111 hge12
      clear u111 hc10
      refine stp (zA0 rfl ?_)
      refine zA4 ?_
      refine zC4 ?_
      refine ret2 (zC9 rfl hc110 (by rfl)) (zB3 (v := .int .i64 ((bndS s (objP ((ptrS s ((ptrS s seg a).1.seg) ((ptrS s seg a).1.off)).1) ((ptrS s seg a).1.seg) ((((ptrS s seg a).1.off) + 1) + ((ptrS s ((ptrS s seg a).1.seg) ((ptrS s seg a).1.off)).1.off)))).2)) rfl) ⟨?_, G⟩
      have h9 : followS s seg a = bndS s (objP (ptrS s (ptrS s seg a).1.seg (ptrS s seg a).1.off).1 (ptrS s seg a).1.seg ((ptrS s seg a).1.off + 1 + (ptrS s (ptrS s seg a).1.seg (ptrS s seg a).1.off).1.off)) := by unfold followS; rw [if_neg h1n, if_neg (by simp [h2]), if_neg (by simp [h3])]; unfold landedS; rw [if_neg h4, if_neg (by simpa using h5), qM1]
      rw [h9]
end Go.Proofs.YtifhcfhdajkhlaaGreat.K

namespace Go.Proofs.YtifhcfhdajkhlaaGreat.K
open Go Go.RowKit Go.Proofs
attribute [local irreducible] Run1 OpG WL W AO Gives
set_option maxRecDepth 100000 in
theorem qD2 (w : World) {ad : Option Addr} {c : Nat} {sz : List Int} (R : RowAt w 1 ad sz.length (sz.map (.int .i64))) (hr : ∀ x ∈ sz, inR .i64 x) : Gives Tryz.prog 78 #[.slice ad sz.length c] w (.bool (fitsL sz)) := by
 have lR := R.lim
 have hg : ∀ i, inR .i64 (sz.getD i 0) := fun i => by rw [List.getD_eq_getElem?_getD]; cases hi_ : sz[i]? with | none => simp [inR] | some x_ => exact hr x_ (List.mem_of_getElem? hi_)
 have hg0 := hg 0
 simp only [inR] at hg0
 have G := Grow.rfl' w
 refine zC7 Tryz.func78 Tryz.ntmps78 Tryz.results78 rfl rfl ?_
 refine zA6 (zA1 rfl ?_)
 refine stp (zA8 (v := .bool false) rfl ?_)
 refine zA4 ?_
 refine zA6 ?_
 refine zA6 (zA1 rfl ?_)
 refine stp (zA7 rfl ?_)
 refine stp (zE8 rfl rfl rfl ?_)
 refine stp (zF9 rfl rfl ?_)
 refine stp (zB9 rfl ?_)
 refine zA3 (zC2 (s := .bool (decide ((sz.length : Int) < 1))) (b := false) (v := .slice ad sz.length c) rfl (zD1 _) (fun hc1 => ?_) ?_)
 ·
  have hc1_ := hc1
  try simp only [sb] at hc1_
  refine zA7 rfl ?_
  exact ⟨rfl, rfl⟩
 refine zA3 (zC2 (s := .bool (decide ((sz.length : Int) < 1))) (b := false) (v := .int .i64 (sz.length : Int)) rfl (zD1 _) (fun hc2 => ?_) ?_)
 ·
  have hc2_ := hc2
  try simp only [sb] at hc2_
  refine zE8 rfl rfl (gvt hc2) ?_
  exact ⟨rfl, rfl⟩
 refine zA3 (zC2 (s := .bool (decide ((sz.length : Int) < 1))) (b := false) (v := .bool (decide ((sz.length : Int) > 16))) rfl (zD1 _) (fun hc3 => ?_) ?_)
 ·
  have hc3_ := hc3
  try simp only [sb] at hc3_
  refine zM7 (gvt hc3) rfl ?_
  exact ⟨rfl, rfl⟩
 refine stp (zI6 rfl rfl rfl ?_)
 refine stp (zB9 rfl ?_)
 refine zA3 (zC2 (s := .bool ((decide ((sz.length : Int) < 1)) || (decide ((sz.length : Int) > 16)))) (b := false) (v := .slice ad sz.length c) rfl (zD1 _) (fun hc4 => ?_) ?_)
 ·
  have hc4_ := hc4
  try simp only [sb] at hc4_
  refine zA7 rfl ?_
  exact ⟨rfl, rfl⟩
 refine zA3 (zC2 (s := .bool ((decide ((sz.length : Int) < 1)) || (decide ((sz.length : Int) > 16)))) (b := false) (v := .pointer (some (eadr ad ((0 : Int).toNat * 1)))) rfl (zD1 _) (fun hc5 => ?_) ?_)
 ·
  have hc5_ := hc5
  try simp only [sb] at hc5_
  refine zI4 (R.grow G) (gvt hc5) rfl ?_ ?_ ?_; omega; omega
  exact ⟨rfl, rfl⟩
 refine zA3 (zC2 (s := .bool ((decide ((sz.length : Int) < 1)) || (decide ((sz.length : Int) > 16)))) (b := false) (v := .int .i64 (sz.getD 0 0)) rfl (zD1 _) (fun hc6 => ?_) ?_)
 ·
  have hc6_ := hc6
  try simp only [sb] at hc6_
  refine zD7 (v := .int .i64 (sz.getD 0 0)) (m := 0) (R.grow G) (gvt hc6) (show _ from zE4 (j := 0) 0 (by omega)) ?_
  exact ⟨rfl, rfl⟩
 refine zA3 (zC2 (s := .bool ((decide ((sz.length : Int) < 1)) || (decide ((sz.length : Int) > 16)))) (b := false) (v := .bool (decide ((sz.getD 0 0) < 1))) rfl (zD1 _) (fun hc7 => ?_) ?_)
 ·
  have hc7_ := hc7
  try simp only [sb] at hc7_
  refine zF9 (gvt hc7) rfl ?_
  exact ⟨rfl, rfl⟩
 refine stp (zI6 rfl rfl rfl ?_)
 refine zA4 ?_
 refine zB8 (b := (((decide ((sz.length : Int) < 1)) || (decide ((sz.length : Int) > 16))) || (decide ((sz.getD 0 0) < 1)))) rfl (fun h1 => ?_) (fun h1 => ?_)
 ·-- true
  simp only [sb] at h1
  refine zA6 (zA1 rfl ?_)
  refine stp (zA8 (v := .bool false) rfl ?_)
  refine zA4 ?_
  refine zC4 ?_
  have h9 : fitsL sz = false := qL1 (by omega)
  refine ret1 (zB3 (v := .bool false) rfl) ⟨?_, G⟩
  rw [h9]
 ·-- false
  simp only [sb] at h1
  have h1' : 1 ≤ sz.length ∧ sz.length ≤ 16 ∧ 1 ≤ sz.getD 0 0 := by omega
  clear h1
  refine zC3 ?_
  refine zA6 (zA1 rfl ?_)
  refine stp (zA0 rfl ?_)
  refine zA4 ?_
  refine zA6 ?_
  refine zA6 (zA1 rfl ?_)
  refine stp (zA7 rfl ?_)
  refine stp (zE8 rfl rfl rfl ?_)
  refine stp (zA2 rfl ?_)
  refine zA4 ?_
  refine zC6 ?_
  refine zG6 (fun m_ e_ w_ => ∃ (k : Nat), m_ = sz.length - k ∧ Fr [(22, .slice ad sz.length c), (23, .int .i64 (sz.length : Int)), (3, .int .i64 (sumL (sz.take k))), (24, .int .i64 (k : Int))] e_ ∧ (k ≤ sz.length) ∧ (0 ≤ sumL (sz.take k) ∧ sumL (sz.take k) ≤ 4096) ∧ (∀ j, j < k → 0 ≤ sz.getD j 0) ∧ Grow w w_) _ ⟨0, rfl, zE6 ⟨rfl, rfl, rfl, rfl, trivial⟩, by omega, by simp [sumL], fun j hj => by omega, G⟩ ?_
  clear G
  rintro m_ e_ w8 ⟨k, rfl, ⟨e9, rfl⟩, hk, htk, hnn, G⟩
  have hgk := hg k
  simp only [inR] at hgk
  refine zA6 (zA1 rfl ?_)
  refine stp (zF9 rfl rfl ?_)
  refine zA4 ?_
  refine zA6 ?_
  refine zB8 (b := (decide ((k : Int) < (sz.length : Int)))) rfl (fun hlt => ?_) (fun hlt => ?_)
  ·-- true
   replace hlt := of_decide_eq_true hlt
   have hi : k < sz.length := by omega
   have ht := zJ0 hi
   have hadd : addOk (sumL (sz.take k)) (sz.getD k 0) 4096 = decide (0 ≤ sz.getD k 0 ∧ sumL (sz.take k) + sz.getD k 0 ≤ 4096) := by unfold addOk; exact decide_eq_decide.2 (by omega)
   refine zC3 ?_
   refine zA6 ?_
   refine zC6 ?_
   refine zA6 (zA1 rfl ?_)
   refine stp (zD9 (R.grow G) rfl rfl ?_ ?_); omega
   refine stp (zD7 (v := .int .i64 (sz.getD k 0)) (m := 0) (R.grow G) rfl (zE4 0 (by omega)) ?_)
   refine stp (zA0 rfl ?_)
   refine zA4 ?_
   refine zA6 (zA1 rfl ?_)
   refine stp (zA2 rfl ?_)
   refine stp (zA2 rfl ?_)
   refine stp (zC0 (v := .tuple #[.int .i64 (if addOk (sumL (sz.take k)) (sz.getD k 0) 4096 then sumL (sz.take k) + sz.getD k 0 else 0), .bool (addOk (sumL (sz.take k)) (sz.getD k 0) 4096)]) rfl (qF5 _ (a := sumL (sz.take k)) (b := sz.getD k 0) (m := 4096) (by simp only [inR]; omega) (hg k) (by simp only [inR]; omega)) ?_)
   intro w10 g11
   replace G := G.tr g11
   clear g11
   refine stp (zB6 (v := .tuple #[.int .i64 (if addOk (sumL (sz.take k)) (sz.getD k 0) 4096 then sumL (sz.take k) + sz.getD k 0 else 0), .bool (addOk (sumL (sz.take k)) (sz.getD k 0) 4096)]) rfl ?_)
   refine stp (zB2 (v := .int .i64 (if addOk (sumL (sz.take k)) (sz.getD k 0) 4096 then sumL (sz.take k) + sz.getD k 0 else 0)) rfl rfl ?_)
   refine stp (zB2 (v := .bool (addOk (sumL (sz.take k)) (sz.getD k 0) 4096)) rfl rfl ?_)
   refine stp (zA0 rfl ?_)
   refine stp (zC1 rfl ?_)
   refine zA4 ?_
   refine zA6 ?_
   refine zA6 (zA1 rfl ?_)
   refine stp (zB9 rfl ?_)
   refine stp (zN6 rfl ?_)
   refine zA4 ?_
   refine zB8 (b := (!(addOk (sumL (sz.take k)) (sz.getD k 0) 4096))) rfl (fun h3 => ?_) (fun h3 => ?_)
   ·-- true
    simp only [sb] at h3
    rw [hadd] at h3
    refine zA6 (zA1 rfl ?_)
    refine stp (zA8 (v := .bool false) rfl ?_)
    refine zA4 ?_
    refine zC4 ?_
    have h9 : fitsL sz = false := yB8 hi (by simpa using h3)
    refine ret1 (zB3 (v := .bool false) rfl) ⟨?_, G⟩
    rw [h9]
   ·-- false
    simp only [sb] at h3
    rw [hadd] at h3
    have h3' : 0 ≤ sz.getD k 0 ∧ sumL (sz.take k) + sz.getD k 0 ≤ 4096 := by simpa using h3
    refine zC3 ?_
    refine zA1 rfl ?_
    refine stp (zA2 rfl ?_)
    refine stp (zA0 rfl ?_)
    refine zA4 ?_
    refine zA1 rfl ?_
    refine stp (zD8 rfl rfl ?_ ?_); constructor <;> omega
    refine stp (zA2 rfl ?_)
    refine zA4 ?_
    refine ⟨_, ?_, k + 1, rfl, zE6 ⟨rfl, rfl, congrArg (Value.int .i64) (by rw [hadd, decide_eq_true h3', if_pos rfl]; omega), rfl, trivial⟩, by omega, by omega, fun j hj => by rcases Nat.lt_succ_iff_lt_or_eq.1 hj with h_ | h_; exact hnn j h_; (subst h_; exact h3'.1), G⟩
    omega
  ·-- false
   replace hlt := of_decide_eq_false hlt
   have hk2 : k = sz.length := by omega
   subst hk2
   refine zF6 ?_
   refine zA6 (zA1 rfl ?_)
   refine stp (zA8 (v := .bool true) rfl ?_)
   refine zA4 ?_
   refine zC4 ?_
   have h9 : fitsL sz = true := qU7 h1'.1 h1'.2.1 h1'.2.2 hnn htk.2
   refine ret1 (zB3 (v := .bool true) rfl) ⟨?_, G⟩
   rw [h9]

set_option maxRecDepth 100000 in
theorem zO5 (w : World) {ad : Option Addr} {c : Nat} {sz : List Int} (R : RowAt w 1 ad sz.length (sz.map (.int .i64))) (hr : ∀ x ∈ sz, inR .i64 x) : Gives Tryz.prog 66 #[.slice ad sz.length c] w (.bool (fitsL sz)) := by
 have lR := R.lim
 have hg : ∀ i, inR .i64 (sz.getD i 0) := fun i => by rw [List.getD_eq_getElem?_getD]; cases hi_ : sz[i]? with | none => simp [inR] | some x_ => exact hr x_ (List.mem_of_getElem? hi_)
 have hg0 := hg 0
 simp only [inR] at hg0
 have G := Grow.rfl' w
 refine zC7 Tryz.func66 Tryz.ntmps66 Tryz.results66 rfl rfl ?_
 refine zA6 (zA1 rfl ?_)
 refine stp (zA8 (v := .bool false) rfl ?_)
 refine zA4 ?_
 refine zA6 ?_
 refine zA6 (zA1 rfl ?_)
 refine stp (zA7 rfl ?_)
 refine stp (zE8 rfl rfl rfl ?_)
 refine stp (zF9 rfl rfl ?_)
 refine stp (zB9 rfl ?_)
 refine zA3 (zC2 (s := .bool (decide ((sz.length : Int) < 1))) (b := false) (v := .slice ad sz.length c) rfl (zD1 _) (fun hc1 => ?_) ?_)
 ·
  have hc1_ := hc1
  try simp only [sb] at hc1_
  refine zA7 rfl ?_
  exact ⟨rfl, rfl⟩
 refine zA3 (zC2 (s := .bool (decide ((sz.length : Int) < 1))) (b := false) (v := .int .i64 (sz.length : Int)) rfl (zD1 _) (fun hc2 => ?_) ?_)
 ·
  have hc2_ := hc2
  try simp only [sb] at hc2_
  refine zE8 rfl rfl (gvt hc2) ?_
  exact ⟨rfl, rfl⟩
 refine zA3 (zC2 (s := .bool (decide ((sz.length : Int) < 1))) (b := false) (v := .bool (decide ((sz.length : Int) > 16))) rfl (zD1 _) (fun hc3 => ?_) ?_)
 ·
  have hc3_ := hc3
  try simp only [sb] at hc3_
  refine zM7 (gvt hc3) rfl ?_
  exact ⟨rfl, rfl⟩
 refine stp (zI6 rfl rfl rfl ?_)
 refine stp (zB9 rfl ?_)
 refine zA3 (zC2 (s := .bool ((decide ((sz.length : Int) < 1)) || (decide ((sz.length : Int) > 16)))) (b := false) (v := .slice ad sz.length c) rfl (zD1 _) (fun hc4 => ?_) ?_)
 ·
  have hc4_ := hc4
  try simp only [sb] at hc4_
  refine zA7 rfl ?_
  exact ⟨rfl, rfl⟩
 refine zA3 (zC2 (s := .bool ((decide ((sz.length : Int) < 1)) || (decide ((sz.length : Int) > 16)))) (b := false) (v := .pointer (some (eadr ad ((0 : Int).toNat * 1)))) rfl (zD1 _) (fun hc5 => ?_) ?_)
 ·
  have hc5_ := hc5
  try simp only [sb] at hc5_
  refine zI4 (R.grow G) (gvt hc5) rfl ?_ ?_ ?_; omega; omega
  exact ⟨rfl, rfl⟩
 refine zA3 (zC2 (s := .bool ((decide ((sz.length : Int) < 1)) || (decide ((sz.length : Int) > 16)))) (b := false) (v := .int .i64 (sz.getD 0 0)) rfl (zD1 _) (fun hc6 => ?_) ?_)
 ·
  have hc6_ := hc6
  try simp only [sb] at hc6_
  refine zD7 (v := .int .i64 (sz.getD 0 0)) (m := 0) (R.grow G) (gvt hc6) (show _ from zE4 (j := 0) 0 (by omega)) ?_
  exact ⟨rfl, rfl⟩
 refine zA3 (zC2 (s := .bool ((decide ((sz.length : Int) < 1)) || (decide ((sz.length : Int) > 16)))) (b := false) (v := .bool (decide ((sz.getD 0 0) < 1))) rfl (zD1 _) (fun hc7 => ?_) ?_)
 ·
  have hc7_ := hc7
  try simp only [sb] at hc7_
  refine zF9 (gvt hc7) rfl ?_
  exact ⟨rfl, rfl⟩
 refine stp (zI6 rfl rfl rfl ?_)
 refine zA4 ?_
 refine zB8 (b := (((decide ((sz.length : Int) < 1)) || (decide ((sz.length : Int) > 16))) || (decide ((sz.getD 0 0) < 1)))) rfl (fun h1 => ?_) (fun h1 => ?_)
 ·-- true
  simp only [sb] at h1
  refine zA6 (zA1 rfl ?_)
  refine stp (zA8 (v := .bool false) rfl ?_)
  refine zA4 ?_
  refine zC4 ?_
  have h9 : fitsL sz = false := qL1 (by omega)
  refine ret1 (zB3 (v := .bool false) rfl) ⟨?_, G⟩
  rw [h9]
 ·-- false
  simp only [sb] at h1
  have h1' : 1 ≤ sz.length ∧ sz.length ≤ 16 ∧ 1 ≤ sz.getD 0 0 := by omega
  clear h1
  refine zC3 ?_
  refine zA6 (zA1 rfl ?_)
  refine stp (zA0 rfl ?_)
  refine zA4 ?_
  refine zA6 ?_
  refine zA6 (zA1 rfl ?_)
  refine stp (zA0 rfl ?_)
  refine zA4 ?_
  refine zC6 ?_
  refine zG6 (fun m_ e_ w_ => ∃ (k : Nat), m_ = sz.length - k ∧ Fr [(0, .slice ad sz.length c), (3, .int .i64 (sumL (sz.take k))), (4, .int .i64 (k : Int))] e_ ∧ (k ≤ sz.length) ∧ (0 ≤ sumL (sz.take k) ∧ sumL (sz.take k) ≤ 4096) ∧ (∀ j, j < k → 0 ≤ sz.getD j 0) ∧ Grow w w_) _ ⟨0, rfl, zE6 ⟨rfl, rfl, rfl, trivial⟩, by omega, by simp [sumL], fun j hj => by omega, G⟩ ?_
  clear G
  rintro m_ e_ w8 ⟨k, rfl, ⟨e9, rfl⟩, hk, htk, hnn, G⟩
  have hgk := hg k
  simp only [inR] at hgk
  refine zA6 ?_
  refine zA6 (zA1 rfl ?_)
  refine stp (zA2 rfl ?_)
  refine stp (zA7 rfl ?_)
  refine stp (zE8 rfl rfl rfl ?_)
  refine stp (zF9 rfl rfl ?_)
  refine zA4 ?_
  refine zB8 (b := (decide ((k : Int) < (sz.length : Int)))) rfl (fun hlt => ?_) (fun hlt => ?_)
  ·-- true
   replace hlt := of_decide_eq_true hlt
   have hi : k < sz.length := by omega
   have ht := zJ0 hi
   refine zC3 ?_
   refine zA6 ?_
   refine zC6 ?_
   refine zA6 ?_
   refine zA6 (zA1 rfl ?_)
   refine stp (zA7 rfl ?_)
   refine stp (zA2 rfl ?_)
   refine stp (zD9 (R.grow G) rfl rfl ?_ ?_); omega
   refine stp (zD7 (v := .int .i64 (sz.getD k 0)) (m := 0) (R.grow G) rfl (zE4 0 (by omega)) ?_)
   refine stp (zF9 rfl rfl ?_)
   refine stp (zB9 rfl ?_)
   refine zA3 (zC2 (s := .bool (decide ((sz.getD k 0) < 0))) (b := false) (v := .slice ad sz.length c) rfl (zD1 _) (fun hc10 => ?_) ?_)
   ·
    have hc10_ := hc10
    try simp only [sb] at hc10_
    refine zA7 rfl ?_
    exact ⟨rfl, rfl⟩
   refine zA3 (zC2 (s := .bool (decide ((sz.getD k 0) < 0))) (b := false) (v := .int .i64 (k : Int)) rfl (zD1 _) (fun hc11 => ?_) ?_)
   ·
    have hc11_ := hc11
    try simp only [sb] at hc11_
    refine zA2 rfl ?_
    exact ⟨rfl, rfl⟩
   refine zA3 (zC2 (s := .bool (decide ((sz.getD k 0) < 0))) (b := false) (v := .pointer (some (eadr ad (k * 1)))) rfl (zD1 _) (fun hc12 => ?_) ?_)
   ·
    have hc12_ := hc12
    try simp only [sb] at hc12_
    refine zD9 (R.grow G) (gvt hc12) (gvt hc12) ?_ ?_; omega
    exact ⟨rfl, rfl⟩
   refine zA3 (zC2 (s := .bool (decide ((sz.getD k 0) < 0))) (b := false) (v := .int .i64 (sz.getD k 0)) rfl (zD1 _) (fun hc13 => ?_) ?_)
   ·
    have hc13_ := hc13
    try simp only [sb] at hc13_
    refine zD7 (v := .int .i64 (sz.getD k 0)) (m := 0) (R.grow G) (gvt hc13) (zE4 0 (by omega)) ?_
    exact ⟨rfl, rfl⟩
   refine zA3 (zC2 (s := .bool (decide ((sz.getD k 0) < 0))) (b := false) (v := .int .i64 (sumL (sz.take k))) rfl (zD1 _) (fun hc14 => ?_) ?_)
   ·
    have hc14_ := hc14
    try simp only [sb] at hc14_
    refine zA2 rfl ?_
    exact ⟨rfl, rfl⟩
   refine zA3 (zC2 (s := .bool (decide ((sz.getD k 0) < 0))) (b := false) (v := .int .i64 (4096 - (sumL (sz.take k)))) rfl (zD1 _) (fun hc15 => ?_) ?_)
   ·
    have hc15_ := hc15
    try simp only [sb] at hc15_
    refine zM0 rfl (gvt hc15) ?_ ?_; constructor <;> omega
    exact ⟨rfl, rfl⟩
   refine zA3 (zC2 (s := .bool (decide ((sz.getD k 0) < 0))) (b := false) (v := .bool (decide ((sz.getD k 0) > (4096 - (sumL (sz.take k)))))) rfl (zD1 _) (fun hc16 => ?_) ?_)
   ·
    have hc16_ := hc16
    try simp only [sb] at hc16_
    refine zM7 (gvt hc16) (gvt hc16) ?_
    exact ⟨rfl, rfl⟩
   refine stp (zI6 rfl rfl rfl ?_)
   refine zA4 ?_
   refine zB8 (b := ((decide ((sz.getD k 0) < 0)) || (decide ((sz.getD k 0) > (4096 - (sumL (sz.take k))))))) rfl (fun h3 => ?_) (fun h3 => ?_)
   ·-- true
    simp only [sb] at h3
    refine zA6 (zA1 rfl ?_)
    refine stp (zA8 (v := .bool false) rfl ?_)
    refine zA4 ?_
    refine zC4 ?_
    have h9 : fitsL sz = false := yB8 hi (by omega)
    refine ret1 (zB3 (v := .bool false) rfl) ⟨?_, G⟩
    rw [h9]
   ·-- false
    simp only [sb] at h3
    have h3' : 0 ≤ sz.getD k 0 ∧ sumL (sz.take k) + sz.getD k 0 ≤ 4096 := by omega
    refine zC3 ?_
    refine zA1 rfl ?_
    refine stp (zA2 rfl ?_)
    refine stp (zA7 rfl ?_)
    refine stp (zA2 rfl ?_)
    refine stp (zD9 (R.grow G) rfl rfl ?_ ?_); omega
    refine stp (zD7 (v := .int .i64 (sz.getD k 0)) (m := 0) (R.grow G) rfl (zE4 0 (by omega)) ?_)
    refine stp (zD8 rfl rfl ?_ ?_); constructor <;> omega
    refine stp (zA0 rfl ?_)
    refine zA4 ?_
    refine zA1 rfl ?_
    refine stp (zA2 rfl ?_)
    refine stp (zD8 rfl rfl ?_ ?_); constructor <;> omega
    refine stp (zA0 rfl ?_)
    refine zA4 ?_
    refine ⟨_, ?_, k + 1, rfl, zE6 ⟨rfl, congrArg (Value.int .i64) (by omega), congrArg (Value.int .i64) (by omega), trivial⟩, by omega, by omega, fun j hj => by rcases Nat.lt_succ_iff_lt_or_eq.1 hj with h_ | h_; exact hnn j h_; (subst h_; exact h3'.1), G⟩
    omega
  ·-- false
   replace hlt := of_decide_eq_false hlt
   have hk2 : k = sz.length := by omega
   subst hk2
   refine zF6 ?_
   refine zA6 (zA1 rfl ?_)
   refine stp (zA8 (v := .bool true) rfl ?_)
   refine zA4 ?_
   refine zC4 ?_
   have h9 : fitsL sz = true := qU7 h1'.1 h1'.2.1 h1'.2.2 hnn htk.2
   refine ret1 (zB3 (v := .bool true) rfl) ⟨?_, G⟩
   rw [h9]

set_option maxRecDepth 100000 in
theorem qY1 (w : World) {a m : Int} (hm : 0 ≤ m ∧ m ≤ 140737488355328) : Gives Tryz.prog 111 #[.int .i64 a, .int .i64 1, .int .i64 m] w (.tuple #[.int .i64 (if addOk a 1 m then a + 1 else 0), .bool (addOk a 1 m)]) := by
 have G := Grow.rfl' w
 refine zC7 Tryz.func111 Tryz.ntmps111 Tryz.results111 rfl rfl ?_
 refine zA6 (zA1 rfl ?_)
 refine stp (zA0 rfl ?_)
 refine stp (zA8 (v := .bool false) rfl ?_)
 refine zA4 ?_
 refine zA6 ?_
 refine zA6 (zA1 rfl ?_)
 refine stp (zA2 rfl ?_)
 refine stp (zA2 rfl ?_)
 refine stp (zT7 rfl rfl rfl ?_)
 refine stp (zF9 rfl rfl ?_)
 refine stp (zB9 rfl ?_)
 refine zA3 (zC2 (s := .bool (decide ((if 1 < a then 1 else a) < 0))) (b := false) (v := .int .i64 a) rfl (zD1 _) (fun hc1 => ?_) ?_)
 ·
  have hc1_ := hc1
  try simp only [sb] at hc1_
  refine zA2 rfl ?_
  exact ⟨rfl, rfl⟩
 refine zA3 (zC2 (s := .bool (decide ((if 1 < a then 1 else a) < 0))) (b := false) (v := .int .i64 m) rfl (zD1 _) (fun hc2 => ?_) ?_)
 ·
  have hc2_ := hc2
  try simp only [sb] at hc2_
  refine zA2 rfl ?_
  exact ⟨rfl, rfl⟩
 refine zA3 (zC2 (s := .bool (decide ((if 1 < a then 1 else a) < 0))) (b := false) (v := .bool (decide (a > m))) rfl (zD1 _) (fun hc3 => ?_) ?_)
 ·
  have hc3_ := hc3
  try simp only [sb] at hc3_
  refine zM7 (gvt hc3) (gvt hc3) ?_
  exact ⟨rfl, rfl⟩
 refine stp (zI6 rfl rfl rfl ?_)
 refine stp (zB9 rfl ?_)
 refine zA3 (zC2 (s := .bool ((decide ((if 1 < a then 1 else a) < 0)) || (decide (a > m)))) (b := false) (v := .int .i64 1) rfl (zD1 _) (fun hc4 => ?_) ?_)
 ·
  have hc4_ := hc4
  try simp only [sb] at hc4_
  refine zA2 rfl ?_
  exact ⟨rfl, rfl⟩
 refine zA3 (zC2 (s := .bool ((decide ((if 1 < a then 1 else a) < 0)) || (decide (a > m)))) (b := false) (v := .int .i64 m) rfl (zD1 _) (fun hc5 => ?_) ?_)
 ·
  have hc5_ := hc5
  try simp only [sb] at hc5_
  refine zA2 rfl ?_
  exact ⟨rfl, rfl⟩
 refine zA3 (zC2 (s := .bool ((decide ((if 1 < a then 1 else a) < 0)) || (decide (a > m)))) (b := false) (v := .int .i64 a) rfl (zD1 _) (fun hc6 => ?_) ?_)
 ·
  have hc6_ := hc6
  try simp only [sb] at hc6_
  refine zA2 rfl ?_
  exact ⟨rfl, rfl⟩
 refine zA3 (zC2 (s := .bool ((decide ((if 1 < a then 1 else a) < 0)) || (decide (a > m)))) (b := false) (v := .int .i64 (m - a)) rfl (zD1 _) (fun hc7 => ?_) ?_)
 ·
  have hc7_ := hc7
  try simp only [sb] at hc7_
  refine zM0 (gvt hc7) (gvt hc7) ?_ ?_; constructor <;> omega
  exact ⟨rfl, rfl⟩
 refine zA3 (zC2 (s := .bool ((decide ((if 1 < a then 1 else a) < 0)) || (decide (a > m)))) (b := false) (v := .bool (decide (1 > (m - a)))) rfl (zD1 _) (fun hc8 => ?_) ?_)
 ·
  have hc8_ := hc8
  try simp only [sb] at hc8_
  refine zM7 (gvt hc8) (gvt hc8) ?_
  exact ⟨rfl, rfl⟩
 refine stp (zI6 rfl rfl rfl ?_)
 refine zA4 ?_
 refine zB8 (b := (((decide ((if 1 < a then 1 else a) < 0)) || (decide (a > m))) || (decide (1 > (m - a))))) rfl (fun h1 => ?_) (fun h1 => ?_)
 ·-- true
  simp only [sb] at h1
  refine zA6 (zA1 rfl ?_)
  refine stp (zA0 rfl ?_)
  refine stp (zA8 (v := .bool false) rfl ?_)
  refine zA4 ?_
  refine zC4 ?_
  refine ret2 (zB3 (v := .int .i64 0) rfl) (zB3 (v := .bool false) rfl) ⟨?_, G⟩
  have h9 : addOk a 1 m = false := by simp only [addOk]; exact decide_eq_false (by omega)
  rw [h9]; rfl
 ·-- false
  simp only [sb] at h1
  have h9 : addOk a 1 m = true := by simp only [addOk]; exact decide_eq_true (by omega)
  refine zC3 ?_
  refine zA6 (zA1 rfl ?_)
  refine stp (zA2 rfl ?_)
  refine stp (zA2 rfl ?_)
  refine stp (zD8 rfl rfl ?_ ?_); constructor <;> omega
  refine stp (zA0 rfl ?_)
  refine stp (zA8 (v := .bool true) rfl ?_)
  refine zA4 ?_
  refine zC4 ?_
  refine ret2 (zB3 (v := .int .i64 (a + 1)) rfl) (zB3 (v := .bool true) rfl) ⟨?_, G⟩
  rw [h9]; rfl

set_option maxRecDepth 100000 in
theorem qI7 (w : World) {ad : Option Addr} {c : Nat} {sz : List Int} {seg a : Int} (R : RowAt w 1 ad sz.length (sz.map (.int .i64))) (hs : ∀ i, i < sz.length → 0 ≤ sz.getD i 0 ∧ sz.getD i 0 ≤ 140737488355328) : Gives Tryz.prog 122 #[.slice ad sz.length c, .int .i64 seg, .int .i64 a, .int .i64 1] w (.bool (withinP sz seg a 1)) := by
 have ll := R.lim
 have G := Grow.rfl' w
 refine zC7 Tryz.func122 Tryz.ntmps122 Tryz.results122 rfl rfl ?_
 refine zA6 (zA1 rfl ?_)
 refine stp (zA8 (v := .bool false) rfl ?_)
 refine zA4 ?_
 refine zA6 ?_
 refine zA6 (zA1 rfl ?_)
 refine stp (zA2 rfl ?_)
 refine stp (zF9 rfl rfl ?_)
 refine stp (zB9 rfl ?_)
 refine zA3 (zC2 (s := .bool (decide (seg < 0))) (b := false) (v := .int .i64 seg) rfl (zD1 _) (fun hc1 => ?_) ?_)
 ·
  have hc1_ := hc1
  try simp only [sb] at hc1_
  refine zA2 rfl ?_
  exact ⟨rfl, rfl⟩
 refine zA3 (zC2 (s := .bool (decide (seg < 0))) (b := false) (v := .slice ad sz.length c) rfl (zD1 _) (fun hc2 => ?_) ?_)
 ·
  have hc2_ := hc2
  try simp only [sb] at hc2_
  refine zA7 rfl ?_
  exact ⟨rfl, rfl⟩
 refine zA3 (zC2 (s := .bool (decide (seg < 0))) (b := false) (v := .int .i64 (sz.length : Int)) rfl (zD1 _) (fun hc3 => ?_) ?_)
 ·
  have hc3_ := hc3
  try simp only [sb] at hc3_
  refine zE8 rfl rfl (gvt hc3) ?_
  exact ⟨rfl, rfl⟩
 refine zA3 (zC2 (s := .bool (decide (seg < 0))) (b := false) (v := .bool (decide (seg ≥ (sz.length : Int)))) rfl (zD1 _) (fun hc4 => ?_) ?_)
 ·
  have hc4_ := hc4
  try simp only [sb] at hc4_
  refine zL7 (gvt hc4) (gvt hc4) ?_
  exact ⟨rfl, rfl⟩
 refine stp (zI6 rfl rfl rfl ?_)
 refine zA4 ?_
 refine zB8 (b := ((decide (seg < 0)) || (decide (seg ≥ (sz.length : Int))))) rfl (fun h1 => ?_) (fun h1 => ?_)
 ·-- true
  simp only [sb] at h1
  refine zA6 (zA1 rfl ?_)
  refine stp (zA8 (v := .bool false) rfl ?_)
  refine zA4 ?_
  refine zC4 ?_
  refine ret1 (zB3 (v := .bool false) rfl) ⟨?_, G⟩
  have h9 : withinP sz seg a 1 = false := by unfold withinP; rw [decide_eq_false (by omega), Bool.false_and]
  rw [h9]
 ·-- false
  simp only [sb] at h1
  have h9 := hs seg.toNat (by omega)
  refine zC3 ?_
  refine zA6 (zA1 rfl ?_)
  refine stp (zA2 rfl ?_)
  refine stp (zA2 rfl ?_)
  refine stp (zA7 rfl ?_)
  refine stp (zA2 rfl ?_)
  refine stp (zI4 (R.grow G) rfl rfl ?_ ?_ ?_); omega; omega
  refine stp (zD7 (v := .int .i64 (sz.getD seg.toNat 0)) (m := 0) (R.grow G) rfl (by rw [Nat.mul_one]; exact zX6 0 (by omega)) ?_)
  refine stp (zC0 (v := .tuple #[.int .i64 (if addOk a 1 (sz.getD seg.toNat 0) then a + 1 else 0), .bool (addOk a 1 (sz.getD seg.toNat 0))]) rfl (qY1 _ (m := sz.getD seg.toNat 0) h9) ?_)
  intro w5 g6
  replace G := G.tr g6
  clear g6
  refine stp (zB6 (v := .tuple #[.int .i64 (if addOk a 1 (sz.getD seg.toNat 0) then a + 1 else 0), .bool (addOk a 1 (sz.getD seg.toNat 0))]) rfl ?_)
  refine stp (zB2 (v := .int .i64 (if addOk a 1 (sz.getD seg.toNat 0) then a + 1 else 0)) rfl rfl ?_)
  refine stp (zB2 (v := .bool (addOk a 1 (sz.getD seg.toNat 0))) rfl rfl ?_)
  refine stp (zA0 rfl ?_)
  refine stp (zC1 rfl ?_)
  refine zA4 ?_
  refine zA6 (zA1 rfl ?_)
  refine stp (zB9 rfl ?_)
  refine stp (zC1 rfl ?_)
  refine zA4 ?_
  refine zC4 ?_
  refine ret1 (zB3 (v := .bool (addOk a 1 (sz.getD seg.toNat 0))) rfl) ⟨?_, G⟩
  unfold withinP; rw [decide_eq_true (by omega), Bool.true_and]

set_option maxRecDepth 100000 in
theorem qM4 (w : World) {ad : Option Addr} {c : Nat} {sz : List Int} (R : RowAt w 1 ad sz.length (sz.map (.int .i64))) (hr : ∀ x ∈ sz, inR .i64 x) {seg a : Int} (hc : sz.length ≤ c) : Gives Tryz.prog 152 #[.slice ad sz.length c, .int .i64 seg, .int .i64 a] w (.int .i64 (placeM sz seg a)) := by
 have lR := R.lim
 have G := Grow.rfl' w
 refine zC7 Tryz.func152 Tryz.ntmps152 Tryz.results152 rfl rfl ?_
 refine zA6 (zA1 rfl ?_)
 refine stp (zA0 rfl ?_)
 refine zA4 ?_
 refine zA6 ?_
 refine zA6 (zA1 rfl ?_)
 refine stp (zA7 rfl ?_)
 refine stp (zC0 (v := .bool (fitsL sz)) rfl (qD2 _ (R.grow G) hr) ?_)
 intro w1 g2
 replace G := G.tr g2
 clear g2
 refine stp (zN6 rfl ?_)
 refine stp (zB9 rfl ?_)
 refine zA3 (zC2 (s := .bool (!(fitsL sz))) (b := false) (v := .slice ad sz.length c) rfl (zD1 _) (fun hc3 => ?_) ?_)
 ·
  have hc3_ := hc3
  try simp only [sb] at hc3_
  refine zA7 rfl ?_
  exact ⟨rfl, rfl⟩
 refine zA3 (zC2 (s := .bool (!(fitsL sz))) (b := false) (v := .int .i64 seg) rfl (zD1 _) (fun hc4 => ?_) ?_)
 ·
  have hc4_ := hc4
  try simp only [sb] at hc4_
  refine zA2 rfl ?_
  exact ⟨rfl, rfl⟩
 refine zA3 (zC2 (s := .bool (!(fitsL sz))) (b := false) (v := .int .i64 a) rfl (zD1 _) (fun hc5 => ?_) ?_)
 ·
  have hc5_ := hc5
  try simp only [sb] at hc5_
  refine zA2 rfl ?_
  exact ⟨rfl, rfl⟩
 refine zA3 (zR6 (s := .bool (!(fitsL sz))) (b := false) (v := .bool (decide (0 ≤ seg ∧ seg < sz.length ∧ 0 ≤ a ∧ a < sz.getD seg.toNat 0))) rfl (zD1 _) (fun hc6 => ?_) ?_)
 ·
  have hc6_ := hc6
  try simp only [sb] at hc6_
  exact zL0 (l := ([.slice ad sz.length c, .int .i64 seg, .int .i64 a, .int .i64 1] : List Value)) rfl (by show ([gv (!(!(fitsL sz))) (.slice ad sz.length c), gv (!(!(fitsL sz))) (.int .i64 seg), gv (!(!(fitsL sz))) (.int .i64 a), .int .i64 1] : List Value) = _; rw [gvt hc6, gvt hc6, gvt hc6]) ((by have hf_ : fitsL sz = true := (by simpa using hc6); exact zH3 (qI7 _ (R.grow G) (fun i _ => by have := zH7 hf_ i; omega)) (y := .bool (decide (0 ≤ seg ∧ seg < sz.length ∧ 0 ≤ a ∧ a < sz.getD seg.toNat 0))) (by rw [qF2 hf_]))) (fun w2_ g2_ => ⟨rfl, g2_⟩)
 intro w7 g8
 replace G := G.tr g8
 clear g8
 refine zA3 (zC2 (s := .bool (!(fitsL sz))) (b := false) (v := .bool (!(decide (0 ≤ seg ∧ seg < sz.length ∧ 0 ≤ a ∧ a < sz.getD seg.toNat 0)))) rfl (zD1 _) (fun hc9 => ?_) ?_)
 ·
  have hc9_ := hc9
  try simp only [sb] at hc9_
  refine zN6 (gvt hc9) ?_
  exact ⟨rfl, rfl⟩
 refine stp (zI6 rfl rfl rfl ?_)
 refine zA4 ?_
 refine zB8 (b := ((!(fitsL sz)) || (!(decide (0 ≤ seg ∧ seg < sz.length ∧ 0 ≤ a ∧ a < sz.getD seg.toNat 0))))) rfl (fun h1 => ?_) (fun h1 => ?_)
 ·-- true
  simp only [sb] at h1
  refine zA6 (zA1 rfl ?_)
  refine stp (zA0 rfl ?_)
  refine zA4 ?_
  refine zC4 ?_
  have h9 : placeM sz seg a = -1 := by unfold placeM; rw [if_neg]; rintro ⟨x1, x2⟩; rcases h1 with h_ | h_; (rw [x1] at h_; cases h_); exact absurd x2 h_
  refine ret1 (zB3 (v := .int .i64 (-1)) rfl) ⟨?_, G⟩
  rw [h9]
 ·-- false
  simp only [sb] at h1
  obtain ⟨hf, hw⟩ := h1
  have hw' := hw
  obtain ⟨n, hn⟩ : ∃ n : Nat, seg = (n : Int) := ⟨seg.toNat, by omega⟩
  have h9 : placeM sz seg a = a + sumL (sz.take n) := by unfold placeM; rw [if_pos ⟨hf, hw'⟩, hn, Int.toNat_natCast]
  obtain ⟨f1, f2, f3, f4, f5⟩ := zG2 hf
  have hsz := zH7 hf
  have hsg := hsz seg.toNat
  refine zC3 ?_
  refine zA6 ?_
  refine zA6 (zA1 rfl ?_)
  refine stp (zA7 rfl ?_)
  refine stp (zA2 rfl ?_)
  refine stp (qA5 rfl rfl (by omega) (by omega) ?_)
  have R2 := R.sliceH (m := n) hc (by omega) (by decide)
  rw [show seg.toNat = n from by omega]
  generalize (if c = 0 then ad else ad.map (·.add (0 * 1))) = ad2 at R2 ⊢
  refine stp (zE8 rfl rfl rfl ?_)
  refine stp (zA2 rfl ?_)
  refine zA4 ?_
  refine zC6 ?_
  refine zG6 (fun m_ e_ w_ => ∃ (k : Nat), m_ = n - k ∧ Fr [(6, .int .i64 0), (21, .slice ad2 n c), (22, .int .i64 (n : Int)), (2, .int .i64 (a + sumL (sz.take k))), (23, .int .i64 (k : Int))] e_ ∧ (k ≤ n) ∧ Grow w w_) _ ⟨0, rfl, zE6 ⟨rfl, rfl, rfl, congrArg (Value.int .i64) (by simp [sumL]), rfl, trivial⟩, by omega, G⟩ ?_
  clear G
  rintro m_ e_ w10 ⟨k, rfl, ⟨e11, rfl⟩, hk, G⟩
  have hkz := hsz k
  have htk := zH4 f4 k
  refine zA6 (zA1 rfl ?_)
  refine stp (zF9 rfl rfl ?_)
  refine zA4 ?_
  refine zA6 ?_
  refine zB8 (b := (decide ((k : Int) < (n : Int)))) rfl (fun hlt => ?_) (fun hlt => ?_)
  ·-- true
   replace hlt := of_decide_eq_true hlt
   have hi : k < sz.length := by omega
   have ht := zJ0 hi
   refine zC3 ?_
   refine zA6 ?_
   refine zC6 ?_
   refine zA6 (zA1 rfl ?_)
   refine stp (zD9 (R2.grow G) rfl rfl ?_ ?_); omega
   refine stp (zD7 (v := .int .i64 (sz.getD k 0)) (m := 0) (R2.grow G) rfl (show _ from yI0 (by omega) (by omega)) ?_)
   refine stp (zA0 rfl ?_)
   refine zA4 ?_
   refine zA1 rfl ?_
   refine stp (zA2 rfl ?_)
   refine stp (zA2 rfl ?_)
   refine stp (zD8 rfl rfl ?_ ?_); constructor <;> omega
   refine stp (zA0 rfl ?_)
   refine zA4 ?_
   refine zA1 rfl ?_
   refine stp (zD8 rfl rfl ?_ ?_); constructor <;> omega
   refine stp (zA2 rfl ?_)
   refine zA4 ?_
   refine ⟨_, ?_, k + 1, rfl, zE6 ⟨rfl, rfl, rfl, congrArg (Value.int .i64) (by omega), congrArg (Value.int .i64) (by omega), trivial⟩, by omega, G⟩
   omega
  ·-- false
   replace hlt := of_decide_eq_false hlt
   have hkn : k = n := by omega
   refine zF6 ?_
   refine zA6 (zA1 rfl ?_)
   refine stp (zA2 rfl ?_)
   refine stp (zA0 rfl ?_)
   refine zA4 ?_
   refine zC4 ?_
   refine ret1 (zB3 (v := .int .i64 (a + sumL (sz.take k))) rfl) ⟨?_, G⟩
   rw [h9, hkn]

set_option maxRecDepth 100000 in
theorem qM5 (w : World) {ad : Option Addr} {c : Nat} {sz : List Int} (R : RowAt w 1 ad sz.length (sz.map (.int .i64))) (hr : ∀ x ∈ sz, inR .i64 x) {seg a : Int} (hc : sz.length ≤ c) : Gives Tryz.prog 108 #[.slice ad sz.length c, .int .i64 seg, .int .i64 a] w (.int .i64 (placeM sz seg a)) := by
 have lR := R.lim
 have G := Grow.rfl' w
 refine zC7 Tryz.func108 Tryz.ntmps108 Tryz.results108 rfl rfl ?_
 refine zA6 (zA1 rfl ?_)
 refine stp (zA0 rfl ?_)
 refine zA4 ?_
 refine zA6 ?_
 refine zA6 (zA1 rfl ?_)
 refine stp (zA7 rfl ?_)
 refine stp (zC0 (v := .bool (fitsL sz)) rfl (zO5 _ (R.grow G) hr) ?_)
 intro w1 g2
 replace G := G.tr g2
 clear g2
 refine stp (zN6 rfl ?_)
 refine stp (zB9 rfl ?_)
 refine zA3 (zC2 (s := .bool (!(fitsL sz))) (b := false) (v := .slice ad sz.length c) rfl (zD1 _) (fun hc3 => ?_) ?_)
 ·
  have hc3_ := hc3
  try simp only [sb] at hc3_
  refine zA7 rfl ?_
  exact ⟨rfl, rfl⟩
 refine zA3 (zC2 (s := .bool (!(fitsL sz))) (b := false) (v := .int .i64 seg) rfl (zD1 _) (fun hc4 => ?_) ?_)
 ·
  have hc4_ := hc4
  try simp only [sb] at hc4_
  refine zA2 rfl ?_
  exact ⟨rfl, rfl⟩
 refine zA3 (zC2 (s := .bool (!(fitsL sz))) (b := false) (v := .int .i64 a) rfl (zD1 _) (fun hc5 => ?_) ?_)
 ·
  have hc5_ := hc5
  try simp only [sb] at hc5_
  refine zA2 rfl ?_
  exact ⟨rfl, rfl⟩
 refine zA3 (zR6 (s := .bool (!(fitsL sz))) (b := false) (v := .bool (decide (0 ≤ seg ∧ seg < sz.length ∧ 0 ≤ a ∧ a < sz.getD seg.toNat 0))) rfl (zD1 _) (fun hc6 => ?_) ?_)
 ·
  have hc6_ := hc6
  try simp only [sb] at hc6_
  exact zL0 (l := ([.slice ad sz.length c, .int .i64 seg, .int .i64 a, .int .i64 1] : List Value)) rfl (by show ([gv (!(!(fitsL sz))) (.slice ad sz.length c), gv (!(!(fitsL sz))) (.int .i64 seg), gv (!(!(fitsL sz))) (.int .i64 a), .int .i64 1] : List Value) = _; rw [gvt hc6, gvt hc6, gvt hc6]) ((by have hf_ : fitsL sz = true := (by simpa using hc6); exact zH3 (zQ9 _ (R.grow G) (fun i => by have := zH7 hf_ i; omega)) (y := .bool (decide (0 ≤ seg ∧ seg < sz.length ∧ 0 ≤ a ∧ a < sz.getD seg.toNat 0))) (by rw [qF2 hf_]))) (fun w2_ g2_ => ⟨rfl, g2_⟩)
 intro w7 g8
 replace G := G.tr g8
 clear g8
 refine zA3 (zC2 (s := .bool (!(fitsL sz))) (b := false) (v := .bool (!(decide (0 ≤ seg ∧ seg < sz.length ∧ 0 ≤ a ∧ a < sz.getD seg.toNat 0)))) rfl (zD1 _) (fun hc9 => ?_) ?_)
 ·
  have hc9_ := hc9
  try simp only [sb] at hc9_
  refine zN6 (gvt hc9) ?_
  exact ⟨rfl, rfl⟩
 refine stp (zI6 rfl rfl rfl ?_)
 refine zA4 ?_
 refine zB8 (b := ((!(fitsL sz)) || (!(decide (0 ≤ seg ∧ seg < sz.length ∧ 0 ≤ a ∧ a < sz.getD seg.toNat 0))))) rfl (fun h1 => ?_) (fun h1 => ?_)
 ·-- true
  simp only [sb] at h1
  refine zA6 (zA1 rfl ?_)
  refine stp (zA0 rfl ?_)
  refine zA4 ?_
  refine zC4 ?_
  have h9 : placeM sz seg a = -1 := by unfold placeM; rw [if_neg]; rintro ⟨x1, x2⟩; rcases h1 with h_ | h_; (rw [x1] at h_; cases h_); exact absurd x2 h_
  refine ret1 (zB3 (v := .int .i64 (-1)) rfl) ⟨?_, G⟩
  rw [h9]
 ·-- false
  simp only [sb] at h1
  obtain ⟨hf, hw⟩ := h1
  have hw' := hw
  obtain ⟨n, hn⟩ : ∃ n : Nat, seg = (n : Int) := ⟨seg.toNat, by omega⟩
  have h9 : placeM sz seg a = a + sumL (sz.take n) := by unfold placeM; rw [if_pos ⟨hf, hw'⟩, hn, Int.toNat_natCast]
  obtain ⟨f1, f2, f3, f4, f5⟩ := zG2 hf
  have hsz := zH7 hf
  have hsg := hsz seg.toNat
  refine zC3 ?_
  refine zA6 (zA1 rfl ?_)
  refine stp (zA2 rfl ?_)
  refine stp (zA0 rfl ?_)
  refine zA4 ?_
  refine zA6 ?_
  refine zA6 (zA1 rfl ?_)
  refine stp (zA0 rfl ?_)
  refine zA4 ?_
  refine zC6 ?_
  refine zG6 (fun m_ e_ w_ => ∃ (k : Nat), m_ = n - k ∧ Fr [(0, .slice ad sz.length c), (1, .int .i64 seg), (6, .int .i64 0), (7, .int .i64 (a + sumL (sz.take k))), (8, .int .i64 (k : Int))] e_ ∧ (k ≤ n) ∧ Grow w w_) _ ⟨0, rfl, zE6 ⟨rfl, rfl, rfl, congrArg (Value.int .i64) (by simp [sumL]), rfl, trivial⟩, by omega, G⟩ ?_
  clear G
  rintro m_ e_ w10 ⟨k, rfl, ⟨e11, rfl⟩, hk, G⟩
  have hkz := hsz k
  have htk := zH4 f4 k
  refine zA6 ?_
  refine zA6 (zA1 rfl ?_)
  refine stp (zA2 rfl ?_)
  refine stp (zA2 rfl ?_)
  refine stp (zF9 rfl rfl ?_)
  refine zA4 ?_
  refine zB8 (b := (decide ((k : Int) < seg))) rfl (fun hlt => ?_) (fun hlt => ?_)
  ·-- true
   replace hlt := of_decide_eq_true hlt
   have hi : k < sz.length := by omega
   have ht := zJ0 hi
   refine zC3 ?_
   refine zA6 ?_
   refine zC6 ?_
   refine zA1 rfl ?_
   refine stp (zA2 rfl ?_)
   refine stp (zA7 rfl ?_)
   refine stp (zA2 rfl ?_)
   refine stp (zD9 (R.grow G) rfl rfl ?_ ?_); omega
   refine stp (zD7 (v := .int .i64 (sz.getD k 0)) (m := 0) (R.grow G) rfl (zE4 0 (by omega)) ?_)
   refine stp (zD8 rfl rfl ?_ ?_); constructor <;> omega
   refine stp (zA0 rfl ?_)
   refine zA4 ?_
   refine zA1 rfl ?_
   refine stp (zA2 rfl ?_)
   refine stp (zD8 rfl rfl ?_ ?_); constructor <;> omega
   refine stp (zA0 rfl ?_)
   refine zA4 ?_
   refine ⟨_, ?_, k + 1, rfl, zE6 ⟨rfl, rfl, rfl, congrArg (Value.int .i64) (by omega), congrArg (Value.int .i64) (by omega), trivial⟩, by omega, G⟩
   omega
  ·-- false
   replace hlt := of_decide_eq_false hlt
   have hkn : k = n := by omega
   refine zF6 ?_
   refine zA6 (zA1 rfl ?_)
   refine stp (zA2 rfl ?_)
   refine stp (zA0 rfl ?_)
   refine zA4 ?_
   refine zC4 ?_
   refine ret1 (zB3 (v := .int .i64 (a + sumL (sz.take k))) rfl) ⟨?_, G⟩
   rw [h9, hkn]

set_option maxRecDepth 100000 in
theorem zS9 (w : World) {ses sum : Int} {ad : Option Addr} {c : Nat} {sz : List Int} (R : RowAt w 1 ad sz.length (sz.map (.int .i64))) (hr : ∀ x ∈ sz, inR .i64 x) : Gives Tryz.prog 32 #[.agg #[.int .u64 ses, .slice ad sz.length c, .int .u32 sum]] w (.bool (fitsL sz)) := by
 have G := Grow.rfl' w
 refine zC7 Tryz.func32 Tryz.ntmps32 Tryz.results32 rfl rfl ?_
 refine zA6 (zA1 rfl ?_)
 refine zA3 (og rfl ?_)
 (first | refine zD0 rfl ?_ | refine zD2 rfl ?_ | refine zC5 rfl ?_ | refine zH0 rfl rfl ?_)
 intro b1 w2 hb3 hc4 g5
 have hge6 := Nat.le_trans G.size hb3
 replace G := G.tr g5
 clear g5 hb3
 refine stp (zA8 (v := .bool false) rfl ?_)
 refine zA4 ?_
 refine zA6 (zA1 rfl ?_)
 refine stp (zA5 rfl ?_)
 refine stp (zB5 (v := .slice ad sz.length c) rfl hc4 rfl ?_)
 refine stp (zC0 (v := .bool (fitsL sz)) rfl (qD2 _ (R.grow G) hr) ?_)
 intro w7 g8
 replace hc4 := g8.heap hc4
 replace G := G.tr g8
 clear g8
 refine stp (zC1 rfl ?_)
 refine zA4 ?_
 refine zC4 ?_
 refine ret1 (zB3 (v := .bool (fitsL sz)) rfl) ⟨?_, G⟩
 rfl

set_option maxRecDepth 100000 in
theorem zO6 (w : World) {ses sum : Int} {ad : Option Addr} {c : Nat} {sz : List Int} (R : RowAt w 1 ad sz.length (sz.map (.int .i64))) (hr : ∀ x ∈ sz, inR .i64 x) : Gives Tryz.prog 34 #[.agg #[.int .u64 ses, .slice ad sz.length c, .int .u32 sum]] w (.int .i64 (wordsM sz : Int)) := by
 have lR := R.lim
 have G := Grow.rfl' w
 refine zC7 Tryz.func34 Tryz.ntmps34 Tryz.results34 rfl rfl ?_
 refine zA6 (zA1 rfl ?_)
 refine zA3 (og rfl ?_)
 (first | refine zD0 rfl ?_ | refine zD2 rfl ?_ | refine zC5 rfl ?_ | refine zH0 rfl rfl ?_)
 intro b1 w2 hb3 hc4 g5
 have hge6 := Nat.le_trans G.size hb3
 replace G := G.tr g5
 clear g5 hb3
 refine stp (zA0 rfl ?_)
 refine zA4 ?_
 refine zA6 ?_
 refine zA6 (zA1 rfl ?_)
 refine stp (zB4 rfl hc4 (by rfl) ?_)
 refine stp (zC0 (v := .bool (fitsL sz)) rfl (zS9 _ (R.grow G) hr) ?_)
 intro w7 g8
 replace hc4 := g8.heap hc4
 replace G := G.tr g8
 clear g8
 refine stp (zN6 rfl ?_)
 refine zA4 ?_
 refine zB8 (b := (!(fitsL sz))) rfl (fun h1 => ?_) (fun h1 => ?_)
 ·-- true
  simp only [sb] at h1
  refine zA6 (zA1 rfl ?_)
  refine stp (zA0 rfl ?_)
  refine zA4 ?_
  refine zC4 ?_
  have h9 : wordsM sz = 0 := by unfold wordsM; rw [if_neg (by simpa using h1)]
  refine ret1 (zB3 (v := .int .i64 0) rfl) ⟨?_, G⟩
  rw [h9]; rfl
 ·-- false
  simp only [sb] at h1
  have hf : fitsL sz = true := by simpa using h1
  obtain ⟨f1, f2, f3, f4, f5⟩ := zG2 hf
  have hsz := zH7 hf
  refine zC3 ?_
  refine zA6 (zA1 rfl ?_)
  refine stp (zA0 rfl ?_)
  refine zA4 ?_
  refine zA6 ?_
  refine zA6 (zA1 rfl ?_)
  refine stp (zA5 rfl ?_)
  refine stp (zB5 (v := .slice ad sz.length c) rfl hc4 rfl ?_)
  refine stp (zE8 rfl rfl rfl ?_)
  refine stp (zA2 rfl ?_)
  refine zA4 ?_
  refine zC6 ?_
  refine zG6 (fun m_ e_ w_ => ∃ (k : Nat), m_ = sz.length - k ∧ Fr [(2, .int .i64 0), (10, .slice ad sz.length c), (11, .int .i64 (sz.length : Int)), (3, .int .i64 (sumL (sz.take k))), (12, .int .i64 (k : Int))] e_ ∧ (k ≤ sz.length) ∧ (w_.heap[b1]? = some (.cells #[.int .u64 ses, .slice ad sz.length c, .int .u32 sum] 51 (0, 0))) ∧ Grow w w_) _ ⟨0, rfl, zE6 ⟨rfl, rfl, rfl, rfl, rfl, trivial⟩, by omega, hc4, G⟩ ?_
  clear hc4
  clear G
  rintro m_ e_ w9 ⟨k, rfl, ⟨e10, rfl⟩, hk, hc4, G⟩
  have hkz := hsz k
  have htk := zH4 f4 k
  refine zA6 (zA1 rfl ?_)
  refine stp (zF9 rfl rfl ?_)
  refine zA4 ?_
  refine zA6 ?_
  refine zB8 (b := (decide ((k : Int) < (sz.length : Int)))) rfl (fun hlt => ?_) (fun hlt => ?_)
  ·-- true
   replace hlt := of_decide_eq_true hlt
   have hi : k < sz.length := by omega
   have ht := zJ0 hi
   refine zC3 ?_
   refine zA6 ?_
   refine zC6 ?_
   refine zA6 (zA1 rfl ?_)
   refine stp (zD9 (R.grow G) rfl rfl ?_ ?_); omega
   refine stp (zD7 (v := .int .i64 (sz.getD k 0)) (m := 0) (R.grow G) rfl (zE4 0 (by omega)) ?_)
   refine stp (zA0 rfl ?_)
   refine zA4 ?_
   refine zA1 rfl ?_
   refine stp (zA2 rfl ?_)
   refine stp (zA2 rfl ?_)
   refine stp (zD8 rfl rfl ?_ ?_); constructor <;> omega
   refine stp (zA0 rfl ?_)
   refine zA4 ?_
   refine zA1 rfl ?_
   refine stp (zD8 rfl rfl ?_ ?_); constructor <;> omega
   refine stp (zA2 rfl ?_)
   refine zA4 ?_
   refine ⟨_, ?_, k + 1, rfl, zE6 ⟨rfl, rfl, rfl, congrArg (Value.int .i64) (by omega), congrArg (Value.int .i64) (by omega), trivial⟩, by omega, hc4, G⟩
   omega
  ·-- false
   replace hlt := of_decide_eq_false hlt
   have hk2 : k = sz.length := by omega
   refine zF6 ?_
   refine zA6 (zA1 rfl ?_)
   refine stp (zA2 rfl ?_)
   refine stp (zA0 rfl ?_)
   refine zA4 ?_
   refine zC4 ?_
   refine ret1 (zB3 (v := .int .i64 (sumL (sz.take k))) rfl) ⟨?_, G⟩
   rw [(zF4 hf).1, hk2, List.take_length]

set_option maxRecDepth 100000 in
theorem zM9 (w : World) {ses sum : Int} {ad : Option Addr} {c : Nat} {sz : List Int} (R : RowAt w 1 ad sz.length (sz.map (.int .i64))) (hr : ∀ x ∈ sz, inR .i64 x) : Gives Tryz.prog 36 #[.agg #[.int .u64 ses, .slice ad sz.length c, .int .u32 sum]] w (.int .i64 (chunksM sz : Int)) := by
 have hle := zG9 sz
 have G := Grow.rfl' w
 refine zC7 Tryz.func36 Tryz.ntmps36 Tryz.results36 rfl rfl ?_
 refine zA6 (zA1 rfl ?_)
 refine zA3 (og rfl ?_)
 (first | refine zD0 rfl ?_ | refine zD2 rfl ?_ | refine zC5 rfl ?_ | refine zH0 rfl rfl ?_)
 intro b1 w2 hb3 hc4 g5
 have hge6 := Nat.le_trans G.size hb3
 replace G := G.tr g5
 clear g5 hb3
 refine stp (zA0 rfl ?_)
 refine zA4 ?_
 refine zA6 (zA1 rfl ?_)
 refine stp (zB4 rfl hc4 (by rfl) ?_)
 refine stp (zC0 (v := .int .i64 (wordsM sz : Int)) rfl (zO6 _ (R.grow G) hr) ?_)
 intro w7 g8
 replace hc4 := g8.heap hc4
 replace G := G.tr g8
 clear g8
 refine stp (zC0 (v := .int .i64 (((wordsM sz : Int) + 7) / 8)) rfl (qF3 _ _ (by omega) (by omega)) ?_)
 intro w9 g10
 replace hc4 := g10.heap hc4
 replace G := G.tr g10
 clear g10
 refine stp (zA0 rfl ?_)
 refine zA4 ?_
 refine zC4 ?_
 refine ret1 (zB3 (v := .int .i64 (((wordsM sz : Int) + 7) / 8)) rfl) ⟨?_, G⟩
 congr 1 <;> (unfold chunksM; omega)

set_option maxRecDepth 100000 in
theorem qR4 (w : World) {ses sum : Int} {ad : Option Addr} {c : Nat} {sz : List Int} (R : RowAt w 1 ad sz.length (sz.map (.int .i64))) (hr : ∀ x ∈ sz, inR .i64 x) {i : Int} (gi : inR .i64 i) : Gives Tryz.prog 43 #[.agg #[.int .u64 ses, .slice ad sz.length c, .int .u32 sum], .int .i64 i] w (.int .i64 (sizeM sz i)) := by
 have hle := zG9 sz
 have hch : chunksM sz = (wordsM sz + 7) / 8 := rfl
 have G := Grow.rfl' w
 refine zC7 Tryz.func43 Tryz.ntmps43 Tryz.results43 rfl rfl ?_
 refine zA6 (zA1 rfl ?_)
 refine zA3 (og rfl ?_)
 (first | refine zD0 rfl ?_ | refine zD2 rfl ?_ | refine zC5 rfl ?_ | refine zH0 rfl rfl ?_)
 intro b1 w2 hb3 hc4 g5
 have hge6 := Nat.le_trans G.size hb3
 replace G := G.tr g5
 clear g5 hb3
 refine stp (zA0 rfl ?_)
 refine zA4 ?_
 refine zA6 ?_
 refine zA6 (zA1 rfl ?_)
 refine stp (zA2 rfl ?_)
 refine stp (zF9 rfl rfl ?_)
 refine stp (zB9 rfl ?_)
 refine zA3 (zC2 (s := .bool (decide (i < 0))) (b := false) (v := .int .i64 i) rfl (zD1 _) (fun hc7 => ?_) ?_)
 ·
  have hc7_ := hc7
  try simp only [sb] at hc7_
  refine zA2 rfl ?_
  exact ⟨rfl, rfl⟩
 refine zA3 (zC2 (s := .bool (decide (i < 0))) (b := false) (v := .agg #[.int .u64 ses, .slice ad sz.length c, .int .u32 sum]) rfl (zD1 _) (fun hc8 => ?_) ?_)
 ·
  have hc8_ := hc8
  try simp only [sb] at hc8_
  refine zB4 rfl hc4 (by rfl) ?_
  exact ⟨rfl, rfl⟩
 refine zA3 (zR6 (s := .bool (decide (i < 0))) (b := false) (v := .int .i64 (chunksM sz : Int)) rfl (zD1 _) (fun hc9 => ?_) ?_)
 ·
  have hc9_ := hc9
  try simp only [sb] at hc9_
  exact zL0 (l := ([.agg #[.int .u64 ses, .slice ad sz.length c, .int .u32 sum]] : List Value)) rfl (by show ([gv (!(decide (i < 0))) (.agg #[.int .u64 ses, .slice ad sz.length c, .int .u32 sum])] : List Value) = _; rw [gvt hc9]) (zM9 _ (R.grow G) hr) (fun w2_ g2_ => ⟨rfl, g2_⟩)
 intro w10 g11
 replace hc4 := g11.heap hc4
 replace G := G.tr g11
 clear g11
 refine zA3 (zC2 (s := .bool (decide (i < 0))) (b := false) (v := .bool (decide (i ≥ (chunksM sz : Int)))) rfl (zD1 _) (fun hc12 => ?_) ?_)
 ·
  have hc12_ := hc12
  try simp only [sb] at hc12_
  refine zL7 (gvt hc12) (gvt hc12) ?_
  exact ⟨rfl, rfl⟩
 refine stp (zI6 rfl rfl rfl ?_)
 refine zA4 ?_
 refine zB8 (b := ((decide (i < 0)) || (decide (i ≥ (chunksM sz : Int))))) rfl (fun h1 => ?_) (fun h1 => ?_)
 ·-- true
  simp only [sb] at h1
  refine zA6 (zA1 rfl ?_)
  refine stp (zA0 rfl ?_)
  refine zA4 ?_
  refine zC4 ?_
  refine ret1 (zB3 (v := .int .i64 0) rfl) ⟨?_, G⟩
  unfold sizeM; rw [if_pos (by omega)]
 ·-- false
  simp only [sb] at h1
  refine zC3 ?_
  refine zA6 (zA1 rfl ?_)
  refine stp (zB4 rfl hc4 (by rfl) ?_)
  refine stp (zC0 (v := .int .i64 (wordsM sz : Int)) rfl (zO6 _ (R.grow G) hr) ?_)
  intro w13 g14
  replace hc4 := g14.heap hc4
  replace G := G.tr g14
  clear g14
  refine stp (zL5 rfl rfl ?_ ?_); constructor <;> omega
  refine stp (zA2 rfl ?_)
  refine stp (zL5 rfl rfl ?_ ?_); constructor <;> omega
  refine stp (zM0 rfl rfl ?_ ?_); constructor <;> omega
  refine stp (zT7 rfl rfl rfl ?_)
  refine stp (zA0 rfl ?_)
  refine zA4 ?_
  refine zC4 ?_
  refine ret1 (zB3 (v := .int .i64 (if (((wordsM sz : Int) * 8) - (i * 64)) < 64 then (((wordsM sz : Int) * 8) - (i * 64)) else 64)) rfl) ⟨?_, G⟩
  rw [show sizeM sz i = min 64 (8 * (wordsM sz : Int) - 64 * i) from if_neg (by omega)]; congr 1; split <;> omega

set_option maxRecDepth 100000 in
theorem zN0 (w : World) {ses sum : Int} {ad : Option Addr} {c : Nat} {sz : List Int} (R : RowAt w 1 ad sz.length (sz.map (.int .i64))) (hr : ∀ x ∈ sz, inR .i64 x) : Gives Tryz.prog 37 #[.agg #[.int .u64 ses, .slice ad sz.length c, .int .u32 sum]] w (.bool (fitsL sz)) := by
 have G := Grow.rfl' w
 refine zC7 Tryz.func37 Tryz.ntmps37 Tryz.results37 rfl rfl ?_
 refine zA6 (zA1 rfl ?_)
 refine zA3 (og rfl ?_)
 (first | refine zD0 rfl ?_ | refine zD2 rfl ?_ | refine zC5 rfl ?_ | refine zH0 rfl rfl ?_)
 intro b1 w2 hb3 hc4 g5
 have hge6 := Nat.le_trans G.size hb3
 replace G := G.tr g5
 clear g5 hb3
 refine stp (zA8 (v := .bool false) rfl ?_)
 refine zA4 ?_
 refine zA6 (zA1 rfl ?_)
 refine stp (zA5 rfl ?_)
 refine stp (zB5 (v := .slice ad sz.length c) rfl hc4 rfl ?_)
 refine stp (zC0 (v := .bool (fitsL sz)) rfl (zO5 _ (R.grow G) hr) ?_)
 intro w7 g8
 replace hc4 := g8.heap hc4
 replace G := G.tr g8
 clear g8
 refine stp (zC1 rfl ?_)
 refine zA4 ?_
 refine zC4 ?_
 refine ret1 (zB3 (v := .bool (fitsL sz)) rfl) ⟨?_, G⟩
 rfl

set_option maxRecDepth 100000 in
theorem zN1 (w : World) {ses sum : Int} {ad : Option Addr} {c : Nat} {sz : List Int} (R : RowAt w 1 ad sz.length (sz.map (.int .i64))) (hr : ∀ x ∈ sz, inR .i64 x) : Gives Tryz.prog 38 #[.agg #[.int .u64 ses, .slice ad sz.length c, .int .u32 sum]] w (.int .i64 (wordsM sz : Int)) := by
 have lR := R.lim
 have G := Grow.rfl' w
 refine zC7 Tryz.func38 Tryz.ntmps38 Tryz.results38 rfl rfl ?_
 refine zA6 (zA1 rfl ?_)
 refine zA3 (og rfl ?_)
 (first | refine zD0 rfl ?_ | refine zD2 rfl ?_ | refine zC5 rfl ?_ | refine zH0 rfl rfl ?_)
 intro b1 w2 hb3 hc4 g5
 have hge6 := Nat.le_trans G.size hb3
 replace G := G.tr g5
 clear g5 hb3
 refine stp (zA0 rfl ?_)
 refine zA4 ?_
 refine zA6 ?_
 refine zA6 (zA1 rfl ?_)
 refine stp (zB4 rfl hc4 (by rfl) ?_)
 refine stp (zC0 (v := .bool (fitsL sz)) rfl (zN0 _ (R.grow G) hr) ?_)
 intro w7 g8
 replace hc4 := g8.heap hc4
 replace G := G.tr g8
 clear g8
 refine stp (zN6 rfl ?_)
 refine zA4 ?_
 refine zB8 (b := (!(fitsL sz))) rfl (fun h1 => ?_) (fun h1 => ?_)
 ·-- true
  simp only [sb] at h1
  refine zA6 (zA1 rfl ?_)
  refine stp (zA0 rfl ?_)
  refine zA4 ?_
  refine zC4 ?_
  have h9 : wordsM sz = 0 := by unfold wordsM; rw [if_neg (by simpa using h1)]
  refine ret1 (zB3 (v := .int .i64 0) rfl) ⟨?_, G⟩
  rw [h9]; rfl
 ·-- false
  simp only [sb] at h1
  have hf : fitsL sz = true := by simpa using h1
  obtain ⟨f1, f2, f3, f4, f5⟩ := zG2 hf
  have hsz := zH7 hf
  refine zC3 ?_
  refine zA6 (zA1 rfl ?_)
  refine stp (zA0 rfl ?_)
  refine zA4 ?_
  refine zA6 ?_
  refine zA6 (zA1 rfl ?_)
  refine stp (zA0 rfl ?_)
  refine zA4 ?_
  refine zC6 ?_
  refine zG6 (fun m_ e_ w_ => ∃ (k : Nat), m_ = sz.length - k ∧ Fr [(1, .pointer (some ⟨b1, 0, none⟩)), (2, .int .i64 0), (3, .int .i64 (sumL (sz.take k))), (4, .int .i64 (k : Int))] e_ ∧ (k ≤ sz.length) ∧ (w_.heap[b1]? = some (.cells #[.int .u64 ses, .slice ad sz.length c, .int .u32 sum] 51 (0, 0))) ∧ Grow w w_) _ ⟨0, rfl, zE6 ⟨rfl, rfl, rfl, rfl, trivial⟩, by omega, hc4, G⟩ ?_
  clear hc4
  clear G
  rintro m_ e_ w9 ⟨k, rfl, ⟨e10, rfl⟩, hk, hc4, G⟩
  have hkz := hsz k
  have htk := zH4 f4 k
  refine zA6 ?_
  refine zA6 (zA1 rfl ?_)
  refine stp (zA2 rfl ?_)
  refine stp (zA5 rfl ?_)
  refine stp (zB5 (v := .slice ad sz.length c) rfl hc4 rfl ?_)
  refine stp (zE8 rfl rfl rfl ?_)
  refine stp (zF9 rfl rfl ?_)
  refine zA4 ?_
  refine zB8 (b := (decide ((k : Int) < (sz.length : Int)))) rfl (fun hlt => ?_) (fun hlt => ?_)
  ·-- true
   replace hlt := of_decide_eq_true hlt
   have hi : k < sz.length := by omega
   have ht := zJ0 hi
   refine zC3 ?_
   refine zA6 ?_
   refine zC6 ?_
   refine zA1 rfl ?_
   refine stp (zA2 rfl ?_)
   refine stp (zA5 rfl ?_)
   refine stp (zB5 (v := .slice ad sz.length c) rfl hc4 rfl ?_)
   refine stp (zA2 rfl ?_)
   refine stp (zD9 (R.grow G) rfl rfl ?_ ?_); omega
   refine stp (zD7 (v := .int .i64 (sz.getD k 0)) (m := 0) (R.grow G) rfl (zE4 0 (by omega)) ?_)
   refine stp (zD8 rfl rfl ?_ ?_); constructor <;> omega
   refine stp (zA0 rfl ?_)
   refine zA4 ?_
   refine zA1 rfl ?_
   refine stp (zA2 rfl ?_)
   refine stp (zD8 rfl rfl ?_ ?_); constructor <;> omega
   refine stp (zA0 rfl ?_)
   refine zA4 ?_
   refine ⟨_, ?_, k + 1, rfl, zE6 ⟨rfl, rfl, congrArg (Value.int .i64) (by omega), congrArg (Value.int .i64) (by omega), trivial⟩, by omega, hc4, G⟩
   omega
  ·-- false
   replace hlt := of_decide_eq_false hlt
   have hk2 : k = sz.length := by omega
   refine zF6 ?_
   refine zA6 (zA1 rfl ?_)
   refine stp (zA2 rfl ?_)
   refine stp (zA0 rfl ?_)
   refine zA4 ?_
   refine zC4 ?_
   refine ret1 (zB3 (v := .int .i64 (sumL (sz.take k))) rfl) ⟨?_, G⟩
   rw [(zF4 hf).1, hk2, List.take_length]

set_option maxRecDepth 100000 in
theorem zP0 (w : World) {ses sum : Int} {ad : Option Addr} {c : Nat} {sz : List Int} (R : RowAt w 1 ad sz.length (sz.map (.int .i64))) (hr : ∀ x ∈ sz, inR .i64 x) : Gives Tryz.prog 24 #[.agg #[.int .u64 ses, .slice ad sz.length c, .int .u32 sum]] w (.int .i64 (chunksM sz : Int)) := by
 have hle := zG9 sz
 have G := Grow.rfl' w
 refine zC7 Tryz.func24 Tryz.ntmps24 Tryz.results24 rfl rfl ?_
 refine zA6 (zA1 rfl ?_)
 refine zA3 (og rfl ?_)
 (first | refine zD0 rfl ?_ | refine zD2 rfl ?_ | refine zC5 rfl ?_ | refine zH0 rfl rfl ?_)
 intro b1 w2 hb3 hc4 g5
 have hge6 := Nat.le_trans G.size hb3
 replace G := G.tr g5
 clear g5 hb3
 refine stp (zA0 rfl ?_)
 refine zA4 ?_
 refine zA6 (zA1 rfl ?_)
 refine stp (zB4 rfl hc4 (by rfl) ?_)
 refine stp (zC0 (v := .int .i64 (wordsM sz : Int)) rfl (zN1 _ (R.grow G) hr) ?_)
 intro w7 g8
 replace hc4 := g8.heap hc4
 replace G := G.tr g8
 clear g8
 refine stp (zD8 rfl rfl ?_ ?_); constructor <;> omega
 refine stp (zK3 rfl rfl ?_ ?_ ?_ ?_); omega; omega; (constructor <;> omega)
 refine stp (zA0 rfl ?_)
 refine zA4 ?_
 refine zC4 ?_
 refine ret1 (zB3 (v := .int .i64 (((wordsM sz : Int) + 7) / 8)) rfl) ⟨?_, G⟩
 congr 1 <;> (unfold chunksM; omega)

set_option maxRecDepth 100000 in
theorem qM6 (w : World) {ses sum : Int} {ad : Option Addr} {c : Nat} {sz : List Int} (R : RowAt w 1 ad sz.length (sz.map (.int .i64))) (hr : ∀ x ∈ sz, inR .i64 x) {i : Int} (gi : inR .i64 i) : Gives Tryz.prog 48 #[.agg #[.int .u64 ses, .slice ad sz.length c, .int .u32 sum], .int .i64 i] w (.int .i64 (sizeM sz i)) := by
 have hle := zG9 sz
 have hch : chunksM sz = (wordsM sz + 7) / 8 := rfl
 have G := Grow.rfl' w
 refine zC7 Tryz.func48 Tryz.ntmps48 Tryz.results48 rfl rfl ?_
 refine zA6 (zA1 rfl ?_)
 refine zA3 (og rfl ?_)
 (first | refine zD0 rfl ?_ | refine zD2 rfl ?_ | refine zC5 rfl ?_ | refine zH0 rfl rfl ?_)
 intro b1 w2 hb3 hc4 g5
 have hge6 := Nat.le_trans G.size hb3
 replace G := G.tr g5
 clear g5 hb3
 refine stp (zA0 rfl ?_)
 refine zA4 ?_
 refine zA6 ?_
 refine zA6 (zA1 rfl ?_)
 refine stp (zA2 rfl ?_)
 refine stp (zF9 rfl rfl ?_)
 refine stp (zB9 rfl ?_)
 refine zA3 (zC2 (s := .bool (decide (i < 0))) (b := false) (v := .int .i64 i) rfl (zD1 _) (fun hc7 => ?_) ?_)
 ·
  have hc7_ := hc7
  try simp only [sb] at hc7_
  refine zA2 rfl ?_
  exact ⟨rfl, rfl⟩
 refine zA3 (zC2 (s := .bool (decide (i < 0))) (b := false) (v := .agg #[.int .u64 ses, .slice ad sz.length c, .int .u32 sum]) rfl (zD1 _) (fun hc8 => ?_) ?_)
 ·
  have hc8_ := hc8
  try simp only [sb] at hc8_
  refine zB4 rfl hc4 (by rfl) ?_
  exact ⟨rfl, rfl⟩
 refine zA3 (zR6 (s := .bool (decide (i < 0))) (b := false) (v := .int .i64 (chunksM sz : Int)) rfl (zD1 _) (fun hc9 => ?_) ?_)
 ·
  have hc9_ := hc9
  try simp only [sb] at hc9_
  exact zL0 (l := ([.agg #[.int .u64 ses, .slice ad sz.length c, .int .u32 sum]] : List Value)) rfl (by show ([gv (!(decide (i < 0))) (.agg #[.int .u64 ses, .slice ad sz.length c, .int .u32 sum])] : List Value) = _; rw [gvt hc9]) (zP0 _ (R.grow G) hr) (fun w2_ g2_ => ⟨rfl, g2_⟩)
 intro w10 g11
 replace hc4 := g11.heap hc4
 replace G := G.tr g11
 clear g11
 refine zA3 (zC2 (s := .bool (decide (i < 0))) (b := false) (v := .bool (decide (i ≥ (chunksM sz : Int)))) rfl (zD1 _) (fun hc12 => ?_) ?_)
 ·
  have hc12_ := hc12
  try simp only [sb] at hc12_
  refine zL7 (gvt hc12) (gvt hc12) ?_
  exact ⟨rfl, rfl⟩
 refine stp (zI6 rfl rfl rfl ?_)
 refine zA4 ?_
 refine zB8 (b := ((decide (i < 0)) || (decide (i ≥ (chunksM sz : Int))))) rfl (fun h1 => ?_) (fun h1 => ?_)
 ·-- true
  simp only [sb] at h1
  refine zA6 (zA1 rfl ?_)
  refine stp (zA0 rfl ?_)
  refine zA4 ?_
  refine zC4 ?_
  refine ret1 (zB3 (v := .int .i64 0) rfl) ⟨?_, G⟩
  unfold sizeM; rw [if_pos (by omega)]
 ·-- false
  simp only [sb] at h1
  refine zC3 ?_
  refine zA6 (zA1 rfl ?_)
  refine stp (zB4 rfl hc4 (by rfl) ?_)
  refine stp (zC0 (v := .int .i64 (wordsM sz : Int)) rfl (zN1 _ (R.grow G) hr) ?_)
  intro w13 g14
  replace hc4 := g14.heap hc4
  replace G := G.tr g14
  clear g14
  refine stp (zL5 rfl rfl ?_ ?_); constructor <;> omega
  refine stp (zA2 rfl ?_)
  refine stp (zL5 rfl rfl ?_ ?_); constructor <;> omega
  refine stp (zM0 rfl rfl ?_ ?_); constructor <;> omega
  refine stp (zT7 rfl rfl rfl ?_)
  refine stp (zA0 rfl ?_)
  refine zA4 ?_
  refine zC4 ?_
  refine ret1 (zB3 (v := .int .i64 (if ((8 * (wordsM sz : Int)) - (64 * i)) < 64 then ((8 * (wordsM sz : Int)) - (64 * i)) else 64)) rfl) ⟨?_, G⟩
  rw [show sizeM sz i = min 64 (8 * (wordsM sz : Int) - 64 * i) from if_neg (by omega)]; congr 1; split <;> omega

set_option maxRecDepth 100000 in
theorem zZ7 (w : World) {ad : Option Addr} {c : Nat} {xs : List Int} (R : RowAt w 1 ad xs.length (xs.map (.int .u8))) (hx : isB xs) {i : Nat} (hi : i ≤ 1000000000) : Gives Tryz.prog 44 #[.slice ad xs.length c, .int .i64 (i : Int)] w (.bool (bitQ xs i)) := by
 have lR := R.lim
 have hxi := hx.at_ (i / 8)
 have hp : (0 : Int) < 2 ^ (i % 8) := Int.pow_pos (by decide)
 have hsh0 := Int.ediv_nonneg hxi.1 (Int.le_of_lt hp)
 have hsh1 := Int.le_trans (Int.ediv_le_self (2 ^ (i % 8)) hxi.1) hxi.2
 have G := Grow.rfl' w
 refine zC7 Tryz.func44 Tryz.ntmps44 Tryz.results44 rfl rfl ?_
 refine zA6 (zA1 rfl ?_)
 refine stp (zA8 (v := .bool false) rfl ?_)
 refine zA4 ?_
 refine zA6 (zA1 rfl ?_)
 refine stp (zA2 rfl ?_)
 refine stp (zL7 rfl rfl ?_)
 refine stp (zB9 rfl ?_)
 refine zA3 (zC2 (s := .bool (decide ((i : Int) ≥ 0))) (b := true) (v := .int .i64 (i : Int)) rfl (zF2 _) (fun hc1 => ?_) ?_)
 ·
  have hc1_ := of_decide_eq_true hc1
  refine zA2 rfl ?_
  exact ⟨rfl, rfl⟩
 refine zA3 (zC2 (s := .bool (decide ((i : Int) ≥ 0))) (b := true) (v := .int .i64 ((i / 8 : Nat) : Int)) rfl (zF2 _) (fun hc2 => ?_) ?_)
 ·
  have hc2_ := of_decide_eq_true hc2
  refine zK3 (gvt hc2) rfl ?_ ?_ ?_ ?_; omega; omega; (constructor <;> omega)
  rw [show (i : Int) / 8 = ((i / 8 : Nat) : Int) from by omega]
  exact ⟨rfl, rfl⟩
 refine zA3 (zC2 (s := .bool (decide ((i : Int) ≥ 0))) (b := true) (v := .slice ad xs.length c) rfl (zF2 _) (fun hc3 => ?_) ?_)
 ·
  have hc3_ := of_decide_eq_true hc3
  refine zA7 rfl ?_
  exact ⟨rfl, rfl⟩
 refine zA3 (zC2 (s := .bool (decide ((i : Int) ≥ 0))) (b := true) (v := .int .i64 (xs.length : Int)) rfl (zF2 _) (fun hc4 => ?_) ?_)
 ·
  have hc4_ := of_decide_eq_true hc4
  refine zE8 rfl rfl (gvt hc4) ?_
  exact ⟨rfl, rfl⟩
 refine zA3 (zC2 (s := .bool (decide ((i : Int) ≥ 0))) (b := true) (v := .bool (decide (((i / 8 : Nat) : Int) < (xs.length : Int)))) rfl (zF2 _) (fun hc5 => ?_) ?_)
 ·
  have hc5_ := of_decide_eq_true hc5
  refine zF9 (gvt hc5) (gvt hc5) ?_
  exact ⟨rfl, rfl⟩
 refine stp (zJ2 rfl rfl rfl ?_)
 refine stp (zB9 rfl ?_)
 refine zA3 (zC2 (s := .bool ((decide ((i : Int) ≥ 0)) && (decide (((i / 8 : Nat) : Int) < (xs.length : Int))))) (b := true) (v := .slice ad xs.length c) rfl (zF2 _) (fun hc6 => ?_) ?_)
 ·
  obtain ⟨hc6a, hc6b⟩ := and_t hc6
  have hc6a_ := of_decide_eq_true hc6a
  have hc6b_ := of_decide_eq_true hc6b
  refine zA7 rfl ?_
  exact ⟨rfl, rfl⟩
 refine zA3 (zC2 (s := .bool ((decide ((i : Int) ≥ 0)) && (decide (((i / 8 : Nat) : Int) < (xs.length : Int))))) (b := true) (v := .int .i64 (i : Int)) rfl (zF2 _) (fun hc7 => ?_) ?_)
 ·
  obtain ⟨hc7a, hc7b⟩ := and_t hc7
  have hc7a_ := of_decide_eq_true hc7a
  have hc7b_ := of_decide_eq_true hc7b
  refine zA2 rfl ?_
  exact ⟨rfl, rfl⟩
 refine zA3 (zC2 (s := .bool ((decide ((i : Int) ≥ 0)) && (decide (((i / 8 : Nat) : Int) < (xs.length : Int))))) (b := true) (v := .int .i64 ((i / 8 : Nat) : Int)) rfl (zF2 _) (fun hc8 => ?_) ?_)
 ·
  obtain ⟨hc8a, hc8b⟩ := and_t hc8
  have hc8a_ := of_decide_eq_true hc8a
  have hc8b_ := of_decide_eq_true hc8b
  refine zK3 (gvt hc8) rfl ?_ ?_ ?_ ?_; omega; omega; (constructor <;> omega)
  rw [show (i : Int) / 8 = ((i / 8 : Nat) : Int) from by omega]
  exact ⟨rfl, rfl⟩
 refine zA3 (zC2 (s := .bool ((decide ((i : Int) ≥ 0)) && (decide (((i / 8 : Nat) : Int) < (xs.length : Int))))) (b := true) (v := .pointer (some (eadr ad ((i / 8) * 1)))) rfl (zF2 _) (fun hc9 => ?_) ?_)
 ·
  obtain ⟨hc9a, hc9b⟩ := and_t hc9
  have hc9a_ := of_decide_eq_true hc9a
  have hc9b_ := of_decide_eq_true hc9b
  refine zD9 (R.grow G) (gvt hc9) (gvt hc9) ?_ ?_; omega
  exact ⟨rfl, rfl⟩
 refine zA3 (zC2 (s := .bool ((decide ((i : Int) ≥ 0)) && (decide (((i / 8 : Nat) : Int) < (xs.length : Int))))) (b := true) (v := .int .u8 (xs.getD (i / 8) 0)) rfl (zF2 _) (fun hc10 => ?_) ?_)
 ·
  obtain ⟨hc10a, hc10b⟩ := and_t hc10
  have hc10a_ := of_decide_eq_true hc10a
  have hc10b_ := of_decide_eq_true hc10b
  refine zD7 (v := .int .u8 (xs.getD (i / 8) 0)) (m := 0) (R.grow G) (gvt hc10) (zE4 0 (by omega)) ?_
  exact ⟨rfl, rfl⟩
 refine zA3 (zC2 (s := .bool ((decide ((i : Int) ≥ 0)) && (decide (((i / 8 : Nat) : Int) < (xs.length : Int))))) (b := true) (v := .int .i64 (i : Int)) rfl (zF2 _) (fun hc11 => ?_) ?_)
 ·
  obtain ⟨hc11a, hc11b⟩ := and_t hc11
  have hc11a_ := of_decide_eq_true hc11a
  have hc11b_ := of_decide_eq_true hc11b
  refine zA2 rfl ?_
  exact ⟨rfl, rfl⟩
 refine zA3 (zC2 (s := .bool ((decide ((i : Int) ≥ 0)) && (decide (((i / 8 : Nat) : Int) < (xs.length : Int))))) (b := true) (v := .int .i64 ((i % 8 : Nat) : Int)) rfl (zF2 _) (fun hc12 => ?_) ?_)
 ·
  obtain ⟨hc12a, hc12b⟩ := and_t hc12
  have hc12a_ := of_decide_eq_true hc12a
  have hc12b_ := of_decide_eq_true hc12b
  refine zJ5 (gvt hc12) rfl ?_ ?_ ?_; omega; omega
  rw [show (i : Int) % 8 = ((i % 8 : Nat) : Int) from by omega]
  exact ⟨rfl, rfl⟩
 refine zA3 (zC2 (s := .bool ((decide ((i : Int) ≥ 0)) && (decide (((i / 8 : Nat) : Int) < (xs.length : Int))))) (b := true) (v := .int .u8 (xs.getD (i / 8) 0 / 2 ^ (i % 8))) rfl (zF2 _) (fun hc13 => ?_) ?_)
 ·
  obtain ⟨hc13a, hc13b⟩ := and_t hc13
  have hc13a_ := of_decide_eq_true hc13a
  have hc13b_ := of_decide_eq_true hc13b
  refine yG7 (gvt hc13) (gvt hc13) ?_ ?_; omega
  rw [show min ((i % 8 : Nat) : Int).toNat (IntKind.bits .u8) = i % 8 from by simp only [IntKind.bits]; omega]
  exact ⟨rfl, rfl⟩
 refine zA3 (zC2 (s := .bool ((decide ((i : Int) ≥ 0)) && (decide (((i / 8 : Nat) : Int) < (xs.length : Int))))) (b := true) (v := .int .u8 ((xs.getD (i / 8) 0 / 2 ^ (i % 8)) % 2)) rfl (zF2 _) (fun hc14 => ?_) ?_)
 ·
  obtain ⟨hc14a, hc14b⟩ := and_t hc14
  have hc14a_ := of_decide_eq_true hc14a
  have hc14b_ := of_decide_eq_true hc14b
  refine yL5 (gvt hc14) rfl ?_
  rw [yH9 hsh0 hsh1]
  exact ⟨rfl, rfl⟩
 refine zA3 (zC2 (s := .bool ((decide ((i : Int) ≥ 0)) && (decide (((i / 8 : Nat) : Int) < (xs.length : Int))))) (b := true) (v := .bool (decide (((xs.getD (i / 8) 0 / 2 ^ (i % 8)) % 2) = 1))) rfl (zF2 _) (fun hc15 => ?_) ?_)
 ·
  obtain ⟨hc15a, hc15b⟩ := and_t hc15
  have hc15a_ := of_decide_eq_true hc15a
  have hc15b_ := of_decide_eq_true hc15b
  refine zE9 (gvt hc15) rfl ?_
  exact ⟨rfl, rfl⟩
 refine stp (zJ2 rfl rfl rfl ?_)
 refine stp (zC1 rfl ?_)
 refine zA4 ?_
 refine zC4 ?_
 refine ret1 (zB3 (v := .bool (((decide ((i : Int) ≥ 0)) && (decide (((i / 8 : Nat) : Int) < (xs.length : Int)))) && (decide (((xs.getD (i / 8) 0 / 2 ^ (i % 8)) % 2) = 1)))) rfl) ⟨?_, G⟩
 rw [decide_eq_true (show (i : Int) ≥ 0 by omega), Bool.true_and]; by_cases h_ : i / 8 < xs.length; (rw [decide_eq_true (show ((i / 8 : Nat) : Int) < (xs.length : Int) by omega), Bool.true_and]; rfl); (rw [decide_eq_false (show ¬ ((i / 8 : Nat) : Int) < (xs.length : Int) by omega), qU3 (by omega)]; rfl)

set_option maxRecDepth 100000 in
theorem zW8 (w : World) {ad : Option Addr} {c : Nat} {xs : List Int} (R : RowAt w 1 ad xs.length (xs.map (.int .u8))) (hx : isB xs) {i : Nat} (hi : i ≤ 1000000000) : Gives Tryz.prog 116 #[.slice ad xs.length c, .int .i64 (i : Int)] w (.bool (bitQ xs i)) := by
 have lR := R.lim
 have hxi := hx.at_ (i / 8)
 have hp : (0 : Int) < 2 ^ (i % 8) := Int.pow_pos (by decide)
 have hsh0 := Int.ediv_nonneg hxi.1 (Int.le_of_lt hp)
 have hsh1 := Int.le_trans (Int.ediv_le_self (2 ^ (i % 8)) hxi.1) hxi.2
 have G := Grow.rfl' w
 refine zC7 Tryz.func116 Tryz.ntmps116 Tryz.results116 rfl rfl ?_
 refine zA6 (zA1 rfl ?_)
 refine stp (zA8 (v := .bool false) rfl ?_)
 refine zA4 ?_
 refine zA6 ?_
 refine zA6 (zA1 rfl ?_)
 refine stp (zA2 rfl ?_)
 refine stp (zF9 rfl rfl ?_)
 refine stp (zB9 rfl ?_)
 refine zA3 (zC2 (s := .bool (decide ((i : Int) < 0))) (b := false) (v := .int .i64 (i : Int)) rfl (zD1 _) (fun hc1 => ?_) ?_)
 ·
  have hc1_ := hc1
  try simp only [sb] at hc1_
  refine zA2 rfl ?_
  exact ⟨rfl, rfl⟩
 refine zA3 (zC2 (s := .bool (decide ((i : Int) < 0))) (b := false) (v := .int .i64 ((i / 8 : Nat) : Int)) rfl (zD1 _) (fun hc2 => ?_) ?_)
 ·
  have hc2_ := hc2
  try simp only [sb] at hc2_
  refine zK3 (gvt hc2) rfl ?_ ?_ ?_ ?_; omega; omega; (constructor <;> omega)
  rw [show (i : Int) / 8 = ((i / 8 : Nat) : Int) from by omega]
  exact ⟨rfl, rfl⟩
 refine zA3 (zC2 (s := .bool (decide ((i : Int) < 0))) (b := false) (v := .slice ad xs.length c) rfl (zD1 _) (fun hc3 => ?_) ?_)
 ·
  have hc3_ := hc3
  try simp only [sb] at hc3_
  refine zA7 rfl ?_
  exact ⟨rfl, rfl⟩
 refine zA3 (zC2 (s := .bool (decide ((i : Int) < 0))) (b := false) (v := .int .i64 (xs.length : Int)) rfl (zD1 _) (fun hc4 => ?_) ?_)
 ·
  have hc4_ := hc4
  try simp only [sb] at hc4_
  refine zE8 rfl rfl (gvt hc4) ?_
  exact ⟨rfl, rfl⟩
 refine zA3 (zC2 (s := .bool (decide ((i : Int) < 0))) (b := false) (v := .bool (decide (((i / 8 : Nat) : Int) ≥ (xs.length : Int)))) rfl (zD1 _) (fun hc5 => ?_) ?_)
 ·
  have hc5_ := hc5
  try simp only [sb] at hc5_
  refine zL7 (gvt hc5) (gvt hc5) ?_
  exact ⟨rfl, rfl⟩
 refine stp (zI6 rfl rfl rfl ?_)
 refine zA4 ?_
 refine zB8 (b := ((decide ((i : Int) < 0)) || (decide (((i / 8 : Nat) : Int) ≥ (xs.length : Int))))) rfl (fun h1 => ?_) (fun h1 => ?_)
 ·-- true
  simp only [sb] at h1
  refine zA6 (zA1 rfl ?_)
  refine stp (zA8 (v := .bool false) rfl ?_)
  refine zA4 ?_
  refine zC4 ?_
  refine ret1 (zB3 (v := .bool false) rfl) ⟨?_, G⟩
  rw [qU3 (by omega)]
 ·-- false
  simp only [sb] at h1
  refine zC3 ?_
  refine zA6 (zA1 rfl ?_)
  refine stp (zA7 rfl ?_)
  refine stp (zA2 rfl ?_)
  refine zA3 (og rfl ?_)
  refine zK3 rfl rfl ?_ ?_ ?_ ?_; omega; omega; (constructor <;> omega)
  rw [show (i : Int) / 8 = ((i / 8 : Nat) : Int) from by omega]
  refine stp (zD9 (R.grow G) rfl rfl ?_ ?_); omega
  refine stp (zD7 (v := .int .u8 (xs.getD (i / 8) 0)) (m := 0) (R.grow G) rfl (zE4 0 (by omega)) ?_)
  refine stp (zF8 rfl ?_ ?_); constructor <;> omega
  refine stp (zA0 rfl ?_)
  refine zA4 ?_
  refine zA6 ?_
  refine zA6 (zA1 rfl ?_)
  refine stp (zA0 rfl ?_)
  refine zA4 ?_
  refine zC6 ?_
  refine zG6 (fun m_ e_ w_ => ∃ (k : Nat), m_ = 8 - k ∧ Fr [(1, .int .i64 (i : Int)), (4, .bool false), (6, .int .i64 (k : Int)), (5, .int .i64 (xs.getD (i / 8) 0 / 2 ^ k))] e_ ∧ (k ≤ i % 8) ∧ Grow w w_) _ ⟨0, rfl, zE6 ⟨rfl, rfl, rfl, congrArg (Value.int .i64) (by simp), trivial⟩, by omega, G⟩ ?_
  clear G
  rintro m_ e_ w6 ⟨k, rfl, ⟨e7, rfl⟩, hk, G⟩
  have hpk : (0 : Int) < 2 ^ k := Int.pow_pos (by decide)
  have hd0 := Int.ediv_nonneg hxi.1 (Int.le_of_lt hpk)
  have hd1 := Int.le_trans (Int.ediv_le_self (2 ^ k) hxi.1) hxi.2
  refine zA6 ?_
  refine zA6 (zA1 rfl ?_)
  refine stp (zA2 rfl ?_)
  refine stp (zA2 rfl ?_)
  refine stp (zJ5 rfl rfl ?_ ?_ ?_); omega; omega
  refine stp (zF9 rfl rfl ?_)
  refine zA4 ?_
  refine zB8 (b := (decide ((k : Int) < ((i : Int) % 8)))) rfl (fun hlt => ?_) (fun hlt => ?_)
  ·-- true
   replace hlt := of_decide_eq_true hlt
   refine zC3 ?_
   refine zA6 ?_
   refine zC6 ?_
   refine zA1 rfl ?_
   refine stp (zA2 rfl ?_)
   refine stp (zK3 rfl rfl ?_ ?_ ?_ ?_); omega; omega; (constructor <;> omega)
   refine stp (zA0 rfl ?_)
   refine zA4 ?_
   refine zA1 rfl ?_
   refine stp (zA2 rfl ?_)
   refine stp (zD8 rfl rfl ?_ ?_); constructor <;> omega
   refine stp (zA0 rfl ?_)
   refine zA4 ?_
   refine ⟨_, ?_, k + 1, rfl, zE6 ⟨rfl, rfl, congrArg (Value.int .i64) (by omega), congrArg (Value.int .i64) (by rw [Int.pow_succ, Int.ediv_ediv_of_nonneg (Int.le_of_lt hpk)]), trivial⟩, by omega, G⟩
   omega
  ·-- false
   replace hlt := of_decide_eq_false hlt
   have hk9 : k = i % 8 := by omega
   refine zF6 ?_
   refine zA6 (zA1 rfl ?_)
   refine stp (zA2 rfl ?_)
   refine stp (zJ5 rfl rfl ?_ ?_ ?_); omega; omega
   refine stp (zE9 rfl rfl ?_)
   refine stp (zC1 rfl ?_)
   refine zA4 ?_
   refine zC4 ?_
   refine ret1 (zB3 (v := .bool (decide (((xs.getD (i / 8) 0 / 2 ^ k) % 2) = 1))) rfl) ⟨?_, G⟩
   rw [hk9]; rfl

set_option maxRecDepth 100000 in
theorem qI8 (w : World) {ad : Option Addr} {c : Nat} {xs : List Int} (R : RowAt w 1 ad xs.length (xs.map (.int .u8))) (hx : isB xs) (hl : xs.length ≤ 100000) : Gives Tryz.prog 87 #[.slice ad xs.length c] w (.int .i64 (cntQ xs (8 * xs.length) : Int)) := by
 have lR := R.lim
 have G := Grow.rfl' w
 refine zC7 Tryz.func87 Tryz.ntmps87 Tryz.results87 rfl rfl ?_
 refine zA6 (zA1 rfl ?_)
 refine stp (zA0 rfl ?_)
 refine zA4 ?_
 refine zA6 (zA1 rfl ?_)
 refine stp (zA0 rfl ?_)
 refine zA4 ?_
 refine zA6 ?_
 refine zA6 (zA1 rfl ?_)
 refine stp (zA0 rfl ?_)
 refine zA4 ?_
 refine zC6 ?_
 refine zG6 (fun m_ e_ w_ => ∃ (k : Nat), m_ = 8 * xs.length - k ∧ Fr [(0, .slice ad xs.length c), (2, .int .i64 0), (3, .int .i64 (cntQ xs k : Int)), (4, .int .i64 (k : Int))] e_ ∧ (k ≤ 8 * xs.length) ∧ Grow w w_) _ ⟨0, rfl, zE6 ⟨rfl, rfl, rfl, rfl, trivial⟩, by omega, G⟩ ?_
 clear G
 rintro m_ e_ w1 ⟨k, rfl, ⟨e2, rfl⟩, hk, G⟩
 have hcl := qI3 xs k
 refine zA6 ?_
 refine zA6 (zA1 rfl ?_)
 refine stp (zA2 rfl ?_)
 refine stp (zA7 rfl ?_)
 refine stp (zE8 rfl rfl rfl ?_)
 refine stp (zL5 rfl rfl ?_ ?_); constructor <;> omega
 refine stp (zF9 rfl rfl ?_)
 refine zA4 ?_
 refine zB8 (b := (decide ((k : Int) < (8 * (xs.length : Int))))) rfl (fun hlt => ?_) (fun hlt => ?_)
 ·-- true
  replace hlt := of_decide_eq_true hlt
  refine zC3 ?_
  refine zA6 ?_
  refine zC6 ?_
  refine zA6 (zA1 rfl ?_)
  refine stp (zA7 rfl ?_)
  refine stp (zA2 rfl ?_)
  refine stp (zC0 (v := .bool (bitQ xs k)) rfl (zW8 _ (R.grow G) hx (i := k) (by omega)) ?_)
  intro w3 g4
  replace G := G.tr g4
  clear g4
  refine zA4 ?_
  refine zB8 (b := (bitQ xs k)) rfl (fun hb => ?_) (fun hb => ?_)
  ·-- true
   refine zA1 rfl ?_
   refine stp (zA2 rfl ?_)
   refine stp (zD8 rfl rfl ?_ ?_); constructor <;> omega
   refine stp (zA0 rfl ?_)
   refine zA4 ?_
   refine zA1 rfl ?_
   refine stp (zA2 rfl ?_)
   refine stp (zD8 rfl rfl ?_ ?_); constructor <;> omega
   refine stp (zA0 rfl ?_)
   refine zA4 ?_
   refine ⟨_, ?_, k + 1, rfl, zE6 ⟨rfl, rfl, congrArg (Value.int .i64) (by rw [cntQ, hb]; simp), congrArg (Value.int .i64) (by omega), trivial⟩, by omega, G⟩
   omega
  ·-- false
   refine zC3 ?_
   refine zA1 rfl ?_
   refine stp (zA2 rfl ?_)
   refine stp (zD8 rfl rfl ?_ ?_); constructor <;> omega
   refine stp (zA0 rfl ?_)
   refine zA4 ?_
   refine ⟨_, ?_, k + 1, rfl, zE6 ⟨rfl, rfl, congrArg (Value.int .i64) (by rw [cntQ, hb]; simp), congrArg (Value.int .i64) (by omega), trivial⟩, by omega, G⟩
   omega
 ·-- false
  replace hlt := of_decide_eq_false hlt
  have hk2 : k = 8 * xs.length := by omega
  refine zF6 ?_
  refine zA6 (zA1 rfl ?_)
  refine stp (zA2 rfl ?_)
  refine stp (zA0 rfl ?_)
  refine zA4 ?_
  refine zC4 ?_
  refine ret1 (zB3 (v := .int .i64 (cntQ xs k : Int)) rfl) ⟨?_, G⟩
  rw [hk2]

set_option maxRecDepth 100000 in
theorem qY2 (w : World) {n : Int} (h0 : 0 ≤ n) (h1 : n ≤ 4294967295) : Gives Tryz.prog 112 #[.int .u32 n] w (.int .u32 (crcS n)) := by
 have G := Grow.rfl' w
 refine zC7 Tryz.func112 Tryz.ntmps112 Tryz.results112 rfl rfl ?_
 refine zA6 (zA1 rfl ?_)
 refine stp (zA0 rfl ?_)
 refine zA4 ?_
 refine zA6 ?_
 refine zA6 (zA1 rfl ?_)
 refine stp (zA2 rfl ?_)
 refine stp (zJ5 rfl rfl ?_ ?_ ?_); omega; omega
 refine stp (zE9 rfl rfl ?_)
 refine zA4 ?_
 refine zB8 (b := (decide ((n % 2) = 1))) rfl (fun h2 => ?_) (fun h2 => ?_)
 ·-- true
  replace h2 := of_decide_eq_true h2
  refine zA6 (zA1 rfl ?_)
  refine stp (zA2 rfl ?_)
  refine stp (zK3 rfl rfl ?_ ?_ ?_ ?_); omega; omega; (constructor <;> omega)
  refine stp (yG6 rfl rfl ?_)
  refine stp (zA0 rfl ?_)
  refine zA4 ?_
  refine zC4 ?_
  refine ret1 (zB3 (v := .int .u32 (bitop .xor .u32 (n / 2) 2197175160)) rfl) ⟨?_, G⟩
  unfold crcS; rw [if_pos h2]
 ·-- false
  replace h2 := of_decide_eq_false h2
  refine zC3 ?_
  refine zA6 (zA1 rfl ?_)
  refine stp (zA2 rfl ?_)
  refine stp (zK3 rfl rfl ?_ ?_ ?_ ?_); omega; omega; (constructor <;> omega)
  refine stp (zA0 rfl ?_)
  refine zA4 ?_
  refine zC4 ?_
  refine ret1 (zB3 (v := .int .u32 (n / 2)) rfl) ⟨?_, G⟩
  unfold crcS; rw [if_neg h2]

set_option maxRecDepth 100000 in
theorem qY3 (w : World) {ad : Option Addr} {c : Nat} {xs : List Int} (R : RowAt w 1 ad xs.length (xs.map (.int .u8))) (hx : isB xs) {n : Int} (h0 : 0 ≤ n) (h1 : n ≤ 4294967295) : Gives Tryz.prog 80 #[.int .u32 n, .slice ad xs.length c] w (.int .u32 (bitop .xor .u32 (crcB (bitop .xor .u32 n 4294967295) xs xs.length) 4294967295)) := by
 have lR := R.lim
 obtain ⟨m, hm⟩ : ∃ m, m = bitop .xor .u32 n 4294967295 := ⟨_, rfl⟩
 have hmr := zQ2 .xor n 4294967295
 rw [← hm] at hmr
 have G := Grow.rfl' w
 refine zC7 Tryz.func80 Tryz.ntmps80 Tryz.results80 rfl rfl ?_
 refine zA6 (zA1 rfl ?_)
 refine stp (zA0 rfl ?_)
 refine zA4 ?_
 refine zA6 (zA1 rfl ?_)
 refine stp (zA2 rfl ?_)
 refine zA3 (og rfl ?_)
 refine yG6 rfl rfl ?_
 rw [← hm]
 refine stp (zA0 rfl ?_)
 refine zA4 ?_
 refine zA6 ?_
 refine zA6 (zA1 rfl ?_)
 refine stp (zA0 rfl ?_)
 refine zA4 ?_
 refine zC6 ?_
 refine zG6 (fun m_ e_ w_ => ∃ (k : Nat), m_ = xs.length - k ∧ Fr [(1, .slice ad xs.length c), (4, .int .u32 0), (0, .int .u32 (crcB m xs k)), (5, .int .i64 (k : Int))] e_ ∧ (k ≤ xs.length) ∧ Grow w w_) _ ⟨0, rfl, zE6 ⟨rfl, rfl, rfl, rfl, trivial⟩, by omega, G⟩ ?_
 clear G
 rintro m_ e_ w1 ⟨k, rfl, ⟨e2, rfl⟩, hk, G⟩
 have hxk := hx.at_ k
 have hbr := yI2 hmr.1 hmr.2 xs k
 refine zA6 ?_
 refine zA6 (zA1 rfl ?_)
 refine stp (zA2 rfl ?_)
 refine stp (zA7 rfl ?_)
 refine stp (zE8 rfl rfl rfl ?_)
 refine stp (zF9 rfl rfl ?_)
 refine zA4 ?_
 refine zB8 (b := (decide ((k : Int) < (xs.length : Int)))) rfl (fun hlt => ?_) (fun hlt => ?_)
 ·-- true
  replace hlt := of_decide_eq_true hlt
  refine zC3 ?_
  refine zA6 ?_
  refine zC6 ?_
  refine zA6 (zA1 rfl ?_)
  refine stp (zA2 rfl ?_)
  refine stp (zA7 rfl ?_)
  refine stp (zA2 rfl ?_)
  refine stp (zD9 (R.grow G) rfl rfl ?_ ?_); omega
  refine stp (zD7 (v := .int .u8 (xs.getD k 0)) (m := 0) (R.grow G) rfl (zE4 0 (by omega)) ?_)
  refine stp (zF8 rfl ?_ ?_); constructor <;> omega
  refine stp (yG6 rfl rfl ?_)
  refine stp (zA0 rfl ?_)
  refine zA4 ?_
  refine zA6 (zA1 rfl ?_)
  refine stp (zA0 rfl ?_)
  refine zA4 ?_
  refine zC6 ?_
  refine zG6 (fun m_ e_ w_ => ∃ (q : Nat), m_ = 8 - q ∧ Fr [(1, .slice ad xs.length c), (4, .int .u32 0), (5, .int .i64 (k : Int)), (6, .int .i64 (q : Int)), (0, .int .u32 (crcN (bitop .xor .u32 (crcB m xs k) (xs.getD k 0)) q))] e_ ∧ (q ≤ 8) ∧ Grow w w_) _ ⟨0, rfl, zE6 ⟨rfl, rfl, rfl, rfl, rfl, trivial⟩, by omega, G⟩ ?_
  clear G
  rintro m_ e_ w3 ⟨q, rfl, ⟨e4, rfl⟩, hq, G⟩
  have hqr := qA9 (zQ2 .xor (crcB m xs k) (xs.getD k 0)).1 (zQ2 .xor (crcB m xs k) (xs.getD k 0)).2 q
  refine zA6 ?_
  refine zA6 (zA1 rfl ?_)
  refine stp (zA2 rfl ?_)
  refine stp (zF9 rfl rfl ?_)
  refine zA4 ?_
  refine zB8 (b := (decide ((q : Int) < 8))) rfl (fun hlq => ?_) (fun hlq => ?_)
  ·-- true
   replace hlq := of_decide_eq_true hlq
   refine zC3 ?_
   refine zA6 ?_
   refine zC6 ?_
   refine zA1 rfl ?_
   refine stp (zA2 rfl ?_)
   refine stp (zC0 (v := .int .u32 (crcS (crcN (bitop .xor .u32 (crcB m xs k) (xs.getD k 0)) q))) rfl (qY2 _ hqr.1 hqr.2) ?_)
   intro w5 g6
   replace G := G.tr g6
   clear g6
   refine stp (zA0 rfl ?_)
   refine zA4 ?_
   refine zA1 rfl ?_
   refine stp (zA2 rfl ?_)
   refine stp (zD8 rfl rfl ?_ ?_); constructor <;> omega
   refine stp (zA0 rfl ?_)
   refine zA4 ?_
   refine ⟨_, ?_, q + 1, rfl, zE6 ⟨rfl, rfl, rfl, congrArg (Value.int .i64) (by omega), rfl, trivial⟩, by omega, G⟩
   omega
  ·-- false
   replace hlq := of_decide_eq_false hlq
   have hq9 : q = 8 := by omega
   subst hq9
   refine zF6 ?_
   refine zA1 rfl ?_
   refine stp (zA2 rfl ?_)
   refine stp (zD8 rfl rfl ?_ ?_); constructor <;> omega
   refine stp (zA0 rfl ?_)
   refine zA4 ?_
   refine ⟨_, ?_, k + 1, rfl, zE6 ⟨rfl, rfl, rfl, congrArg (Value.int .i64) (by omega), trivial⟩, by omega, G⟩
   omega
 ·-- false
  replace hlt := of_decide_eq_false hlt
  have hk2 : k = xs.length := by omega
  refine zF6 ?_
  refine zA6 (zA1 rfl ?_)
  refine stp (zA2 rfl ?_)
  refine stp (yG6 rfl rfl ?_)
  refine stp (zA0 rfl ?_)
  refine zA4 ?_
  refine zC4 ?_
  refine ret1 (zB3 (v := .int .u32 (bitop .xor .u32 (crcB m xs k) 4294967295)) rfl) ⟨?_, G⟩
  rw [hk2]

set_option maxRecDepth 100000 in
theorem qY4 (w : World) {ad : Option Addr} {c : Nat} {xs : List Int} (R : RowAt w 1 ad xs.length (xs.map (.int .u8))) (hx : isB xs) : Gives Tryz.prog 42 #[.slice ad xs.length c] w (.int .u32 (crcP xs)) := by
 have G := Grow.rfl' w
 refine zC7 Tryz.func42 Tryz.ntmps42 Tryz.results42 rfl rfl ?_
 refine zA6 (zA1 rfl ?_)
 refine stp (zA0 rfl ?_)
 refine zA4 ?_
 refine zA6 (zA1 rfl ?_)
 refine stp (zA7 rfl ?_)
 refine stp (zC0 (v := .int .u32 (bitop .xor .u32 (crcB (bitop .xor .u32 0 4294967295) xs xs.length) 4294967295)) rfl (qY3 _ (R.grow G) hx (n := 0) (by decide) (by decide)) ?_)
 intro w1 g2
 replace G := G.tr g2
 clear g2
 refine stp (zA0 rfl ?_)
 refine zA4 ?_
 refine zC4 ?_
 refine ret1 (zB3 (v := .int .u32 (bitop .xor .u32 (crcB (bitop .xor .u32 0 4294967295) xs xs.length) 4294967295)) rfl) ⟨?_, G⟩
 rfl

def popTab : ByteArray := ⟨((List.append (List.append [0, 1, 1, 2, 1, 2, 2, 3, 1, 2, 2, 3, 2, 3, 3, 4, 1, 2, 2, 3, 2, 3, 3, 4, 2, 3, 3, 4, 3, 4, 4, 5, 1, 2, 2, 3, 2, 3, 3, 4, 2, 3, 3, 4, 3, 4, 4, 5, 2, 3, 3, 4, 3, 4, 4, 5, 3, 4, 4, 5, 4, 5, 5, 6] [1, 2, 2, 3, 2, 3, 3, 4, 2, 3, 3, 4, 3, 4, 4, 5, 2, 3, 3, 4, 3, 4, 4, 5, 3, 4, 4, 5, 4, 5, 5, 6, 2, 3, 3, 4, 3, 4, 4, 5, 3, 4, 4, 5, 4, 5, 5, 6, 3, 4, 4, 5, 4, 5, 5, 6, 4, 5, 5, 6, 5, 6, 6, 7]) (List.append [1, 2, 2, 3, 2, 3, 3, 4, 2, 3, 3, 4, 3, 4, 4, 5, 2, 3, 3, 4, 3, 4, 4, 5, 3, 4, 4, 5, 4, 5, 5, 6, 2, 3, 3, 4, 3, 4, 4, 5, 3, 4, 4, 5, 4, 5, 5, 6, 3, 4, 4, 5, 4, 5, 5, 6, 4, 5, 5, 6, 5, 6, 6, 7] [2, 3, 3, 4, 3, 4, 4, 5, 3, 4, 4, 5, 4, 5, 5, 6, 3, 4, 4, 5, 4, 5, 5, 6, 4, 5, 5, 6, 5, 6, 6, 7, 3, 4, 4, 5, 4, 5, 5, 6, 4, 5, 5, 6, 5, 6, 6, 7, 4, 5, 5, 6, 5, 6, 6, 7, 5, 6, 6, 7, 6, 7, 7, 8])) : List UInt8).toArray⟩
theorem yM6 : (List.range 256).all (fun n => decide (((popTab.data.getD n 0).toNat : Int) = popQ n)) = true := by kernel_rfl
theorem yJ0 : popTab.size = 256 := by kernel_rfl
theorem yM7 {x : Int} (h0 : 0 ≤ x) (h1 : x ≤ 255) (hlt : x.toNat < popTab.size) : (((popTab[x.toNat]'hlt).toNat : Nat) : Int) = popQ x := by
  have h := List.all_eq_true.1 yM6 x.toNat (List.mem_range.2 (by omega))
  have h2 := of_decide_eq_true h
  rw [Int.toNat_of_nonneg h0] at h2
  rw [← h2]
  have hs : x.toNat < popTab.data.size := hlt
  have e : popTab[x.toNat]'hlt = popTab.data[x.toNat]'hs := rfl
  rw [e, Array.getD_eq_getD_getElem?, Array.getElem?_eq_getElem hs]
  rfl

set_option maxRecDepth 100000 in
theorem qY5 (w : World) {x : Int} (h0 : 0 ≤ x) (h1 : x ≤ 255) : Gives Tryz.prog 115 #[.int .u8 x] w (.int .i64 (popQ x)) := by
 have G := Grow.rfl' w
 refine zC7 Tryz.func115 Tryz.ntmps115 Tryz.results115 rfl rfl ?_
 have hpr := qU6 x
 refine zA6 (zA1 rfl ?_)
 refine stp (zA0 rfl ?_)
 refine zA4 ?_
 refine zA6 (zA1 rfl ?_)
 refine stp (zA2 rfl ?_)
 refine stp (yI3 (s := popTab) rfl rfl h0 (by rw [yJ0]; omega) ?_)
 intro hlt_
 rw [yM7 h0 h1 hlt_]
 refine stp (zF8 rfl ?_ ?_); constructor <;> omega
 refine stp (zA0 rfl ?_)
 refine zA4 ?_
 refine zC4 ?_
 refine ret1 (zB3 (v := .int .i64 (popQ x)) rfl) ⟨?_, G⟩
 rfl

set_option maxRecDepth 100000 in
theorem qM7 (w : World) {ad : Option Addr} {c : Nat} {xs : List Int} (R : RowAt w 1 ad xs.length (xs.map (.int .u8))) (hx : isB xs) (hl : xs.length ≤ 100000) : Gives Tryz.prog 85 #[.slice ad xs.length c] w (.int .i64 (cntQ xs (8 * xs.length) : Int)) := by
 have lR := R.lim
 have G := Grow.rfl' w
 refine zC7 Tryz.func85 Tryz.ntmps85 Tryz.results85 rfl rfl ?_
 refine zA6 (zA1 rfl ?_)
 refine stp (zA0 rfl ?_)
 refine zA4 ?_
 refine zA6 (zA1 rfl ?_)
 refine stp (zA0 rfl ?_)
 refine zA4 ?_
 refine zA6 ?_
 refine zA6 (zA1 rfl ?_)
 refine stp (zA7 rfl ?_)
 refine stp (zE8 rfl rfl rfl ?_)
 refine stp (zA2 rfl ?_)
 refine zA4 ?_
 refine zC6 ?_
 refine zG6 (fun m_ e_ w_ => ∃ (k : Nat), m_ = xs.length - k ∧ Fr [(2, .int .i64 0), (6, .slice ad xs.length c), (7, .int .i64 (xs.length : Int)), (3, .int .i64 (cntQ xs (8 * k) : Int)), (8, .int .i64 (k : Int))] e_ ∧ (k ≤ xs.length) ∧ Grow w w_) _ ⟨0, rfl, zE6 ⟨rfl, rfl, rfl, rfl, rfl, trivial⟩, by omega, G⟩ ?_
 clear G
 rintro m_ e_ w1 ⟨k, rfl, ⟨e2, rfl⟩, hk, G⟩
 have hxk := hx.at_ k
 have hcl := qI3 xs (8 * k)
 have hpr := qU6 (xs.getD k 0)
 refine zA6 (zA1 rfl ?_)
 refine stp (zF9 rfl rfl ?_)
 refine zA4 ?_
 refine zA6 ?_
 refine zB8 (b := (decide ((k : Int) < (xs.length : Int)))) rfl (fun hlt => ?_) (fun hlt => ?_)
 ·-- true
  replace hlt := of_decide_eq_true hlt
  have hpc := yH8 xs k
  refine zC3 ?_
  refine zA6 ?_
  refine zC6 ?_
  refine zA6 (zA1 rfl ?_)
  refine stp (zD9 (R.grow G) rfl rfl ?_ ?_); omega
  refine stp (zD7 (v := .int .u8 (xs.getD k 0)) (m := 0) (R.grow G) rfl (zE4 0 (by omega)) ?_)
  refine stp (zA0 rfl ?_)
  refine zA4 ?_
  refine zA1 rfl ?_
  refine stp (zA2 rfl ?_)
  refine stp (zA2 rfl ?_)
  refine stp (zC0 (v := .int .i64 (popQ (xs.getD k 0))) rfl (qY5 _ hxk.1 hxk.2) ?_)
  intro w3 g4
  replace G := G.tr g4
  clear g4
  refine stp (zD8 rfl rfl ?_ ?_); constructor <;> omega
  refine stp (zA0 rfl ?_)
  refine zA4 ?_
  refine zA1 rfl ?_
  refine stp (zD8 rfl rfl ?_ ?_); constructor <;> omega
  refine stp (zA2 rfl ?_)
  refine zA4 ?_
  refine ⟨_, ?_, k + 1, rfl, zE6 ⟨rfl, rfl, rfl, congrArg (Value.int .i64) (by omega), congrArg (Value.int .i64) (by omega), trivial⟩, by omega, G⟩
  omega
 ·-- false
  replace hlt := of_decide_eq_false hlt
  have hk2 : k = xs.length := by omega
  refine zF6 ?_
  refine zA6 (zA1 rfl ?_)
  refine stp (zA2 rfl ?_)
  refine stp (zA0 rfl ?_)
  refine zA4 ?_
  refine zC4 ?_
  refine ret1 (zB3 (v := .int .i64 (cntQ xs (8 * k) : Int)) rfl) ⟨?_, G⟩
  rw [hk2]
end Go.Proofs.YtifhcfhdajkhlaaGreat.K

namespace Go.Proofs.YtifhcfhdajkhlaaGreat.K
open Go Go.RowKit
theorem qM8 (x : Int) (q : Nat) (h0 : 0 ≤ x) (h1 : x ≤ 18446744073709551615) : 0 ≤ x / 2 ^ (8 * q) ∧ x / 2 ^ (8 * q) ≤ 18446744073709551615 := by
  have hp : (0 : Int) < 2 ^ (8 * q) := Int.pow_pos (by decide)
  refine ⟨Int.ediv_nonneg h0 (Int.le_of_lt hp), ?_⟩
  exact Int.le_trans (Int.ediv_le_self _ h0) h1
theorem qV1 (x : Int) (q : Nat) : x / 2 ^ (8 * q) / 256 = x / 2 ^ (8 * (q + 1)) := by
  rw [Int.ediv_ediv_of_nonneg (Int.le_of_lt (Int.pow_pos (by decide))), show 8 * (q + 1) = 8 * q + 8 from by omega, Int.pow_add]
  rfl
theorem qM9 : ∀ (l : List Int) (i : Nat), i < 8 * l.length → (l.flatMap byt8)[i]? = some (byt1 (l.getD (i / 8) 0) (i % 8))
  | [], i, h => by simp at h
  | x :: l, i, h => by
    rw [List.flatMap_cons]
    simp only [List.length_cons] at h
    by_cases hi : 8 ≤ i
    · rw [List.getElem?_append_right (by rw [zO4]; exact hi), zO4, qM9 l (i - 8) (by omega), show i / 8 = (i - 8) / 8 + 1 from by omega, List.getD_cons_succ, show (i - 8) % 8 = i % 8 from by omega]
    · rw [List.getElem?_append_left (by rw [zO4]; omega), show i / 8 = 0 from by omega, List.getD_cons_zero, show i % 8 = i from by omega]
      simp [byt8, show i < 8 from by omega]
theorem qV2 (x : Int) : 0 ≤ decE x ∧ decE x ≤ 65535 := by unfold decE; (repeat' split) <;> simp
theorem qV3 {s : Src} (hn : ∀ seg a : Int, 0 ≤ (s.word seg a).2 ∧ (s.word seg a).2 ≤ 65535) (seg a : Int) : 0 ≤ (ptrS s seg a).2 ∧ (ptrS s seg a).2 ≤ 65535 := by
  unfold ptrS
  split
  · exact hn _ _
  · exact qV2 _
theorem zY3 (s : Src) (p : Pt) (seg a : Int) : 0 ≤ (foundS s p seg a).2 ∧ (foundS s p seg a).2 ≤ 65535 := by
  unfold foundS
  split
  · exact qY0 _
  · split <;> simp
theorem qD3 {s : Src} (hn : ∀ seg a : Int, 0 ≤ (s.word seg a).2 ∧ (s.word seg a).2 ≤ 65535) (seg a : Int) : 0 ≤ (followS s seg a).2 ∧ (followS s seg a).2 ≤ 65535 := by
  unfold followS
  split
  · exact qV3 hn _ _
  · split
    · exact zY3 _ _ _ _
    · split
      · unfold twiceS
        (repeat' split) <;> first | exact hn _ _ | exact qV2 _ | exact zY3 _ _ _ _ | simp
      · unfold landedS
        (repeat' split) <;> first | exact qV3 hn _ _ | exact zY3 _ _ _ _ | simp
end Go.Proofs.YtifhcfhdajkhlaaGreat.K

namespace Go.Proofs.YtifhcfhdajkhlaaGreat.K
open Go Go.RowKit
def bytesA (A : List (List Int)) : List Int := A.flatMap fun s => s.flatMap byt8
theorem zT4 : ∀ (A : List (List Int)), ((bytesA A).length : Int) = 8 * totalP A
  | [] => rfl
  | s :: A => by
    have ih := zT4 A
    simp only [bytesA, List.flatMap_cons, List.length_append, zL3, totalP] at ih ⊢
    omega
theorem qR5 {A : List (List Int)} {i : Nat} (h : i < A.length) : bytesA (A.take (i + 1)) = bytesA (A.take i) ++ (A.getD i []).flatMap byt8 := by
  unfold bytesA
  rw [List.take_succ_eq_append_getElem h, List.flatMap_append, zG0 h]
  simp
theorem qY6 {s : List Int} {k : Nat} (h : k < s.length) : (s.take (k + 1)).flatMap byt8 = (s.take k).flatMap byt8 ++ byt8 (s.getD k 0) := by
  rw [List.take_succ_eq_append_getElem h, List.flatMap_append, zG0 h]
  simp
theorem qN0 {A : List (List Int)} (hn : A.length ≤ 1000) (hl : ∀ i, len2 A i ≤ 100000) (k : Nat) : totalP (A.take k) ≤ 100000000 := by
  have h1 : ∀ k, k ≤ A.length → totalP (A.take k) ≤ 100000 * k := fun k => by
    induction k with
    | zero => intro _; simp [totalP]
    | succ k ih => intro hk; have := ih (by omega); have := qC0 (A := A) (k := k) (by omega); have := hl k; rw [len2, zG0 (show k < A.length by omega)] at this; omega
  by_cases hk : k ≤ A.length
  · have := h1 k hk; omega
  · rw [List.take_of_length_le (by omega)]; have := h1 A.length (Nat.le_refl _); rw [List.take_length] at this; omega
theorem yD2 {A : List (List Int)} (hx : ∀ q ∈ A, ∀ x ∈ q, inR .u64 x) (i : Nat) {k : Nat} (hk : k < (A.getD i []).length) : 0 ≤ (A.getD i []).getD k 0 ∧ (A.getD i []).getD k 0 ≤ 18446744073709551615 := by
  have hi : i < A.length := by
    rcases Nat.lt_or_ge i A.length with h | h
    · exact h
    · rw [List.getD_eq_getElem?_getD, List.getElem?_eq_none h] at hk; simp at hk
  exact hx (A.getD i []) (by rw [zG0 hi]; exact List.getElem_mem hi) _ (qI0 hk)
theorem qF9 (A : List (List Int)) : isB (bytesA A) := by
  intro x hx
  obtain ⟨s, -, hx⟩ := List.mem_flatMap.1 hx
  obtain ⟨y, -, hx⟩ := List.mem_flatMap.1 hx
  obtain ⟨i, -, rfl⟩ := List.mem_map.1 hx
  exact qF7 y i
theorem qY7 {A : List (List Int)} (h : ∀ i, i < A.length → len2 A i ≤ 140737488355328) : ∀ x ∈ sizesP A, inR .i64 x := by
  intro x hx
  obtain ⟨s, hs, rfl⟩ := List.mem_map.1 hx
  obtain ⟨i, hi, rfl⟩ := List.getElem_of_mem hs
  have := h i hi
  rw [len2, zG0 hi] at this
  simp only [inR]; omega
theorem zT5 : ∀ (A : List (List Int)), sumL (sizesP A) = totalP A
  | [] => rfl
  | s :: A => by
    have ih := zT5 A
    simp only [sizesP, List.map_cons, sumL, totalP] at ih ⊢
    omega
theorem zN4 (A : List (List Int)) : fitsL (sizesP A) = rightB A := by
  unfold fitsL rightB
  refine decide_eq_decide.2 ?_
  rw [zG5, zL4, zT5]
  constructor
  · rintro ⟨a, b, c, -, e⟩; exact ⟨a, b, by omega, e⟩
  · rintro ⟨a, b, c, e⟩
    exact ⟨a, b, by omega, fun x hx => by obtain ⟨s, _, rfl⟩ := List.mem_map.1 hx; omega, e⟩
def sumA (ses : Int) (A : List (List Int)) : Int := crcP ((((List.range 8).map (byt1 ses)) ++ (sizesP A).flatMap fun n => ((List.range 2).map (byt1 n))) ++ bytesA A)
theorem yD3 (ses : Int) (sz : List Int) (i : Nat) : (((List.range 8).map (byt1 ses)) ++ (sz.take i).flatMap fun n => ((List.range 2).map (byt1 n))).length ≤ 8 + 2 * sz.length := by
  have h : ∀ l : List Int, (l.flatMap fun n => ((List.range 2).map (byt1 n))).length = 2 * l.length := fun l => by
    induction l with
    | nil => rfl
    | cons x l ih => rw [List.flatMap_cons, List.length_append, ih]; simp; omega
  rw [List.length_append, h, List.length_take]
  simp
  omega
theorem yJ1 {ses : Int} {sz : List Int} {i : Nat} (h : i < sz.length) : ((List.range 8).map (byt1 ses)) ++ (sz.take (i + 1)).flatMap (fun n => ((List.range 2).map (byt1 n))) = (((List.range 8).map (byt1 ses)) ++ (sz.take i).flatMap fun n => ((List.range 2).map (byt1 n))) ++ ((List.range 2).map (byt1 (sz.getD i 0))) := by
  rw [List.take_succ_eq_append_getElem h, List.flatMap_append, zG0 h]
  simp
theorem qI9 (x : Int) (k : Nat) : isB ((List.range k).map (byt1 x)) := fun y hy => by
  obtain ⟨i, _, rfl⟩ := List.mem_map.1 hy
  exact qF7 x i
theorem yJ2 (ses : Int) (A : List (List Int)) : isB ((((List.range 8).map (byt1 ses)) ++ (sizesP A).flatMap fun n => ((List.range 2).map (byt1 n))) ++ bytesA A) := by
  intro x hx
  rcases List.mem_append.1 hx with hx | hx
  · rcases List.mem_append.1 hx with hx | hx
    · exact qI9 ses 8 x hx
    · obtain ⟨n, _, hx⟩ := List.mem_flatMap.1 hx
      exact qI9 n 2 x hx
  · exact qF9 A x hx
def chunkA (A : List (List Int)) (i : Nat) : List Int := ((bytesA A).drop (64 * i)).take 64
theorem qG0 (A : List (List Int)) (i : Nat) : (chunkA A i).length = min 64 ((bytesA A).length - 64 * i) := by unfold chunkA; rw [List.length_take, List.length_drop]
theorem yD4 (A : List (List Int)) (i : Nat) : ((bytesA A).drop (64 * i)).take (chunkA A i).length = chunkA A i := by
  rw [qG0]
  unfold chunkA
  rw [List.take_eq_take_iff, List.length_drop]
  omega
theorem qG1 (A : List (List Int)) (i : Nat) : isB (chunkA A i) := fun x hx => qF9 A x (List.mem_of_mem_drop (List.mem_of_mem_take hx))
end Go.Proofs.YtifhcfhdajkhlaaGreat.K

namespace Go.Proofs.YtifhcfhdajkhlaaGreat.K
open Go Go.RowKit Go.Proofs
attribute [local irreducible] Run1 OpG WL W AO Gives
set_option maxRecDepth 100000 in
theorem qE2 (w : World) {ad : Option Addr} {n c : Nat} : Calls Tryz.prog 82 #[.slice ad n c] w (Ret fun v w' => ∃ bx, v = .func (.func 113) #[] #[.pointer (some ⟨bx, 0, none⟩)] ∧ w.heap.size ≤ bx ∧ w'.heap[bx]? = some (.cells #[.slice ad n c] 22 (0, 0)) ∧ Grow w w') := by
 have G := Grow.rfl' w
 refine zE3 Tryz.func82 Tryz.ntmps82 Tryz.results82 rfl rfl ?_
 refine zA6 (zA1 rfl ?_)
 refine zA3 (og rfl ?_)
 (first | refine zD0 rfl ?_ | refine zD2 rfl ?_ | refine zC5 rfl ?_ | refine zH0 rfl rfl ?_)
 intro b1 w2 hb3 hc4 g5
 have hge6 := Nat.le_trans G.size hb3
 replace G := G.tr g5
 clear g5 hb3
 refine zA3 (og rfl ?_)
 (first | refine zT8 rfl ?_ | refine zV2 rfl ?_ | refine zO1 rfl ?_ | refine zA0 rfl ?_ | refine zB0 rfl ?_ | refine zK8 rfl ?_ | refine zA8 rfl ?_)
 refine zA4 ?_
 refine zA6 (zA1 rfl ?_)
 refine stp (zX4 (vs := []) (us := [.pointer (some ⟨b1, 0, none⟩)]) rfl rfl ?_)
 refine zA3 (og rfl ?_)
 (first | refine zK8 rfl ?_ | refine zA8 rfl ?_)
 refine zA4 ?_
 refine zC4 ?_
 exact ret1 (zB3 rfl) ⟨_, rfl, hge6, hc4, G⟩

set_option maxRecDepth 100000 in
theorem qR6 (w : World) {bx l n c : Nat} {ad : Option Addr} {T : TypeId} {xs : List Int} (hn : n = xs.length) (I : Nat → World → Prop) (hI : ∀ i w', I i w' → w'.heap[bx]? = some (.cells #[.slice ad n c] T (0, 0)) ∧ RowAt w' 1 ad n (xs.map (.int .u8))) (hy : ∀ i w' (hi : i < n), I i w' → Yields Tryz.prog l #[.int .i64 ((n : Int) - 1 - i), .int .u8 (xs[n - 1 - i]'(by omega))] w' (fun v w'' => v = .bool true ∧ I (i + 1) w'')) (h0 : I 0 w) : Calls Tryz.prog 113 #[.func (.yield l) #[] #[], .pointer (some ⟨bx, 0, none⟩)] w (Ret fun v w' => I n w') := by
 obtain ⟨hbx, R⟩ := hI 0 w h0
 have ln := R.lim
 refine zE3 Tryz.func113 Tryz.ntmps113 Tryz.results113 rfl rfl ?_
 refine zA6 (zA1 rfl ?_)
 refine stp (zB5 rfl (by assumption) (by rfl) ?_)
 refine stp (zE8 rfl rfl rfl ?_)
 refine zA3 (og rfl ?_)
 (first | (refine zM0 rfl rfl ?_ ?_; (constructor <;> omega)) | refine zT9 rfl rfl ?_)
 refine zA3 (og rfl ?_)
 (first | refine zA0 rfl ?_ | refine zA8 rfl ?_)
 refine zA4 ?_
 refine zC6 ?_
 clear R hbx
 refine zG6 (fun m_ e_ w_ => ∃ (k : Nat), m_ = n - k ∧ Fr [(0, .func (.yield l) #[] #[]), (1, .pointer (some ⟨bx, 0, none⟩)), (3, .int .i64 ((n : Int) - 1 - k))] e_ ∧ (k ≤ n) ∧ (I k w_)) _ ⟨0, rfl, zE6 ⟨rfl, rfl, congrArg (Value.int .i64) (by omega), trivial⟩, by omega, h0⟩ ?_
 rintro m_ e_ w1 ⟨k, rfl, ⟨e2, rfl⟩, hk2, HI⟩
 obtain ⟨hbx, R⟩ := hI k _ HI
 refine zA6 ?_
 refine zA6 (zA1 rfl ?_)
 refine zA3 (og rfl ?_)
 (first | refine zA2 rfl ?_ | refine zB6 rfl ?_)
 refine zA3 (og rfl ?_)
 (first | (refine qH0 rfl rfl ?_ ?_; (first | assumption | omega)) | (refine qH1 rfl rfl ?_ ?_; (first | assumption | omega)) | refine zL7 rfl rfl ?_)
 refine zA4 ?_
 refine zB8 rfl (fun hge => ?_) (fun hge => ?_)
 ·-- true
  first | (replace hge := of_decide_eq_true hge) | (replace hge := of_decide_eq_false hge) | skip
  have hk3 : k < n := by omega
  obtain ⟨b_, o_, cs_, T_, fr_, rfl, hb_, hx_⟩ := R.at_ (by omega)
  refine zC3 ?_
  refine zA6 ?_
  refine zC6 ?_
  refine zA6 (zA1 rfl ?_)
  refine zA3 (og rfl ?_)
  (first | refine zQ5 rfl ?_ | refine zB6 rfl ?_)
  refine zA3 (og rfl ?_)
  (first | refine zA2 rfl ?_ | refine zB6 rfl ?_)
  refine stp (zB5 rfl (by assumption) (by rfl) ?_)
  refine zA3 (og rfl ?_)
  (first | refine zA2 rfl ?_ | refine zB6 rfl ?_)
  refine zA3 (og rfl ?_)
  (refine zH9 rfl rfl ?_ ?_ ?_; omega; omega)
  refine stp (zB5 (v := .int .u8 (xs[n - 1 - k]'(by omega))) rfl hb_ (by rw [show o_ + (((n : Int) - 1 - k).toNat) * 1 = o_ + (n - 1 - k) from by omega]; exact zO2 hx_ (by rw [List.getElem?_map, List.getElem?_eq_getElem (by omega)]; rfl)) ?_)
  refine stp (yB0 rfl (Yields.mono ?_ (hy k _ hk3 HI)))
  rintro v_ w2_ ⟨rfl, HI2⟩
  refine zA3 (og rfl ?_)
  (first | (refine qB6 rfl ?_ ?_; (first | rfl | assumption)) | (refine zL8 rfl ?_ ?_; (first | rfl | assumption)) | refine zN6 rfl ?_)
  refine zA4 ?_
  refine zI8 rfl ?_
  refine zC3 ?_
  refine zA1 rfl ?_
  refine zA3 (og rfl ?_)
  (first | refine zA2 rfl ?_ | refine zB6 rfl ?_)
  refine zA3 (og rfl ?_)
  (first | (refine zM0 rfl rfl ?_ ?_; (constructor <;> omega)) | refine zT9 rfl rfl ?_)
  refine zA3 (og rfl ?_)
  (first | refine zA0 rfl ?_ | refine zA8 rfl ?_)
  refine zA4 ?_
  refine ⟨_, ?_, k + 1, rfl, zE6 ⟨rfl, rfl, congrArg (Value.int .i64) (by omega), trivial⟩, by omega, HI2⟩
  omega
 ·-- false
  first | (replace hge := of_decide_eq_true hge) | (replace hge := of_decide_eq_false hge) | skip
  have hk3 : k = n := by omega
  subst hk3
  refine zF6 ?_
  exact yN7 HI

set_option maxRecDepth 100000 in
theorem qY8 (w : World) {ad : Option Addr} {n c : Nat} {xs : List Int} (hn : n = xs.length) (hc : n ≤ c) (R : RowAt w 1 ad n (xs.map (.int .u8))) (hx : ∀ x ∈ xs, inR .u8 x) : Gives Tryz.prog 46 #[.slice ad n c] w (.int .u64 (getP (xs.take 8))) := by
 have ln := R.lim
 have G := Grow.rfl' w
 refine zC7 Tryz.func46 Tryz.ntmps46 Tryz.results46 rfl rfl ?_
 refine zA6 (zA1 rfl ?_)
 refine zA3 (og rfl ?_)
 (first | refine zA0 rfl ?_ | refine zA8 rfl ?_)
 refine zA4 ?_
 refine zA6 (zA1 rfl ?_)
 refine stp (zD3 ?_)
 intro b1 w2 hb3 hc4 g5
 refine stn (zE0 (v := .int _ _) rfl rfl (by rfl) hc4 (by rfl) (by rfl) ?_)
 intro w6 hc7 u8
 have g9 := g5.upd u8 hb3
 have hge10 := Nat.le_trans G.size hb3
 replace G := G.tr g9
 clear u8 g5 hb3 hc4
 refine zA4 ?_
 refine zA6 ?_
 refine zA6 (zA1 rfl ?_)
 refine zA3 (og rfl ?_)
 (first | refine zA7 rfl ?_ | refine zB6 rfl ?_)
 refine zA3 (og rfl ?_)
 (first | refine zA7 rfl ?_ | refine zB6 rfl ?_)
 refine stp (zE8 rfl rfl rfl ?_)
 refine zA3 (og rfl ?_)
 refine zT7 rfl rfl rfl ?_
 rw [show (if (8 : Int) < (n : Int) then (8 : Int) else (n : Int)) = ((min n 8 : Nat) : Int) from by split <;> omega]
 refine zA3 (og rfl ?_)
 refine qA5 rfl rfl (by omega) (by omega) ?_
 rw [Int.toNat_natCast]
 have R8 : RowAt w 1 (if c = 0 then ad else ad.map (·.add (0 * 1))) (min n 8) ((xs.take 8).map (Value.int .u8)) := by
  have h := R.sliceH (m := min n 8) hc (by omega) (by omega)
  rwa [Nat.mul_one (min n 8), ← List.map_take, yB5 hn] at h
 generalize (if c = 0 then ad else ad.map (·.add (0 * 1))) = ad8 at R8 ⊢
 have hm8 : min n 8 = (xs.take 8).length := by rw [List.length_take]; omega
 have hx8 : ∀ x ∈ xs.take 8, inR .u8 x := fun x h => hx x (List.mem_of_mem_take h)
 have hl8 : (xs.take 8).length ≤ 8 := by rw [List.length_take]; omega
 generalize xs.take 8 = ys at R8 hm8 hx8 hl8 ⊢
 generalize min n 8 = m at R8 hm8 ⊢
 refine zA3 (og rfl ?_)
 refine zF1 rfl (qE2 _) ?_
 rintro v_ w5_ ⟨bx, rfl, hbxge, hbx, g5_⟩
 have hq3 := Nat.lt_of_lt_of_le (zA9 hc7) hbxge
 replace hc7 := g5_.heap hc7
 replace G := G.tr g5_
 refine zA4 ?_
 refine zC6 ?_
 refine qT6 rfl rfl ?_
 intro rc hst hpd hps has hbd hsz hge l w6 hl hlp hmk g6 hw6
 have hb3l := zA9 hc7
 have hbxl := zA9 hbx
 replace hc7 := g6.heap hc7
 replace hbx := g6.heap hbx
 have hGs := G.size
 have hb3g := hge10
 replace G := G.tr g6
 generalize hmm : w5_.heap.size = mk at *
 refine Calls.mono (qR6 w6 hm8 (fun k W => W.heap[b1]? = some (.cells #[.int .u64 (getP (ys.drop (m - k)))] 33 (0, 0)) ∧ W.heap[bx]? = some (.cells #[.slice ad8 m c] 22 (0, 0)) ∧ W.heap[l]? = some (.loop rc) ∧ W.heap[mk]? = some (.deferred (some [])) ∧ Grow w W) (fun i w' h => ⟨h.2.1, R8.grow h.2.2.2.2⟩) ?_ ⟨by rw [Nat.sub_zero, hm8, List.drop_length]; exact hc7, hbx, hlp, hmk, G⟩) ?_
 ·rintro i w7 hi ⟨h1, h2, h4, h5, G7⟩
  refine qB9 (ps := [12, 13]) (vs := [_, _]) (n := 20) h4 hps rfl hsz (by rfl) hge ?_
  rw [has, hbd]
  refine zA1 rfl ?_
  refine zA3 (og rfl ?_)
  (first | refine zA0 rfl ?_ | refine zA8 rfl ?_)
  refine zA4 ?_
  refine ⟨rc, h4, hst, ?_⟩
  have u1 := zR9 (o' := .loop { rc with state := .busy }) h4
  have h4b := qA6 (o' := .loop { rc with state := .busy }) h4
  have g1 := u1.heap h1 (by omega)
  have g2 := u1.heap h2 (by omega)
  have g5 := u1.heap h5 (by omega)
  have G8 := G7.upd u1 (by omega)
  generalize w7.putObj l (.loop { rc with state := .busy }) = w8 at *
  clear u1 h1 h2 h5
  have hyr := zP8 (ys.drop (m - i)) (fun x hx_ => hx8 x (List.mem_of_mem_drop hx_))
  have hpow := qQ3 (show (ys.drop (m - i)).length ≤ 7 from by rw [List.length_drop]; omega)
  have hxi := hx8 (ys[m - 1 - i]'(by omega)) (List.getElem_mem _)
  simp only [inR] at hxi
  refine zC6 ?_
  refine zA1 rfl ?_
  refine stp (zB5 rfl g1 (by rfl) ?_)
  refine zA3 (og rfl ?_)
  (first | (refine zU0 (m := 256) rfl rfl (by decide) (by decide) ?_ ?_; (constructor <;> omega)) | refine zO7 (m := 256) rfl rfl (by decide) (by decide) ?_)
  refine zA3 (og rfl ?_)
  (first | refine zA2 rfl ?_ | refine zB6 rfl ?_)
  refine zA3 (og rfl ?_)
  (first | (refine zF8 rfl ?_ ?_; (constructor <;> omega)) | refine zJ3 rfl ?_)
  refine zA3 (og rfl ?_)
  refine r_or rfl rfl ?_
  rw [yO2 _ _ hyr.1 (by omega) hxi.1 hxi.2]
  refine stn (zE0 (v := .int _ _) rfl rfl (by rfl) g1 (by rfl) (by rfl) ?_)
  intro w9 h1' u9
  refine zA4 ?_
  have h4c := u9.heap h4b (by omega)
  have u2 := zR9 (o' := .loop rc) h4c
  refine ⟨_, h4c, ?_⟩
  rw [qE7 hst hpd]
  refine ⟨rfl, ?_, u2.heap (u9.heap g2 (by omega)) (by omega), qA6 h4c, u2.heap (u9.heap g5 (by omega)) (by omega), (G8.upd u9 (by omega)).upd u2 (by omega)⟩
  rw [qK4 hm8 hi]
  exact u2.heap h1' (by omega)
 ·rintro r_ w7 ⟨v_, rfl, h1, h2, h4, h5, G7⟩
  refine ⟨_, rc, rfl, h4, by rw [hst]; simp, ?_⟩
  simp only [hpd]
  have u1 := zR9 (o' := .loop { rc with state := .exhausted, pending := none }) h4
  have g1 := u1.heap h1 (by omega)
  have g5 := u1.heap h5 (by omega)
  clear G
  have G := G7.upd u1 (by omega)
  generalize w7.putObj l _ = w8 at *
  clear u1 h1 h2 h5
  refine zA6 (zA1 rfl ?_)
  refine stp (zB5 rfl (by assumption) (by rfl) ?_)
  refine zA3 (og rfl ?_)
  (first | refine zA0 rfl ?_ | refine zA8 rfl ?_)
  refine zA4 ?_
  refine zC4 ?_
  refine retM (vs := [_]) ⟨mk, _, rfl, run_takeDeferred g5, rfl⟩ ⟨rfl, trivial⟩ ⟨?_, G.upd (zR9 g5) (by omega)⟩
  rw [Nat.sub_self]; rfl

set_option maxRecDepth 100000 in
theorem qR7 (w : World) {ad : Option Addr} {n c : Nat} : Calls Tryz.prog 45 #[.slice ad n c, .int .i64 8] w (Ret fun v w' => ∃ b1 b2, v = .func (.func 81) #[] #[.pointer (some ⟨b1, 0, none⟩), .pointer (some ⟨b2, 0, none⟩)] ∧ w.heap.size ≤ b1 ∧ w.heap.size ≤ b2 ∧ w'.heap[b1]? = some (.cells #[.slice ad n c] 22 (0, 0)) ∧ w'.heap[b2]? = some (.cells #[.int .i64 8] 3 (0, 0)) ∧ Grow w w') := by
 have G := Grow.rfl' w
 refine zE3 Tryz.func45 Tryz.ntmps45 Tryz.results45 rfl rfl ?_
 refine zA6 (zA1 rfl ?_)
 refine zA3 (og rfl ?_)
 (first | refine zD0 rfl ?_ | refine zD2 rfl ?_ | refine zC5 rfl ?_ | refine zH0 rfl rfl ?_)
 intro b1 w2 hb3 hc4 g5
 have hge6 := Nat.le_trans G.size hb3
 replace G := G.tr g5
 clear g5 hb3
 refine zA3 (og rfl ?_)
 (first | refine zD0 rfl ?_ | refine zD2 rfl ?_ | refine zC5 rfl ?_ | refine zH0 rfl rfl ?_)
 intro b7 w8 hb9 hc10 g11
 have hge12 := Nat.le_trans G.size hb9
 replace hc4 := g11.heap hc4
 replace G := G.tr g11
 clear g11 hb9
 refine zA3 (og rfl ?_)
 (first | refine zT8 rfl ?_ | refine zV2 rfl ?_ | refine zO1 rfl ?_ | refine zA0 rfl ?_ | refine zB0 rfl ?_ | refine zK8 rfl ?_ | refine zA8 rfl ?_)
 refine zA4 ?_
 refine zA6 ?_
 refine zA6 (zA1 rfl ?_)
 refine stp (zB5 rfl (by assumption) (by rfl) ?_)
 refine zA3 (og rfl ?_)
 (first | (refine zR8 rfl rfl ?_ ?_; (first | assumption | omega)) | (refine zM5 rfl rfl ?_ ?_; (first | assumption | omega)) | refine zF9 rfl rfl ?_)
 refine zA4 ?_
 refine zI8 rfl ?_
 refine zC3 ?_
 refine zA6 (zA1 rfl ?_)
 refine stp (zX4 (vs := []) (us := [.pointer (some ⟨b1, 0, none⟩), .pointer (some ⟨b7, 0, none⟩)]) rfl rfl ?_)
 refine zA3 (og rfl ?_)
 (first | refine zK8 rfl ?_ | refine zA8 rfl ?_)
 refine zA4 ?_
 refine zC4 ?_
 exact ret1 (zB3 rfl) ⟨_, _, rfl, hge6, hge12, hc4, hc10, G⟩

set_option maxRecDepth 100000 in
theorem qN1 (w : World) {b1 b2 l n c : Nat} {ad : Option Addr} {T T2 : TypeId} (hnc : n ≤ c) (hn : n ≤ 140737488355328) (I : Nat → World → Prop) (hI : ∀ i w', I i w' → w'.heap[b1]? = some (.cells #[.slice ad n c] T (0, 0)) ∧ w'.heap[b2]? = some (.cells #[.int .i64 8] T2 (0, 0))) (hgr : ∀ i w' w'', Grow w' w'' → I i w' → I i w'') (hy : ∀ j w', 8 * j < n → I j w' → Yields Tryz.prog l #[.slice (if 8 * j + chunkN n j = 8 * j then ad else ad.map (·.add (8 * j * 1))) (chunkN n j) (chunkN n j)] w' (fun v w'' => v = .bool true ∧ I (j + 1) w'')) (h0 : I 0 w) : Calls Tryz.prog 81 #[.func (.yield l) #[] #[], .pointer (some ⟨b1, 0, none⟩), .pointer (some ⟨b2, 0, none⟩)] w (Ret fun v w' => I ((n + 7) / 8) w') := by
 refine zE3 Tryz.func81 Tryz.ntmps81 Tryz.results81 rfl rfl ?_
 refine zA6 (zA1 rfl ?_)
 refine zA3 (og rfl ?_)
 (first | refine zA0 rfl ?_ | refine zA8 rfl ?_)
 refine zA4 ?_
 refine zC6 ?_
 refine zG6 (fun m_ e_ w_ => ∃ (k : Nat), m_ = n + 8 - 8 * k ∧ Fr [(0, .func (.yield l) #[] #[]), (1, .pointer (some ⟨b1, 0, none⟩)), (2, .pointer (some ⟨b2, 0, none⟩)), (4, .int .i64 ((8 * k : Nat) : Int))] e_ ∧ (8 * k < n + 8) ∧ (I k w_)) _ ⟨0, rfl, zE6 ⟨rfl, rfl, rfl, rfl, trivial⟩, by omega, h0⟩ ?_
 rintro m_ e_ w1 ⟨k, rfl, ⟨e2, rfl⟩, hk2, HI⟩
 obtain ⟨hb1, hb2⟩ := hI k _ HI
 refine zA6 ?_
 refine zA6 (zA1 rfl ?_)
 refine zA3 (og rfl ?_)
 (first | refine zA2 rfl ?_ | refine zB6 rfl ?_)
 refine stp (zB5 rfl (by assumption) (by rfl) ?_)
 refine stp (zE8 rfl rfl rfl ?_)
 refine zA3 (og rfl ?_)
 (first | (refine zR8 rfl rfl ?_ ?_; (first | assumption | omega)) | (refine zM5 rfl rfl ?_ ?_; (first | assumption | omega)) | refine zF9 rfl rfl ?_)
 refine zA4 ?_
 refine zB8 rfl (fun hlt => ?_) (fun hlt => ?_)
 ·-- true
  first | (replace hlt := of_decide_eq_true hlt) | (replace hlt := of_decide_eq_false hlt) | skip
  have hk3 : 8 * k < n := by omega
  have hmin : (if (n : Int) - (8 * k : Nat) < 8 then (n : Int) - (8 * k : Nat) else 8) = (chunkN n k : Nat) := by unfold chunkN; split <;> omega
  have hck : chunkN n k ≤ n - 8 * k := by unfold chunkN; omega
  refine zC3 ?_
  refine zA6 ?_
  refine zC6 ?_
  refine zA6 ?_
  refine zJ4 7 [[], [], [], [1, 0], [2, 1, 0], [4, 3, 2, 1, 0], [5, 4, 3, 2, 1, 0]] mixed (by kernel_rfl) (by kernel_rfl) (by kernel_rfl) ?_
  intro w3 g4
  replace HI := hgr _ _ _ g4 HI
  replace HI := HI
  replace hb1 := g4.heap hb1
  replace hb2 := g4.heap hb2
  clear g4
  apply zB7
  ·intro w_ g_; refine og rfl ?_; refine zB5 rfl (by exact Grow.heap g_ (by assumption)) (by rfl) ?_; exact ⟨Grow.rfl' _, rfl⟩
  apply zB7
  ·intro w_ g_; refine og rfl ?_; refine zB5 rfl (by exact Grow.heap g_ (by assumption)) (by rfl) ?_; exact ⟨Grow.rfl' _, rfl⟩
  apply zB7
  ·intro w_ g_; refine og rfl ?_; (first | refine zA2 rfl ?_ | refine zB6 rfl ?_); exact ⟨Grow.rfl' _, rfl⟩
  apply zB7
  ·intro w_ g_
   refine og rfl ?_
   refine zV5 rfl rfl (by omega) (by omega) ?_
   exact ⟨Grow.rfl' _, rfl⟩
  apply zB7
  ·intro w_ g_
   refine og rfl ?_
   refine zE8 rfl rfl rfl ?_
   exact ⟨Grow.rfl' _, rfl⟩
  apply zB7
  ·intro w_ g_
   refine og rfl ?_
   refine zT7 rfl rfl rfl ?_
   rw [show (if ((n - ((8 * k : Nat) : Int).toNat : Nat) : Int) < 8 then ((n - ((8 * k : Nat) : Int).toNat : Nat) : Int) else 8) = (chunkN n k : Nat) from by unfold chunkN; split <;> omega]
   exact ⟨Grow.rfl' _, rfl⟩
  apply zB7
  ·intro w_ g_; refine og rfl ?_; (first | refine zA0 rfl ?_ | refine zA8 rfl ?_); exact ⟨Grow.rfl' _, rfl⟩
  refine zI5 ?_
  intro w5 g6
  replace HI := hgr _ _ _ g6 HI
  replace HI := HI
  replace hb1 := g6.heap hb1
  replace hb2 := g6.heap hb2
  clear g6
  refine zA4 ?_
  refine zA6 (zA1 rfl ?_)
  refine zA3 (og rfl ?_)
  (first | refine zQ5 rfl ?_ | refine zB6 rfl ?_)
  refine stp (zB5 rfl (by assumption) (by rfl) ?_)
  refine zA3 (og rfl ?_)
  (first | refine zA2 rfl ?_ | refine zB6 rfl ?_)
  refine zA3 (og rfl ?_)
  (first | refine zA2 rfl ?_ | refine zB6 rfl ?_)
  refine zA3 (og rfl ?_)
  (first | refine zA2 rfl ?_ | refine zB6 rfl ?_)
  refine zA3 (og rfl ?_)
  (first | (refine zD8 rfl rfl ?_ ?_; (constructor <;> omega)) | refine zI1 rfl rfl ?_)
  refine zA3 (og rfl ?_)
  (first | refine zA2 rfl ?_ | refine zB6 rfl ?_)
  refine zA3 (og rfl ?_)
  (first | refine zA2 rfl ?_ | refine zB6 rfl ?_)
  refine zA3 (og rfl ?_)
  (first | (refine zD8 rfl rfl ?_ ?_; (constructor <;> omega)) | refine zI1 rfl rfl ?_)
  refine zA3 (og rfl ?_)
  refine yH0 rfl rfl rfl rfl (by omega) (by omega) (by omega) (by omega) ?_
  rw [show ((((8 * k : Nat) : Int) + (chunkN n k : Nat)).toNat) = 8 * k + chunkN n k from by omega, Int.toNat_natCast, show 8 * k + chunkN n k - 8 * k = chunkN n k from by omega]
  refine stp (yB0 rfl (Yields.mono ?_ (hy k _ hk3 HI)))
  rintro v_ w2_ ⟨rfl, HI2⟩
  refine zA3 (og rfl ?_)
  (first | (refine qB6 rfl ?_ ?_; (first | rfl | assumption)) | (refine zL8 rfl ?_ ?_; (first | rfl | assumption)) | refine zN6 rfl ?_)
  refine zA4 ?_
  refine zI8 rfl ?_
  obtain ⟨hb1b, hb2b⟩ := hI (k + 1) _ HI2
  refine zC3 ?_
  refine zA1 rfl ?_
  refine zA3 (og rfl ?_)
  (first | refine zA2 rfl ?_ | refine zB6 rfl ?_)
  refine stp (zB5 rfl (by assumption) (by rfl) ?_)
  refine zA3 (og rfl ?_)
  (first | (refine zD8 rfl rfl ?_ ?_; (constructor <;> omega)) | refine zI1 rfl rfl ?_)
  refine zA3 (og rfl ?_)
  (first | refine zA0 rfl ?_ | refine zA8 rfl ?_)
  refine zA4 ?_
  refine ⟨_, ?_, k + 1, rfl, zE6 ⟨rfl, rfl, rfl, congrArg (Value.int .i64) (by omega), trivial⟩, by omega, HI2⟩
  omega
 ·-- false
  first | (replace hlt := of_decide_eq_true hlt) | (replace hlt := of_decide_eq_false hlt) | skip
  have hk3 : (n + 7) / 8 = k := by omega
  rw [hk3]
  refine zF6 ?_
  exact yN7 HI
end Go.Proofs.YtifhcfhdajkhlaaGreat.K

namespace Go.Proofs.YtifhcfhdajkhlaaGreat.K
open Go Go.RowKit Go.Proofs
attribute [local irreducible] Run1 OpG WL W AO Gives
set_option maxRecDepth 100000 in
theorem zN8 (w : World) {c : List Value} {t : Nd} (T : NodeR w c t) (off : Int) (hk12 : t.kind = 1 ∨ t.kind = 2) : Gives Tryz.prog 94 #[.agg c.toArray, .int .i64 off] w (.int .u64 (t.near off)) := by
 obtain @⟨kind, size, words, bytes, kids, ws, bs, ks, kc, hk, hs, hW, hwr, hB, hbr, hK, hKs⟩ := T
 obtain ⟨aw, cw, rfl, hcw, hcw2, RW⟩ := hW
 obtain ⟨ab, cb, rfl, hcb, hcb2, RB⟩ := hB
 obtain ⟨ak, ck, rfl, hck, hck2, RK⟩ := hK
 have lw := RW.lim
 have lb := RB.lim
 have lk := RK.lim
 simp only [inR] at hk hs
 simp only [Nd.kind] at hk12
 have G := Grow.rfl' w
 refine zC7 Tryz.func94 Tryz.ntmps94 Tryz.results94 rfl rfl ?_
 refine zA6 (zA1 rfl ?_)
 refine zA3 (og rfl ?_)
 (first | refine zD0 rfl ?_ | refine zD2 rfl ?_ | refine zC5 rfl ?_ | refine zH0 rfl rfl ?_)
 intro b1 w2 hb3 hc4 g5
 have hge6 := Nat.le_trans G.size hb3
 replace G := G.tr g5
 clear g5 hb3
 refine zA3 (og rfl ?_)
 (first | refine zA0 rfl ?_ | refine zA8 rfl ?_)
 refine zA4 ?_
 refine zA6 (zA1 rfl ?_)
 refine stp (zA5 rfl ?_)
 refine stp (zB5 rfl (by assumption) (by rfl) ?_)
 refine zA3 (og rfl ?_)
 (first | refine zA2 rfl ?_ | refine zB6 rfl ?_)
 refine stp (zA5 rfl ?_)
 refine stp (zB5 rfl (by assumption) (by rfl) ?_)
 refine stp (zE8 rfl rfl rfl ?_)
 refine stp (zA5 rfl ?_)
 refine stp (zB5 rfl (by assumption) (by rfl) ?_)
 refine stp (zE8 rfl rfl rfl ?_)
 refine stp (zD4 (v := .agg #[.int .i64 (kind), .int .i64 (off), .int .i64 ((words.length : Int)), .int .i64 ((kids.length : Int)), .int .i64 (0), .int .i64 (0), .int .i64 (0), .bool false]) (fun w => by kernel_rfl) ?_)
 refine stp (zD3 ?_)
 intro b7 w8 hb9 hc10 g11
 refine stn (zB1 rfl rfl hc10 (by rfl) (by rfl) (by rfl) ?_)
 intro w12 hc13 u14
 have g15 := g11.upd u14 hb9
 have hge16 := Nat.le_trans G.size hb9
 have ne17 := Nat.ne_of_lt (Nat.lt_of_lt_of_le (zA9 hc4) hb9)
 replace hc4 := g15.heap hc4
 replace G := G.tr g15
 clear u14 g11 hb9 hc10
 refine zA4 ?_
 refine zA6 ?_
 refine zA6 (zA1 rfl ?_)
 refine stp (zA5 rfl ?_)
 refine stp (zB5 rfl (by assumption) (by rfl) ?_)
 refine zA3 (og rfl ?_)
 (first | (refine zG3 rfl rfl ?_ ?_; (first | assumption | omega)) | (refine zH5 rfl rfl ?_ ?_; (first | assumption | omega)) | refine zE9 rfl rfl ?_)
 refine zA4 ?_
 refine zB8 rfl (fun k2 => ?_) (fun k2 => ?_)
 ·-- true
  first | (replace k2 := of_decide_eq_true k2) | (replace k2 := of_decide_eq_false k2) | skip
  refine zA1 rfl ?_
  refine zA3 (og rfl ?_)
  (first | refine zA2 rfl ?_ | refine zB6 rfl ?_)
  refine stp (zA5 rfl ?_)
  refine stp (zB5 rfl (by assumption) (by rfl) ?_)
  refine stp (zA5 rfl ?_)
  refine stp (zB5 rfl (by assumption) (by rfl) ?_)
  refine stp (zE8 rfl rfl rfl ?_)
  refine stp (zA5 rfl ?_)
  refine stp (zB5 rfl (by assumption) (by rfl) ?_)
  refine stp (zE8 rfl rfl rfl ?_)
  refine zA3 (og rfl ?_)
  (first | (refine zD8 rfl rfl ?_ ?_; (constructor <;> omega)) | refine zI1 rfl rfl ?_)
  refine stp (zA5 rfl ?_)
  refine stp (zB5 rfl (by assumption) (by rfl) ?_)
  refine stp (zE8 rfl rfl rfl ?_)
  refine zA3 (og rfl ?_)
  (first | (refine zD8 rfl rfl ?_ ?_; (constructor <;> omega)) | refine zI1 rfl rfl ?_)
  refine stp (zD4 (v := .agg #[.int .i64 (2), .int .i64 (off), .int .i64 (0), .int .i64 (0), .int .i64 (size), .int .i64 (((words.length : Int) + kids.length + bytes.length)), .int .i64 (0), .bool false]) (fun w => by kernel_rfl) ?_)
  refine stn (zB1 rfl rfl hc13 (by rfl) (by rfl) (by rfl) ?_)
  intro w21 hc22 u23
  replace hc4 := u23.heap hc4 ne17
  replace G := G.upd u23 hge16
  clear u23 hc13
  refine zA4 ?_
  refine zA6 (zA1 rfl ?_)
  refine zA3 (og rfl ?_)
  (first | refine zB4 rfl (by assumption) (by rfl) ?_ | refine zH8 rfl (by assumption) (by rfl) (by rfl) ?_)
  refine stp (zC0 rfl (zJ9 _ ⟨2, off, 0, 0, size, ((words.length : Int) + kids.length + bytes.length), 0, false⟩) ?_)
  intro w24 g25
  replace hc4 := g25.heap hc4
  replace hc22 := g25.heap hc22
  replace G := G.tr g25
  clear g25
  refine zA3 (og rfl ?_)
  (first | refine zH6 rfl ?_ | refine zB6 rfl ?_)
  refine stp (zB2 rfl rfl ?_)
  refine stp (zB2 rfl rfl ?_)
  refine zA3 (og rfl ?_)
  (first | refine zA0 rfl ?_ | refine zA8 rfl ?_)
  refine zA3 (og rfl ?_)
  (first | refine zA0 rfl ?_ | refine zA8 rfl ?_)
  refine zA4 ?_
  refine zA6 (zA1 rfl ?_)
  refine zA3 (og rfl ?_)
  (first | refine zA2 rfl ?_ | refine zB6 rfl ?_)
  refine zA3 (og rfl ?_)
  (first | refine zA0 rfl ?_ | refine zA8 rfl ?_)
  refine zA4 ?_
  refine zC4 ?_
  refine ret1 (zD5 rfl) ⟨?_, G⟩
  subst k2
  simp [Nd.near, Nd.ptr]
 ·-- false
  first | (replace k2 := of_decide_eq_true k2) | (replace k2 := of_decide_eq_false k2) | skip
  have k1 : kind = 1 := by omega
  refine zC3 ?_
  refine zA6 (zA1 rfl ?_)
  refine zA3 (og rfl ?_)
  (first | refine zB4 rfl (by assumption) (by rfl) ?_ | refine zH8 rfl (by assumption) (by rfl) (by rfl) ?_)
  refine stp (zC0 rfl (zJ9 _ ⟨kind, off, (words.length : Int), (kids.length : Int), 0, 0, 0, false⟩) ?_)
  intro w26 g27
  replace hc4 := g27.heap hc4
  replace hc13 := g27.heap hc13
  replace G := G.tr g27
  clear g27
  refine zA3 (og rfl ?_)
  (first | refine zH6 rfl ?_ | refine zB6 rfl ?_)
  refine stp (zB2 rfl rfl ?_)
  refine stp (zB2 rfl rfl ?_)
  refine zA3 (og rfl ?_)
  (first | refine zA0 rfl ?_ | refine zA8 rfl ?_)
  refine zA3 (og rfl ?_)
  (first | refine zA0 rfl ?_ | refine zA8 rfl ?_)
  refine zA4 ?_
  refine zA6 (zA1 rfl ?_)
  refine zA3 (og rfl ?_)
  (first | refine zA2 rfl ?_ | refine zB6 rfl ?_)
  refine zA3 (og rfl ?_)
  (first | refine zA0 rfl ?_ | refine zA8 rfl ?_)
  refine zA4 ?_
  refine zC4 ?_
  refine ret1 (zD5 rfl) ⟨?_, G⟩
  simp [Nd.near, Nd.ptr, k1]

set_option maxRecDepth 100000 in
theorem qG2 (w : World) (seg at_ : Int) : Gives Tryz.prog 96 #[.int .i64 seg, .int .i64 at_] w (.int .u64 (farP seg at_)) := by
 have G := Grow.rfl' w
 refine zC7 Tryz.func96 Tryz.ntmps96 Tryz.results96 rfl rfl ?_
 refine zA6 (zA1 rfl ?_)
 refine zA3 (og rfl ?_)
 (first | refine zA0 rfl ?_ | refine zA8 rfl ?_)
 refine zA4 ?_
 refine zA6 (zA1 rfl ?_)
 refine zA3 (og rfl ?_)
 (first | refine zA2 rfl ?_ | refine zB6 rfl ?_)
 refine zA3 (og rfl ?_)
 (first | refine zA2 rfl ?_ | refine zB6 rfl ?_)
 refine stp (zD4 (v := .agg #[.int .i64 (3), .int .i64 (at_), .int .i64 (0), .int .i64 (0), .int .i64 (0), .int .i64 (0), .int .i64 (seg), .bool false]) (fun w => by kernel_rfl) ?_)
 refine stp (zC0 rfl (zJ9 _ ⟨3, at_, 0, 0, 0, 0, seg, false⟩) ?_)
 intro w1 g2
 replace G := G.tr g2
 clear g2
 refine zA3 (og rfl ?_)
 (first | refine zH6 rfl ?_ | refine zB6 rfl ?_)
 refine stp (zB2 rfl rfl ?_)
 refine stp (zB2 rfl rfl ?_)
 refine zA3 (og rfl ?_)
 (first | refine zA0 rfl ?_ | refine zA8 rfl ?_)
 refine zA3 (og rfl ?_)
 (first | refine zA0 rfl ?_ | refine zA8 rfl ?_)
 refine zA4 ?_
 refine zA6 (zA1 rfl ?_)
 refine zA3 (og rfl ?_)
 (first | refine zA2 rfl ?_ | refine zB6 rfl ?_)
 refine zA3 (og rfl ?_)
 (first | refine zA0 rfl ?_ | refine zA8 rfl ?_)
 refine zA4 ?_
 refine zC4 ?_
 exact ret1 (zD5 rfl) ⟨rfl, G⟩
end Go.Proofs.YtifhcfhdajkhlaaGreat.K

