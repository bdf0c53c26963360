/- Plain laws, rules and walks of this claim's functions, laid together. -/
import Derived.Test.YtkkbbhpbcfcplaaGreatX3
import Derived.Laws.BytesArg
set_option linter.unusedVariables false
set_option linter.unusedSimpArgs false
set_option maxRecDepth 100000
namespace Go.Proofs.YtkkbbhpbcfcplaaGreat.K
open Go Go.RowKit
mutual
def Nd.beq : Nd → Nd → Bool
  | .mk k s w b ks, .mk k' s' w' b' ks' => decide (k = k') && decide (s = s') && decide (w = w') && decide (b = b') && Nd.beqs ks ks'
def Nd.beqs : List Nd → List Nd → Bool
  | [], [] => true
  | [], _ :: _ => false
  | _ :: _, [] => false
  | t :: ts, u :: us => t.beq u && Nd.beqs ts us
end
mutual
theorem Nd.beq_iff : ∀ (t u : Nd), t.beq u = true ↔ t = u
  | .mk k s w b ks, .mk k' s' w' b' ks' => by
    simp only [Nd.beq, Bool.and_eq_true, decide_eq_true_eq, Nd.mk.injEq, Nd.beqs_iff ks ks', and_assoc]
theorem Nd.beqs_iff : ∀ (t u : List Nd), Nd.beqs t u = true ↔ t = u
  | [], [] => by simp [Nd.beqs]
  | [], _ :: _ => by simp [Nd.beqs]
  | _ :: _, [] => by simp [Nd.beqs]
  | t :: ts, u :: us => by
    simp only [Nd.beqs, Bool.and_eq_true, List.cons.injEq, Nd.beq_iff t u, Nd.beqs_iff ts us]
end
theorem Nd.beqs_all : ∀ (t u : List Nd), (decide (t.length = u.length) && (List.range t.length).all fun i => (t.getD i (.mk 0 0 [] [] [])).beq (u.getD i (.mk 0 0 [] [] []))) = Nd.beqs t u
  | [], [] => by simp [Nd.beqs]
  | [], _ :: _ => by simp [Nd.beqs]
  | _ :: _, [] => by simp [Nd.beqs]
  | t :: ts, u :: us => by
    rw [Nd.beqs, ← Nd.beqs_all ts us, List.length_cons, List.length_cons, List.range_succ_eq_map, List.all_cons, List.all_map]
    have h : decide (ts.length + 1 = us.length + 1) = decide (ts.length = us.length) := by
      by_cases h : ts.length = us.length
      · rw [decide_eq_true h, decide_eq_true (by omega)]
      · rw [decide_eq_false h, decide_eq_false (by omega)]
    rw [h]
    show (decide (ts.length = us.length) && (t.beq u && (List.range ts.length).all fun i => (ts.getD i (.mk 0 0 [] [] [])).beq (us.getD i (.mk 0 0 [] [] [])))) = _
    cases decide (ts.length = us.length) <;> cases t.beq u <;> simp
theorem qY6 {n k : Nat} {p : Nat → Bool} (hk : k < n) (h : p k = false) : (List.range n).all p = false := by
  rw [List.all_eq_false]
  exact ⟨k, List.mem_range.2 hk, by rw [h]; decide⟩
theorem qT6 {n : Nat} {p : Nat → Bool} (h : ∀ j, j < n → p j = true) : (List.range n).all p = true := by
  rw [List.all_eq_true]
  exact fun j hj => h j (List.mem_range.1 hj)
end Go.Proofs.YtkkbbhpbcfcplaaGreat.K
namespace Go.Proofs.YtkkbbhpbcfcplaaGreat.K
open Go Go.RowKit Go.Proofs
attribute [local irreducible] Run1 OpG WL W AO zC4
theorem qA2 (w : World) {u : Value} {A : List (List Int)} (hA : zF3 w u A) (hn : A.length ≤ 8796093022208) : Calls Tryz.prog 65 #[u] w (Ret fun v w' => ∃ ad c, v = .slice ad A.length c ∧ RowAt w' 1 ad A.length ((zC7 A).map (.int .i64)) ∧ Grow w w') := by
 obtain ⟨ada, ca, segs, sa, sc, rfl, hca, hca2, RA, hsf, hrf⟩ := hA.fn
 have G := Grow.rfl' w
 refine zC0 Tryz.func65 Tryz.ntmps65 Tryz.results65 rfl rfl ?_
 refine qZ 14 ?_
 refine zF6 (fun m_ e_ w_ => ∃ (k : Nat) (ad3 : Option Addr) (n3 : Nat) (c3 : Nat), m_ = A.length - k ∧ Fr [(0, .slice ada A.length ca), (2, .slice none 0 0), (3, .slice ad3 n3 c3), (4, .int .i64 (k : Int))] e_ ∧ (k ≤ A.length) ∧ (w_.ownsRow w.heap.size 3 1 (.slice ad3 n3 c3) k ((zC7 (A.take k)).map (.int .i64))) ∧ Grow w w_) _ ⟨0, none, 0, 0, rfl, zC8 ⟨rfl, rfl, rfl, rfl, trivial⟩, by omega, World.ownsRow_nil _ _ _ _, G⟩ ?_
 clear G
 rintro m_ e_ w1 ⟨k, ad3, n3, c3, rfl, ⟨e2, rfl⟩, hk, own, G⟩
 refine qZ 6 ?_
 refine stp (zH1 rfl rfl ?_)
 refine zA6 ?_
 refine zA2 (b := (decide ((k : Int) < (A.length : Int)))) rfl (fun hlt => ?_) (fun hlt => ?_)
 ·
  replace hlt := qT hlt
  have hi : k < A.length := by omega
  have hlk := (hrf k hi).2.2.lim
  refine qZ 7 ?_
  refine stp (zD1 (RA.grow G) rfl rfl ?_ ?_); omega
  refine stp (zC6 (v := .slice (sa k) (len2 A k) (sc k)) (m := 0) (RA.grow G) rfl (by rw [Nat.mul_one]; exact hsf _ (by omega)) ?_)
  refine qZ 1 ?_
  refine stp (zB4 (cs := #[.int .i64 ((len2 A k) : Int)]) (el := 3) (fun w => by kernel_rfl) ?_)
  intro bs3 w4 hb5 hc6 g7
  have hge8 := Nat.le_trans G.size hb5
  replace own := zB6 own g7
  replace G := G.tr g7
  clear g7
  refine stp (zH3 rfl rfl rfl rfl own (Row.of_block (n := 1) hc6 rfl rfl (by omega)) (fun q_ hq_ => by simp at hq_; subst hq_; rfl) (by simp only [maxLen]; omega) (by omega) G.size ?_)
  intro v9 w10 own6 gr6
  replace G := G.grown gr6 (zI0 own)
  clear own gr6
  obtain ⟨ad4, n4, c4, rfl⟩ := zE3 own6
  refine qZ 4 ?_
  refine stp (zB8 rfl rfl ?_ ?_); constructor <;> omega
  refine qZ 2 ?_
  refine ⟨_, ?_, k + 1, ad4, n4, c4, rfl, zC8 ⟨rfl, rfl, rfl, congrArg (Value.int .i64) (by omega), trivial⟩, by omega, (by rw [qN0 hi, List.map_append]; exact own6), G⟩
  omega
 ·
  replace hlt := qF hlt
  have hk2 : k = A.length := by omega
  subst hk2
  rw [List.take_length] at own
  obtain ⟨ad9, c9, hs9, -, -, R9⟩ := zI2 own (by omega)
  simp only [Value.slice.injEq] at hs9
  obtain ⟨rfl, rfl, rfl⟩ := hs9
  refine qZ 7 ?_
  refine ret1 (zA1 (v := .slice ad3 A.length c3) rfl) ⟨_, _, rfl, R9, G⟩
theorem yD6 (w : World) {ad : Option Addr} {c : Nat} {A : List (List Int)} (R : RowAt w 1 ad A.length ((zC7 A).map (.int .i64))) (hs : ∀ i, len2 A i ≤ 140737488355328) : zC4 Tryz.prog 64 #[.slice ad A.length c] w (.bool (zE0 A)) := by
 have hl := zH9 A
 have lm := R.lim
 have G := Grow.rfl' w
 refine zB1 Tryz.func64 Tryz.ntmps64 Tryz.results64 rfl rfl ?_
 refine qZ 9 ?_
 refine stp (zH1 rfl rfl ?_)
 refine qZ 1 ?_
 refine qG 2 ?_
 refine zA3 (zB3 (s := .bool _) (v := .bool (decide ((A.length : Int) > 16))) rfl (zE1 _) (fun hc3 => ?_) ?_)
 ·
  have hc3_ := hc3
  try simp only [sb] at hc3_
  refine zO4 (gvt hc3) rfl ?_
  exact ⟨rfl, rfl⟩
 refine stp (zI1 rfl rfl rfl ?_)
 refine qZ 1 ?_
 refine qG 1 ?_
 refine zA3 (zB3 (s := .bool _) (v := .pointer (some (eadr ad ((0 : Int).toNat * 1)))) rfl (zE1 _) (fun hc5 => ?_) ?_)
 ·
  have hc5_ := hc5
  try simp only [sb] at hc5_
  refine zG2 (R.grow G) (gvt hc5) rfl ?_ ?_ ?_; omega; omega
  exact ⟨rfl, rfl⟩
 refine zA3 (zB3 (s := .bool _) (v := .int .i64 ((zC7 A).getD 0 0)) rfl (zE1 _) (fun hc6 => ?_) ?_)
 ·
  have hc6_ := hc6
  try simp only [sb] at hc6_
  refine zC6 (v := .int .i64 ((zC7 A).getD 0 0)) (m := 0) (R.grow G) (gvt hc6) (show _ from zF5 (j := 0) 0 (by omega)) ?_
  exact ⟨rfl, rfl⟩
 refine zA3 (zB3 (s := .bool _) (v := .bool (decide (((zC7 A).getD 0 0) < 1))) rfl (zE1 _) (fun hc7 => ?_) ?_)
 ·
  have hc7_ := hc7
  try simp only [sb] at hc7_
  refine zH1 (gvt hc7) rfl ?_
  exact ⟨rfl, rfl⟩
 refine stp (zI1 rfl rfl rfl ?_)
 refine zA6 ?_
 refine zA2 (b := (((decide ((A.length : Int) < 1)) || (decide ((A.length : Int) > 16))) || (decide (((zC7 A).getD 0 0) < 1)))) rfl (fun h1 => ?_) (fun h1 => ?_)
 ·
  simp only [sb] at h1
  have hg0 := zK0 A 0
  refine qZ 5 ?_
  have h9 : zE0 A = false := by unfold zE0; exact decide_eq_false (by omega)
  refine ret1 (zA1 (v := .bool false) rfl) ⟨?_, G⟩
  rw [h9]
 ·
  simp only [sb] at h1
  have hg0 := zK0 A 0
  have h1' : 1 ≤ A.length ∧ A.length ≤ 16 ∧ 1 ≤ len2 A 0 := by omega
  clear h1
  refine qZ 11 ?_
  refine zF6 (fun m_ e_ w_ => ∃ (k : Nat), m_ = A.length - k ∧ Fr [(0, .slice ad A.length c), (3, .int .i64 (zC2 (A.take k))), (4, .int .i64 (k : Int))] e_ ∧ (k ≤ A.length) ∧ (zC2 (A.take k) ≤ 4096) ∧ Grow w w_) _ ⟨0, rfl, zC8 ⟨rfl, rfl, rfl, trivial⟩, by omega, by simp [zC2], G⟩ ?_
  clear G
  rintro m_ e_ w8 ⟨k, rfl, ⟨e9, rfl⟩, hk, htk, G⟩
  have ht3 := zL1 (A.take k)
  refine qZ 6 ?_
  refine stp (zH1 rfl rfl ?_)
  refine zA6 ?_
  refine zA2 (b := (decide ((k : Int) < (A.length : Int)))) rfl (fun hlt => ?_) (fun hlt => ?_)
  ·
   replace hlt := qT hlt
   have hi : k < A.length := by omega
   have hg := zK0 A k
   have hlk := hs k
   have ht1 := zX4 hi
   have ht2 := qM0 (A := A) (k + 1)
   have hak : ((A[k].length : Nat) : Int) = (len2 A k : Int) := by simp only [len2]; rw [zF9 hi]
   refine qZ 8 ?_
   refine stp (zD1 (R.grow G) rfl rfl ?_ ?_); omega
   refine stp (zC6 (v := .int .i64 ((zC7 A).getD k 0)) (m := 0) (R.grow G) rfl (zF5 0 (by omega)) ?_)
   refine stp (zH1 rfl rfl ?_)
   refine qZ 1 ?_
   refine qG 2 ?_
   refine zA3 (zB3 (s := .bool _) (v := .pointer (some (eadr ad (k * 1)))) rfl (zE1 _) (fun hc12 => ?_) ?_)
   ·
    have hc12_ := hc12
    try simp only [sb] at hc12_
    refine zD1 (R.grow G) (gvt hc12) (gvt hc12) ?_ ?_; omega
    exact ⟨rfl, rfl⟩
   refine zA3 (zB3 (s := .bool _) (v := .int .i64 ((zC7 A).getD k 0)) rfl (zE1 _) (fun hc13 => ?_) ?_)
   ·
    have hc13_ := hc13
    try simp only [sb] at hc13_
    refine zC6 (v := .int .i64 ((zC7 A).getD k 0)) (m := 0) (R.grow G) (gvt hc13) (zF5 0 (by omega)) ?_
    exact ⟨rfl, rfl⟩
   refine qG 1 ?_
   refine zA3 (zB3 (s := .bool _) (v := .int .i64 (4096 - (zC2 (A.take k)))) rfl (zE1 _) (fun hc15 => ?_) ?_)
   ·
    have hc15_ := hc15
    try simp only [sb] at hc15_
    refine zL3 rfl (gvt hc15) ?_ ?_; constructor <;> omega
    exact ⟨rfl, rfl⟩
   refine zA3 (zB3 (s := .bool _) (v := .bool (decide (((zC7 A).getD k 0) > (4096 - (zC2 (A.take k)))))) rfl (zE1 _) (fun hc16 => ?_) ?_)
   ·
    have hc16_ := hc16
    try simp only [sb] at hc16_
    refine zO4 (gvt hc16) (gvt hc16) ?_
    exact ⟨rfl, rfl⟩
   refine stp (zI1 rfl rfl rfl ?_)
   refine zA6 ?_
   refine zA2 (b := ((decide (((zC7 A).getD k 0) < 0)) || (decide (((zC7 A).getD k 0) > (4096 - (zC2 (A.take k))))))) rfl (fun h3 => ?_) (fun h3 => ?_)
   ·
    simp only [sb] at h3
    refine qZ 5 ?_
    have h9 : zE0 A = false := by unfold zE0; exact decide_eq_false (by omega)
    refine ret1 (zA1 (v := .bool false) rfl) ⟨?_, G⟩
    rw [h9]
   ·
    simp only [sb] at h3
    refine qZ 5 ?_
    refine stp (zD1 (R.grow G) rfl rfl ?_ ?_); omega
    refine stp (zC6 (v := .int .i64 ((zC7 A).getD k 0)) (m := 0) (R.grow G) rfl (zF5 0 (by omega)) ?_)
    refine stp (zB8 rfl rfl ?_ ?_); constructor <;> omega
    refine qZ 4 ?_
    refine stp (zB8 rfl rfl ?_ ?_); constructor <;> omega
    refine qZ 2 ?_
    refine ⟨_, ?_, k + 1, rfl, zC8 ⟨rfl, congrArg (Value.int .i64) (by omega), rfl, trivial⟩, by omega, by omega, G⟩
    omega
  ·
   replace hlt := qF hlt
   have hk2 : k = A.length := by omega
   subst hk2
   rw [List.take_length] at htk
   refine qZ 6 ?_
   have h9 : zE0 A = true := by unfold zE0; exact decide_eq_true (by omega)
   refine ret1 (zA1 (v := .bool true) rfl) ⟨?_, G⟩
   rw [h9]
theorem qT7 (w : World) {u : Value} {A : List (List Int)} (hA : zF3 w u A) (hn : A.length ≤ 8796093022208) : zC4 Tryz.prog 34 #[u] w (.bool (zE0 A)) := by
 have hA0 := hA
 obtain ⟨ada, ca, segs, sa, sc, rfl, hca, hca2, RA, hsf, hrf⟩ := hA.fn
 have hs : ∀ i, len2 A i ≤ 140737488355328 := fun i => by by_cases hi : i < A.length; exact (hrf i hi).2.2.lim; (have := zS9 (A := A) (j := i) (by omega); omega)
 have G := Grow.rfl' w
 refine zB1 Tryz.func34 Tryz.ntmps34 Tryz.results34 rfl rfl ?_
 refine qZ 7 ?_
 refine stp ?_
 refine zD0 rfl (qA2 _ (hA0.grow G) hn) ?_
 rintro v_ w1 ⟨ad9, c9, rfl, RZ, g_⟩
 replace G := G.tr g_
 clear g_
 refine stp (zA4 (v := .bool (zE0 A)) rfl (yD6 _ RZ hs) ?_)
 intro w2 g3
 replace RZ := RZ.grow g3
 replace G := G.tr g3
 clear g3
 refine qZ 3 ?_
 refine ret1 (zA1 (v := .bool (zE0 A)) rfl) ⟨?_, G⟩
 rfl
theorem qG0 (w : World) {ad : Option Addr} {c : Nat} {sz : List Int} {seg a n : Int} (R : RowAt w 1 ad sz.length (sz.map (.int .i64))) (hs : ∀ i, 0 ≤ sz.getD i 0 ∧ sz.getD i 0 ≤ 140737488355328) : zC4 Tryz.prog 130 #[.slice ad sz.length c, .int .i64 seg, .int .i64 a, .int .i64 n] w (.bool (zH7 sz seg a n)) := by
 have ll := R.lim
 have h9 := hs seg.toNat
 have G := Grow.rfl' w
 refine zB1 Tryz.func130 Tryz.ntmps130 Tryz.results130 rfl rfl ?_
 refine qZ 7 ?_
 refine stp (zY6 rfl rfl ?_)
 refine qZ 1 ?_
 refine qG 3 ?_
 refine zA3 (zB3 (s := .bool _) (v := .bool (decide (seg < (sz.length : Int)))) rfl (zE5 _) (fun hc4 => ?_) ?_)
 ·
  have hc4_ := qT hc4
  refine zH1 (gvt hc4) (gvt hc4) ?_
  exact ⟨rfl, rfl⟩
 refine stp (zG6 rfl rfl rfl ?_)
 refine qZ 1 ?_
 refine qG 1 ?_
 refine zA3 (zB3 (s := .bool _) (v := .bool (decide (a ≥ 0))) rfl (zE5 _) (fun hc6 => ?_) ?_)
 ·
  obtain ⟨hc6a, hc6b⟩ := and_t hc6
  have hc6a_ := qT hc6a
  have hc6b_ := qT hc6b
  refine zY6 (gvt hc6) rfl ?_
  exact ⟨rfl, rfl⟩
 refine stp (zG6 rfl rfl rfl ?_)
 refine qZ 1 ?_
 refine zA3 (zB3 (s := .bool _) (v := .int .i64 n) rfl (zE5 _) (fun hc7 => ?_) ?_)
 ·
  obtain ⟨hc7a, hc7b⟩ := and_t hc7
  obtain ⟨hc7aa, hc7ab⟩ := and_t hc7a
  have hc7aa_ := qT hc7aa
  have hc7ab_ := qT hc7ab
  have hc7b_ := qT hc7b
  refine zD4 rfl ?_
  exact ⟨rfl, rfl⟩
 refine zA3 (zB3 (s := .bool _) (v := .bool (decide (n ≥ 0))) rfl (zE5 _) (fun hc8 => ?_) ?_)
 ·
  obtain ⟨hc8a, hc8b⟩ := and_t hc8
  obtain ⟨hc8aa, hc8ab⟩ := and_t hc8a
  have hc8aa_ := qT hc8aa
  have hc8ab_ := qT hc8ab
  have hc8b_ := qT hc8b
  refine zY6 (gvt hc8) rfl ?_
  exact ⟨rfl, rfl⟩
 refine stp (zG6 rfl rfl rfl ?_)
 refine qZ 1 ?_
 refine zA3 (zB3 (s := .bool _) (v := .int .i64 a) rfl (zE5 _) (fun hc9 => ?_) ?_)
 ·
  obtain ⟨hc9a, hc9b⟩ := and_t hc9
  obtain ⟨hc9aa, hc9ab⟩ := and_t hc9a
  obtain ⟨hc9aaa, hc9aab⟩ := and_t hc9aa
  have hc9aaa_ := qT hc9aaa
  have hc9aab_ := qT hc9aab
  have hc9ab_ := qT hc9ab
  have hc9b_ := qT hc9b
  refine zD4 rfl ?_
  exact ⟨rfl, rfl⟩
 refine zA3 (zB3 (s := .bool _) (v := .slice ad sz.length c) rfl (zE5 _) (fun hc10 => ?_) ?_)
 ·
  obtain ⟨hc10a, hc10b⟩ := and_t hc10
  obtain ⟨hc10aa, hc10ab⟩ := and_t hc10a
  obtain ⟨hc10aaa, hc10aab⟩ := and_t hc10aa
  have hc10aaa_ := qT hc10aaa
  have hc10aab_ := qT hc10aab
  have hc10ab_ := qT hc10ab
  have hc10b_ := qT hc10b
  refine zI6 rfl ?_
  exact ⟨rfl, rfl⟩
 refine zA3 (zB3 (s := .bool _) (v := .int .i64 seg) rfl (zE5 _) (fun hc11 => ?_) ?_)
 ·
  obtain ⟨hc11a, hc11b⟩ := and_t hc11
  obtain ⟨hc11aa, hc11ab⟩ := and_t hc11a
  obtain ⟨hc11aaa, hc11aab⟩ := and_t hc11aa
  have hc11aaa_ := qT hc11aaa
  have hc11aab_ := qT hc11aab
  have hc11ab_ := qT hc11ab
  have hc11b_ := qT hc11b
  refine zD4 rfl ?_
  exact ⟨rfl, rfl⟩
 refine zA3 (zB3 (s := .bool _) (v := .pointer (some (eadr ad ((seg).toNat * 1)))) rfl (zE5 _) (fun hc12 => ?_) ?_)
 ·
  obtain ⟨hc12a, hc12b⟩ := and_t hc12
  obtain ⟨hc12aa, hc12ab⟩ := and_t hc12a
  obtain ⟨hc12aaa, hc12aab⟩ := and_t hc12aa
  have hc12aaa_ := qT hc12aaa
  have hc12aab_ := qT hc12aab
  have hc12ab_ := qT hc12ab
  have hc12b_ := qT hc12b
  refine zG2 (R.grow G) (gvt hc12) (gvt hc12) ?_ ?_ ?_; omega; omega
  exact ⟨rfl, rfl⟩
 refine zA3 (zB3 (s := .bool _) (v := .int .i64 (sz.getD seg.toNat 0)) rfl (zE5 _) (fun hc13 => ?_) ?_)
 ·
  obtain ⟨hc13a, hc13b⟩ := and_t hc13
  obtain ⟨hc13aa, hc13ab⟩ := and_t hc13a
  obtain ⟨hc13aaa, hc13aab⟩ := and_t hc13aa
  have hc13aaa_ := qT hc13aaa
  have hc13aab_ := qT hc13aab
  have hc13ab_ := qT hc13ab
  have hc13b_ := qT hc13b
  refine zC6 (v := .int .i64 (sz.getD seg.toNat 0)) (m := 0) (R.grow G) (gvt hc13) (by rw [Nat.mul_one]; exact qC9 0 (by omega)) ?_
  exact ⟨rfl, rfl⟩
 refine zA3 (zB3 (s := .bool _) (v := .bool (decide (a ≤ (sz.getD seg.toNat 0)))) rfl (zE5 _) (fun hc14 => ?_) ?_)
 ·
  obtain ⟨hc14a, hc14b⟩ := and_t hc14
  obtain ⟨hc14aa, hc14ab⟩ := and_t hc14a
  obtain ⟨hc14aaa, hc14aab⟩ := and_t hc14aa
  have hc14aaa_ := qT hc14aaa
  have hc14aab_ := qT hc14aab
  have hc14ab_ := qT hc14ab
  have hc14b_ := qT hc14b
  refine zQ6 (gvt hc14) (gvt hc14) ?_
  exact ⟨rfl, rfl⟩
 refine stp (zG6 rfl rfl rfl ?_)
 refine qZ 1 ?_
 refine zA3 (zB3 (s := .bool _) (v := .int .i64 n) rfl (zE5 _) (fun hc15 => ?_) ?_)
 ·
  obtain ⟨hc15a, hc15b⟩ := and_t hc15
  obtain ⟨hc15aa, hc15ab⟩ := and_t hc15a
  obtain ⟨hc15aaa, hc15aab⟩ := and_t hc15aa
  obtain ⟨hc15aaaa, hc15aaab⟩ := and_t hc15aaa
  have hc15aaaa_ := qT hc15aaaa
  have hc15aaab_ := qT hc15aaab
  have hc15aab_ := qT hc15aab
  have hc15ab_ := qT hc15ab
  have hc15b_ := qT hc15b
  refine zD4 rfl ?_
  exact ⟨rfl, rfl⟩
 refine zA3 (zB3 (s := .bool _) (v := .slice ad sz.length c) rfl (zE5 _) (fun hc16 => ?_) ?_)
 ·
  obtain ⟨hc16a, hc16b⟩ := and_t hc16
  obtain ⟨hc16aa, hc16ab⟩ := and_t hc16a
  obtain ⟨hc16aaa, hc16aab⟩ := and_t hc16aa
  obtain ⟨hc16aaaa, hc16aaab⟩ := and_t hc16aaa
  have hc16aaaa_ := qT hc16aaaa
  have hc16aaab_ := qT hc16aaab
  have hc16aab_ := qT hc16aab
  have hc16ab_ := qT hc16ab
  have hc16b_ := qT hc16b
  refine zI6 rfl ?_
  exact ⟨rfl, rfl⟩
 refine zA3 (zB3 (s := .bool _) (v := .int .i64 seg) rfl (zE5 _) (fun hc17 => ?_) ?_)
 ·
  obtain ⟨hc17a, hc17b⟩ := and_t hc17
  obtain ⟨hc17aa, hc17ab⟩ := and_t hc17a
  obtain ⟨hc17aaa, hc17aab⟩ := and_t hc17aa
  obtain ⟨hc17aaaa, hc17aaab⟩ := and_t hc17aaa
  have hc17aaaa_ := qT hc17aaaa
  have hc17aaab_ := qT hc17aaab
  have hc17aab_ := qT hc17aab
  have hc17ab_ := qT hc17ab
  have hc17b_ := qT hc17b
  refine zD4 rfl ?_
  exact ⟨rfl, rfl⟩
 refine zA3 (zB3 (s := .bool _) (v := .pointer (some (eadr ad ((seg).toNat * 1)))) rfl (zE5 _) (fun hc18 => ?_) ?_)
 ·
  obtain ⟨hc18a, hc18b⟩ := and_t hc18
  obtain ⟨hc18aa, hc18ab⟩ := and_t hc18a
  obtain ⟨hc18aaa, hc18aab⟩ := and_t hc18aa
  obtain ⟨hc18aaaa, hc18aaab⟩ := and_t hc18aaa
  have hc18aaaa_ := qT hc18aaaa
  have hc18aaab_ := qT hc18aaab
  have hc18aab_ := qT hc18aab
  have hc18ab_ := qT hc18ab
  have hc18b_ := qT hc18b
  refine zG2 (R.grow G) (gvt hc18) (gvt hc18) ?_ ?_ ?_; omega; omega
  exact ⟨rfl, rfl⟩
 refine zA3 (zB3 (s := .bool _) (v := .int .i64 (sz.getD seg.toNat 0)) rfl (zE5 _) (fun hc19 => ?_) ?_)
 ·
  obtain ⟨hc19a, hc19b⟩ := and_t hc19
  obtain ⟨hc19aa, hc19ab⟩ := and_t hc19a
  obtain ⟨hc19aaa, hc19aab⟩ := and_t hc19aa
  obtain ⟨hc19aaaa, hc19aaab⟩ := and_t hc19aaa
  have hc19aaaa_ := qT hc19aaaa
  have hc19aaab_ := qT hc19aaab
  have hc19aab_ := qT hc19aab
  have hc19ab_ := qT hc19ab
  have hc19b_ := qT hc19b
  refine zC6 (v := .int .i64 (sz.getD seg.toNat 0)) (m := 0) (R.grow G) (gvt hc19) (by rw [Nat.mul_one]; exact qC9 0 (by omega)) ?_
  exact ⟨rfl, rfl⟩
 refine zA3 (zB3 (s := .bool _) (v := .int .i64 a) rfl (zE5 _) (fun hc20 => ?_) ?_)
 ·
  obtain ⟨hc20a, hc20b⟩ := and_t hc20
  obtain ⟨hc20aa, hc20ab⟩ := and_t hc20a
  obtain ⟨hc20aaa, hc20aab⟩ := and_t hc20aa
  obtain ⟨hc20aaaa, hc20aaab⟩ := and_t hc20aaa
  have hc20aaaa_ := qT hc20aaaa
  have hc20aaab_ := qT hc20aaab
  have hc20aab_ := qT hc20aab
  have hc20ab_ := qT hc20ab
  have hc20b_ := qT hc20b
  refine zD4 rfl ?_
  exact ⟨rfl, rfl⟩
 refine zA3 (zB3 (s := .bool _) (v := .int .i64 ((sz.getD seg.toNat 0) - a)) rfl (zE5 _) (fun hc21 => ?_) ?_)
 ·
  obtain ⟨hc21a, hc21b⟩ := and_t hc21
  obtain ⟨hc21aa, hc21ab⟩ := and_t hc21a
  obtain ⟨hc21aaa, hc21aab⟩ := and_t hc21aa
  obtain ⟨hc21aaaa, hc21aaab⟩ := and_t hc21aaa
  have hc21aaaa_ := qT hc21aaaa
  have hc21aaab_ := qT hc21aaab
  have hc21aab_ := qT hc21aab
  have hc21ab_ := qT hc21ab
  have hc21b_ := qT hc21b
  refine zL3 (gvt hc21) (gvt hc21) ?_ ?_; constructor <;> omega
  exact ⟨rfl, rfl⟩
 refine zA3 (zB3 (s := .bool _) (v := .bool (decide (n ≤ ((sz.getD seg.toNat 0) - a)))) rfl (zE5 _) (fun hc22 => ?_) ?_)
 ·
  obtain ⟨hc22a, hc22b⟩ := and_t hc22
  obtain ⟨hc22aa, hc22ab⟩ := and_t hc22a
  obtain ⟨hc22aaa, hc22aab⟩ := and_t hc22aa
  obtain ⟨hc22aaaa, hc22aaab⟩ := and_t hc22aaa
  have hc22aaaa_ := qT hc22aaaa
  have hc22aaab_ := qT hc22aaab
  have hc22aab_ := qT hc22aab
  have hc22ab_ := qT hc22ab
  have hc22b_ := qT hc22b
  refine zQ6 (gvt hc22) (gvt hc22) ?_
  exact ⟨rfl, rfl⟩
 refine stp (zG6 rfl rfl rfl ?_)
 refine qZ 3 ?_
 refine ret1 (zA1 (v := .bool ((((((decide (seg ≥ 0)) && (decide (seg < (sz.length : Int)))) && (decide (a ≥ 0))) && (decide (n ≥ 0))) && (decide (a ≤ (sz.getD seg.toNat 0)))) && (decide (n ≤ ((sz.getD seg.toNat 0) - a))))) rfl) ⟨?_, G⟩
 congr 1; rw [Bool.eq_iff_iff]; unfold zH7 zL5; simp only [Bool.and_eq_true, decide_eq_true_eq]; constructor <;> (intro h; omega)
theorem qY7 (w : World) {u : Value} {A : List (List Int)} {seg a : Int} (hA : zF3 w u A) (hn : A.length ≤ 8796093022208) : zC4 Tryz.prog 107 #[u, .int .i64 seg, .int .i64 a] w (.tuple #[.int .u64 ((zI8 A seg a).1), .int .i64 ((zI8 A seg a).2)]) := by
 have hA0 := hA
 obtain ⟨ada, ca, segsa, sa, sca, rfl, -, -, RA, hsa, hra⟩ := hA.fn
 have la := RA.lim
 have hwo := yM0 (A := A) (seg := seg) (at_ := a)
 have hs : ∀ i, 0 ≤ (zC7 A).getD i 0 ∧ (zC7 A).getD i 0 ≤ 140737488355328 := fun i => by rw [zK0]; by_cases hi : i < A.length; (have := (hra i hi).2.2.lim; omega); (have := zS9 (A := A) (j := i) (by omega); omega)
 have G := Grow.rfl' w
 refine zB1 Tryz.func107 Tryz.ntmps107 Tryz.results107 rfl rfl ?_
 refine qZ 9 ?_
 refine stp ?_
 refine zD0 rfl (qA2 _ (hA0.grow G) hn) ?_
 rintro v_ w1 ⟨ad9, c9, rfl, RZ, g_⟩
 replace G := G.tr g_
 clear g_
 refine qZ 2 ?_
 refine stp (zA4 (v := .bool (decide (0 ≤ seg ∧ seg < A.length ∧ 0 ≤ a ∧ a < len2 A seg.toNat))) rfl ((by have h_ := qG0 w1 (c := c9) (seg := seg) (a := a) (n := 1) (by rw [zH9]; exact RZ) hs; rw [hwo, zH9] at h_; exact h_)) ?_)
 intro w2 g3
 replace RZ := RZ.grow g3
 replace G := G.tr g3
 clear g3
 refine stp (zL0 rfl ?_)
 refine zA6 ?_
 refine zA2 (b := (!(decide (0 ≤ seg ∧ seg < A.length ∧ 0 ≤ a ∧ a < len2 A seg.toNat)))) rfl (fun h1 => ?_) (fun h1 => ?_)
 ·
  simp only [sb] at h1
  have h1' : ¬ (0 ≤ seg ∧ seg < A.length ∧ 0 ≤ a ∧ a < len2 A seg.toNat) := by simpa using h1
  refine qZ 6 ?_
  refine ret2 (zA1 (v := .int .u64 0) rfl) (zA1 (v := .int .i64 20) rfl) ⟨?_, G⟩
  have h9 : zI8 A seg a = (0, 20) := by unfold zI8; rw [if_neg h1']
  rw [h9]
 ·
  simp only [sb] at h1
  have h1' : 0 ≤ seg ∧ seg < A.length ∧ 0 ≤ a ∧ a < len2 A seg.toNat := by simpa using h1
  obtain ⟨-, -, Rk⟩ := hra seg.toNat (by omega)
  have lk := Rk.lim
  refine qZ 5 ?_
  refine stp (zG2 (RA.grow G) rfl rfl ?_ ?_ ?_); omega; omega
  refine stp (zC6 (v := .slice (sa seg.toNat) (len2 A seg.toNat) (sca seg.toNat)) (m := 0) (RA.grow G) rfl (by rw [Nat.mul_one]; exact hsa _ (by omega)) ?_)
  refine qZ 1 ?_
  refine stp (zG2 (Rk.grow G) rfl rfl ?_ ?_ ?_); omega; omega
  refine stp (zC6 (v := .int .u64 ((A.getD seg.toNat []).getD a.toNat 0)) (m := 0) (Rk.grow G) rfl (by rw [Nat.mul_one]; exact qC9 0 (by simp only [len2] at *; omega)) ?_)
  refine qZ 4 ?_
  refine ret2 (zA1 (v := .int .u64 ((A.getD seg.toNat []).getD a.toNat 0)) rfl) (zA1 (v := .int .i64 0) rfl) ⟨?_, G⟩
  have h9 : zI8 A seg a = ((A.getD seg.toNat []).getD a.toNat 0, 0) := by unfold zI8; rw [if_pos h1']
  rw [h9]
theorem qY8 (w : World) {ua uh : Value} {A : List (List Int)} {seg a : Int} (hA : zF3 w ua A) (hn : A.length ≤ 8796093022208) : zC4 Tryz.prog 72 #[.agg #[ua, .bool false, uh], .int .i64 seg, .int .i64 a] w (.tuple #[.int .u64 ((zI8 A seg a).1), .int .i64 ((zI8 A seg a).2)]) := by
 have G := Grow.rfl' w
 refine zB1 Tryz.func72 Tryz.ntmps72 Tryz.results72 rfl rfl ?_
 refine qZ 2 ?_
 refine stp ?_
 refine qC ?_
 intro b1 w2 hb3 hc4 g5
 have hge6 := Nat.le_trans G.size hb3
 replace G := G.tr g5
 clear g5 hb3
 refine qZ 9 ?_
 refine stp (zA4 (v := .tuple #[.int .u64 ((zI8 A seg a).1), .int .i64 ((zI8 A seg a).2)]) rfl (qY7 _ (hA.grow G) hn) ?_)
 intro w7 g8
 replace hc4 := g8.heap hc4
 replace G := G.tr g8
 clear g8
 refine qZ 10 ?_
 refine stp (zD5 rfl rfl ?_)
 refine qZ 1 ?_
 refine qG 2 ?_
 refine stp (zG6 rfl rfl rfl ?_)
 refine zA6 ?_
 refine zJ4 (show _ = Value.bool false from congrArg Value.bool (by simp)) ?_
 refine qZ 9 ?_
 refine ret2 (zA1 (v := .int .u64 ((zI8 A seg a).1)) rfl) (zA1 (v := .int .i64 ((zI8 A seg a).2)) rfl) ⟨?_, G⟩
 rfl
theorem yM2 {w : World} {ua uh : Value} {A : List (List Int)} (hA : zF3 w ua A) (hl : A.length ≤ 1000000) (hx : ∀ q ∈ A, ∀ x ∈ q, inR .u64 x) (he : ∀ i, len2 A i ≤ 140737488355328) : SrcR Tryz.prog 72 w ua false uh A (zD6 A) :=
  ⟨hA, rfl, fun w' g seg a _ _ => qY8 w' (hA.grow g) (by omega), zT2 hx, fun seg a h => by
    show 0 ≤ seg ∧ seg < (zC7 A).length ∧ _
    have h2 : (zI8 A seg a).2 = 0 := h
    unfold zI8 at h2
    split at h2
    · rename_i hc; rw [zH9]; have := he seg.toNat; omega
    · simp at h2, hl, he⟩
theorem qA3 (w : World) (p : Pt) : zC4 Tryz.prog 99 #[.agg #[.int .i64 p.kind, .int .i64 p.off, .int .i64 p.data, .int .i64 p.ptrs, .int .i64 p.size, .int .i64 p.count, .int .i64 p.seg, .bool p.dbl]] w (.bool (zJ7 p)) := by
 have G := Grow.rfl' w
 refine zB1 Tryz.func99 Tryz.ntmps99 Tryz.results99 rfl rfl ?_
 refine qZ 2 ?_
 refine stp ?_
 refine qC ?_
 intro b1 w2 hb3 hc4 g5
 have hge6 := Nat.le_trans G.size hb3
 replace G := G.tr g5
 clear g5 hb3
 refine qZ 6 ?_
 refine stp (zD5 rfl rfl ?_)
 refine qZ 1 ?_
 refine qG 2 ?_
 refine zA3 (zB3 (s := .bool _) (v := .bool (decide (p.kind = 2))) rfl (zE1 _) (fun hc9 => ?_) ?_)
 ·
  have hc9_ := hc9
  try simp only [sb] at hc9_
  refine zD5 (gvt hc9) rfl ?_
  exact ⟨rfl, rfl⟩
 refine stp (zI1 rfl rfl rfl ?_)
 refine qZ 3 ?_
 refine ret1 (zA1 (v := .bool ((decide (p.kind = 1)) || (decide (p.kind = 2)))) rfl) ⟨?_, G⟩
 rfl
theorem qI5 (w : World) (p : Pt) (seg a : Int) : zC4 Tryz.prog 101 #[.agg #[.int .i64 p.kind, .int .i64 p.off, .int .i64 p.data, .int .i64 p.ptrs, .int .i64 p.size, .int .i64 p.count, .int .i64 p.seg, .bool p.dbl], .int .i64 seg, .int .i64 a] w (.agg #[.int .i64 ((objP p seg a).kind), .int .i64 ((objP p seg a).seg), .int .i64 ((objP p seg a).at_), .int .i64 ((objP p seg a).data), .int .i64 ((objP p seg a).ptrs), .int .i64 ((objP p seg a).size), .int .i64 ((objP p seg a).count)]) := by
 have G := Grow.rfl' w
 refine zB1 Tryz.func101 Tryz.ntmps101 Tryz.results101 rfl rfl ?_
 refine qZ 2 ?_
 refine stp ?_
 refine qC ?_
 intro b1 w2 hb3 hc4 g5
 have hge6 := Nat.le_trans G.size hb3
 replace G := G.tr g5
 clear g5 hb3
 refine stp (zB0 ?_)
 intro b7 w8 hb9 hc10 g11
 refine qZ 4 ?_
 have hge12 := Nat.le_trans G.size hb9
 have ne13 := qN hc4 hb9
 replace hc4 := g11.heap hc4
 replace G := G.tr g11
 clear g11 hb9
 refine qZ 11 ?_
 refine stp (zA7 (v := .agg #[.int .i64 p.kind, .int .i64 seg, .int .i64 a, .int .i64 p.data, .int .i64 p.ptrs, .int .i64 p.size, .int .i64 p.count]) (fun w => by kernel_rfl) ?_)
 refine stn (qS hc10 ?_)
 intro w14 hc15 u16
 replace hc4 := u16.heap hc4 ne13
 replace G := G.upd u16 hge12
 clear u16 hc10
 refine qZ 2 ?_
 refine ret1 (zA9 rfl hc15 (by rfl)) ⟨?_, G⟩
 rfl
theorem qG1 (w : World) (o : Ob) : zC4 Tryz.prog 67 #[.agg #[.int .i64 o.kind, .int .i64 o.seg, .int .i64 o.at_, .int .i64 o.data, .int .i64 o.ptrs, .int .i64 o.size, .int .i64 o.count]] w (.int .i64 (zD3 o)) := by
 have G := Grow.rfl' w
 refine zB1 Tryz.func67 Tryz.ntmps67 Tryz.results67 rfl rfl ?_
 refine qZ 2 ?_
 refine stp ?_
 refine qC ?_
 intro b1 w2 hb3 hc4 g5
 have hge6 := Nat.le_trans G.size hb3
 replace G := G.tr g5
 clear g5 hb3
 refine qZ 7 ?_
 refine stp (zD5 rfl rfl ?_)
 refine zA6 ?_
 refine zA2 (b := (decide (o.kind = 3))) rfl (fun h1 => ?_) (fun h1 => ?_)
 ·
  replace h1 := qT h1
  refine qZ 5 ?_
  refine ret1 (zA1 (v := .int .i64 0) rfl) ⟨?_, G⟩
  simp [zD3, Ob.pt, *]
 ·
  replace h1 := qF h1
  refine qZ 13 ?_
  refine stp (zA7 (v := .agg #[.int .i64 o.kind, .int .i64 0, .int .i64 o.data, .int .i64 o.ptrs, .int .i64 o.size, .int .i64 o.count, .int .i64 0, .bool false]) (fun w => by kernel_rfl) ?_)
  refine stp (zA4 (v := .tuple #[.int .i64 (zH0 ⟨o.kind, 0, o.data, o.ptrs, o.size, o.count, 0, false⟩), .int .i64 (zH5 ⟨o.kind, 0, o.data, o.ptrs, o.size, o.count, 0, false⟩)]) rfl (qJ5 _ ⟨o.kind, 0, o.data, o.ptrs, o.size, o.count, 0, false⟩) ?_)
  intro w7 g8
  replace hc4 := g8.heap hc4
  replace G := G.tr g8
  clear g8
  refine qZ 12 ?_
  refine ret1 (zA1 (v := .int .i64 (zH0 ⟨o.kind, 0, o.data, o.ptrs, o.size, o.count, 0, false⟩)) rfl) ⟨?_, G⟩
  simp [zD3, Ob.pt, *]
theorem qQ7 (w : World) {ua uh : Value} {b : Bool} {A : List (List Int)} {s : Src} (H : SrcR Tryz.prog 72 w ua b uh A s) (seg a : Int) (h1 : inR .i64 seg) (h2 : inR .i64 a) : zC4 Tryz.prog 98 #[.agg #[ua, .bool b, uh], .int .i64 seg, .int .i64 a] w (.tuple #[.agg #[.int .i64 ((ptrS s seg a).1.kind), .int .i64 ((ptrS s seg a).1.off), .int .i64 ((ptrS s seg a).1.data), .int .i64 ((ptrS s seg a).1.ptrs), .int .i64 ((ptrS s seg a).1.size), .int .i64 ((ptrS s seg a).1.count), .int .i64 ((ptrS s seg a).1.seg), .bool ((ptrS s seg a).1.dbl)], .int .i64 ((ptrS s seg a).2)]) := by
 simp only [inR] at h1 h2
 have G := Grow.rfl' w
 refine zB1 Tryz.func98 Tryz.ntmps98 Tryz.results98 rfl rfl ?_
 refine qZ 2 ?_
 refine stp ?_
 refine qC ?_
 intro b1 w2 hb3 hc4 g5
 have hge6 := Nat.le_trans G.size hb3
 replace G := G.tr g5
 clear g5 hb3
 refine stp (zB0 ?_)
 intro b7 w8 hb9 hc10 g11
 refine qZ 4 ?_
 have hge12 := Nat.le_trans G.size hb9
 have ne13 := qN hc4 hb9
 replace hc4 := g11.heap hc4
 replace G := G.tr g11
 clear g11 hb9
 refine qZ 3 ?_
 refine stp (zA4 (v := .tuple #[.int .u64 ((s.word seg a).1), .int .i64 ((s.word seg a).2)]) rfl (H.word _ G seg a (by simp only [inR]; omega) (by simp only [inR]; omega)) ?_)
 intro w14 g15
 replace hc4 := g15.heap hc4
 replace hc10 := g15.heap hc10
 replace G := G.tr g15
 clear g15
 refine qZ 10 ?_
 refine stp (zH4 rfl rfl ?_)
 refine zA6 ?_
 refine zA2 (b := (decide (((s.word seg a).2) ≠ 0))) rfl (fun hz => ?_) (fun hz => ?_)
 ·
  replace hz := qT hz
  refine qZ 2 ?_
  refine stp (zA7 (v := .agg #[.int .i64 0, .int .i64 0, .int .i64 0, .int .i64 0, .int .i64 0, .int .i64 0, .int .i64 0, .bool false]) (fun w => by kernel_rfl) ?_)
  refine qZ 1 ?_
  refine stn (qS hc10 ?_)
  intro w16 hc17 u18
  replace hc4 := u18.heap hc4 ne13
  replace G := G.upd u18 hge12
  clear u18 hc10
  refine qZ 3 ?_
  refine ret2 (zA9 rfl hc17 (by rfl)) (zA1 (v := .int .i64 ((s.word seg a).2)) rfl) ⟨?_, G⟩
  have h9 : ptrS s seg a = (Pt0, (s.word seg a).2) := by unfold ptrS; exact if_pos hz
  rw [h9]; rfl
 ·
  replace hz := qF hz
  refine qZ 4 ?_
  refine stp (zA4 (v := .tuple #[.agg #[.int .i64 ((decP (s.word seg a).1).kind), .int .i64 ((decP (s.word seg a).1).off), .int .i64 ((decP (s.word seg a).1).data), .int .i64 ((decP (s.word seg a).1).ptrs), .int .i64 ((decP (s.word seg a).1).size), .int .i64 ((decP (s.word seg a).1).count), .int .i64 ((decP (s.word seg a).1).seg), .bool ((decP (s.word seg a).1).dbl)], .int .i64 (decE (s.word seg a).1)]) rfl (zG9 _ _ (H.num seg a).1 (H.num seg a).2.1) ?_)
  intro w19 g20
  replace hc4 := g20.heap hc4
  replace hc10 := g20.heap hc10
  replace G := G.tr g20
  clear g20
  refine qZ 3 ?_
  refine stp (zB0 ?_)
  intro b21 w22 hb23 hc24 g25
  refine stn (qS hc24 ?_)
  intro w26 hc27 u28
  have g29 := g25.upd u28 hb23
  have hge30 := Nat.le_trans G.size hb23
  have ne31 := qN hc4 hb23
  have ne32 := qN hc10 hb23
  replace hc4 := g29.heap hc4
  replace hc10 := g29.heap hc10
  replace G := G.tr g29
  clear u28 g25 hb23 hc24
  refine qZ 6 ?_
  refine stn (qS hc10 ?_)
  intro w33 hc34 u35
  replace hc4 := u35.heap hc4 ne13
  replace hc27 := u35.heap hc27 ne32.symm
  replace G := G.upd u35 hge12
  clear u35 hc10
  refine qZ 3 ?_
  refine ret2 (zA9 rfl hc34 (by rfl)) (zA1 (v := .int .i64 (decE (s.word seg a).1)) rfl) ⟨?_, G⟩
  have h9 : ptrS s seg a = (decP (s.word seg a).1, decE (s.word seg a).1) := by unfold ptrS; exact if_neg hz
  rw [h9]
theorem zX9 (w : World) {ua uh : Value} {b : Bool} {A : List (List Int)} {s : Src} (H : SrcR Tryz.prog 72 w ua b uh A s) (o : Ob) (ho : ObW o) : zC4 Tryz.prog 100 #[.agg #[ua, .bool b, uh], .agg #[.int .i64 o.kind, .int .i64 o.seg, .int .i64 o.at_, .int .i64 o.data, .int .i64 o.ptrs, .int .i64 o.size, .int .i64 o.count]] w (.tuple #[.agg #[.int .i64 ((bndS s o).1.kind), .int .i64 ((bndS s o).1.seg), .int .i64 ((bndS s o).1.at_), .int .i64 ((bndS s o).1.data), .int .i64 ((bndS s o).1.ptrs), .int .i64 ((bndS s o).1.size), .int .i64 ((bndS s o).1.count)], .int .i64 ((bndS s o).2)]) := by
 have hw9 := zU7 ho.pt
 have hsz := H.sizes
 have hs : ∀ i, 0 ≤ (zC7 A).getD i 0 ∧ (zC7 A).getD i 0 ≤ 140737488355328 := fun i => by rw [zK0]; have := H.each i; omega
 have G := Grow.rfl' w
 refine zB1 Tryz.func100 Tryz.ntmps100 Tryz.results100 rfl rfl ?_
 refine qZ 2 ?_
 refine stp ?_
 refine qC ?_
 intro b1 w2 hb3 hc4 g5
 have hge6 := Nat.le_trans G.size hb3
 replace G := G.tr g5
 clear g5 hb3
 refine stp ?_
 refine qC ?_
 intro b7 w8 hb9 hc10 g11
 have hge12 := Nat.le_trans G.size hb9
 replace hc4 := g11.heap hc4
 replace G := G.tr g11
 clear g11 hb9
 refine stp (zB0 ?_)
 intro b13 w14 hb15 hc16 g17
 refine qZ 5 ?_
 have hge18 := Nat.le_trans G.size hb15
 have ne19 := qN hc4 hb15
 have ne20 := qN hc10 hb15
 replace hc4 := g17.heap hc4
 replace hc10 := g17.heap hc10
 replace G := G.tr g17
 clear g17 hb15
 refine qZ 9 ?_
 refine stp (zA7 (v := .agg #[.int .i64 o.kind, .int .i64 0, .int .i64 o.data, .int .i64 o.ptrs, .int .i64 o.size, .int .i64 o.count, .int .i64 0, .bool false]) (fun w => by kernel_rfl) ?_)
 refine stp (zA4 (v := .tuple #[.int .i64 (zH0 ⟨o.kind, 0, o.data, o.ptrs, o.size, o.count, 0, false⟩), .int .i64 (zH5 ⟨o.kind, 0, o.data, o.ptrs, o.size, o.count, 0, false⟩)]) rfl (qJ5 _ ⟨o.kind, 0, o.data, o.ptrs, o.size, o.count, 0, false⟩) ?_)
 intro w21 g22
 replace hc4 := g22.heap hc4
 replace hc10 := g22.heap hc10
 replace hc16 := g22.heap hc16
 replace G := G.tr g22
 clear g22
 refine qZ 10 ?_
 refine stp (zH4 rfl rfl ?_)
 refine zA6 ?_
 refine zA2 (b := (decide ((zH5 ⟨o.kind, 0, o.data, o.ptrs, o.size, o.count, 0, false⟩) ≠ 0))) rfl (fun h1 => ?_) (fun h1 => ?_)
 ·
  replace h1 := qT h1
  refine qZ 2 ?_
  refine stp (zA7 (v := .agg #[.int .i64 0, .int .i64 0, .int .i64 0, .int .i64 0, .int .i64 0, .int .i64 0, .int .i64 0]) (fun w => by kernel_rfl) ?_)
  refine qZ 1 ?_
  refine stn (qS hc16 ?_)
  intro w23 hc24 u25
  replace hc4 := u25.heap hc4 ne19
  replace hc10 := u25.heap hc10 ne20
  replace G := G.upd u25 hge18
  clear u25 hc16
  refine qZ 3 ?_
  refine ret2 (zA9 rfl hc24 (by rfl)) (zA1 (v := .int .i64 (zH5 ⟨o.kind, 0, o.data, o.ptrs, o.size, o.count, 0, false⟩)) rfl) ⟨?_, G⟩
  have h9 : bndS s o = (Ob0, zH5 ⟨o.kind, 0, o.data, o.ptrs, o.size, o.count, 0, false⟩) := by unfold bndS; exact if_pos h1
  rw [h9]; rfl
 ·
  replace h1 := qF h1
  refine qZ 3 ?_
  refine zJ5 10 [[], [0], [1, 0], [], [0], [], [0], [], [7, 6, 5, 4, 3, 2, 1, 0], [8, 7, 6, 5, 4, 3, 2, 1, 0]] mixed (by kernel_rfl) (by kernel_rfl) (by kernel_rfl) ?_
  intro w26 g27
  replace hc4 := g27.heap hc4
  replace hc10 := g27.heap hc10
  replace hc16 := g27.heap hc16
  replace G := G.tr g27
  clear g27
  refine qA 2 ?_
  refine zS3 (fun w_ v_ => ∃ ad9 c9, v_ = .slice ad9 A.length c9 ∧ RowAt w_ 1 ad9 A.length ((zC7 A).map (.int .i64))) (fun _ _ _ g_ ⟨a_, c_, h1_, h2_⟩ => ⟨a_, c_, h1_, h2_.grow g_⟩) ?_ ?_
  ·intro w_ g_
   refine og rfl ?_
   refine zD0 rfl (qA2 w_ (H.arena.grow (G.tr g_)) (by have := H.len; omega)) ?_
   rintro v9_ w9_ ⟨a_, c_, rfl, R9_, g9_⟩
   exact ⟨g9_, a_, c_, rfl, R9_⟩
  refine qA 5 ?_
  apply zA5
  ·intro w_ g_; intro v2_ hv2_; show OpG _ _ _ _ _ _; refine og rfl ?_; obtain ⟨ad9, c9, rfl, RZ⟩ := hv2_; exact zA4 (v := .bool (zH7 s.sizes o.seg o.at_ (zH0 o.pt))) rfl (by rw [hsz]; have h_ := qG0 w_ (c := c9) (seg := o.seg) (a := o.at_) (n := zH0 o.pt) (by rw [zH9]; exact RZ) hs; rw [zH9] at h_; exact h_) (fun w2_ g2_ => ⟨g2_, rfl⟩)
  apply zA5
  ·intro w_ g_; intro v2_ hv2_; show OpG _ _ _ _ _ _; exact og rfl (zL0 rfl qX)
  refine zG4 ?_
  intro w28 g29
  replace hc4 := g29.heap hc4
  replace hc10 := g29.heap hc10
  replace hc16 := g29.heap hc16
  replace G := G.tr g29
  clear g29
  intro v_z hv_z
  refine zA6 ?_
  refine zA2 (b := (!(zH7 s.sizes o.seg o.at_ (zH0 o.pt)))) rfl (fun h2 => ?_) (fun h2 => ?_)
  ·
   simp only [sb] at h2
   refine qZ 2 ?_
   refine stp (zA7 (v := .agg #[.int .i64 0, .int .i64 0, .int .i64 0, .int .i64 0, .int .i64 0, .int .i64 0, .int .i64 0]) (fun w => by kernel_rfl) ?_)
   refine stn (qS hc16 ?_)
   intro w30 hc31 u32
   replace hc4 := u32.heap hc4 ne19
   replace hc10 := u32.heap hc10 ne20
   replace G := G.upd u32 hge18
   clear u32 hc16
   refine qZ 3 ?_
   refine ret2 (zA9 rfl hc31 (by rfl)) (zA1 (v := .int .i64 20) rfl) ⟨?_, G⟩
   have h9 : bndS s o = (Ob0, 20) := by unfold bndS; exact (if_neg h1).trans (if_pos (by simpa using h2))
   rw [h9]; rfl
  ·
   simp only [sb] at h2
   refine qZ 4 ?_
   refine stn (qS hc16 ?_)
   intro w33 hc34 u35
   replace hc4 := u35.heap hc4 ne19
   replace hc10 := u35.heap hc10 ne20
   replace G := G.upd u35 hge18
   clear u35 hc16
   refine qZ 3 ?_
   refine ret2 (zA9 rfl hc34 (by rfl)) (zA1 (v := .int .i64 0) rfl) ⟨?_, G⟩
   have h9 : bndS s o = (o, 0) := by unfold bndS; exact (if_neg h1).trans (if_neg (by simpa using h2))
   rw [h9]
theorem qT8 (w : World) {ua uh : Value} {b : Bool} {A : List (List Int)} {s : Src} (H : SrcR Tryz.prog 72 w ua b uh A s) (p : Pt) (hp : PtR p) : zC4 Tryz.prog 102 #[.agg #[ua, .bool b, uh], .agg #[.int .i64 p.kind, .int .i64 p.off, .int .i64 p.data, .int .i64 p.ptrs, .int .i64 p.size, .int .i64 p.count, .int .i64 p.seg, .bool p.dbl]] w (.tuple #[.agg #[.int .i64 ((dblS s p).1.kind), .int .i64 ((dblS s p).1.seg), .int .i64 ((dblS s p).1.at_), .int .i64 ((dblS s p).1.data), .int .i64 ((dblS s p).1.ptrs), .int .i64 ((dblS s p).1.size), .int .i64 ((dblS s p).1.count)], .int .i64 ((dblS s p).2)]) := by
 have hpo := hp.off
 have hpg := hp.seg
 obtain ⟨n1, n2, -, -⟩ := H.num p.seg p.off
 obtain ⟨n3, n4, -, -⟩ := H.num p.seg (p.off + 1)
 have G := Grow.rfl' w
 refine zB1 Tryz.func102 Tryz.ntmps102 Tryz.results102 rfl rfl ?_
 refine qZ 2 ?_
 refine stp ?_
 refine qC ?_
 intro b1 w2 hb3 hc4 g5
 have hge6 := Nat.le_trans G.size hb3
 replace G := G.tr g5
 clear g5 hb3
 refine stp ?_
 refine qC ?_
 intro b7 w8 hb9 hc10 g11
 have hge12 := Nat.le_trans G.size hb9
 replace hc4 := g11.heap hc4
 replace G := G.tr g11
 clear g11 hb9
 refine stp (zB0 ?_)
 intro b13 w14 hb15 hc16 g17
 refine qZ 4 ?_
 have hge18 := Nat.le_trans G.size hb15
 have ne19 := qN hc4 hb15
 have ne20 := qN hc10 hb15
 replace hc4 := g17.heap hc4
 replace hc10 := g17.heap hc10
 replace G := G.tr g17
 clear g17 hb15
 refine qZ 5 ?_
 refine stp (zA4 (v := .tuple #[.int .u64 ((s.word p.seg p.off).1), .int .i64 ((s.word p.seg p.off).2)]) rfl (H.word _ G p.seg p.off (by simp only [inR]; omega) (by simp only [inR]; omega)) ?_)
 intro w21 g22
 replace hc4 := g22.heap hc4
 replace hc10 := g22.heap hc10
 replace hc16 := g22.heap hc16
 replace G := G.tr g22
 clear g22
 refine qZ 10 ?_
 refine stp (zH4 rfl rfl ?_)
 refine zA6 ?_
 refine zA2 (b := (decide (((s.word p.seg p.off).2) ≠ 0))) rfl (fun h1 => ?_) (fun h1 => ?_)
 ·
  replace h1 := qT h1
  refine qZ 2 ?_
  refine stp (zA7 (v := .agg #[.int .i64 0, .int .i64 0, .int .i64 0, .int .i64 0, .int .i64 0, .int .i64 0, .int .i64 0]) (fun w => by kernel_rfl) ?_)
  refine qZ 1 ?_
  refine stn (qS hc16 ?_)
  intro w23 hc24 u25
  replace hc4 := u25.heap hc4 ne19
  replace hc10 := u25.heap hc10 ne20
  replace G := G.upd u25 hge18
  clear u25 hc16
  refine qZ 3 ?_
  refine ret2 (zA9 rfl hc24 (by rfl)) (zA1 (v := .int .i64 ((s.word p.seg p.off).2)) rfl) ⟨?_, G⟩
  have h9 : dblS s p = (Ob0, (s.word p.seg p.off).2) := by unfold dblS; rw [if_pos h1]
  rw [h9]; rfl
 ·
  replace h1 := qF h1
  refine qZ 8 ?_
  refine stp (zB8 rfl rfl ?_ ?_); constructor <;> omega
  refine stp (zA4 (v := .tuple #[.int .u64 ((s.word p.seg (p.off + 1)).1), .int .i64 ((s.word p.seg (p.off + 1)).2)]) rfl (H.word _ G p.seg (p.off + 1) (by simp only [inR]; omega) (by simp only [inR]; omega)) ?_)
  intro w26 g27
  replace hc4 := g27.heap hc4
  replace hc10 := g27.heap hc10
  replace hc16 := g27.heap hc16
  replace G := G.tr g27
  clear g27
  refine qZ 10 ?_
  refine stp (zH4 rfl rfl ?_)
  refine zA6 ?_
  refine zA2 (b := (decide (((s.word p.seg (p.off + 1)).2) ≠ 0))) rfl (fun h2 => ?_) (fun h2 => ?_)
  ·
   replace h2 := qT h2
   refine qZ 2 ?_
   refine stp (zA7 (v := .agg #[.int .i64 0, .int .i64 0, .int .i64 0, .int .i64 0, .int .i64 0, .int .i64 0, .int .i64 0]) (fun w => by kernel_rfl) ?_)
   refine qZ 1 ?_
   refine stn (qS hc16 ?_)
   intro w28 hc29 u30
   replace hc4 := u30.heap hc4 ne19
   replace hc10 := u30.heap hc10 ne20
   replace G := G.upd u30 hge18
   clear u30 hc16
   refine qZ 3 ?_
   refine ret2 (zA9 rfl hc29 (by rfl)) (zA1 (v := .int .i64 ((s.word p.seg (p.off + 1)).2)) rfl) ⟨?_, G⟩
   have h9 : dblS s p = (Ob0, (s.word p.seg (p.off + 1)).2) := by unfold dblS; rw [if_neg h1, if_pos h2]
   rw [h9]; rfl
  ·
   replace h2 := qF h2
   refine qZ 4 ?_
   refine stp (zA4 (v := .tuple #[.agg #[.int .i64 ((decP (s.word p.seg p.off).1).kind), .int .i64 ((decP (s.word p.seg p.off).1).off), .int .i64 ((decP (s.word p.seg p.off).1).data), .int .i64 ((decP (s.word p.seg p.off).1).ptrs), .int .i64 ((decP (s.word p.seg p.off).1).size), .int .i64 ((decP (s.word p.seg p.off).1).count), .int .i64 ((decP (s.word p.seg p.off).1).seg), .bool ((decP (s.word p.seg p.off).1).dbl)], .int .i64 (decE (s.word p.seg p.off).1)]) rfl (zG9 _ _ (H.num p.seg p.off).1 (H.num p.seg p.off).2.1) ?_)
   intro w31 g32
   replace hc4 := g32.heap hc4
   replace hc10 := g32.heap hc10
   replace hc16 := g32.heap hc16
   replace G := G.tr g32
   clear g32
   refine qZ 3 ?_
   refine stp (zB0 ?_)
   intro b33 w34 hb35 hc36 g37
   refine stn (qS hc36 ?_)
   intro w38 hc39 u40
   have g41 := g37.upd u40 hb35
   have hge42 := Nat.le_trans G.size hb35
   have ne43 := qN hc4 hb35
   have ne44 := qN hc10 hb35
   have ne45 := qN hc16 hb35
   replace hc4 := g41.heap hc4
   replace hc10 := g41.heap hc10
   replace hc16 := g41.heap hc16
   replace G := G.tr g41
   clear u40 g37 hb35 hc36
   refine qZ 6 ?_
   refine stp (zH4 rfl rfl ?_)
   refine zA6 ?_
   refine zA2 (b := (decide ((decE (s.word p.seg p.off).1) ≠ 0))) rfl (fun h3 => ?_) (fun h3 => ?_)
   ·
    replace h3 := qT h3
    refine qZ 2 ?_
    refine stp (zA7 (v := .agg #[.int .i64 0, .int .i64 0, .int .i64 0, .int .i64 0, .int .i64 0, .int .i64 0, .int .i64 0]) (fun w => by kernel_rfl) ?_)
    refine qZ 1 ?_
    refine stn (qS hc16 ?_)
    intro w46 hc47 u48
    replace hc4 := u48.heap hc4 ne19
    replace hc10 := u48.heap hc10 ne20
    replace hc39 := u48.heap hc39 ne45.symm
    replace G := G.upd u48 hge18
    clear u48 hc16
    refine qZ 3 ?_
    refine ret2 (zA9 rfl hc47 (by rfl)) (zA1 (v := .int .i64 (decE (s.word p.seg p.off).1)) rfl) ⟨?_, G⟩
    have h9 : dblS s p = (Ob0, decE (s.word p.seg p.off).1) := by unfold dblS; rw [if_neg h1, if_neg h2, if_pos h3]
    rw [h9]; rfl
   ·
    replace h3 := qF h3
    refine qZ 4 ?_
    refine stp (zA4 (v := .tuple #[.agg #[.int .i64 ((decP (s.word p.seg (p.off + 1)).1).kind), .int .i64 ((decP (s.word p.seg (p.off + 1)).1).off), .int .i64 ((decP (s.word p.seg (p.off + 1)).1).data), .int .i64 ((decP (s.word p.seg (p.off + 1)).1).ptrs), .int .i64 ((decP (s.word p.seg (p.off + 1)).1).size), .int .i64 ((decP (s.word p.seg (p.off + 1)).1).count), .int .i64 ((decP (s.word p.seg (p.off + 1)).1).seg), .bool ((decP (s.word p.seg (p.off + 1)).1).dbl)], .int .i64 (decE (s.word p.seg (p.off + 1)).1)]) rfl (zG9 _ _ (H.num p.seg (p.off + 1)).1 (H.num p.seg (p.off + 1)).2.1) ?_)
    intro w49 g50
    replace hc4 := g50.heap hc4
    replace hc10 := g50.heap hc10
    replace hc16 := g50.heap hc16
    replace hc39 := g50.heap hc39
    replace G := G.tr g50
    clear g50
    refine qZ 3 ?_
    refine stp (zB0 ?_)
    intro b51 w52 hb53 hc54 g55
    refine stn (qS hc54 ?_)
    intro w56 hc57 u58
    have g59 := g55.upd u58 hb53
    have hge60 := Nat.le_trans G.size hb53
    have ne61 := qN hc4 hb53
    have ne62 := qN hc10 hb53
    have ne63 := qN hc16 hb53
    have ne64 := qN hc39 hb53
    replace hc4 := g59.heap hc4
    replace hc10 := g59.heap hc10
    replace hc16 := g59.heap hc16
    replace hc39 := g59.heap hc39
    replace G := G.tr g59
    clear u58 g55 hb53 hc54
    refine qZ 6 ?_
    refine stp (zH4 rfl rfl ?_)
    refine zA6 ?_
    refine zA2 (b := (decide ((decE (s.word p.seg (p.off + 1)).1) ≠ 0))) rfl (fun h4 => ?_) (fun h4 => ?_)
    ·
     replace h4 := qT h4
     refine qZ 2 ?_
     refine stp (zA7 (v := .agg #[.int .i64 0, .int .i64 0, .int .i64 0, .int .i64 0, .int .i64 0, .int .i64 0, .int .i64 0]) (fun w => by kernel_rfl) ?_)
     refine qZ 1 ?_
     refine stn (qS hc16 ?_)
     intro w65 hc66 u67
     replace hc4 := u67.heap hc4 ne19
     replace hc10 := u67.heap hc10 ne20
     replace hc39 := u67.heap hc39 ne45.symm
     replace hc57 := u67.heap hc57 ne63.symm
     replace G := G.upd u67 hge18
     clear u67 hc16
     refine qZ 3 ?_
     refine ret2 (zA9 rfl hc66 (by rfl)) (zA1 (v := .int .i64 (decE (s.word p.seg (p.off + 1)).1)) rfl) ⟨?_, G⟩
     have h9 : dblS s p = (Ob0, decE (s.word p.seg (p.off + 1)).1) := by unfold dblS; rw [if_neg h1, if_neg h2, if_neg h3, if_pos h4]
     rw [h9]; rfl
    ·
     replace h4 := qF h4
     refine qZ 6 ?_
     refine stp (zH4 rfl rfl ?_)
     refine qZ 1 ?_
     refine qG 2 ?_
     refine stp (zI1 rfl rfl rfl ?_)
     refine qZ 1 ?_
     refine zA3 (zB3 (s := .bool _) (v := .agg #[.int .i64 ((decP (s.word p.seg (p.off + 1)).1).kind), .int .i64 ((decP (s.word p.seg (p.off + 1)).1).off), .int .i64 ((decP (s.word p.seg (p.off + 1)).1).data), .int .i64 ((decP (s.word p.seg (p.off + 1)).1).ptrs), .int .i64 ((decP (s.word p.seg (p.off + 1)).1).size), .int .i64 ((decP (s.word p.seg (p.off + 1)).1).count), .int .i64 ((decP (s.word p.seg (p.off + 1)).1).seg), .bool ((decP (s.word p.seg (p.off + 1)).1).dbl)]) rfl (zE1 _) (fun hc70 => ?_) ?_)
     ·
      have hc70_ := hc70
      try simp only [sb] at hc70_
      refine zC5 rfl hc57 (by rfl) ?_
      exact ⟨rfl, rfl⟩
     refine zA3 (zU4 (s := .bool ((decide (((decP (s.word p.seg p.off).1).kind) ≠ 3)) || ((decP (s.word p.seg p.off).1).dbl))) (b := false) (v := .bool (zJ7 (decP (s.word p.seg (p.off + 1)).1))) rfl (zE1 _) (fun hc71 => ?_) ?_)
     ·
      have hc71_ := hc71
      try simp only [sb] at hc71_
      exact zL7 (l := ([.agg #[.int .i64 ((decP (s.word p.seg (p.off + 1)).1).kind), .int .i64 ((decP (s.word p.seg (p.off + 1)).1).off), .int .i64 ((decP (s.word p.seg (p.off + 1)).1).data), .int .i64 ((decP (s.word p.seg (p.off + 1)).1).ptrs), .int .i64 ((decP (s.word p.seg (p.off + 1)).1).size), .int .i64 ((decP (s.word p.seg (p.off + 1)).1).count), .int .i64 ((decP (s.word p.seg (p.off + 1)).1).seg), .bool ((decP (s.word p.seg (p.off + 1)).1).dbl)]] : List Value)) rfl (by show ([gv (!((decide (((decP (s.word p.seg p.off).1).kind) ≠ 3)) || ((decP (s.word p.seg p.off).1).dbl))) (.agg #[.int .i64 ((decP (s.word p.seg (p.off + 1)).1).kind), .int .i64 ((decP (s.word p.seg (p.off + 1)).1).off), .int .i64 ((decP (s.word p.seg (p.off + 1)).1).data), .int .i64 ((decP (s.word p.seg (p.off + 1)).1).ptrs), .int .i64 ((decP (s.word p.seg (p.off + 1)).1).size), .int .i64 ((decP (s.word p.seg (p.off + 1)).1).count), .int .i64 ((decP (s.word p.seg (p.off + 1)).1).seg), .bool ((decP (s.word p.seg (p.off + 1)).1).dbl)])] : List Value) = _; rw [gvt hc71]) (qA3 _ (decP (s.word p.seg (p.off + 1)).1)) (fun w2_ g2_ => ⟨rfl, g2_⟩)
     intro w72 g73
     replace hc4 := g73.heap hc4
     replace hc10 := g73.heap hc10
     replace hc16 := g73.heap hc16
     replace hc39 := g73.heap hc39
     replace hc57 := g73.heap hc57
     replace G := G.tr g73
     clear g73
     refine zA3 (zB3 (s := .bool _) (v := .bool (!(zJ7 (decP (s.word p.seg (p.off + 1)).1)))) rfl (zE1 _) (fun hc74 => ?_) ?_)
     ·
      have hc74_ := hc74
      try simp only [sb] at hc74_
      refine zL0 (gvt hc74) ?_
      exact ⟨rfl, rfl⟩
     refine stp (zI1 rfl rfl rfl ?_)
     refine qZ 1 ?_
     refine qG 2 ?_
     refine zA3 (zB3 (s := .bool _) (v := .bool (decide (((decP (s.word p.seg (p.off + 1)).1).off) ≠ 0))) rfl (zE1 _) (fun hc77 => ?_) ?_)
     ·
      have hc77_ := hc77
      try simp only [sb] at hc77_
      refine zH4 (gvt hc77) rfl ?_
      exact ⟨rfl, rfl⟩
     refine stp (zI1 rfl rfl rfl ?_)
     refine zA6 ?_
     refine zA2 (b := ((((decide (((decP (s.word p.seg p.off).1).kind) ≠ 3)) || ((decP (s.word p.seg p.off).1).dbl)) || (!(zJ7 (decP (s.word p.seg (p.off + 1)).1)))) || (decide (((decP (s.word p.seg (p.off + 1)).1).off) ≠ 0)))) rfl (fun h5 => ?_) (fun h5 => ?_)
     ·
      simp only [sb] at h5
      have h8 : (decP (s.word p.seg p.off).1).kind ≠ 3 ∨ (decP (s.word p.seg p.off).1).dbl = true ∨ zJ7 (decP (s.word p.seg (p.off + 1)).1) = false ∨ (decP (s.word p.seg (p.off + 1)).1).off ≠ 0 := by simpa [or_assoc] using h5
      refine qZ 2 ?_
      refine stp (zA7 (v := .agg #[.int .i64 0, .int .i64 0, .int .i64 0, .int .i64 0, .int .i64 0, .int .i64 0, .int .i64 0]) (fun w => by kernel_rfl) ?_)
      refine stn (qS hc16 ?_)
      intro w78 hc79 u80
      replace hc4 := u80.heap hc4 ne19
      replace hc10 := u80.heap hc10 ne20
      replace hc39 := u80.heap hc39 ne45.symm
      replace hc57 := u80.heap hc57 ne63.symm
      replace G := G.upd u80 hge18
      clear u80 hc16
      refine qZ 3 ?_
      refine ret2 (zA9 rfl hc79 (by rfl)) (zA1 (v := .int .i64 23) rfl) ⟨?_, G⟩
      have h9 : dblS s p = (Ob0, 23) := by unfold dblS; rw [if_neg h1, if_neg h2, if_neg h3, if_neg h4, if_pos h8]
      rw [h9]; rfl
     ·
      simp only [sb] at h5
      have h8 : ¬ ((decP (s.word p.seg p.off).1).kind ≠ 3 ∨ (decP (s.word p.seg p.off).1).dbl = true ∨ zJ7 (decP (s.word p.seg (p.off + 1)).1) = false ∨ (decP (s.word p.seg (p.off + 1)).1).off ≠ 0) := by simpa [and_assoc] using h5
      refine qZ 8 ?_
      refine stp (zA4 (v := .agg #[.int .i64 ((objP (decP (s.word p.seg (p.off + 1)).1) ((decP (s.word p.seg p.off).1).seg) ((decP (s.word p.seg p.off).1).off)).kind), .int .i64 ((objP (decP (s.word p.seg (p.off + 1)).1) ((decP (s.word p.seg p.off).1).seg) ((decP (s.word p.seg p.off).1).off)).seg), .int .i64 ((objP (decP (s.word p.seg (p.off + 1)).1) ((decP (s.word p.seg p.off).1).seg) ((decP (s.word p.seg p.off).1).off)).at_), .int .i64 ((objP (decP (s.word p.seg (p.off + 1)).1) ((decP (s.word p.seg p.off).1).seg) ((decP (s.word p.seg p.off).1).off)).data), .int .i64 ((objP (decP (s.word p.seg (p.off + 1)).1) ((decP (s.word p.seg p.off).1).seg) ((decP (s.word p.seg p.off).1).off)).ptrs), .int .i64 ((objP (decP (s.word p.seg (p.off + 1)).1) ((decP (s.word p.seg p.off).1).seg) ((decP (s.word p.seg p.off).1).off)).size), .int .i64 ((objP (decP (s.word p.seg (p.off + 1)).1) ((decP (s.word p.seg p.off).1).seg) ((decP (s.word p.seg p.off).1).off)).count)]) rfl (qI5 _ (decP (s.word p.seg (p.off + 1)).1) ((decP (s.word p.seg p.off).1).seg) ((decP (s.word p.seg p.off).1).off)) ?_)
      intro w81 g82
      replace hc4 := g82.heap hc4
      replace hc10 := g82.heap hc10
      replace hc16 := g82.heap hc16
      replace hc39 := g82.heap hc39
      replace hc57 := g82.heap hc57
      replace G := G.tr g82
      clear g82
      refine stn (qS hc16 ?_)
      intro w83 hc84 u85
      replace hc4 := u85.heap hc4 ne19
      replace hc10 := u85.heap hc10 ne20
      replace hc39 := u85.heap hc39 ne45.symm
      replace hc57 := u85.heap hc57 ne63.symm
      replace G := G.upd u85 hge18
      clear u85 hc16
      refine qZ 3 ?_
      refine ret2 (zA9 rfl hc84 (by rfl)) (zA1 (v := .int .i64 0) rfl) ⟨?_, G⟩
      have h9 : dblS s p = (objP (decP (s.word p.seg (p.off + 1)).1) (decP (s.word p.seg p.off).1).seg (decP (s.word p.seg p.off).1).off, 0) := by unfold dblS; rw [if_neg h1, if_neg h2, if_neg h3, if_neg h4, if_neg h8]
      rw [h9]
theorem qT9 (w : World) {ua uh : Value} {b : Bool} {A : List (List Int)} {s : Src} (H : SrcR Tryz.prog 72 w ua b uh A s) (seg a : Int) (g1 : inR .i64 seg) (g2 : inR .i64 a) : zC4 Tryz.prog 66 #[.agg #[ua, .bool b, uh], .int .i64 seg, .int .i64 a] w (.tuple #[.agg #[.int .i64 ((zA0 s seg a).1.kind), .int .i64 ((zA0 s seg a).1.seg), .int .i64 ((zA0 s seg a).1.at_), .int .i64 ((zA0 s seg a).1.data), .int .i64 ((zA0 s seg a).1.ptrs), .int .i64 ((zA0 s seg a).1.size), .int .i64 ((zA0 s seg a).1.count)], .int .i64 ((zA0 s seg a).2)]) := by
 have g1' := g1
 have g2' := g2
 simp only [inR] at g1 g2
 have hq := H.ptr_range seg a
 have hqo := hq.off
 have hqs := hq.seg
 have hqf := hq.far
 have G := Grow.rfl' w
 refine zB1 Tryz.func66 Tryz.ntmps66 Tryz.results66 rfl rfl ?_
 refine qZ 2 ?_
 refine stp ?_
 refine qC ?_
 intro b1 w2 hb3 hc4 g5
 have hge6 := Nat.le_trans G.size hb3
 replace G := G.tr g5
 clear g5 hb3
 refine stp (zB0 ?_)
 intro b7 w8 hb9 hc10 g11
 refine qZ 4 ?_
 have hge12 := Nat.le_trans G.size hb9
 have ne13 := qN hc4 hb9
 replace hc4 := g11.heap hc4
 replace G := G.tr g11
 clear g11 hb9
 refine qZ 3 ?_
 refine stp (zA4 (v := .tuple #[.agg #[.int .i64 ((ptrS s seg a).1.kind), .int .i64 ((ptrS s seg a).1.off), .int .i64 ((ptrS s seg a).1.data), .int .i64 ((ptrS s seg a).1.ptrs), .int .i64 ((ptrS s seg a).1.size), .int .i64 ((ptrS s seg a).1.count), .int .i64 ((ptrS s seg a).1.seg), .bool ((ptrS s seg a).1.dbl)], .int .i64 ((ptrS s seg a).2)]) rfl (qQ7 _ (H.grow G) seg a (by simp only [inR]; omega) (by simp only [inR]; omega)) ?_)
 intro w14 g15
 replace hc4 := g15.heap hc4
 replace hc10 := g15.heap hc10
 replace G := G.tr g15
 clear g15
 refine qZ 3 ?_
 refine stp (zB0 ?_)
 intro b16 w17 hb18 hc19 g20
 refine stn (qS hc19 ?_)
 intro w21 hc22 u23
 have g24 := g20.upd u23 hb18
 have hge25 := Nat.le_trans G.size hb18
 have ne26 := qN hc4 hb18
 have ne27 := qN hc10 hb18
 replace hc4 := g24.heap hc4
 replace hc10 := g24.heap hc10
 replace G := G.tr g24
 clear u23 g20 hb18 hc19
 refine qZ 6 ?_
 refine stp (zH4 rfl rfl ?_)
 refine qZ 1 ?_
 refine qG 2 ?_
 refine zA3 (zB3 (s := .bool _) (v := .bool (decide (((ptrS s seg a).1.kind) = 0))) rfl (zE1 _) (fun hc30 => ?_) ?_)
 ·
  have hc30_ := hc30
  try simp only [sb] at hc30_
  refine zD5 (gvt hc30) rfl ?_
  exact ⟨rfl, rfl⟩
 refine stp (zI1 rfl rfl rfl ?_)
 refine zA6 ?_
 refine zA2 (b := ((decide (((ptrS s seg a).2) ≠ 0)) || (decide (((ptrS s seg a).1.kind) = 0)))) rfl (fun h1 => ?_) (fun h1 => ?_)
 ·
  simp only [sb] at h1
  refine qZ 2 ?_
  refine stp (zA7 (v := .agg #[.int .i64 0, .int .i64 0, .int .i64 0, .int .i64 0, .int .i64 0, .int .i64 0, .int .i64 0]) (fun w => by kernel_rfl) ?_)
  refine qZ 1 ?_
  refine stn (qS hc10 ?_)
  intro w31 hc32 u33
  replace hc4 := u33.heap hc4 ne13
  replace hc22 := u33.heap hc22 ne27.symm
  replace G := G.upd u33 hge12
  clear u33 hc10
  refine qZ 3 ?_
  refine ret2 (zA9 rfl hc32 (by rfl)) (zA1 (v := .int .i64 ((ptrS s seg a).2)) rfl) ⟨?_, G⟩
  have h9 : zA0 s seg a = (Ob0, (ptrS s seg a).2) := by unfold zA0; rw [if_pos h1]
  rw [h9]; rfl
 ·
  simp only [sb] at h1
  have hz : (ptrS s seg a).2 = 0 := by omega
  have hb := H.ptr_at hz
  have h1n : ¬ ((ptrS s seg a).2 ≠ 0 ∨ (ptrS s seg a).1.kind = 0) := by omega
  refine qZ 5 ?_
  refine stp (zA4 (v := .bool (zJ7 ((ptrS s seg a).1))) rfl (qA3 _ ((ptrS s seg a).1)) ?_)
  intro w34 g35
  replace hc4 := g35.heap hc4
  replace hc10 := g35.heap hc10
  replace hc22 := g35.heap hc22
  replace G := G.tr g35
  clear g35
  refine zA6 ?_
  refine zA2 (b := (zJ7 ((ptrS s seg a).1))) rfl (fun h2 => ?_) (fun h2 => ?_)
  ·
   have hsz36 : w34.heap.size ≤ w34.heap.size := Nat.le_refl _
   have ltf36_hc4 := zB2 hc4
   have ltf36_hc10 := zB2 hc10
   have ltf36_hc22 := zB2 hc22
   have hgz36 := G.size
   refine zS2 ?_
   have kb_hc4 : ∀ w_, (ktR 112 w34.heap.size).r w34 w_ → w_.heap[b1]? = some (.cells #[ua, .bool b, uh] 86 (0, 0)) := fun w_ k_ => (KtP.to_grow k_ (Grow.rfl' _)).heap hc4
   have kb_hc10 : ∀ w_, (ktR 112 w34.heap.size).r w34 w_ → w_.heap[b7]? = some (.cells #[.int .i64 0, .int .i64 0, .int .i64 0, .int .i64 0, .int .i64 0, .int .i64 0, .int .i64 0] 112 (0, 0)) := fun w_ k_ => (KtP.to_grow k_ (Grow.rfl' _)).heap hc10
   have kb_hc22 : ∀ w_, (ktR 112 w34.heap.size).r w34 w_ → w_.heap[b16]? = some (.cells #[.int .i64 ((ptrS s seg a).1.kind), .int .i64 ((ptrS s seg a).1.off), .int .i64 ((ptrS s seg a).1.data), .int .i64 ((ptrS s seg a).1.ptrs), .int .i64 ((ptrS s seg a).1.size), .int .i64 ((ptrS s seg a).1.count), .int .i64 ((ptrS s seg a).1.seg), .bool ((ptrS s seg a).1.dbl)] 70 (0, 0)) := fun w_ k_ => (KtP.to_grow k_ (Grow.rfl' _)).heap hc22
   have kb_hsz36 : ∀ w_, (ktR 112 w34.heap.size).r w34 w_ → w34.heap.size ≤ w_.heap.size := fun w_ k_ => Nat.le_trans hsz36 (KtP.to_grow k_ (Grow.rfl' _)).size
   have kb_G : ∀ w_, (ktR 112 w34.heap.size).r w34 w_ → Grow w w_ := fun w_ k_ => G.tr (KtP.to_grow k_ (Grow.rfl' _))
   refine jB1 15 [[], [], [], [], [0], [], [0], [3, 2, 1, 0], [6, 5, 4, 3, 2, 1, 0], [8, 7, 6, 5, 4, 3, 2, 1, 0], [9, 8, 7, 6, 5, 4, 3, 2, 1, 0], [10, 9, 8, 7, 6, 5, 4, 3, 2, 1, 0], [11, 10, 9, 8, 7, 6, 5, 4, 3, 2, 1], [], [13, 12, 11, 10, 9, 8, 7, 6, 5, 4, 3, 2, 0]] [14] [10] (grQ (ktR 112 w34.heap.size)) (fun k_ e_ w_ => match k_ with | 0 => True | _ => ∃ b : Nat, e_ 10 = .pointer (some ⟨b, 0, none⟩) ∧ w34.heap.size ≤ b ∧ w_.heap[b]? = some (.cells #[.int .i64 ((bndS s (objP (ptrS s seg a).1 seg (a + 1 + (ptrS s seg a).1.off))).1.kind), .int .i64 ((bndS s (objP (ptrS s seg a).1 seg (a + 1 + (ptrS s seg a).1.off))).1.seg), .int .i64 ((bndS s (objP (ptrS s seg a).1 seg (a + 1 + (ptrS s seg a).1.off))).1.at_), .int .i64 ((bndS s (objP (ptrS s seg a).1 seg (a + 1 + (ptrS s seg a).1.off))).1.data), .int .i64 ((bndS s (objP (ptrS s seg a).1 seg (a + 1 + (ptrS s seg a).1.off))).1.ptrs), .int .i64 ((bndS s (objP (ptrS s seg a).1 seg (a + 1 + (ptrS s seg a).1.off))).1.size), .int .i64 ((bndS s (objP (ptrS s seg a).1 seg (a + 1 + (ptrS s seg a).1.off))).1.count)] 112 (0, 0))) mixed (by kernel_rfl) (by kernel_rfl) (by kernel_rfl) (by kernel_rfl) (by kernel_rfl) (fun k_ _ _ _ g_ h_ => match k_, h_ with | 0, _ => trivial | _ + 1, ⟨b_, h1_, h2_, h3_⟩ => ⟨b_, h1_, h2_, g_.heap h3_⟩) (fun k_ _ _ _ hu_ h_ => match k_, h_ with | 0, _ => trivial | _ + 1, ⟨b_, h1_, h2_, h3_⟩ => ⟨b_, (hu_ _ (by simp)).symm.trans h1_, h2_, h3_⟩) (fun _ _ _ h_ => h_) (fun _ _ => trivial) ?_
   intro w37 g38
   replace kb_hc4 : ∀ w_, (ktR 112 w34.heap.size).r w37 w_ → w_.heap[b1]? = some (.cells #[ua, .bool b, uh] 86 (0, 0)) := fun w_ k_ => kb_hc4 w_ ((ktR 112 w34.heap.size).tr ((ktR 112 w34.heap.size).grow g38) k_)
   replace kb_hc10 : ∀ w_, (ktR 112 w34.heap.size).r w37 w_ → w_.heap[b7]? = some (.cells #[.int .i64 0, .int .i64 0, .int .i64 0, .int .i64 0, .int .i64 0, .int .i64 0, .int .i64 0] 112 (0, 0)) := fun w_ k_ => kb_hc10 w_ ((ktR 112 w34.heap.size).tr ((ktR 112 w34.heap.size).grow g38) k_)
   replace kb_hc22 : ∀ w_, (ktR 112 w34.heap.size).r w37 w_ → w_.heap[b16]? = some (.cells #[.int .i64 ((ptrS s seg a).1.kind), .int .i64 ((ptrS s seg a).1.off), .int .i64 ((ptrS s seg a).1.data), .int .i64 ((ptrS s seg a).1.ptrs), .int .i64 ((ptrS s seg a).1.size), .int .i64 ((ptrS s seg a).1.count), .int .i64 ((ptrS s seg a).1.seg), .bool ((ptrS s seg a).1.dbl)] 70 (0, 0)) := fun w_ k_ => kb_hc22 w_ ((ktR 112 w34.heap.size).tr ((ktR 112 w34.heap.size).grow g38) k_)
   replace kb_hsz36 : ∀ w_, (ktR 112 w34.heap.size).r w37 w_ → w34.heap.size ≤ w_.heap.size := fun w_ k_ => kb_hsz36 w_ ((ktR 112 w34.heap.size).tr ((ktR 112 w34.heap.size).grow g38) k_)
   replace kb_G : ∀ w_, (ktR 112 w34.heap.size).r w37 w_ → Grow w w_ := fun w_ k_ => kb_G w_ ((ktR 112 w34.heap.size).tr ((ktR 112 w34.heap.size).grow g38) k_)
   have k0_ : (ktR 112 w34.heap.size).r w34 w37 := ((ktR 112 w34.heap.size).grow g38)
   apply zK3 (hm := by rfl)
   ·intro w_ g_; exact og rfl (zC5 rfl (kb_hc4 _ g_) (by rfl) qX)
   apply zK3 (hm := by rfl)
   ·intro w_ g_; exact og rfl (zC5 rfl (kb_hc22 _ g_) (by rfl) qX)
   apply zK3 (hm := by rfl)
   ·intro w_ g_; exact og rfl (zD4 rfl qX)
   apply zK3 (hm := by rfl)
   ·intro w_ g_; exact og rfl (zD4 rfl qX)
   apply zK3 (hm := by rfl)
   ·intro w_ g_; refine og rfl ?_; refine zB8 rfl rfl ?_ ?_; constructor <;> omega; exact qX
   apply zK3 (hm := by rfl)
   ·intro w_ g_; exact og rfl (zC1 rfl qX)
   apply zK3 (hm := by rfl)
   ·intro w_ g_; exact og rfl (zD8 (v := .int .i64 ((ptrS s seg a).1.off)) rfl (kb_hc22 _ g_) rfl qX)
   apply zK3 (hm := by rfl)
   ·intro w_ g_; refine og rfl ?_; refine zB8 rfl rfl ?_ ?_; constructor <;> omega; exact qX
   apply zK3 (hm := by rfl)
   ·intro w_ g_; refine og rfl ?_; exact zA4 (v := .agg #[.int .i64 ((objP ((ptrS s seg a).1) seg ((a + 1) + ((ptrS s seg a).1.off))).kind), .int .i64 ((objP ((ptrS s seg a).1) seg ((a + 1) + ((ptrS s seg a).1.off))).seg), .int .i64 ((objP ((ptrS s seg a).1) seg ((a + 1) + ((ptrS s seg a).1.off))).at_), .int .i64 ((objP ((ptrS s seg a).1) seg ((a + 1) + ((ptrS s seg a).1.off))).data), .int .i64 ((objP ((ptrS s seg a).1) seg ((a + 1) + ((ptrS s seg a).1.off))).ptrs), .int .i64 ((objP ((ptrS s seg a).1) seg ((a + 1) + ((ptrS s seg a).1.off))).size), .int .i64 ((objP ((ptrS s seg a).1) seg ((a + 1) + ((ptrS s seg a).1.off))).count)]) rfl (qI5 _ ((ptrS s seg a).1) seg ((a + 1) + ((ptrS s seg a).1.off))) (fun w2_ g2_ => ⟨g2_, rfl⟩)
   apply zK3 (hm := by rfl)
   ·intro w_ g_; refine og rfl ?_; exact zA4 (v := .tuple #[.agg #[.int .i64 ((bndS s (objP ((ptrS s seg a).1) seg ((a + 1) + ((ptrS s seg a).1.off)))).1.kind), .int .i64 ((bndS s (objP ((ptrS s seg a).1) seg ((a + 1) + ((ptrS s seg a).1.off)))).1.seg), .int .i64 ((bndS s (objP ((ptrS s seg a).1) seg ((a + 1) + ((ptrS s seg a).1.off)))).1.at_), .int .i64 ((bndS s (objP ((ptrS s seg a).1) seg ((a + 1) + ((ptrS s seg a).1.off)))).1.data), .int .i64 ((bndS s (objP ((ptrS s seg a).1) seg ((a + 1) + ((ptrS s seg a).1.off)))).1.ptrs), .int .i64 ((bndS s (objP ((ptrS s seg a).1) seg ((a + 1) + ((ptrS s seg a).1.off)))).1.size), .int .i64 ((bndS s (objP ((ptrS s seg a).1) seg ((a + 1) + ((ptrS s seg a).1.off)))).1.count)], .int .i64 ((bndS s (objP ((ptrS s seg a).1) seg ((a + 1) + ((ptrS s seg a).1.off)))).2)]) rfl (zX9 _ (H.grow (kb_G _ g_)) (objP ((ptrS s seg a).1) seg ((a + 1) + ((ptrS s seg a).1.off))) (yS1 hq g1' (by simp only [inR]; omega))) (fun w2_ g2_ => ⟨g2_, rfl⟩)
   apply zK3 (hm := by rfl)
   ·intro w_ g_; exact og rfl (zC9 (v := .tuple #[.agg #[.int .i64 ((bndS s (objP ((ptrS s seg a).1) seg ((a + 1) + ((ptrS s seg a).1.off)))).1.kind), .int .i64 ((bndS s (objP ((ptrS s seg a).1) seg ((a + 1) + ((ptrS s seg a).1.off)))).1.seg), .int .i64 ((bndS s (objP ((ptrS s seg a).1) seg ((a + 1) + ((ptrS s seg a).1.off)))).1.at_), .int .i64 ((bndS s (objP ((ptrS s seg a).1) seg ((a + 1) + ((ptrS s seg a).1.off)))).1.data), .int .i64 ((bndS s (objP ((ptrS s seg a).1) seg ((a + 1) + ((ptrS s seg a).1.off)))).1.ptrs), .int .i64 ((bndS s (objP ((ptrS s seg a).1) seg ((a + 1) + ((ptrS s seg a).1.off)))).1.size), .int .i64 ((bndS s (objP ((ptrS s seg a).1) seg ((a + 1) + ((ptrS s seg a).1.off)))).1.count)], .int .i64 ((bndS s (objP ((ptrS s seg a).1) seg ((a + 1) + ((ptrS s seg a).1.off)))).2)]) rfl qX)
   apply zK3 (hm := by rfl)
   ·intro w_ g_; exact og rfl (zB7 (v := .agg #[.int .i64 ((bndS s (objP ((ptrS s seg a).1) seg ((a + 1) + ((ptrS s seg a).1.off)))).1.kind), .int .i64 ((bndS s (objP ((ptrS s seg a).1) seg ((a + 1) + ((ptrS s seg a).1.off)))).1.seg), .int .i64 ((bndS s (objP ((ptrS s seg a).1) seg ((a + 1) + ((ptrS s seg a).1.off)))).1.at_), .int .i64 ((bndS s (objP ((ptrS s seg a).1) seg ((a + 1) + ((ptrS s seg a).1.off)))).1.data), .int .i64 ((bndS s (objP ((ptrS s seg a).1) seg ((a + 1) + ((ptrS s seg a).1.off)))).1.ptrs), .int .i64 ((bndS s (objP ((ptrS s seg a).1) seg ((a + 1) + ((ptrS s seg a).1.off)))).1.size), .int .i64 ((bndS s (objP ((ptrS s seg a).1) seg ((a + 1) + ((ptrS s seg a).1.off)))).1.count)]) rfl rfl qX)
   apply zK3 (hm := by rfl)
   ·intro w_ g_; exact og rfl (zB7 (v := .int .i64 ((bndS s (objP ((ptrS s seg a).1) seg ((a + 1) + ((ptrS s seg a).1.off)))).2)) rfl rfl qX)
   refine jB0 (fun w_ v_ => ∃ b cs, v_ = .pointer (some ⟨b, 0, none⟩) ∧ w34.heap.size ≤ b ∧ cs.size = 7 ∧ w_.heap[b]? = some (.cells cs 112 (0, 0))) (fun _ _ _ g_ ⟨b, cs, h1_, h2_, h3_, h4_⟩ => by obtain ⟨cs2, h5_, h6_⟩ := KtP.new g_ b cs h4_; exact ⟨b, cs2, h1_, h2_, h5_.trans h3_, h6_⟩) (by rfl) ?_ ?_
   ·intro w_ g_
    refine og rfl ?_
    refine zB0 ?_
    intro b_ w2_ hb_ hc_ g2_
    exact ⟨g2_, b_, _, rfl, Nat.le_trans (kb_hsz36 _ g_) hb_, rfl, hc_⟩
   apply yR7 0 (hm := by rfl)
   ·intro w_ g_
    intro v13_ hv13_
    intro s_
    show OpG _ _ _ _ _ _
    refine og rfl ?_
    obtain ⟨b_, cs_, rfl, hge_, hsz_, hb_⟩ := hv13_
    refine zO9 rfl rfl hb_ (by rfl) hsz_ (by rfl) ?_
    intro w2_ s2_ u_
    exact ⟨KtP.of_upd u_ hge_ hb_ s2_ hsz_.symm, ⟨b_, rfl, hge_, s2_⟩, rfl⟩
   refine yR8 ?_
   intro w39 g40
   replace k0_ := ((ktR 112 w34.heap.size).tr k0_ g40)
   replace hc4 := kb_hc4 _ g40
   clear kb_hc4
   replace hc10 := kb_hc10 _ g40
   clear kb_hc10
   replace hc22 := kb_hc22 _ g40
   clear kb_hc22
   replace hsz36 := kb_hsz36 _ g40
   clear kb_hsz36
   replace G := kb_G _ g40
   clear kb_G
   intro v_x36 hv_x36
   rintro ⟨bx36, hbe36, hge36, hc36⟩
   have hbv36 : v_x36 = .pointer (some ⟨bx36, 0, none⟩) := hbe36
   subst hbv36
   clear hv_x36 hbe36
   have hgx36 := Nat.le_trans hgz36 hge36
   refine qZ 6 ?_
   refine stn (qS hc10 ?_)
   intro w41 hc42 u43
   replace hc4 := u43.heap hc4 ne13
   replace hc22 := u43.heap hc22 ne27.symm
   replace hc36 := u43.heap hc36 (Nat.ne_of_lt (Nat.lt_of_lt_of_le ltf36_hc10 hge36)).symm
   replace G := G.upd u43 hge12
   clear u43 hc10
   refine qZ 3 ?_
   refine ret2 (zA9 rfl hc42 (by rfl)) (zA1 (v := .int .i64 ((bndS s (objP ((ptrS s seg a).1) seg ((a + 1) + ((ptrS s seg a).1.off)))).2)) rfl) ⟨?_, G⟩
   have h9 : zA0 s seg a = bndS s (objP (ptrS s seg a).1 seg (a + 1 + (ptrS s seg a).1.off)) := by unfold zA0; rw [if_neg h1n, if_pos h2, qY2]
   rw [h9]
  ·
   refine qZ 7 ?_
   refine zA2 (b := ((ptrS s seg a).1.dbl)) rfl (fun h3 => ?_) (fun h3 => ?_)
   ·
    refine qZ 4 ?_
    refine stp (zA4 (v := .tuple #[.agg #[.int .i64 ((dblS s (ptrS s seg a).1).1.kind), .int .i64 ((dblS s (ptrS s seg a).1).1.seg), .int .i64 ((dblS s (ptrS s seg a).1).1.at_), .int .i64 ((dblS s (ptrS s seg a).1).1.data), .int .i64 ((dblS s (ptrS s seg a).1).1.ptrs), .int .i64 ((dblS s (ptrS s seg a).1).1.size), .int .i64 ((dblS s (ptrS s seg a).1).1.count)], .int .i64 ((dblS s (ptrS s seg a).1).2)]) rfl (qT8 _ (H.grow G) (ptrS s seg a).1 hq) ?_)
    intro w44 g45
    replace hc4 := g45.heap hc4
    replace hc10 := g45.heap hc10
    replace hc22 := g45.heap hc22
    replace G := G.tr g45
    clear g45
    refine qZ 3 ?_
    refine stp (zB0 ?_)
    intro b46 w47 hb48 hc49 g50
    refine stn (qS hc49 ?_)
    intro w51 hc52 u53
    have g54 := g50.upd u53 hb48
    have hge55 := Nat.le_trans G.size hb48
    have ne56 := qN hc4 hb48
    have ne57 := qN hc10 hb48
    have ne58 := qN hc22 hb48
    replace hc4 := g54.heap hc4
    replace hc10 := g54.heap hc10
    replace hc22 := g54.heap hc22
    replace G := G.tr g54
    clear u53 g50 hb48 hc49
    refine qZ 6 ?_
    refine stp (zH4 rfl rfl ?_)
    refine zA6 ?_
    refine zA2 (b := (decide (((dblS s (ptrS s seg a).1).2) ≠ 0))) rfl (fun h4 => ?_) (fun h4 => ?_)
    ·
     replace h4 := qT h4
     refine qZ 2 ?_
     refine stp (zA7 (v := .agg #[.int .i64 0, .int .i64 0, .int .i64 0, .int .i64 0, .int .i64 0, .int .i64 0, .int .i64 0]) (fun w => by kernel_rfl) ?_)
     refine qZ 1 ?_
     refine stn (qS hc10 ?_)
     intro w59 hc60 u61
     replace hc4 := u61.heap hc4 ne13
     replace hc22 := u61.heap hc22 ne27.symm
     replace hc52 := u61.heap hc52 ne57.symm
     replace G := G.upd u61 hge12
     clear u61 hc10
     refine qZ 3 ?_
     refine ret2 (zA9 rfl hc60 (by rfl)) (zA1 (v := .int .i64 ((dblS s (ptrS s seg a).1).2)) rfl) ⟨?_, G⟩
     have h9 : zA0 s seg a = (Ob0, (dblS s (ptrS s seg a).1).2) := by unfold zA0; rw [if_neg h1n, if_neg (by simp [h2]), if_pos h3, qY3, if_pos h4]
     rw [h9]; rfl
    ·
     replace h4 := qF h4
     refine qZ 5 ?_
     refine stp (zA4 (v := .tuple #[.agg #[.int .i64 ((bndS s (dblS s (ptrS s seg a).1).1).1.kind), .int .i64 ((bndS s (dblS s (ptrS s seg a).1).1).1.seg), .int .i64 ((bndS s (dblS s (ptrS s seg a).1).1).1.at_), .int .i64 ((bndS s (dblS s (ptrS s seg a).1).1).1.data), .int .i64 ((bndS s (dblS s (ptrS s seg a).1).1).1.ptrs), .int .i64 ((bndS s (dblS s (ptrS s seg a).1).1).1.size), .int .i64 ((bndS s (dblS s (ptrS s seg a).1).1).1.count)], .int .i64 ((bndS s (dblS s (ptrS s seg a).1).1).2)]) rfl (zX9 _ (H.grow G) (dblS s (ptrS s seg a).1).1 (H.dbl_W (ptrS s seg a).1)) ?_)
     intro w62 g63
     replace hc4 := g63.heap hc4
     replace hc10 := g63.heap hc10
     replace hc22 := g63.heap hc22
     replace hc52 := g63.heap hc52
     replace G := G.tr g63
     clear g63
     refine qZ 3 ?_
     refine stp (zB0 ?_)
     intro b64 w65 hb66 hc67 g68
     refine stn (qS hc67 ?_)
     intro w69 hc70 u71
     have g72 := g68.upd u71 hb66
     have hge73 := Nat.le_trans G.size hb66
     have ne74 := qN hc4 hb66
     have ne75 := qN hc10 hb66
     have ne76 := qN hc22 hb66
     have ne77 := qN hc52 hb66
     replace hc4 := g72.heap hc4
     replace hc10 := g72.heap hc10
     replace hc22 := g72.heap hc22
     replace hc52 := g72.heap hc52
     replace G := G.tr g72
     clear u71 g68 hb66 hc67
     refine qZ 6 ?_
     refine stn (qS hc10 ?_)
     intro w78 hc79 u80
     replace hc4 := u80.heap hc4 ne13
     replace hc22 := u80.heap hc22 ne27.symm
     replace hc52 := u80.heap hc52 ne57.symm
     replace hc70 := u80.heap hc70 ne75.symm
     replace G := G.upd u80 hge12
     clear u80 hc10
     refine qZ 3 ?_
     refine ret2 (zA9 rfl hc79 (by rfl)) (zA1 (v := .int .i64 ((bndS s (dblS s (ptrS s seg a).1).1).2)) rfl) ⟨?_, G⟩
     have h9 : zA0 s seg a = bndS s (dblS s (ptrS s seg a).1).1 := by unfold zA0; rw [if_neg h1n, if_neg (by simp [h2]), if_pos h3, qY3, if_neg h4]
     rw [h9]
   ·
    have hq2 := H.ptr_range (ptrS s seg a).1.seg (ptrS s seg a).1.off
    have hqo2 := hq2.off
    refine qZ 8 ?_
    refine stp (zA4 (v := .tuple #[.agg #[.int .i64 ((ptrS s ((ptrS s seg a).1.seg) ((ptrS s seg a).1.off)).1.kind), .int .i64 ((ptrS s ((ptrS s seg a).1.seg) ((ptrS s seg a).1.off)).1.off), .int .i64 ((ptrS s ((ptrS s seg a).1.seg) ((ptrS s seg a).1.off)).1.data), .int .i64 ((ptrS s ((ptrS s seg a).1.seg) ((ptrS s seg a).1.off)).1.ptrs), .int .i64 ((ptrS s ((ptrS s seg a).1.seg) ((ptrS s seg a).1.off)).1.size), .int .i64 ((ptrS s ((ptrS s seg a).1.seg) ((ptrS s seg a).1.off)).1.count), .int .i64 ((ptrS s ((ptrS s seg a).1.seg) ((ptrS s seg a).1.off)).1.seg), .bool ((ptrS s ((ptrS s seg a).1.seg) ((ptrS s seg a).1.off)).1.dbl)], .int .i64 ((ptrS s ((ptrS s seg a).1.seg) ((ptrS s seg a).1.off)).2)]) rfl (qQ7 _ (H.grow G) ((ptrS s seg a).1.seg) ((ptrS s seg a).1.off) (by simp only [inR]; omega) (by simp only [inR]; omega)) ?_)
    intro w81 g82
    replace hc4 := g82.heap hc4
    replace hc10 := g82.heap hc10
    replace hc22 := g82.heap hc22
    replace G := G.tr g82
    clear g82
    refine qZ 3 ?_
    refine stp (zB0 ?_)
    intro b83 w84 hb85 hc86 g87
    refine stn (qS hc86 ?_)
    intro w88 hc89 u90
    have g91 := g87.upd u90 hb85
    have hge92 := Nat.le_trans G.size hb85
    have ne93 := qN hc4 hb85
    have ne94 := qN hc10 hb85
    have ne95 := qN hc22 hb85
    replace hc4 := g91.heap hc4
    replace hc10 := g91.heap hc10
    replace hc22 := g91.heap hc22
    replace G := G.tr g91
    clear u90 g87 hb85 hc86
    refine qZ 6 ?_
    refine stp (zH4 rfl rfl ?_)
    refine zA6 ?_
    refine zA2 (b := (decide (((ptrS s ((ptrS s seg a).1.seg) ((ptrS s seg a).1.off)).2) ≠ 0))) rfl (fun h4 => ?_) (fun h4 => ?_)
    ·
     replace h4 := qT h4
     refine qZ 2 ?_
     refine stp (zA7 (v := .agg #[.int .i64 0, .int .i64 0, .int .i64 0, .int .i64 0, .int .i64 0, .int .i64 0, .int .i64 0]) (fun w => by kernel_rfl) ?_)
     refine qZ 1 ?_
     refine stn (qS hc10 ?_)
     intro w96 hc97 u98
     replace hc4 := u98.heap hc4 ne13
     replace hc22 := u98.heap hc22 ne27.symm
     replace hc89 := u98.heap hc89 ne94.symm
     replace G := G.upd u98 hge12
     clear u98 hc10
     refine qZ 3 ?_
     refine ret2 (zA9 rfl hc97 (by rfl)) (zA1 (v := .int .i64 ((ptrS s ((ptrS s seg a).1.seg) ((ptrS s seg a).1.off)).2)) rfl) ⟨?_, G⟩
     have h9 : zA0 s seg a = (Ob0, (ptrS s (ptrS s seg a).1.seg (ptrS s seg a).1.off).2) := by unfold zA0; rw [if_neg h1n, if_neg (by simp [h2]), if_neg (by simp [h3])]; unfold zD9; rw [if_pos h4]
     rw [h9]; rfl
    ·
     replace h4 := qF h4
     refine qZ 5 ?_
     refine stp (zA4 (v := .bool (zJ7 ((ptrS s ((ptrS s seg a).1.seg) ((ptrS s seg a).1.off)).1))) rfl (qA3 _ ((ptrS s ((ptrS s seg a).1.seg) ((ptrS s seg a).1.off)).1)) ?_)
     intro w99 g100
     replace hc4 := g100.heap hc4
     replace hc10 := g100.heap hc10
     replace hc22 := g100.heap hc22
     replace hc89 := g100.heap hc89
     replace G := G.tr g100
     clear g100
     refine stp (zL0 rfl ?_)
     refine zA6 ?_
     refine zA2 (b := (!(zJ7 ((ptrS s ((ptrS s seg a).1.seg) ((ptrS s seg a).1.off)).1)))) rfl (fun h5 => ?_) (fun h5 => ?_)
     ·
      simp only [sb] at h5
      refine qZ 2 ?_
      refine stp (zA7 (v := .agg #[.int .i64 0, .int .i64 0, .int .i64 0, .int .i64 0, .int .i64 0, .int .i64 0, .int .i64 0]) (fun w => by kernel_rfl) ?_)
      refine stn (qS hc10 ?_)
      intro w101 hc102 u103
      replace hc4 := u103.heap hc4 ne13
      replace hc22 := u103.heap hc22 ne27.symm
      replace hc89 := u103.heap hc89 ne94.symm
      replace G := G.upd u103 hge12
      clear u103 hc10
      refine qZ 3 ?_
      refine ret2 (zA9 rfl hc102 (by rfl)) (zA1 (v := .int .i64 23) rfl) ⟨?_, G⟩
      have h9 : zA0 s seg a = (Ob0, 23) := by unfold zA0; rw [if_neg h1n, if_neg (by simp [h2]), if_neg (by simp [h3])]; unfold zD9; rw [if_neg h4, if_pos (by simpa using h5)]
      rw [h9]; rfl
     ·
      simp only [sb] at h5
      refine zP6 ?_
      have hsz104 : w99.heap.size ≤ w99.heap.size := Nat.le_refl _
      have ltf104_hc4 := zB2 hc4
      have ltf104_hc10 := zB2 hc10
      have ltf104_hc22 := zB2 hc22
      have ltf104_hc89 := zB2 hc89
      have hgz104 := G.size
      refine zS2 ?_
      have kb_hc4 : ∀ w_, (ktR 112 w99.heap.size).r w99 w_ → w_.heap[b1]? = some (.cells #[ua, .bool b, uh] 86 (0, 0)) := fun w_ k_ => (KtP.to_grow k_ (Grow.rfl' _)).heap hc4
      have kb_hc10 : ∀ w_, (ktR 112 w99.heap.size).r w99 w_ → w_.heap[b7]? = some (.cells #[.int .i64 0, .int .i64 0, .int .i64 0, .int .i64 0, .int .i64 0, .int .i64 0, .int .i64 0] 112 (0, 0)) := fun w_ k_ => (KtP.to_grow k_ (Grow.rfl' _)).heap hc10
      have kb_hc22 : ∀ w_, (ktR 112 w99.heap.size).r w99 w_ → w_.heap[b16]? = some (.cells #[.int .i64 ((ptrS s seg a).1.kind), .int .i64 ((ptrS s seg a).1.off), .int .i64 ((ptrS s seg a).1.data), .int .i64 ((ptrS s seg a).1.ptrs), .int .i64 ((ptrS s seg a).1.size), .int .i64 ((ptrS s seg a).1.count), .int .i64 ((ptrS s seg a).1.seg), .bool ((ptrS s seg a).1.dbl)] 70 (0, 0)) := fun w_ k_ => (KtP.to_grow k_ (Grow.rfl' _)).heap hc22
      have kb_hc89 : ∀ w_, (ktR 112 w99.heap.size).r w99 w_ → w_.heap[b83]? = some (.cells #[.int .i64 ((ptrS s ((ptrS s seg a).1.seg) ((ptrS s seg a).1.off)).1.kind), .int .i64 ((ptrS s ((ptrS s seg a).1.seg) ((ptrS s seg a).1.off)).1.off), .int .i64 ((ptrS s ((ptrS s seg a).1.seg) ((ptrS s seg a).1.off)).1.data), .int .i64 ((ptrS s ((ptrS s seg a).1.seg) ((ptrS s seg a).1.off)).1.ptrs), .int .i64 ((ptrS s ((ptrS s seg a).1.seg) ((ptrS s seg a).1.off)).1.size), .int .i64 ((ptrS s ((ptrS s seg a).1.seg) ((ptrS s seg a).1.off)).1.count), .int .i64 ((ptrS s ((ptrS s seg a).1.seg) ((ptrS s seg a).1.off)).1.seg), .bool ((ptrS s ((ptrS s seg a).1.seg) ((ptrS s seg a).1.off)).1.dbl)] 70 (0, 0)) := fun w_ k_ => (KtP.to_grow k_ (Grow.rfl' _)).heap hc89
      have kb_hsz104 : ∀ w_, (ktR 112 w99.heap.size).r w99 w_ → w99.heap.size ≤ w_.heap.size := fun w_ k_ => Nat.le_trans hsz104 (KtP.to_grow k_ (Grow.rfl' _)).size
      have kb_G : ∀ w_, (ktR 112 w99.heap.size).r w99 w_ → Grow w w_ := fun w_ k_ => G.tr (KtP.to_grow k_ (Grow.rfl' _))
      refine jB1 17 [[], [], [], [0], [], [0], [1, 0], [], [0], [4, 3, 2, 1, 0], [8, 7, 6, 5, 4, 3, 2, 1, 0], [10, 9, 8, 7, 6, 5, 4, 3, 2, 1, 0], [11, 10, 9, 8, 7, 6, 5, 4, 3, 2, 1, 0], [12, 11, 10, 9, 8, 7, 6, 5, 4, 3, 2, 1, 0], [13, 12, 11, 10, 9, 8, 7, 6, 5, 4, 3, 2, 1], [], [15, 14, 13, 12, 11, 10, 9, 8, 7, 6, 5, 4, 3, 2, 0]] [16] [18] (grQ (ktR 112 w99.heap.size)) (fun k_ e_ w_ => match k_ with | 0 => True | _ => ∃ b : Nat, e_ 18 = .pointer (some ⟨b, 0, none⟩) ∧ w99.heap.size ≤ b ∧ w_.heap[b]? = some (.cells #[.int .i64 ((bndS s (objP (ptrS s (ptrS s seg a).1.seg (ptrS s seg a).1.off).1 (ptrS s seg a).1.seg ((ptrS s seg a).1.off + 1 + (ptrS s (ptrS s seg a).1.seg (ptrS s seg a).1.off).1.off))).1.kind), .int .i64 ((bndS s (objP (ptrS s (ptrS s seg a).1.seg (ptrS s seg a).1.off).1 (ptrS s seg a).1.seg ((ptrS s seg a).1.off + 1 + (ptrS s (ptrS s seg a).1.seg (ptrS s seg a).1.off).1.off))).1.seg), .int .i64 ((bndS s (objP (ptrS s (ptrS s seg a).1.seg (ptrS s seg a).1.off).1 (ptrS s seg a).1.seg ((ptrS s seg a).1.off + 1 + (ptrS s (ptrS s seg a).1.seg (ptrS s seg a).1.off).1.off))).1.at_), .int .i64 ((bndS s (objP (ptrS s (ptrS s seg a).1.seg (ptrS s seg a).1.off).1 (ptrS s seg a).1.seg ((ptrS s seg a).1.off + 1 + (ptrS s (ptrS s seg a).1.seg (ptrS s seg a).1.off).1.off))).1.data), .int .i64 ((bndS s (objP (ptrS s (ptrS s seg a).1.seg (ptrS s seg a).1.off).1 (ptrS s seg a).1.seg ((ptrS s seg a).1.off + 1 + (ptrS s (ptrS s seg a).1.seg (ptrS s seg a).1.off).1.off))).1.ptrs), .int .i64 ((bndS s (objP (ptrS s (ptrS s seg a).1.seg (ptrS s seg a).1.off).1 (ptrS s seg a).1.seg ((ptrS s seg a).1.off + 1 + (ptrS s (ptrS s seg a).1.seg (ptrS s seg a).1.off).1.off))).1.size), .int .i64 ((bndS s (objP (ptrS s (ptrS s seg a).1.seg (ptrS s seg a).1.off).1 (ptrS s seg a).1.seg ((ptrS s seg a).1.off + 1 + (ptrS s (ptrS s seg a).1.seg (ptrS s seg a).1.off).1.off))).1.count)] 112 (0, 0))) mixed (by kernel_rfl) (by kernel_rfl) (by kernel_rfl) (by kernel_rfl) (by kernel_rfl) (fun k_ _ _ _ g_ h_ => match k_, h_ with | 0, _ => trivial | _ + 1, ⟨b_, h1_, h2_, h3_⟩ => ⟨b_, h1_, h2_, g_.heap h3_⟩) (fun k_ _ _ _ hu_ h_ => match k_, h_ with | 0, _ => trivial | _ + 1, ⟨b_, h1_, h2_, h3_⟩ => ⟨b_, (hu_ _ (by simp)).symm.trans h1_, h2_, h3_⟩) (fun _ _ _ h_ => h_) (fun _ _ => trivial) ?_
      intro w105 g106
      replace kb_hc4 : ∀ w_, (ktR 112 w99.heap.size).r w105 w_ → w_.heap[b1]? = some (.cells #[ua, .bool b, uh] 86 (0, 0)) := fun w_ k_ => kb_hc4 w_ ((ktR 112 w99.heap.size).tr ((ktR 112 w99.heap.size).grow g106) k_)
      replace kb_hc10 : ∀ w_, (ktR 112 w99.heap.size).r w105 w_ → w_.heap[b7]? = some (.cells #[.int .i64 0, .int .i64 0, .int .i64 0, .int .i64 0, .int .i64 0, .int .i64 0, .int .i64 0] 112 (0, 0)) := fun w_ k_ => kb_hc10 w_ ((ktR 112 w99.heap.size).tr ((ktR 112 w99.heap.size).grow g106) k_)
      replace kb_hc22 : ∀ w_, (ktR 112 w99.heap.size).r w105 w_ → w_.heap[b16]? = some (.cells #[.int .i64 ((ptrS s seg a).1.kind), .int .i64 ((ptrS s seg a).1.off), .int .i64 ((ptrS s seg a).1.data), .int .i64 ((ptrS s seg a).1.ptrs), .int .i64 ((ptrS s seg a).1.size), .int .i64 ((ptrS s seg a).1.count), .int .i64 ((ptrS s seg a).1.seg), .bool ((ptrS s seg a).1.dbl)] 70 (0, 0)) := fun w_ k_ => kb_hc22 w_ ((ktR 112 w99.heap.size).tr ((ktR 112 w99.heap.size).grow g106) k_)
      replace kb_hc89 : ∀ w_, (ktR 112 w99.heap.size).r w105 w_ → w_.heap[b83]? = some (.cells #[.int .i64 ((ptrS s ((ptrS s seg a).1.seg) ((ptrS s seg a).1.off)).1.kind), .int .i64 ((ptrS s ((ptrS s seg a).1.seg) ((ptrS s seg a).1.off)).1.off), .int .i64 ((ptrS s ((ptrS s seg a).1.seg) ((ptrS s seg a).1.off)).1.data), .int .i64 ((ptrS s ((ptrS s seg a).1.seg) ((ptrS s seg a).1.off)).1.ptrs), .int .i64 ((ptrS s ((ptrS s seg a).1.seg) ((ptrS s seg a).1.off)).1.size), .int .i64 ((ptrS s ((ptrS s seg a).1.seg) ((ptrS s seg a).1.off)).1.count), .int .i64 ((ptrS s ((ptrS s seg a).1.seg) ((ptrS s seg a).1.off)).1.seg), .bool ((ptrS s ((ptrS s seg a).1.seg) ((ptrS s seg a).1.off)).1.dbl)] 70 (0, 0)) := fun w_ k_ => kb_hc89 w_ ((ktR 112 w99.heap.size).tr ((ktR 112 w99.heap.size).grow g106) k_)
      replace kb_hsz104 : ∀ w_, (ktR 112 w99.heap.size).r w105 w_ → w99.heap.size ≤ w_.heap.size := fun w_ k_ => kb_hsz104 w_ ((ktR 112 w99.heap.size).tr ((ktR 112 w99.heap.size).grow g106) k_)
      replace kb_G : ∀ w_, (ktR 112 w99.heap.size).r w105 w_ → Grow w w_ := fun w_ k_ => kb_G w_ ((ktR 112 w99.heap.size).tr ((ktR 112 w99.heap.size).grow g106) k_)
      have k0_ : (ktR 112 w99.heap.size).r w99 w105 := ((ktR 112 w99.heap.size).grow g106)
      apply zK3 (hm := by rfl)
      ·intro w_ g_; exact og rfl (zC5 rfl (kb_hc4 _ g_) (by rfl) qX)
      apply zK3 (hm := by rfl)
      ·intro w_ g_; exact og rfl (zC5 rfl (kb_hc89 _ g_) (by rfl) qX)
      apply zK3 (hm := by rfl)
      ·intro w_ g_; exact og rfl (zC1 rfl qX)
      apply zK3 (hm := by rfl)
      ·intro w_ g_; exact og rfl (zD8 (v := .int .i64 ((ptrS s seg a).1.seg)) rfl (kb_hc22 _ g_) rfl qX)
      apply zK3 (hm := by rfl)
      ·intro w_ g_; exact og rfl (zC1 rfl qX)
      apply zK3 (hm := by rfl)
      ·intro w_ g_; exact og rfl (zD8 (v := .int .i64 ((ptrS s seg a).1.off)) rfl (kb_hc22 _ g_) rfl qX)
      apply zK3 (hm := by rfl)
      ·intro w_ g_; refine og rfl ?_; refine zB8 rfl rfl ?_ ?_; constructor <;> omega; exact qX
      apply zK3 (hm := by rfl)
      ·intro w_ g_; exact og rfl (zC1 rfl qX)
      apply zK3 (hm := by rfl)
      ·intro w_ g_; exact og rfl (zD8 (v := .int .i64 ((ptrS s ((ptrS s seg a).1.seg) ((ptrS s seg a).1.off)).1.off)) rfl (kb_hc89 _ g_) rfl qX)
      apply zK3 (hm := by rfl)
      ·intro w_ g_; refine og rfl ?_; refine zB8 rfl rfl ?_ ?_; constructor <;> omega; exact qX
      apply zK3 (hm := by rfl)
      ·intro w_ g_; refine og rfl ?_; exact zA4 (v := .agg #[.int .i64 ((objP ((ptrS s ((ptrS s seg a).1.seg) ((ptrS s seg a).1.off)).1) ((ptrS s seg a).1.seg) ((((ptrS s seg a).1.off) + 1) + ((ptrS s ((ptrS s seg a).1.seg) ((ptrS s seg a).1.off)).1.off))).kind), .int .i64 ((objP ((ptrS s ((ptrS s seg a).1.seg) ((ptrS s seg a).1.off)).1) ((ptrS s seg a).1.seg) ((((ptrS s seg a).1.off) + 1) + ((ptrS s ((ptrS s seg a).1.seg) ((ptrS s seg a).1.off)).1.off))).seg), .int .i64 ((objP ((ptrS s ((ptrS s seg a).1.seg) ((ptrS s seg a).1.off)).1) ((ptrS s seg a).1.seg) ((((ptrS s seg a).1.off) + 1) + ((ptrS s ((ptrS s seg a).1.seg) ((ptrS s seg a).1.off)).1.off))).at_), .int .i64 ((objP ((ptrS s ((ptrS s seg a).1.seg) ((ptrS s seg a).1.off)).1) ((ptrS s seg a).1.seg) ((((ptrS s seg a).1.off) + 1) + ((ptrS s ((ptrS s seg a).1.seg) ((ptrS s seg a).1.off)).1.off))).data), .int .i64 ((objP ((ptrS s ((ptrS s seg a).1.seg) ((ptrS s seg a).1.off)).1) ((ptrS s seg a).1.seg) ((((ptrS s seg a).1.off) + 1) + ((ptrS s ((ptrS s seg a).1.seg) ((ptrS s seg a).1.off)).1.off))).ptrs), .int .i64 ((objP ((ptrS s ((ptrS s seg a).1.seg) ((ptrS s seg a).1.off)).1) ((ptrS s seg a).1.seg) ((((ptrS s seg a).1.off) + 1) + ((ptrS s ((ptrS s seg a).1.seg) ((ptrS s seg a).1.off)).1.off))).size), .int .i64 ((objP ((ptrS s ((ptrS s seg a).1.seg) ((ptrS s seg a).1.off)).1) ((ptrS s seg a).1.seg) ((((ptrS s seg a).1.off) + 1) + ((ptrS s ((ptrS s seg a).1.seg) ((ptrS s seg a).1.off)).1.off))).count)]) rfl (qI5 _ ((ptrS s ((ptrS s seg a).1.seg) ((ptrS s seg a).1.off)).1) ((ptrS s seg a).1.seg) ((((ptrS s seg a).1.off) + 1) + ((ptrS s ((ptrS s seg a).1.seg) ((ptrS s seg a).1.off)).1.off))) (fun w2_ g2_ => ⟨g2_, rfl⟩)
      apply zK3 (hm := by rfl)
      ·intro w_ g_; refine og rfl ?_; exact zA4 (v := .tuple #[.agg #[.int .i64 ((bndS s (objP ((ptrS s ((ptrS s seg a).1.seg) ((ptrS s seg a).1.off)).1) ((ptrS s seg a).1.seg) ((((ptrS s seg a).1.off) + 1) + ((ptrS s ((ptrS s seg a).1.seg) ((ptrS s seg a).1.off)).1.off)))).1.kind), .int .i64 ((bndS s (objP ((ptrS s ((ptrS s seg a).1.seg) ((ptrS s seg a).1.off)).1) ((ptrS s seg a).1.seg) ((((ptrS s seg a).1.off) + 1) + ((ptrS s ((ptrS s seg a).1.seg) ((ptrS s seg a).1.off)).1.off)))).1.seg), .int .i64 ((bndS s (objP ((ptrS s ((ptrS s seg a).1.seg) ((ptrS s seg a).1.off)).1) ((ptrS s seg a).1.seg) ((((ptrS s seg a).1.off) + 1) + ((ptrS s ((ptrS s seg a).1.seg) ((ptrS s seg a).1.off)).1.off)))).1.at_), .int .i64 ((bndS s (objP ((ptrS s ((ptrS s seg a).1.seg) ((ptrS s seg a).1.off)).1) ((ptrS s seg a).1.seg) ((((ptrS s seg a).1.off) + 1) + ((ptrS s ((ptrS s seg a).1.seg) ((ptrS s seg a).1.off)).1.off)))).1.data), .int .i64 ((bndS s (objP ((ptrS s ((ptrS s seg a).1.seg) ((ptrS s seg a).1.off)).1) ((ptrS s seg a).1.seg) ((((ptrS s seg a).1.off) + 1) + ((ptrS s ((ptrS s seg a).1.seg) ((ptrS s seg a).1.off)).1.off)))).1.ptrs), .int .i64 ((bndS s (objP ((ptrS s ((ptrS s seg a).1.seg) ((ptrS s seg a).1.off)).1) ((ptrS s seg a).1.seg) ((((ptrS s seg a).1.off) + 1) + ((ptrS s ((ptrS s seg a).1.seg) ((ptrS s seg a).1.off)).1.off)))).1.size), .int .i64 ((bndS s (objP ((ptrS s ((ptrS s seg a).1.seg) ((ptrS s seg a).1.off)).1) ((ptrS s seg a).1.seg) ((((ptrS s seg a).1.off) + 1) + ((ptrS s ((ptrS s seg a).1.seg) ((ptrS s seg a).1.off)).1.off)))).1.count)], .int .i64 ((bndS s (objP ((ptrS s ((ptrS s seg a).1.seg) ((ptrS s seg a).1.off)).1) ((ptrS s seg a).1.seg) ((((ptrS s seg a).1.off) + 1) + ((ptrS s ((ptrS s seg a).1.seg) ((ptrS s seg a).1.off)).1.off)))).2)]) rfl (zX9 _ (H.grow (kb_G _ g_)) (objP ((ptrS s ((ptrS s seg a).1.seg) ((ptrS s seg a).1.off)).1) ((ptrS s seg a).1.seg) ((((ptrS s seg a).1.off) + 1) + ((ptrS s ((ptrS s seg a).1.seg) ((ptrS s seg a).1.off)).1.off))) (yS1 hq2 (by simp only [inR]; omega) (by simp only [inR]; omega))) (fun w2_ g2_ => ⟨g2_, rfl⟩)
      apply zK3 (hm := by rfl)
      ·intro w_ g_; exact og rfl (zC9 (v := .tuple #[.agg #[.int .i64 ((bndS s (objP ((ptrS s ((ptrS s seg a).1.seg) ((ptrS s seg a).1.off)).1) ((ptrS s seg a).1.seg) ((((ptrS s seg a).1.off) + 1) + ((ptrS s ((ptrS s seg a).1.seg) ((ptrS s seg a).1.off)).1.off)))).1.kind), .int .i64 ((bndS s (objP ((ptrS s ((ptrS s seg a).1.seg) ((ptrS s seg a).1.off)).1) ((ptrS s seg a).1.seg) ((((ptrS s seg a).1.off) + 1) + ((ptrS s ((ptrS s seg a).1.seg) ((ptrS s seg a).1.off)).1.off)))).1.seg), .int .i64 ((bndS s (objP ((ptrS s ((ptrS s seg a).1.seg) ((ptrS s seg a).1.off)).1) ((ptrS s seg a).1.seg) ((((ptrS s seg a).1.off) + 1) + ((ptrS s ((ptrS s seg a).1.seg) ((ptrS s seg a).1.off)).1.off)))).1.at_), .int .i64 ((bndS s (objP ((ptrS s ((ptrS s seg a).1.seg) ((ptrS s seg a).1.off)).1) ((ptrS s seg a).1.seg) ((((ptrS s seg a).1.off) + 1) + ((ptrS s ((ptrS s seg a).1.seg) ((ptrS s seg a).1.off)).1.off)))).1.data), .int .i64 ((bndS s (objP ((ptrS s ((ptrS s seg a).1.seg) ((ptrS s seg a).1.off)).1) ((ptrS s seg a).1.seg) ((((ptrS s seg a).1.off) + 1) + ((ptrS s ((ptrS s seg a).1.seg) ((ptrS s seg a).1.off)).1.off)))).1.ptrs), .int .i64 ((bndS s (objP ((ptrS s ((ptrS s seg a).1.seg) ((ptrS s seg a).1.off)).1) ((ptrS s seg a).1.seg) ((((ptrS s seg a).1.off) + 1) + ((ptrS s ((ptrS s seg a).1.seg) ((ptrS s seg a).1.off)).1.off)))).1.size), .int .i64 ((bndS s (objP ((ptrS s ((ptrS s seg a).1.seg) ((ptrS s seg a).1.off)).1) ((ptrS s seg a).1.seg) ((((ptrS s seg a).1.off) + 1) + ((ptrS s ((ptrS s seg a).1.seg) ((ptrS s seg a).1.off)).1.off)))).1.count)], .int .i64 ((bndS s (objP ((ptrS s ((ptrS s seg a).1.seg) ((ptrS s seg a).1.off)).1) ((ptrS s seg a).1.seg) ((((ptrS s seg a).1.off) + 1) + ((ptrS s ((ptrS s seg a).1.seg) ((ptrS s seg a).1.off)).1.off)))).2)]) rfl qX)
      apply zK3 (hm := by rfl)
      ·intro w_ g_; exact og rfl (zB7 (v := .agg #[.int .i64 ((bndS s (objP ((ptrS s ((ptrS s seg a).1.seg) ((ptrS s seg a).1.off)).1) ((ptrS s seg a).1.seg) ((((ptrS s seg a).1.off) + 1) + ((ptrS s ((ptrS s seg a).1.seg) ((ptrS s seg a).1.off)).1.off)))).1.kind), .int .i64 ((bndS s (objP ((ptrS s ((ptrS s seg a).1.seg) ((ptrS s seg a).1.off)).1) ((ptrS s seg a).1.seg) ((((ptrS s seg a).1.off) + 1) + ((ptrS s ((ptrS s seg a).1.seg) ((ptrS s seg a).1.off)).1.off)))).1.seg), .int .i64 ((bndS s (objP ((ptrS s ((ptrS s seg a).1.seg) ((ptrS s seg a).1.off)).1) ((ptrS s seg a).1.seg) ((((ptrS s seg a).1.off) + 1) + ((ptrS s ((ptrS s seg a).1.seg) ((ptrS s seg a).1.off)).1.off)))).1.at_), .int .i64 ((bndS s (objP ((ptrS s ((ptrS s seg a).1.seg) ((ptrS s seg a).1.off)).1) ((ptrS s seg a).1.seg) ((((ptrS s seg a).1.off) + 1) + ((ptrS s ((ptrS s seg a).1.seg) ((ptrS s seg a).1.off)).1.off)))).1.data), .int .i64 ((bndS s (objP ((ptrS s ((ptrS s seg a).1.seg) ((ptrS s seg a).1.off)).1) ((ptrS s seg a).1.seg) ((((ptrS s seg a).1.off) + 1) + ((ptrS s ((ptrS s seg a).1.seg) ((ptrS s seg a).1.off)).1.off)))).1.ptrs), .int .i64 ((bndS s (objP ((ptrS s ((ptrS s seg a).1.seg) ((ptrS s seg a).1.off)).1) ((ptrS s seg a).1.seg) ((((ptrS s seg a).1.off) + 1) + ((ptrS s ((ptrS s seg a).1.seg) ((ptrS s seg a).1.off)).1.off)))).1.size), .int .i64 ((bndS s (objP ((ptrS s ((ptrS s seg a).1.seg) ((ptrS s seg a).1.off)).1) ((ptrS s seg a).1.seg) ((((ptrS s seg a).1.off) + 1) + ((ptrS s ((ptrS s seg a).1.seg) ((ptrS s seg a).1.off)).1.off)))).1.count)]) rfl rfl qX)
      apply zK3 (hm := by rfl)
      ·intro w_ g_; exact og rfl (zB7 (v := .int .i64 ((bndS s (objP ((ptrS s ((ptrS s seg a).1.seg) ((ptrS s seg a).1.off)).1) ((ptrS s seg a).1.seg) ((((ptrS s seg a).1.off) + 1) + ((ptrS s ((ptrS s seg a).1.seg) ((ptrS s seg a).1.off)).1.off)))).2)) rfl rfl qX)
      refine jB0 (fun w_ v_ => ∃ b cs, v_ = .pointer (some ⟨b, 0, none⟩) ∧ w99.heap.size ≤ b ∧ cs.size = 7 ∧ w_.heap[b]? = some (.cells cs 112 (0, 0))) (fun _ _ _ g_ ⟨b, cs, h1_, h2_, h3_, h4_⟩ => by obtain ⟨cs2, h5_, h6_⟩ := KtP.new g_ b cs h4_; exact ⟨b, cs2, h1_, h2_, h5_.trans h3_, h6_⟩) (by rfl) ?_ ?_
      ·intro w_ g_
       refine og rfl ?_
       refine zB0 ?_
       intro b_ w2_ hb_ hc_ g2_
       exact ⟨g2_, b_, _, rfl, Nat.le_trans (kb_hsz104 _ g_) hb_, rfl, hc_⟩
      apply yR7 0 (hm := by rfl)
      ·intro w_ g_
       intro v15_ hv15_
       intro s_
       show OpG _ _ _ _ _ _
       refine og rfl ?_
       obtain ⟨b_, cs_, rfl, hge_, hsz_, hb_⟩ := hv15_
       refine zO9 rfl rfl hb_ (by rfl) hsz_ (by rfl) ?_
       intro w2_ s2_ u_
       exact ⟨KtP.of_upd u_ hge_ hb_ s2_ hsz_.symm, ⟨b_, rfl, hge_, s2_⟩, rfl⟩
      refine yR8 ?_
      intro w107 g108
      replace k0_ := ((ktR 112 w99.heap.size).tr k0_ g108)
      replace hc4 := kb_hc4 _ g108
      clear kb_hc4
      replace hc10 := kb_hc10 _ g108
      clear kb_hc10
      replace hc22 := kb_hc22 _ g108
      clear kb_hc22
      replace hc89 := kb_hc89 _ g108
      clear kb_hc89
      replace hsz104 := kb_hsz104 _ g108
      clear kb_hsz104
      replace G := kb_G _ g108
      clear kb_G
      intro v_x104 hv_x104
      rintro ⟨bx104, hbe104, hge104, hc104⟩
      have hbv104 : v_x104 = .pointer (some ⟨bx104, 0, none⟩) := hbe104
      subst hbv104
      clear hv_x104 hbe104
      have hgx104 := Nat.le_trans hgz104 hge104
      refine qZ 6 ?_
      refine stn (qS hc10 ?_)
      intro w109 hc110 u111
      replace hc4 := u111.heap hc4 ne13
      replace hc22 := u111.heap hc22 ne27.symm
      replace hc89 := u111.heap hc89 ne94.symm
      replace hc104 := u111.heap hc104 (Nat.ne_of_lt (Nat.lt_of_lt_of_le ltf104_hc10 hge104)).symm
      replace G := G.upd u111 hge12
      clear u111 hc10
      refine qZ 3 ?_
      refine ret2 (zA9 rfl hc110 (by rfl)) (zA1 (v := .int .i64 ((bndS s (objP ((ptrS s ((ptrS s seg a).1.seg) ((ptrS s seg a).1.off)).1) ((ptrS s seg a).1.seg) ((((ptrS s seg a).1.off) + 1) + ((ptrS s ((ptrS s seg a).1.seg) ((ptrS s seg a).1.off)).1.off)))).2)) rfl) ⟨?_, G⟩
      have h9 : zA0 s seg a = bndS s (objP (ptrS s (ptrS s seg a).1.seg (ptrS s seg a).1.off).1 (ptrS s seg a).1.seg ((ptrS s seg a).1.off + 1 + (ptrS s (ptrS s seg a).1.seg (ptrS s seg a).1.off).1.off)) := by unfold zA0; rw [if_neg h1n, if_neg (by simp [h2]), if_neg (by simp [h3])]; unfold zD9; rw [if_neg h4, if_neg (by simpa using h5), qY2]
      rw [h9]
set_option maxHeartbeats 2000000 in
theorem yD7 : ∀ (n_ : Nat) (w : World) {ada adh : Option Addr} {na ca nh ch : Nat} {b : Bool} {A : List (List Int)} {s : Src} (H : SrcR Tryz.prog 72 w (.slice ada na ca) b (.slice adh nh ch) A s) {seg a paid : Int} (g1 : inR .i64 seg) (a0 : 0 ≤ a) (a1 : a ≤ 140737488455328) (hp0 : 0 ≤ paid) (hp1 : paid ≤ 8192) {d : Nat} (hd : d ≤ 32), d + 1 ≤ n_ → Calls Tryz.prog 37 #[.agg #[.slice ada na ca, .bool b, .slice adh nh ch, .int .i64 paid, .int .i64 0], .int .i64 seg, .int .i64 a, .int .i64 (32 - (d : Int))] w (Ret fun v w' => ∃ pd9 cells t9, v = .tuple #[.agg #[.slice ada na ca, .bool b, .slice adh nh ch, .int .i64 pd9, .int .i64 (zG3 s d seg a paid).2.2], .agg cells.toArray] ∧ NodeR (hide w.heap.size w') cells t9 ∧ ((zG3 s d seg a paid).2.2 = 0 → pd9 = (zG3 s d seg a paid).1 ∧ t9 = (zG3 s d seg a paid).2.1) ∧ Grow w w') := by
 intro n_
 induction n_ with
 | zero => intro w ada adh na ca nh ch b A s H seg a paid g1 a0 a1 hp0 hp1 d hd hm_; exact absurd hm_ (by have := Nat.succ_pos d; omega)
 | succ n_ ih_ =>
 intro w ada adh na ca nh ch b A s H seg a paid g1 a0 a1 hp0 hp1 d hd hm_
 have g1' := g1
 simp only [inR] at g1
 have hor := H.follow_range seg a
 have hok := zU8 s seg a
 obtain ⟨hw0, hw1⟩ := zK8 hor
 obtain ⟨rk, rs, ra, rd, rp, rz, rc⟩ := hor
 have hls := yX9 hok
 have hun : ∀ seg a : Int, inR .u64 (s.word seg a).1 := fun seg a => ⟨(H.num seg a).1, (H.num seg a).2.1⟩
 obtain ⟨er1, er2, er3⟩ := @yS7 s d seg a paid
 have G := Grow.rfl' w
 refine zC0 Tryz.func37 Tryz.ntmps37 Tryz.results37 rfl rfl ?_
 refine qZ 2 ?_
 refine stp ?_
 refine qC ?_
 intro b1 w2 hb3 hc4 g5
 have hge6 := Nat.le_trans G.size hb3
 replace G := G.tr g5
 clear g5 hb3
 refine stp (zB0 ?_)
 intro b7 w8 hb9 hc10 g11
 have hge12 := Nat.le_trans G.size hb9
 have ne13 := qN hc4 hb9
 replace hc4 := g11.heap hc4
 replace G := G.tr g11
 clear g11 hb9
 refine stp (zB0 ?_)
 intro b14 w15 hb16 hc17 g18
 refine qZ 4 ?_
 have hge19 := Nat.le_trans G.size hb16
 have ne20 := qN hc4 hb16
 have ne21 := qN hc10 hb16
 replace hc4 := g18.heap hc4
 replace hc10 := g18.heap hc10
 replace G := G.tr g18
 clear g18 hb16
 refine stp (zG5 rfl hc4 (by rfl) (by rfl) ?_)
 refine qZ 2 ?_
 refine stp (zA4 (v := .tuple #[.agg #[.int .i64 ((zA0 s seg a).1.kind), .int .i64 ((zA0 s seg a).1.seg), .int .i64 ((zA0 s seg a).1.at_), .int .i64 ((zA0 s seg a).1.data), .int .i64 ((zA0 s seg a).1.ptrs), .int .i64 ((zA0 s seg a).1.size), .int .i64 ((zA0 s seg a).1.count)], .int .i64 ((zA0 s seg a).2)]) rfl (qT9 _ (H.grow G) seg a g1' (by simp only [inR]; omega)) ?_)
 intro w22 g23
 replace hc4 := g23.heap hc4
 replace hc10 := g23.heap hc10
 replace hc17 := g23.heap hc17
 replace G := G.tr g23
 clear g23
 refine qZ 3 ?_
 refine stp (zB0 ?_)
 intro b24 w25 hb26 hc27 g28
 refine stn (qS hc27 ?_)
 intro w29 hc30 u31
 have g32 := g28.upd u31 hb26
 have hge33 := Nat.le_trans G.size hb26
 have ne34 := qN hc4 hb26
 have ne35 := qN hc10 hb26
 have ne36 := qN hc17 hb26
 replace hc4 := g32.heap hc4
 replace hc10 := g32.heap hc10
 replace hc17 := g32.heap hc17
 replace G := G.tr g32
 clear u31 g28 hb26 hc27
 refine qZ 6 ?_
 refine stp (zD5 rfl rfl ?_)
 refine qZ 1 ?_
 refine qG 2 ?_
 refine zA3 (zB3 (s := .bool _) (v := .bool (decide (((zA0 s seg a).1.kind) ≠ 0))) rfl (zE5 _) (fun hc39 => ?_) ?_)
 ·
  have hc39_ := qT hc39
  refine zH4 (gvt hc39) rfl ?_
  exact ⟨rfl, rfl⟩
 refine stp (zG6 rfl rfl rfl ?_)
 refine qZ 1 ?_
 refine qG 1 ?_
 refine zA3 (zB3 (s := .bool _) (v := .bool (decide ((32 - (d : Int)) ≥ 32))) rfl (zE5 _) (fun hc41 => ?_) ?_)
 ·
  obtain ⟨hc41a, hc41b⟩ := and_t hc41
  have hc41a_ := qT hc41a
  have hc41b_ := qT hc41b
  refine zY6 (gvt hc41) rfl ?_
  exact ⟨rfl, rfl⟩
 refine stp (zG6 rfl rfl rfl ?_)
 refine zA6 ?_
 refine zA2 (b := (((decide (((zA0 s seg a).2) = 0)) && (decide (((zA0 s seg a).1.kind) ≠ 0))) && (decide ((32 - (d : Int)) ≥ 32)))) rfl (fun h1 => ?_) (fun h1 => ?_)
 ·
  simp only [sb] at h1
  have h1a : (zA0 s seg a).2 = 0 := by omega
  have h1b : (zA0 s seg a).1.kind ≠ 0 := by omega
  have h1c : d = 0 := by omega
  refine qZ 4 ?_
  refine zJ5 6 [[], [0], [], [0], [1, 0], [4, 3, 2, 1, 0]] mixed (by kernel_rfl) (by kernel_rfl) (by kernel_rfl) ?_
  intro w42 g43
  replace hc4 := g43.heap hc4
  replace hc10 := g43.heap hc10
  replace hc17 := g43.heap hc17
  replace hc30 := g43.heap hc30
  replace G := G.tr g43
  clear g43
  refine qA 3 ?_
  apply zA5
  ·intro w_ g_; refine og rfl ?_; exact zA4 (v := .int .i64 (zD3 (zA0 s seg a).1)) rfl (qG1 _ (zA0 s seg a).1) (fun w2_ g2_ => ⟨g2_, rfl⟩)
  apply zA5
  ·intro w_ g_; refine og rfl ?_; refine zB8 rfl rfl ?_ ?_; constructor <;> omega; exact qX
  apply zA5
  ·intro w_ g_; refine og rfl ?_; refine zB8 rfl rfl ?_ ?_; constructor <;> omega; exact qX
  refine zG4 ?_
  intro w44 g45
  replace hc4 := g45.heap hc4
  replace hc10 := g45.heap hc10
  replace hc17 := g45.heap hc17
  replace hc30 := g45.heap hc30
  replace G := G.tr g45
  clear g45
  refine qZ 1 ?_
  refine stn (zB9 (v := .int .i64 (paid + (1 + (zD3 (zA0 s seg a).1)))) rfl rfl (by rfl) hc4 (by rfl) (by rfl) ?_)
  intro w46 hc47 u48
  replace hc10 := u48.heap hc10 ne13.symm
  replace hc17 := u48.heap hc17 ne20.symm
  replace hc30 := u48.heap hc30 ne34.symm
  replace G := G.upd u48 hge6
  clear u48 hc4
  refine qZ 5 ?_
  refine stp (qL5 rfl rfl (by decide) ?_)
  refine qZ 1 ?_
  refine zA3 (zE8 rfl ?_)
  refine zA3 (zE8 rfl ?_)
  refine zA3 (zE8 rfl ?_)
  refine stp (zI5 (v := .bool false) rfl rfl rfl ?_)
  refine zA6 ?_
  refine zJ4 rfl ?_
  refine qZ 5 ?_
  refine stp (yB5 rfl rfl (by decide) ?_)
  refine zA6 ?_
  refine zL4 rfl ?_
  refine qZ 4 ?_
  refine stn (zB9 (v := .int .i64 21) rfl rfl (by rfl) hc47 (by rfl) (by rfl) ?_)
  intro w49 hc50 u51
  replace hc10 := u51.heap hc10 ne13.symm
  replace hc17 := u51.heap hc17 ne20.symm
  replace hc30 := u51.heap hc30 ne34.symm
  replace G := G.upd u51 hge6
  clear u51 hc47
  refine qZ 4 ?_
  refine stp (zA7 (v := .agg #[.int .i64 0, .int .i64 0, .slice none 0 0, .slice none 0 0, .slice none 0 0]) (fun w => by kernel_rfl) ?_)
  refine stn (qS hc10 ?_)
  intro w52 hc53 u54
  replace hc17 := u54.heap hc17 ne21.symm
  replace hc30 := u54.heap hc30 ne35.symm
  replace hc50 := u54.heap hc50 ne13
  replace G := G.upd u54 hge12
  clear u54 hc10
  refine stn (qS hc17 ?_)
  intro w55 hc56 u57
  replace hc30 := u57.heap hc30 ne36.symm
  replace hc50 := u57.heap hc50 ne20
  replace hc53 := u57.heap hc53 ne21
  replace G := G.upd u57 hge19
  clear u57 hc17
  refine qZ 2 ?_
  have h9 : (zG3 s d seg a paid).2.2 = 21 := er2 h1a h1b h1c
  rw [h9]
  refine ret2 (zA9 rfl hc53 (by rfl)) (zA9 rfl hc56 (by rfl)) ⟨_, [_, _, _, _, _], .nil, rfl, NodeR.zero _, fun h_ => by first | exact absurd (show (21 : Int) = 0 from h_) (by decide) | omega, G⟩
 ·
  simp only [sb] at h1
  have h2n : (zA0 s seg a).2 = 0 → ¬ ((zA0 s seg a).1.kind ≠ 0 ∧ (d == 0) = true) := fun he_ h_ => by have := eq_of_beq h_.2; have := h_.1; omega
  refine qZ 2 ?_
  refine zJ5 6 [[], [0], [], [0], [1, 0], [4, 3, 2, 1, 0]] mixed (by kernel_rfl) (by kernel_rfl) (by kernel_rfl) ?_
  intro w58 g59
  replace hc4 := g59.heap hc4
  replace hc10 := g59.heap hc10
  replace hc17 := g59.heap hc17
  replace hc30 := g59.heap hc30
  replace G := G.tr g59
  clear g59
  refine qA 3 ?_
  apply zA5
  ·intro w_ g_; refine og rfl ?_; exact zA4 (v := .int .i64 (zD3 (zA0 s seg a).1)) rfl (qG1 _ (zA0 s seg a).1) (fun w2_ g2_ => ⟨g2_, rfl⟩)
  apply zA5
  ·intro w_ g_; refine og rfl ?_; refine zB8 rfl rfl ?_ ?_; constructor <;> omega; exact qX
  apply zA5
  ·intro w_ g_; refine og rfl ?_; refine zB8 rfl rfl ?_ ?_; constructor <;> omega; exact qX
  refine zG4 ?_
  intro w60 g61
  replace hc4 := g61.heap hc4
  replace hc10 := g61.heap hc10
  replace hc17 := g61.heap hc17
  replace hc30 := g61.heap hc30
  replace G := G.tr g61
  clear g61
  refine qZ 1 ?_
  refine stn (zB9 (v := .int .i64 (paid + (1 + (zD3 (zA0 s seg a).1)))) rfl rfl (by rfl) hc4 (by rfl) (by rfl) ?_)
  intro w62 hc63 u64
  replace hc10 := u64.heap hc10 ne13.symm
  replace hc17 := u64.heap hc17 ne20.symm
  replace hc30 := u64.heap hc30 ne34.symm
  replace G := G.upd u64 hge6
  clear u64 hc4
  refine qZ 5 ?_
  refine stp (zD5 rfl rfl ?_)
  refine qZ 1 ?_
  refine qG 2 ?_
  refine zA3 (zB3 (s := .bool _) (v := .bool (decide ((paid + (1 + (zD3 (zA0 s seg a).1))) > 8192))) rfl (zE5 _) (fun hc67 => ?_) ?_)
  ·
   have hc67_ := qT hc67
   refine zO4 (gvt hc67) rfl ?_
   exact ⟨rfl, rfl⟩
  refine stp (zG6 rfl rfl rfl ?_)
  refine zA6 ?_
  refine zA2 (b := ((decide (((zA0 s seg a).2) = 0)) && (decide ((paid + (1 + (zD3 (zA0 s seg a).1))) > 8192)))) rfl (fun h2 => ?_) (fun h2 => ?_)
  ·
   simp only [sb] at h2
   have h2a : (zA0 s seg a).2 = 0 := by omega
   refine qZ 7 ?_
   refine stp (yB5 rfl rfl (by decide) ?_)
   refine zA6 ?_
   refine zL4 rfl ?_
   refine qZ 4 ?_
   refine stn (zB9 (v := .int .i64 22) rfl rfl (by rfl) hc63 (by rfl) (by rfl) ?_)
   intro w68 hc69 u70
   replace hc10 := u70.heap hc10 ne13.symm
   replace hc17 := u70.heap hc17 ne20.symm
   replace hc30 := u70.heap hc30 ne34.symm
   replace G := G.upd u70 hge6
   clear u70 hc63
   refine qZ 4 ?_
   refine stp (zA7 (v := .agg #[.int .i64 0, .int .i64 0, .slice none 0 0, .slice none 0 0, .slice none 0 0]) (fun w => by kernel_rfl) ?_)
   refine stn (qS hc10 ?_)
   intro w71 hc72 u73
   replace hc17 := u73.heap hc17 ne21.symm
   replace hc30 := u73.heap hc30 ne35.symm
   replace hc69 := u73.heap hc69 ne13
   replace G := G.upd u73 hge12
   clear u73 hc10
   refine stn (qS hc17 ?_)
   intro w74 hc75 u76
   replace hc30 := u76.heap hc30 ne36.symm
   replace hc69 := u76.heap hc69 ne20
   replace hc72 := u76.heap hc72 ne21
   replace G := G.upd u76 hge19
   clear u76 hc17
   refine qZ 2 ?_
   have h9 : (zG3 s d seg a paid).2.2 = 22 := er3 h2a (h2n h2a) (by omega)
   rw [h9]
   refine ret2 (zA9 rfl hc72 (by rfl)) (zA9 rfl hc75 (by rfl)) ⟨_, [_, _, _, _, _], .nil, rfl, NodeR.zero _, fun h_ => by first | exact absurd (show (22 : Int) = 0 from h_) (by decide) | omega, G⟩
  ·
   simp only [sb] at h2
   refine qZ 5 ?_
   refine stp (zH4 rfl rfl ?_)
   refine zA6 ?_
   refine zA2 (b := (decide (((zA0 s seg a).2) ≠ 0))) rfl (fun h3 => ?_) (fun h3 => ?_)
   ·
    replace h3 := qT h3
    refine qZ 4 ?_
    refine stn (zB9 (v := .int .i64 ((zA0 s seg a).2)) rfl rfl (by rfl) hc63 (by rfl) (by rfl) ?_)
    intro w77 hc78 u79
    replace hc10 := u79.heap hc10 ne13.symm
    replace hc17 := u79.heap hc17 ne20.symm
    replace hc30 := u79.heap hc30 ne34.symm
    replace G := G.upd u79 hge6
    clear u79 hc63
    refine qZ 4 ?_
    refine stp (zA7 (v := .agg #[.int .i64 0, .int .i64 0, .slice none 0 0, .slice none 0 0, .slice none 0 0]) (fun w => by kernel_rfl) ?_)
    refine stn (qS hc10 ?_)
    intro w80 hc81 u82
    replace hc17 := u82.heap hc17 ne21.symm
    replace hc30 := u82.heap hc30 ne35.symm
    replace hc78 := u82.heap hc78 ne13
    replace G := G.upd u82 hge12
    clear u82 hc10
    refine stn (qS hc17 ?_)
    intro w83 hc84 u85
    replace hc30 := u85.heap hc30 ne36.symm
    replace hc78 := u85.heap hc78 ne20
    replace hc81 := u85.heap hc81 ne21
    replace G := G.upd u85 hge19
    clear u85 hc17
    refine qZ 2 ?_
    have h9 : (zG3 s d seg a paid).2.2 = (zA0 s seg a).2 := er1 h3
    rw [h9]
    refine ret2 (zA9 rfl hc81 (by rfl)) (zA9 rfl hc84 (by rfl)) ⟨_, [_, _, _, _, _], .nil, rfl, NodeR.zero _, fun h_ => by first | exact absurd (show ((zA0 s seg a).2 : Int) = 0 from h_) (by decide) | omega, G⟩
   ·
    replace h3 := qF h3
    have h3n : ¬ (paid + (1 + zD3 (zA0 s seg a).1)) > 8192 := by omega
    replace h2n := h2n (by omega)
    obtain ⟨s1, s2, s3, s4, s5, s6⟩ := yI0 ⟨rk, rs, ra, rd, rp, rz, rc⟩ hok (by omega)
    refine qZ 7 ?_
    refine stp (zA7 (v := .agg #[.int .i64 ((zA0 s seg a).1.kind), .int .i64 ((zA0 s seg a).1.size), .slice none 0 0, .slice none 0 0, .slice none 0 0]) (fun w => by kernel_rfl) ?_)
    refine stp (zB0 ?_)
    intro b86 w87 hb88 hc89 g90
    refine stn (qS hc89 ?_)
    intro w91 hc92 u93
    have g94 := g90.upd u93 hb88
    have hge95 := Nat.le_trans G.size hb88
    have ne96 := qN hc10 hb88
    have ne97 := qN hc17 hb88
    have ne98 := qN hc30 hb88
    have ne99 := qN hc63 hb88
    replace hc10 := g94.heap hc10
    replace hc17 := g94.heap hc17
    replace hc30 := g94.heap hc30
    replace hc63 := g94.heap hc63
    replace G := G.tr g94
    clear u93 g90 hb88 hc89
    refine qZ 13 ?_
    have hk5 : (zA0 s seg a).1.size = 5 → (zA0 s seg a).1.kind = 2 := fun h_ => hls (.inl h_)
    have hk6 : (zA0 s seg a).1.size = 6 → (zA0 s seg a).1.kind = 2 := fun h_ => hls (.inr h_)
    clear er1 er2 er3 h1 h2 hls
    have hwn : 0 ≤ (if (zA0 s seg a).1.size = 5 then (zA0 s seg a).1.count else (zA0 s seg a).1.data) ∧ (if (zA0 s seg a).1.size = 5 then (zA0 s seg a).1.count else (zA0 s seg a).1.data) ≤ 8191 := by split <;> omega
    refine yG9 (fun e_ w_ => Fr [(3, .int .i64 (32 - (d : Int))), (4, .pointer (some ⟨b1, 0, none⟩)), (8, .pointer (some ⟨b7, 0, none⟩)), (9, .pointer (some ⟨b14, 0, none⟩)), (10, .pointer (some ⟨b24, 0, none⟩)), (12, .pointer (some ⟨b86, 0, none⟩)), (13, .int .i64 (if (zA0 s seg a).1.size = 5 then (zA0 s seg a).1.count else (zA0 s seg a).1.data)), (14, .int .i64 (kidN (zA0 s seg a).1))] e_ ∧ (w_.heap[b7]? = some (.cells #[.slice none 0 0, .bool false, .slice none 0 0, .int .i64 0, .int .i64 0] 90 (0, 0))) ∧ (w_.heap[b14]? = some (.cells #[.int .i64 0, .int .i64 0, .slice none 0 0, .slice none 0 0, .slice none 0 0] 48 (0, 0))) ∧ (w_.heap[b24]? = some (.cells #[.int .i64 ((zA0 s seg a).1.kind), .int .i64 ((zA0 s seg a).1.seg), .int .i64 ((zA0 s seg a).1.at_), .int .i64 ((zA0 s seg a).1.data), .int .i64 ((zA0 s seg a).1.ptrs), .int .i64 ((zA0 s seg a).1.size), .int .i64 ((zA0 s seg a).1.count)] 112 (0, 0))) ∧ (w_.heap[b1]? = some (.cells #[.slice ada na ca, .bool b, .slice adh nh ch, .int .i64 (paid + (1 + (zD3 (zA0 s seg a).1))), .int .i64 0] 90 (0, 0))) ∧ (w_.heap[b86]? = some (.cells #[.int .i64 ((zA0 s seg a).1.kind), .int .i64 ((zA0 s seg a).1.size), .slice none 0 0, .slice none 0 0, .slice none 0 0] 48 (0, 0))) ∧ Grow w w_) ?_ ?_
    ·-- the parts
     refine qZ 4 ?_
     refine stp (zD5 rfl rfl ?_)
     refine qZ 1 ?_
     refine qG 2 ?_
     refine zA3 (zB3 (s := .bool _) (v := .bool (decide (((zA0 s seg a).1.size) = 6))) rfl (zE5 _) (fun hc102 => ?_) ?_)
     ·
      have hc102_ := qT hc102
      refine zD5 (gvt hc102) rfl ?_
      exact ⟨rfl, rfl⟩
     refine stp (zG6 rfl rfl rfl ?_)
     refine zA6 ?_
     refine zA2 (b := ((decide (((zA0 s seg a).1.kind) = 2)) && (decide (((zA0 s seg a).1.size) = 6)))) rfl (fun h4 => ?_) (fun h4 => ?_)
     ·
      simp only [sb] at h4
      refine qZ 9 ?_
      refine stp (zD5 rfl rfl ?_)
      refine qZ 1 ?_
      refine qG 2 ?_
      refine zA3 (zB3 (s := .bool _) (v := .bool (decide (((zA0 s seg a).1.size) = 5))) rfl (zE5 _) (fun hc105 => ?_) ?_)
      ·
       have hc105_ := qT hc105
       refine zD5 (gvt hc105) rfl ?_
       exact ⟨rfl, rfl⟩
      refine stp (zG6 rfl rfl rfl ?_)
      refine zA6 ?_
      refine zA2 (b := ((decide (((zA0 s seg a).1.kind) = 2)) && (decide (((zA0 s seg a).1.size) = 5)))) rfl (fun h5 => ?_) (fun h5 => ?_)
      ·
       simp only [sb] at h5
       refine qZ 5 ?_
       exact ⟨zC8 ⟨rfl, rfl, rfl, rfl, rfl, rfl, congrArg (Value.int .i64) (by exfalso; omega), congrArg (Value.int .i64) (by exfalso; omega), trivial⟩, hc10, hc17, hc30, hc63, hc92, G⟩
      ·
       simp only [sb] at h5
       refine zP6 ?_
       exact ⟨zC8 ⟨rfl, rfl, rfl, rfl, rfl, rfl, congrArg (Value.int .i64) (by rw [if_neg (by omega)]), congrArg (Value.int .i64) (by unfold kidN; rw [if_pos (by omega)]), trivial⟩, hc10, hc17, hc30, hc63, hc92, G⟩
     ·
      simp only [sb] at h4
      refine qZ 5 ?_
      refine stp (zD5 rfl rfl ?_)
      refine qZ 1 ?_
      refine qG 2 ?_
      refine zA3 (zB3 (s := .bool _) (v := .bool (decide (((zA0 s seg a).1.size) = 5))) rfl (zE5 _) (fun hc108 => ?_) ?_)
      ·
       have hc108_ := qT hc108
       refine zD5 (gvt hc108) rfl ?_
       exact ⟨rfl, rfl⟩
      refine stp (zG6 rfl rfl rfl ?_)
      refine zA6 ?_
      refine zA2 (b := ((decide (((zA0 s seg a).1.kind) = 2)) && (decide (((zA0 s seg a).1.size) = 5)))) rfl (fun h5 => ?_) (fun h5 => ?_)
      ·
       simp only [sb] at h5
       refine qZ 5 ?_
       exact ⟨zC8 ⟨rfl, rfl, rfl, rfl, rfl, rfl, congrArg (Value.int .i64) (by rw [if_pos (by omega)]), congrArg (Value.int .i64) (by unfold kidN; rw [if_neg (by omega)]), trivial⟩, hc10, hc17, hc30, hc63, hc92, G⟩
      ·
       simp only [sb] at h5
       refine zP6 ?_
       exact ⟨zC8 ⟨rfl, rfl, rfl, rfl, rfl, rfl, congrArg (Value.int .i64) (by rw [if_neg (by omega)]), congrArg (Value.int .i64) (by unfold kidN; rw [if_neg (by omega)]), trivial⟩, hc10, hc17, hc30, hc63, hc92, G⟩
    ·-- behind them
     clear hc10 hc17 hc30 hc63 hc92
     clear G
     rintro e_ w109 ⟨⟨e110, rfl⟩, hc10, hc17, hc30, hc63, hc92, G⟩
     refine qZ 6 ?_
     obtain ⟨B0, hB0⟩ : ∃ B, B = w109.heap.size := ⟨_, rfl⟩
     have hwB0 : w.heap.size ≤ B0 := by rw [hB0]; exact G.size
     have hB0w : B0 ≤ w109.heap.size := by rw [hB0]; exact Nat.le_refl _
     have hl0_b1 : b1 < B0 := by rw [hB0]; exact zB2 hc63
     have hl0_b7 : b7 < B0 := by rw [hB0]; exact zB2 hc10
     have hl0_b14 : b14 < B0 := by rw [hB0]; exact zB2 hc17
     have hl0_b24 : b24 < B0 := by rw [hB0]; exact zB2 hc30
     have hl0_b86 : b86 < B0 := by rw [hB0]; exact zB2 hc92
     clear hB0
     refine zF6 (fun m_ e_ w_ => ∃ (m : Nat) (ad3 : Option Addr) (n3 : Nat) (c3 : Nat), m_ = (if (zA0 s seg a).1.size = 5 then (zA0 s seg a).1.count else (zA0 s seg a).1.data).toNat - m ∧ Fr [(3, .int .i64 (32 - (d : Int))), (4, .pointer (some ⟨b1, 0, none⟩)), (8, .pointer (some ⟨b7, 0, none⟩)), (9, .pointer (some ⟨b14, 0, none⟩)), (10, .pointer (some ⟨b24, 0, none⟩)), (12, .pointer (some ⟨b86, 0, none⟩)), (13, .int .i64 (if (zA0 s seg a).1.size = 5 then (zA0 s seg a).1.count else (zA0 s seg a).1.data)), (14, .int .i64 (kidN (zA0 s seg a).1)), (15, .int .i64 (m : Int))] e_ ∧ ((m : Int) ≤ (if (zA0 s seg a).1.size = 5 then (zA0 s seg a).1.count else (zA0 s seg a).1.data)) ∧ (w_.heap[b7]? = some (.cells #[.slice none 0 0, .bool false, .slice none 0 0, .int .i64 0, .int .i64 0] 90 (0, 0))) ∧ (w_.heap[b14]? = some (.cells #[.int .i64 0, .int .i64 0, .slice none 0 0, .slice none 0 0, .slice none 0 0] 48 (0, 0))) ∧ (w_.heap[b24]? = some (.cells #[.int .i64 ((zA0 s seg a).1.kind), .int .i64 ((zA0 s seg a).1.seg), .int .i64 ((zA0 s seg a).1.at_), .int .i64 ((zA0 s seg a).1.data), .int .i64 ((zA0 s seg a).1.ptrs), .int .i64 ((zA0 s seg a).1.size), .int .i64 ((zA0 s seg a).1.count)] 112 (0, 0))) ∧ (w_.heap[b1]? = some (.cells #[.slice ada na ca, .bool b, .slice adh nh ch, .int .i64 (paid + (1 + (zD3 (zA0 s seg a).1))), .int .i64 0] 90 (0, 0))) ∧ (B0 ≤ w_.heap.size) ∧ (w_.heap[b86]? = some (.cells #[.int .i64 ((zA0 s seg a).1.kind), .int .i64 ((zA0 s seg a).1.size), .slice ad3 n3 c3, .slice none 0 0, .slice none 0 0] 48 (0, 0))) ∧ (w_.ownsRow B0 23 1 (.slice ad3 n3 c3) m ((zM5 s (zA0 s seg a).1.seg (zA0 s seg a).1.at_ m).map (.int .u64))) ∧ Grow w w_) _ ⟨0, none, 0, 0, rfl, zC8 ⟨rfl, rfl, rfl, rfl, rfl, rfl, rfl, rfl, rfl, trivial⟩, by omega, hc10, hc17, hc30, hc63, hB0w, hc92, World.ownsRow_nil _ _ _ _, G⟩ ?_
     clear hc10 hc17 hc30 hc63 hc92 hB0w
     clear G
     rintro m_ e_ w111 ⟨m, ad3, n3, c3, rfl, ⟨e112, rfl⟩, hm, hc10, hc17, hc30, hc63, hB0w, hc92, own, G⟩
     refine qZ 5 ?_
     refine stp (zH1 rfl rfl ?_)
     refine zA6 ?_
     refine zA2 (b := (decide ((m : Int) < (if (zA0 s seg a).1.size = 5 then (zA0 s seg a).1.count else (zA0 s seg a).1.data)))) rfl (fun hlt => ?_) (fun hlt => ?_)
     ·
      replace hlt := qT hlt
      refine qZ 6 ?_
      refine stp (zG5 rfl hc63 (by rfl) (by rfl) ?_)
      refine qZ 5 ?_
      refine stp (zB8 rfl rfl ?_ ?_); constructor <;> omega
      refine stp (zA4 (v := .tuple #[.int .u64 ((s.word ((zA0 s seg a).1.seg) (((zA0 s seg a).1.at_) + (m : Int))).1), .int .i64 ((s.word ((zA0 s seg a).1.seg) (((zA0 s seg a).1.at_) + (m : Int))).2)]) rfl (H.word _ G ((zA0 s seg a).1.seg) (((zA0 s seg a).1.at_) + (m : Int)) (by simp only [inR]; omega) (by simp only [inR]; omega)) ?_)
      intro w113 g114
      replace hc10 := g114.heap hc10
      replace hc17 := g114.heap hc17
      replace hc30 := g114.heap hc30
      replace hc63 := g114.heap hc63
      replace hB0w := Nat.le_trans hB0w g114.size
      replace hc92 := g114.heap hc92
      replace own := zB6 own g114
      replace G := G.tr g114
      clear g114
      refine qZ 10 ?_
      refine stp (zB4 (cs := #[.int .u64 ((s.word ((zA0 s seg a).1.seg) (((zA0 s seg a).1.at_) + (m : Int))).1)]) (el := 23) (fun w => by kernel_rfl) ?_)
      intro bs115 w116 hb117 hc118 g119
      have hge120 := Nat.le_trans G.size hb117
      have ne121 := qN hc10 hb117
      have ne122 := qN hc17 hb117
      have ne123 := qN hc30 hb117
      have ne124 := qN hc63 hb117
      have ne125 := qN hc92 hb117
      replace hc10 := g119.heap hc10
      replace hc17 := g119.heap hc17
      replace hc30 := g119.heap hc30
      replace hc63 := g119.heap hc63
      replace hB0w := Nat.le_trans hB0w g119.size
      replace hc92 := g119.heap hc92
      replace own := zB6 own g119
      replace G := G.tr g119
      clear g119
      refine stp (zH3 rfl rfl rfl rfl own (Row.of_block (n := 1) hc118 rfl rfl (by omega)) (fun q_ hq_ => by simp at hq_; subst hq_; rfl) (by simp only [maxLen]; omega) (by omega) hB0w ?_)
      intro v126 w127 own6 gr6
      replace G := G.grown gr6 (fun k_ hk_ => Nat.le_trans hwB0 (zI0 own k_ hk_))
      replace hB0w := Nat.le_trans hB0w gr6.size
      replace hc10 := zF7 gr6 hc10 (zD2 own hc10 (by decide))
      replace hc17 := zF7 gr6 hc17 (zD2 own hc17 (by decide))
      replace hc30 := zF7 gr6 hc30 (zD2 own hc30 (by decide))
      replace hc63 := zF7 gr6 hc63 (zD2 own hc63 (by decide))
      replace hc92 := zF7 gr6 hc92 (zD2 own hc92 (by decide))
      clear own gr6
      obtain ⟨ad4, n4, c4, rfl⟩ := zE3 own6
      refine qZ 1 ?_
      refine stn (zB9 (v := .slice ad4 n4 c4) rfl rfl (by rfl) hc92 (by rfl) (by rfl) ?_)
      intro w128 hc129 u130
      replace hc10 := u130.heap hc10 ne96
      replace hc17 := u130.heap hc17 ne97
      replace hc30 := u130.heap hc30 ne98
      replace hc63 := u130.heap hc63 ne99
      replace hB0w := Nat.le_trans hB0w (Nat.le_of_eq u130.size.symm)
      replace own6 := zE2 own6 u130 (zD2 own6 hc92 (by decide))
      replace G := G.upd u130 hge95
      clear u130 hc92
      refine qZ 3 ?_
      refine stp (zB8 rfl rfl ?_ ?_); constructor <;> omega
      refine qZ 2 ?_
      refine ⟨_, ?_, m + 1, ad4, n4, c4, rfl, zC8 ⟨rfl, rfl, rfl, rfl, rfl, rfl, rfl, rfl, congrArg (Value.int .i64) (by omega), trivial⟩, by omega, hc10, hc17, hc30, hc63, hB0w, hc129, (by rw [qM8, List.map_append]; exact own6), G⟩
      omega
     ·
      replace hlt := qF hlt
      have hm9 : m = (if (zA0 s seg a).1.size = 5 then (zA0 s seg a).1.count else (zA0 s seg a).1.data).toNat := by omega
      rw [hm9] at own
      refine qZ 7 ?_
      refine zF6 (fun m_ e_ w_ => ∃ (i : Nat) (ad5 : Option Addr) (n5 : Nat) (c5 : Nat), m_ = (zA0 s seg a).1.count.toNat - i ∧ Fr [(3, .int .i64 (32 - (d : Int))), (4, .pointer (some ⟨b1, 0, none⟩)), (8, .pointer (some ⟨b7, 0, none⟩)), (9, .pointer (some ⟨b14, 0, none⟩)), (10, .pointer (some ⟨b24, 0, none⟩)), (12, .pointer (some ⟨b86, 0, none⟩)), (13, .int .i64 (if (zA0 s seg a).1.size = 5 then (zA0 s seg a).1.count else (zA0 s seg a).1.data)), (14, .int .i64 (kidN (zA0 s seg a).1)), (18, .int .i64 (i : Int))] e_ ∧ ((i : Int) ≤ (zA0 s seg a).1.count) ∧ (i = 0 ∨ (zA0 s seg a).1.size = 2) ∧ (w_.heap[b7]? = some (.cells #[.slice none 0 0, .bool false, .slice none 0 0, .int .i64 0, .int .i64 0] 90 (0, 0))) ∧ (w_.heap[b14]? = some (.cells #[.int .i64 0, .int .i64 0, .slice none 0 0, .slice none 0 0, .slice none 0 0] 48 (0, 0))) ∧ (w_.heap[b24]? = some (.cells #[.int .i64 ((zA0 s seg a).1.kind), .int .i64 ((zA0 s seg a).1.seg), .int .i64 ((zA0 s seg a).1.at_), .int .i64 ((zA0 s seg a).1.data), .int .i64 ((zA0 s seg a).1.ptrs), .int .i64 ((zA0 s seg a).1.size), .int .i64 ((zA0 s seg a).1.count)] 112 (0, 0))) ∧ (w_.heap[b1]? = some (.cells #[.slice ada na ca, .bool b, .slice adh nh ch, .int .i64 (paid + (1 + (zD3 (zA0 s seg a).1))), .int .i64 0] 90 (0, 0))) ∧ (B0 ≤ w_.heap.size) ∧ (w_.ownsRow B0 23 1 (.slice ad3 n3 c3) ((if (zA0 s seg a).1.size = 5 then (zA0 s seg a).1.count else (zA0 s seg a).1.data).toNat) ((zM5 s (zA0 s seg a).1.seg (zA0 s seg a).1.at_ ((if (zA0 s seg a).1.size = 5 then (zA0 s seg a).1.count else (zA0 s seg a).1.data).toNat)).map (.int .u64))) ∧ (w_.heap[b86]? = some (.cells #[.int .i64 ((zA0 s seg a).1.kind), .int .i64 ((zA0 s seg a).1.size), .slice ad3 n3 c3, .slice ad5 n5 c5, .slice none 0 0] 48 (0, 0))) ∧ (w_.ownsRow B0 5 1 (.slice ad5 n5 c5) i ((zY4 s (zA0 s seg a).1.seg (zA0 s seg a).1.at_ i).map (.int .u8))) ∧ Grow w w_) _ ⟨0, none, 0, 0, rfl, zC8 ⟨rfl, rfl, rfl, rfl, rfl, rfl, rfl, rfl, rfl, trivial⟩, by omega, .inl rfl, hc10, hc17, hc30, hc63, hB0w, own, hc92, World.ownsRow_nil _ _ _ _, G⟩ ?_
      clear hc10 hc17 hc30 hc63 hB0w hc92 own
      clear G
      rintro m_ e_ w131 ⟨i, ad5, n5, c5, rfl, ⟨e132, rfl⟩, hi, hi2, hc10, hc17, hc30, hc63, hB0w, own, hc92, ownb, G⟩
      refine qZ 6 ?_
      refine stp (zH1 rfl rfl ?_)
      refine qZ 1 ?_
      refine qG 2 ?_
      refine zA3 (zB3 (s := .bool _) (v := .bool (decide (((zA0 s seg a).1.size) = 2))) rfl (zE5 _) (fun hc135 => ?_) ?_)
      ·
       have hc135_ := qT hc135
       refine zD5 (gvt hc135) rfl ?_
       exact ⟨rfl, rfl⟩
      refine stp (zG6 rfl rfl rfl ?_)
      refine zA6 ?_
      refine zA2 (b := ((decide ((i : Int) < ((zA0 s seg a).1.count))) && (decide (((zA0 s seg a).1.size) = 2)))) rfl (fun hlt => ?_) (fun hlt => ?_)
      ·
       simp only [sb] at hlt
       have hx := hun (zA0 s seg a).1.seg ((zA0 s seg a).1.at_ + (i : Int) / 8)
       simp only [inR] at hx
       refine qZ 6 ?_
       refine stp (zG5 rfl hc63 (by rfl) (by rfl) ?_)
       refine qZ 5 ?_
       refine stp (qE5 rfl rfl ?_ ?_ ?_ ?_); omega; omega; (constructor <;> omega)
       refine stp (zB8 rfl rfl ?_ ?_); constructor <;> omega
       refine stp (zA4 (v := .tuple #[.int .u64 ((s.word ((zA0 s seg a).1.seg) (((zA0 s seg a).1.at_) + ((i : Int) / 8))).1), .int .i64 ((s.word ((zA0 s seg a).1.seg) (((zA0 s seg a).1.at_) + ((i : Int) / 8))).2)]) rfl (H.word _ G ((zA0 s seg a).1.seg) (((zA0 s seg a).1.at_) + ((i : Int) / 8)) (by simp only [inR]; omega) (by simp only [inR]; omega)) ?_)
       intro w136 g137
       replace hc10 := g137.heap hc10
       replace hc17 := g137.heap hc17
       replace hc30 := g137.heap hc30
       replace hc63 := g137.heap hc63
       replace hB0w := Nat.le_trans hB0w g137.size
       replace own := zB6 own g137
       replace hc92 := g137.heap hc92
       replace ownb := zB6 ownb g137
       replace G := G.tr g137
       clear g137
       refine qZ 12 ?_
       refine zF6 (fun m_ e_ w_ => ∃ (q : Nat), m_ = i % 8 - q ∧ Fr [(3, .int .i64 (32 - (d : Int))), (4, .pointer (some ⟨b1, 0, none⟩)), (8, .pointer (some ⟨b7, 0, none⟩)), (9, .pointer (some ⟨b14, 0, none⟩)), (10, .pointer (some ⟨b24, 0, none⟩)), (12, .pointer (some ⟨b86, 0, none⟩)), (13, .int .i64 (if (zA0 s seg a).1.size = 5 then (zA0 s seg a).1.count else (zA0 s seg a).1.data)), (14, .int .i64 (kidN (zA0 s seg a).1)), (18, .int .i64 (i : Int)), (21, .int .i64 (q : Int)), (19, .int .u64 ((s.word (zA0 s seg a).1.seg ((zA0 s seg a).1.at_ + (i : Int) / 8)).1 / 2 ^ (8 * q)))] e_ ∧ (q ≤ i % 8) ∧ (w_.heap[b7]? = some (.cells #[.slice none 0 0, .bool false, .slice none 0 0, .int .i64 0, .int .i64 0] 90 (0, 0))) ∧ (w_.heap[b14]? = some (.cells #[.int .i64 0, .int .i64 0, .slice none 0 0, .slice none 0 0, .slice none 0 0] 48 (0, 0))) ∧ (w_.heap[b24]? = some (.cells #[.int .i64 ((zA0 s seg a).1.kind), .int .i64 ((zA0 s seg a).1.seg), .int .i64 ((zA0 s seg a).1.at_), .int .i64 ((zA0 s seg a).1.data), .int .i64 ((zA0 s seg a).1.ptrs), .int .i64 ((zA0 s seg a).1.size), .int .i64 ((zA0 s seg a).1.count)] 112 (0, 0))) ∧ (w_.heap[b1]? = some (.cells #[.slice ada na ca, .bool b, .slice adh nh ch, .int .i64 (paid + (1 + (zD3 (zA0 s seg a).1))), .int .i64 0] 90 (0, 0))) ∧ (B0 ≤ w_.heap.size) ∧ (w_.ownsRow B0 23 1 (.slice ad3 n3 c3) ((if (zA0 s seg a).1.size = 5 then (zA0 s seg a).1.count else (zA0 s seg a).1.data).toNat) ((zM5 s (zA0 s seg a).1.seg (zA0 s seg a).1.at_ ((if (zA0 s seg a).1.size = 5 then (zA0 s seg a).1.count else (zA0 s seg a).1.data).toNat)).map (.int .u64))) ∧ (w_.heap[b86]? = some (.cells #[.int .i64 ((zA0 s seg a).1.kind), .int .i64 ((zA0 s seg a).1.size), .slice ad3 n3 c3, .slice ad5 n5 c5, .slice none 0 0] 48 (0, 0))) ∧ (w_.ownsRow B0 5 1 (.slice ad5 n5 c5) i ((zY4 s (zA0 s seg a).1.seg (zA0 s seg a).1.at_ i).map (.int .u8))) ∧ Grow w w_) _ ⟨0, rfl, zC8 ⟨rfl, rfl, rfl, rfl, rfl, rfl, rfl, rfl, rfl, rfl, congrArg (Value.int .u64) (by simp), trivial⟩, by omega, hc10, hc17, hc30, hc63, hB0w, own, hc92, ownb, G⟩ ?_
       clear hc10 hc17 hc30 hc63 hB0w own hc92 ownb
       clear G
       rintro m_ e_ w138 ⟨q, rfl, ⟨e139, rfl⟩, hq, hc10, hc17, hc30, hc63, hB0w, own, hc92, ownb, G⟩
       have hxq := yS2 (s.word (zA0 s seg a).1.seg ((zA0 s seg a).1.at_ + (i : Int) / 8)).1 q hx.1 hx.2
       refine qZ 5 ?_
       refine stp (zR2 rfl rfl ?_ ?_ ?_); omega; omega
       refine stp (zH1 rfl rfl ?_)
       refine zA6 ?_
       refine zA2 (b := (decide ((q : Int) < ((i : Int) % 8)))) rfl (fun hlq => ?_) (fun hlq => ?_)
       ·
        replace hlq := qT hlq
        refine qZ 5 ?_
        refine stp (qE5 rfl rfl ?_ ?_ ?_ ?_); omega; omega; (constructor <;> omega)
        refine qZ 4 ?_
        refine stp (zB8 rfl rfl ?_ ?_); constructor <;> omega
        refine qZ 2 ?_
        refine ⟨_, ?_, q + 1, rfl, zC8 ⟨rfl, rfl, rfl, rfl, rfl, rfl, rfl, rfl, rfl, congrArg (Value.int .i64) (by omega), congrArg (Value.int .u64) (yX8 _ q), trivial⟩, by omega, hc10, hc17, hc30, hc63, hB0w, own, hc92, ownb, G⟩
        omega
       ·
        replace hlq := qF hlq
        have hq9 : q = i % 8 := by omega
        refine qZ 5 ?_
        refine stp (zR2 rfl rfl ?_ ?_ ?_); omega; omega
        refine stp (zG1 rfl ?_ ?_); constructor <;> omega
        refine stp (zB4 (cs := #[.int .u8 (((s.word (zA0 s seg a).1.seg ((zA0 s seg a).1.at_ + (i : Int) / 8)).1 / 2 ^ (8 * q)) % 256)]) (el := 5) (fun w => by kernel_rfl) ?_)
        intro bs140 w141 hb142 hc143 g144
        have hge145 := Nat.le_trans G.size hb142
        have ne146 := qN hc10 hb142
        have ne147 := qN hc17 hb142
        have ne148 := qN hc30 hb142
        have ne149 := qN hc63 hb142
        have ne150 := qN hc92 hb142
        replace hc10 := g144.heap hc10
        replace hc17 := g144.heap hc17
        replace hc30 := g144.heap hc30
        replace hc63 := g144.heap hc63
        replace hB0w := Nat.le_trans hB0w g144.size
        replace own := zB6 own g144
        replace hc92 := g144.heap hc92
        replace ownb := zB6 ownb g144
        replace G := G.tr g144
        clear g144
        refine stp (zH3 rfl rfl rfl rfl ownb (Row.of_block (n := 1) hc143 rfl rfl (by omega)) (fun q_ hq_ => by simp at hq_; subst hq_; rfl) (by simp only [maxLen]; omega) (by omega) hB0w ?_)
        intro v151 w152 own6 gr6
        replace G := G.grown gr6 (fun k_ hk_ => Nat.le_trans hwB0 (zI0 ownb k_ hk_))
        replace hB0w := Nat.le_trans hB0w gr6.size
        replace hc10 := zF7 gr6 hc10 (zD2 ownb hc10 (by decide))
        replace hc17 := zF7 gr6 hc17 (zD2 ownb hc17 (by decide))
        replace hc30 := zF7 gr6 hc30 (zD2 ownb hc30 (by decide))
        replace hc63 := zF7 gr6 hc63 (zD2 ownb hc63 (by decide))
        replace own := qM2 own ownb (by decide) gr6
        replace hc92 := zF7 gr6 hc92 (zD2 ownb hc92 (by decide))
        clear ownb gr6
        obtain ⟨ad4, n4, c4, rfl⟩ := zE3 own6
        refine qZ 1 ?_
        refine stn (zB9 (v := .slice ad4 n4 c4) rfl rfl (by rfl) hc92 (by rfl) (by rfl) ?_)
        intro w153 hc154 u155
        replace hc10 := u155.heap hc10 ne96
        replace hc17 := u155.heap hc17 ne97
        replace hc30 := u155.heap hc30 ne98
        replace hc63 := u155.heap hc63 ne99
        replace hB0w := Nat.le_trans hB0w (Nat.le_of_eq u155.size.symm)
        replace own := zE2 own u155 (zD2 own hc92 (by decide))
        replace own6 := zE2 own6 u155 (zD2 own6 hc92 (by decide))
        replace G := G.upd u155 hge95
        clear u155 hc92
        refine qZ 3 ?_
        refine stp (zB8 rfl rfl ?_ ?_); constructor <;> omega
        refine qZ 2 ?_
        refine ⟨_, ?_, i + 1, ad4, n4, c4, rfl, zC8 ⟨rfl, rfl, rfl, rfl, rfl, rfl, rfl, rfl, congrArg (Value.int .i64) (by omega), trivial⟩, by omega, by omega, hc10, hc17, hc30, hc63, hB0w, own, hc154, (by rw [yD2, List.map_append]; rw [hq9] at own6; exact own6), G⟩
        omega
      ·
       simp only [sb] at hlt
       have hi9 : (zA0 s seg a).1.size = 2 → i = (zA0 s seg a).1.count.toNat := by omega
       refine qZ 7 ?_
       obtain ⟨B, hB⟩ : ∃ B, B = w131.heap.size := ⟨_, rfl⟩
       have hwB : w.heap.size ≤ B := by rw [hB]; exact G.size
       have h0B : B0 ≤ B := by rw [hB]; exact hB0w
       have hBw : B ≤ w131.heap.size := by rw [hB]; exact Nat.le_refl _
       have hlt_b1 : b1 < B := by rw [hB]; exact zB2 hc63
       have hlt_b7 : b7 < B := by rw [hB]; exact zB2 hc10
       have hlt_b14 : b14 < B := by rw [hB]; exact zB2 hc17
       have hlt_b24 : b24 < B := by rw [hB]; exact zB2 hc30
       have hlt_b86 : b86 < B := by rw [hB]; exact zB2 hc92
       clear hB
       refine zF6 (fun m_ e_ w_ => ∃ (j : Nat) (pd : Int) (e : Int) (ks : List Nd) (ad6 : Option Addr) (n6 : Nat) (c6 : Nat) (kc : List Value) (V : Nat → Prop), m_ = (kidN (zA0 s seg a).1).toNat - j ∧ Fr [(3, .int .i64 (32 - (d : Int))), (4, .pointer (some ⟨b1, 0, none⟩)), (8, .pointer (some ⟨b7, 0, none⟩)), (9, .pointer (some ⟨b14, 0, none⟩)), (10, .pointer (some ⟨b24, 0, none⟩)), (12, .pointer (some ⟨b86, 0, none⟩)), (13, .int .i64 (if (zA0 s seg a).1.size = 5 then (zA0 s seg a).1.count else (zA0 s seg a).1.data)), (14, .int .i64 (kidN (zA0 s seg a).1)), (22, .int .i64 (j : Int))] e_ ∧ ((j : Int) ≤ kidN (zA0 s seg a).1) ∧ ((zK7 (zT3 s d (zA0 s seg a).1.seg) (kidA (zA0 s seg a).1) (paid + (1 + zD3 (zA0 s seg a).1)) j).2.2 = e) ∧ (e = 0 → zK7 (zT3 s d (zA0 s seg a).1.seg) (kidA (zA0 s seg a).1) (paid + (1 + zD3 (zA0 s seg a).1)) j = (pd, ks, 0)) ∧ (e = 0 → 0 ≤ pd ∧ pd ≤ 8192) ∧ (ks.length = j) ∧ (∀ x, (Value.slice ad6 n6 c6).ownBlock = some x → ¬ V x) ∧ (w_.heap[b7]? = some (.cells #[.slice none 0 0, .bool false, .slice none 0 0, .int .i64 0, .int .i64 0] 90 (0, 0))) ∧ (w_.heap[b14]? = some (.cells #[.int .i64 0, .int .i64 0, .slice none 0 0, .slice none 0 0, .slice none 0 0] 48 (0, 0))) ∧ (w_.heap[b24]? = some (.cells #[.int .i64 ((zA0 s seg a).1.kind), .int .i64 ((zA0 s seg a).1.seg), .int .i64 ((zA0 s seg a).1.at_), .int .i64 ((zA0 s seg a).1.data), .int .i64 ((zA0 s seg a).1.ptrs), .int .i64 ((zA0 s seg a).1.size), .int .i64 ((zA0 s seg a).1.count)] 112 (0, 0))) ∧ (B0 ≤ w_.heap.size) ∧ (w_.ownsRow B0 23 1 (.slice ad3 n3 c3) ((if (zA0 s seg a).1.size = 5 then (zA0 s seg a).1.count else (zA0 s seg a).1.data).toNat) ((zM5 s (zA0 s seg a).1.seg (zA0 s seg a).1.at_ ((if (zA0 s seg a).1.size = 5 then (zA0 s seg a).1.count else (zA0 s seg a).1.data).toNat)).map (.int .u64))) ∧ (w_.ownsRow B0 5 1 (.slice ad5 n5 c5) i ((zY4 s (zA0 s seg a).1.seg (zA0 s seg a).1.at_ i).map (.int .u8))) ∧ (B ≤ w_.heap.size) ∧ (w_.heap[b86]? = some (.cells #[.int .i64 ((zA0 s seg a).1.kind), .int .i64 ((zA0 s seg a).1.size), .slice ad3 n3 c3, .slice ad5 n5 c5, .slice ad6 n6 c6] 48 (0, 0))) ∧ (w_.heap[b1]? = some (.cells #[.slice ada na ca, .bool b, .slice adh nh ch, .int .i64 pd, .int .i64 e] 90 (0, 0))) ∧ (w_.ownsRow B 48 5 (.slice ad6 n6 c6) j kc) ∧ (∀ x, V x → B ≤ x ∧ x < w_.heap.size) ∧ (KidsR (see V w_) kc ks) ∧ Grow w w_) _ ⟨0, (paid + (1 + zD3 (zA0 s seg a).1)), 0, [], none, 0, 0, [], fun _ => False, rfl, zC8 ⟨rfl, rfl, rfl, rfl, rfl, rfl, rfl, rfl, rfl, trivial⟩, by omega, rfl, fun _ => rfl, fun _ => by omega, rfl, fun x _ h_ => h_, hc10, hc17, hc30, hB0w, own, ownb, hBw, hc92, hc63, World.ownsRow_nil _ _ _ _, fun x h_ => h_.elim, .nil, G⟩ ?_
       clear hc10 hc17 hc30 hc63 hB0w own hc92 ownb hBw
       clear G
       rintro m_ e_ w156 ⟨j, pd, e, ks, ad6, n6, c6, kc, V, rfl, ⟨e157, rfl⟩, hj, hke, hkd, hpd, hlk, hVo, hc10, hc17, hc30, hB0w, own, ownb, hBw, hc92, hc63, ownk, hV, hK, G⟩
       refine qZ 5 ?_
       refine stp (zH1 rfl rfl ?_)
       refine qZ 1 ?_
       refine qG 2 ?_
       refine zA3 (zB3 (s := .bool _) (v := .bool (decide (e = 0))) rfl (zE5 _) (fun hc160 => ?_) ?_)
       ·
        have hc160_ := qT hc160
        refine zD5 (gvt hc160) rfl ?_
        exact ⟨rfl, rfl⟩
       refine stp (zG6 rfl rfl rfl ?_)
       refine zA6 ?_
       refine zA2 (b := ((decide ((j : Int) < (kidN (zA0 s seg a).1))) && (decide (e = 0)))) rfl (fun hlt => ?_) (fun hlt => ?_)
       ·
        simp only [sb] at hlt
        obtain ⟨hlj, he0⟩ := hlt
        subst he0
        replace hkd := hkd rfl
        replace hpd := hpd rfl
        obtain ⟨d1, hd1⟩ := yI1 hok h2n (j := j) (by omega)
        have hnf : zT3 s d = zG3 s d1 := by rw [hd1]; rfl
        have hka : 0 ≤ kidA (zA0 s seg a).1 ∧ kidA (zA0 s seg a).1 ≤ 140737488420864 := by unfold kidA; split <;> omega
        have hq := yD4 (fun seg a => H.follow_range seg a) d1 (zA0 s seg a).1.seg (kidA (zA0 s seg a).1 + (j : Int)) pd hpd.1 hpd.2
        have hj1 : zK7 (zT3 s d (zA0 s seg a).1.seg) (kidA (zA0 s seg a).1) (paid + (1 + zD3 (zA0 s seg a).1)) (j + 1) = ((zG3 s d1 (zA0 s seg a).1.seg (kidA (zA0 s seg a).1 + (j : Int)) pd).1, ks ++ [(zG3 s d1 (zA0 s seg a).1.seg (kidA (zA0 s seg a).1 + (j : Int)) pd).2.1], (zG3 s d1 (zA0 s seg a).1.seg (kidA (zA0 s seg a).1 + (j : Int)) pd).2.2) := by rw [zK7, hkd, if_neg (by simp), hnf]
        have hmul := yS3 hok
        refine qZ 13 ?_
        refine stp (zL3 rfl rfl ?_ ?_); constructor <;> omega
        refine stp ?_
        refine qC4 rfl rfl ?_ ?_; (rw [hmul]; constructor <;> omega)
        rw [hmul]
        refine stp (zB8 rfl rfl ?_ ?_); constructor <;> omega
        refine qZ 1 ?_
        refine stp ?_
        refine zB8 rfl rfl ?_ ?_; constructor <;> omega
        rw [show (zA0 s seg a).1.at_ + (kidA (zA0 s seg a).1 - (zA0 s seg a).1.at_) + (j : Int) = kidA (zA0 s seg a).1 + (j : Int) from by omega]
        refine qZ 1 ?_
        refine stp ?_
        refine zB8 rfl rfl ?_ ?_; constructor <;> omega
        rw [show 32 - (d : Int) + 1 = 32 - (d1 : Int) from by omega]
        refine stp ?_
        have hBw0 := hBw
        have hol := fun x hx_ => (ownk.lt x hx_).2
        have hcal := ih_ _ (H.grow G) (seg := (zA0 s seg a).1.seg) (a := kidA (zA0 s seg a).1 + (j : Int)) (paid := pd) (by simp only [inR]; omega) (by omega) (by omega) hpd.1 hpd.2 (d := d1) (by omega) (by omega)
        refine zD0 rfl hcal ?_
        rintro v_ w161 ⟨pd9, cells, t9, rfl, hT9, h9, g_⟩
        clear hcal
        replace hc10 := g_.heap hc10
        replace hc17 := g_.heap hc17
        replace hc30 := g_.heap hc30
        replace hB0w := Nat.le_trans hB0w g_.size
        replace own := zB6 own g_
        replace ownb := zB6 ownb g_
        replace hBw := Nat.le_trans hBw g_.size
        replace hc92 := g_.heap hc92
        replace hc63 := g_.heap hc63
        replace ownk := zB6 ownk g_
        replace hV := vlt hV g_.size
        replace hK := hK.sees (Sees.grow g_)
        replace G := G.tr g_
        clear g_
        obtain ⟨y0, y1, ya, yn, yc, za, zn, zc, ua9, un, uc, rfl⟩ := hT9.cells
        have hT8 := hT9.sees (Sees.more (V' := fun x => V x ∨ (w156.heap.size ≤ x ∧ x < w161.heap.size)) w161 (fun x h1_ h2_ => .inr ⟨h2_, h1_⟩))
        clear hT9
        replace hK := hK.sees (Sees.more (V' := fun x => V x ∨ (w156.heap.size ≤ x ∧ x < w161.heap.size)) w161 (fun x _ h2_ => .inl h2_))
        have hV9 : ∀ x, (V x ∨ (w156.heap.size ≤ x ∧ x < w161.heap.size)) → B ≤ x ∧ x < w161.heap.size := fun x hx_ => hx_.elim (fun h_ => hV x h_) (fun h_ => ⟨Nat.le_trans hBw0 h_.1, h_.2⟩)
        have hVo9 : ∀ x, (Value.slice ad6 n6 c6).ownBlock = some x → ¬ (V x ∨ (w156.heap.size ≤ x ∧ x < w161.heap.size)) := fun x hx_ hv_ => hv_.elim (hVo x hx_) (fun h_ => by have := (hol x hx_); omega)
        clear hV hVo
        obtain ⟨V9, hV9e⟩ : ∃ V9 : Nat → Prop, V9 = fun x => V x ∨ (w156.heap.size ≤ x ∧ x < w161.heap.size) := ⟨_, rfl⟩
        rw [← hV9e] at hT8 hK
        have hV : ∀ x, V9 x → B ≤ x ∧ x < w161.heap.size := by rw [hV9e]; exact hV9
        have hVo : ∀ x, (Value.slice ad6 n6 c6).ownBlock = some x → ¬ V9 x := by rw [hV9e]; exact hVo9
        clear hV9 hVo9 hV9e hBw0 hol
        refine qZ 3 ?_
        refine stp (zB0 ?_)
        intro b162a w162a hb162a hc162a g162a
        refine stp (zB0 ?_)
        intro b162b w162b hb162b hc162b g162b
        have n162 : b162a ≠ b162b := qN hc162a hb162b
        refine stn (zO9 rfl rfl (g162b.heap hc162a) (by rfl) (by rfl) (by rfl) ?_)
        intro w162c hd162a u162a
        refine stn (zO9 rfl rfl (u162a.heap hc162b n162.symm) (by rfl) (by rfl) (by rfl) ?_)
        intro w162d he162b u162b
        have he162a := u162b.heap hd162a n162
        have hx162 := Nat.le_trans g162a.size hb162b
        have gx162 := ((g162a.tr g162b).upd u162a hb162a).upd u162b hx162
        clear hc162a hc162b hd162a u162a u162b g162a g162b
        have hge163 := Nat.le_trans G.size hb162a
        have ne164 := qN hc10 hb162a
        have ne165 := qN hc17 hb162a
        have ne166 := qN hc30 hb162a
        have ne167 := qN hc92 hb162a
        have ne168 := qN hc63 hb162a
        have hge169 := Nat.le_trans G.size hx162
        have ne170 := qN hc10 hx162
        have ne171 := qN hc17 hx162
        have ne172 := qN hc30 hx162
        have ne173 := qN hc92 hx162
        have ne174 := qN hc63 hx162
        replace hc10 := gx162.heap hc10
        replace hc17 := gx162.heap hc17
        replace hc30 := gx162.heap hc30
        replace hB0w := Nat.le_trans hB0w gx162.size
        replace own := zB6 own gx162
        replace ownb := zB6 ownb gx162
        replace hBw := Nat.le_trans hBw gx162.size
        replace hc92 := gx162.heap hc92
        replace hc63 := gx162.heap hc63
        replace ownk := zB6 ownk gx162
        replace hV := vlt hV gx162.size
        replace hK := hK.sees (Sees.grow gx162)
        replace hT8 := hT8.sees (Sees.grow gx162)
        replace G := G.tr gx162
        clear gx162
        refine qZ 4 ?_
        refine stn (qS hc63 ?_)
        intro w175 hc176 u177
        replace hc10 := u177.heap hc10 ne13.symm
        replace hc17 := u177.heap hc17 ne20.symm
        replace hc30 := u177.heap hc30 ne34.symm
        replace hB0w := Nat.le_trans hB0w (Nat.le_of_eq u177.size.symm)
        replace own := zE2 own u177 (zD2 own hc63 (by decide))
        replace ownb := zE2 ownb u177 (zD2 ownb hc63 (by decide))
        replace hBw := Nat.le_trans hBw (Nat.le_of_eq u177.size.symm)
        replace hc92 := u177.heap hc92 ne99.symm
        replace ownk := zE2 ownk u177 (fun he_ => by have := zI0 ownk _ he_; omega)
        replace hV := vlt hV (Nat.le_of_eq u177.size.symm)
        replace hK := hK.sees (Sees.upd u177 (fun h_ => by have := (hV _ h_).1; omega))
        replace hT8 := hT8.sees (Sees.upd u177 (fun h_ => by have := (hV _ h_).1; omega))
        replace he162a := u177.heap he162a ne168.symm
        replace he162b := u177.heap he162b ne174.symm
        replace G := G.upd u177 hge6
        clear u177 hc63
        refine qZ 5 ?_
        refine stp (zB4 (cs := #[.int .i64 y0, .int .i64 y1, .slice ya yn yc, .slice za zn zc, .slice ua9 un uc]) (el := 48) (fun w => by kernel_rfl) ?_)
        intro bs178 w179 hb180 hc181 g182
        have hge183 := Nat.le_trans G.size hb180
        have ne184 := qN hc10 hb180
        have ne185 := qN hc17 hb180
        have ne186 := qN hc30 hb180
        have ne187 := qN hc92 hb180
        have ne188 := qN he162a hb180
        have ne189 := qN he162b hb180
        have ne190 := qN hc176 hb180
        replace hc10 := g182.heap hc10
        replace hc17 := g182.heap hc17
        replace hc30 := g182.heap hc30
        replace hB0w := Nat.le_trans hB0w g182.size
        replace own := zB6 own g182
        replace ownb := zB6 ownb g182
        replace hBw := Nat.le_trans hBw g182.size
        replace hc92 := g182.heap hc92
        replace ownk := zB6 ownk g182
        replace hV := vlt hV g182.size
        replace hK := hK.sees (Sees.grow g182)
        replace hT8 := hT8.sees (Sees.grow g182)
        replace he162a := g182.heap he162a
        replace he162b := g182.heap he162b
        replace hc176 := g182.heap hc176
        replace G := G.tr g182
        clear g182
        refine stp (zW0 rfl rfl rfl rfl ownk (Row.of_block (n := 1) hc181 rfl rfl (by omega)) (fun q_ hq_ => by simp at hq_; rcases hq_ with rfl | rfl | rfl | rfl | rfl <;> rfl) (by simp only [maxLen]; omega) (by omega) hBw ?_)
        intro v191 w192 own6 gr6 hbk6
        have k6_ : Kp (Value.slice ad6 n6 c6).ownBlock.toList w179 w192 := Kp.of_grownBy gr6 (fun k_ hk_ => by rw [Option.mem_toList]; exact hk_)
        have hF6 : ∀ x ∈ (Value.slice ad6 n6 c6).ownBlock.toList, B ≤ x := fun x hx_ => zI0 ownk x (Option.mem_toList.1 hx_)
        have hF7 : ∀ x ∈ (Value.slice ad6 n6 c6).ownBlock.toList, ¬ V9 x := fun x hx_ => hVo x (Option.mem_toList.1 hx_)
        have hVo6 : ∀ x, v191.ownBlock = some x → ¬ V9 x := fun x hx_ hv_ => hbk6.elim (fun h_ => hVo x (h_ ▸ hx_) hv_) (fun h_ => by rw [h_] at hx_; simp only [Option.some.injEq] at hx_; have := (hV x hv_).2; omega)
        replace G := G.trK k6_ (fun x hx_ => Nat.le_trans hwB (hF6 x hx_))
        replace hc10 := k6_.heap hc10 (fun hm_ => by have h1_ := hF6 _ hm_; omega)
        replace hc17 := k6_.heap hc17 (fun hm_ => by have h1_ := hF6 _ hm_; omega)
        replace hc30 := k6_.heap hc30 (fun hm_ => by have h1_ := hF6 _ hm_; omega)
        replace hB0w := Nat.le_trans hB0w k6_.size
        replace own := qM2 own ownk (by decide) gr6
        replace ownb := qM2 ownb ownk (by decide) gr6
        replace hBw := Nat.le_trans hBw k6_.size
        replace hc92 := k6_.heap hc92 (fun hm_ => by have h1_ := hF6 _ hm_; omega)
        replace hV := fun x hx_ => (⟨(hV x hx_).1, Nat.lt_of_lt_of_le (hV x hx_).2 k6_.size⟩ : B ≤ x ∧ x < w192.heap.size)
        replace hK := hK.sees (Sees.kp k6_ hF7)
        replace hT8 := hT8.sees (Sees.kp k6_ hF7)
        clear he162a
        clear he162b
        replace hc176 := k6_.heap hc176 (fun hm_ => by have h1_ := hF6 _ hm_; omega)
        clear ownk gr6 hVo k6_ hF6 hF7 hbk6
        obtain ⟨ad7, n7, c7, rfl⟩ := zE3 own6
        refine qZ 1 ?_
        refine stn (zB9 (v := .slice ad7 n7 c7) rfl rfl (by rfl) hc92 (by rfl) (by rfl) ?_)
        intro w193 hc194 u195
        replace hc10 := u195.heap hc10 ne96
        replace hc17 := u195.heap hc17 ne97
        replace hc30 := u195.heap hc30 ne98
        replace hB0w := Nat.le_trans hB0w (Nat.le_of_eq u195.size.symm)
        replace own := zE2 own u195 (zD2 own hc92 (by decide))
        replace ownb := zE2 ownb u195 (zD2 ownb hc92 (by decide))
        replace hBw := Nat.le_trans hBw (Nat.le_of_eq u195.size.symm)
        replace hV := vlt hV (Nat.le_of_eq u195.size.symm)
        replace hK := hK.sees (Sees.upd u195 (fun h_ => by have := (hV _ h_).1; omega))
        replace hT8 := hT8.sees (Sees.upd u195 (fun h_ => by have := (hV _ h_).1; omega))
        replace hc176 := u195.heap hc176 ne99
        replace own6 := zE2 own6 u195 (fun he_ => by have := zI0 own6 _ he_; omega)
        replace G := G.upd u195 hge95
        clear u195 hc92
        refine qZ 3 ?_
        refine stp (zB8 rfl rfl ?_ ?_); constructor <;> omega
        refine qZ 2 ?_
        refine ⟨_, ?_, j + 1, pd9, (zG3 s d1 (zA0 s seg a).1.seg (kidA (zA0 s seg a).1 + (j : Int)) pd).2.2, ks ++ [t9], ad7, n7, c7, _, V9, rfl, zC8 ⟨rfl, rfl, rfl, rfl, rfl, rfl, rfl, rfl, congrArg (Value.int .i64) (by omega), trivial⟩, by omega, by rw [hj1], fun h_ => by rw [hj1, h_, (h9 h_).1, (h9 h_).2], fun h_ => by rw [(h9 h_).1]; exact ⟨hq.1, hq.2.2 h_⟩, by simp [hlk], hVo6, hc10, hc17, hc30, hB0w, own, ownb, hBw, hc194, hc176, own6, hV, (KidsR.append hK (by have := KidsR.cons hT8 .nil; simpa using this)), G⟩
        omega
       ·
        simp only [sb] at hlt
        have hend : ¬ ((j : Int) < kidN (zA0 s seg a).1 ∧ e = 0) := by omega
        obtain ⟨hfe, hfi⟩ := yS6 h3 h2n h3n hj hke hkd hend
        have hrk : Row (hide B w156) 5 (.slice ad6 n6 c6) ks.length kc := by rw [hlk]; exact zR4 ownk (by omega)
        have hK9 := hK.sees (Sees.more (V' := fun x => B ≤ x) _ (fun x _ hx_ => (hV x hx_).1))
        have hRW : Row (hide B0 w156) 1 (.slice ad3 n3 c3) (nodL s (zA0 s seg a).1).length ((nodL s (zA0 s seg a).1).map (.int .u64)) := by unfold nodL; rw [zJ9]; exact zR4 own (by omega)
        have hRB : Row (hide B0 w156) 1 (.slice ad5 n5 c5) (nodB s (zA0 s seg a).1).length ((nodB s (zA0 s seg a).1).map (.int .u8)) := by
         have h_ := zR4 ownb (by omega)
         unfold nodB; split
         ·rename_i hz; rw [zP1, ← hi9 hz]; exact h_
         ·rename_i hz; have hi0 : i = 0 := by omega
          subst hi0; exact h_
        have hTn : NodeR (hide B0 w156) [.int .i64 (zA0 s seg a).1.kind, .int .i64 (zA0 s seg a).1.size, .slice ad3 n3 c3, .slice ad5 n5 c5, .slice ad6 n6 c6] (.mk (zA0 s seg a).1.kind (zA0 s seg a).1.size (nodL s (zA0 s seg a).1) (nodB s (zA0 s seg a).1) ks) := .mk (by simp only [inR]; omega) (by simp only [inR]; omega) hRW (yD3 hun _ _ _) hRB (yQ7 s _) (hrk.sees (Sees.low h0B _)) (hK9.sees (Sees.low h0B _))
        clear hK hV ownk own ownb hRW hRB hrk hK9
        refine qZ 2 ?_
        have kb_hc17 : ∀ w_, Kp [b7] w156 w_ → w_.heap[b14]? = some (.cells #[.int .i64 0, .int .i64 0, .slice none 0 0, .slice none 0 0, .slice none 0 0] 48 (0, 0)) := fun w_ k_ => k_.heap hc17 (fun hm_ => by simp only [List.mem_singleton] at hm_; first | exact ne21 hm_ | exact ne21 hm_.symm)
        have kb_hc63 : ∀ w_, Kp [b7] w156 w_ → w_.heap[b1]? = some (.cells #[.slice ada na ca, .bool b, .slice adh nh ch, .int .i64 pd, .int .i64 e] 90 (0, 0)) := fun w_ k_ => k_.heap hc63 (fun hm_ => by simp only [List.mem_singleton] at hm_; first | exact ne13 hm_ | exact ne13 hm_.symm)
        have kb_hc92 : ∀ w_, Kp [b7] w156 w_ → w_.heap[b86]? = some (.cells #[.int .i64 ((zA0 s seg a).1.kind), .int .i64 ((zA0 s seg a).1.size), .slice ad3 n3 c3, .slice ad5 n5 c5, .slice ad6 n6 c6] 48 (0, 0)) := fun w_ k_ => k_.heap hc92 (fun hm_ => by simp only [List.mem_singleton] at hm_; first | exact ne96 hm_ | exact ne96 hm_.symm)
        have kb_G : ∀ w_, Kp [b7] w156 w_ → Grow w w_ := fun w_ k_ => G.trK k_ (fun x_ hx_ => by simp only [List.mem_singleton] at hx_; subst hx_; exact hge12)
        have kb_hTn : ∀ w_, Kp [b7] w156 w_ → NodeR (hide B0 w_) [.int .i64 (zA0 s seg a).1.kind, .int .i64 (zA0 s seg a).1.size, .slice ad3 n3 c3, .slice ad5 n5 c5, .slice ad6 n6 c6] (.mk (zA0 s seg a).1.kind (zA0 s seg a).1.size (nodL s (zA0 s seg a).1) (nodB s (zA0 s seg a).1) ks) := fun w_ k_ => hTn.sees (Sees.kp k_ (fun x_ hx_ hv_ => by simp only [List.mem_singleton] at hx_; subst hx_; omega))
        refine zZ2 3 [[], [], [1]] [2] [b7] (fun k_ w_ => match k_ with | 0 => w_.heap[b7]? = some (.cells #[.slice none 0 0, .bool false, .slice none 0 0, .int .i64 0, .int .i64 0] 90 (0, 0)) | _ => w_.heap[b7]? = some (.cells #[.slice ada na ca, .bool b, .slice adh nh ch, .int .i64 pd, .int .i64 e] 90 (0, 0))) mixed (by kernel_rfl) (by kernel_rfl) (by kernel_rfl) (by kernel_rfl) (fun k_ w_ w2_ g_ h_ => match k_, h_ with | 0, h_ => g_.heap h_ | n_ + 1, h_ => g_.heap h_) (fun w_ g_ => g_.heap hc10) ?_
        intro w196 g197
        replace kb_hc17 : ∀ w_, Kp [b7] w196 w_ → w_.heap[b14]? = some (.cells #[.int .i64 0, .int .i64 0, .slice none 0 0, .slice none 0 0, .slice none 0 0] 48 (0, 0)) := fun w_ k_ => kb_hc17 w_ (g197.kp.tr k_)
        replace kb_hc63 : ∀ w_, Kp [b7] w196 w_ → w_.heap[b1]? = some (.cells #[.slice ada na ca, .bool b, .slice adh nh ch, .int .i64 pd, .int .i64 e] 90 (0, 0)) := fun w_ k_ => kb_hc63 w_ (g197.kp.tr k_)
        replace kb_hc92 : ∀ w_, Kp [b7] w196 w_ → w_.heap[b86]? = some (.cells #[.int .i64 ((zA0 s seg a).1.kind), .int .i64 ((zA0 s seg a).1.size), .slice ad3 n3 c3, .slice ad5 n5 c5, .slice ad6 n6 c6] 48 (0, 0)) := fun w_ k_ => kb_hc92 w_ (g197.kp.tr k_)
        replace kb_G : ∀ w_, Kp [b7] w196 w_ → Grow w w_ := fun w_ k_ => kb_G w_ (g197.kp.tr k_)
        replace kb_hTn : ∀ w_, Kp [b7] w196 w_ → NodeR (hide B0 w_) [.int .i64 (zA0 s seg a).1.kind, .int .i64 (zA0 s seg a).1.size, .slice ad3 n3 c3, .slice ad5 n5 c5, .slice ad6 n6 c6] (.mk (zA0 s seg a).1.kind (zA0 s seg a).1.size (nodL s (zA0 s seg a).1) (nodB s (zA0 s seg a).1) ks) := fun w_ k_ => kb_hTn w_ (g197.kp.tr k_)
        have k0_ : Kp [b7] w156 w196 := g197.kp
        apply zE7 (hm := by rfl)
        ·intro w_ g_; exact og rfl (zC5 rfl (kb_hc63 _ g_) (by rfl) qX)
        apply zE7 (hm := by rfl)
        ·intro w_ g_; exact og rfl (zC5 rfl (kb_hc92 _ g_) (by rfl) qX)
        apply zQ7 0 (hm := by rfl)
        ·intro w_ g_ s_
         refine og rfl ?_
         refine qS s_ ?_
         intro w2_ s2_ u_
         exact ⟨Kp.of_upd u_ (by simp), s2_, rfl⟩
        refine zS6 ?_
        intro w198 g199 S_
        replace k0_ := (k0_.tr g199)
        have hc8x := S_
        clear S_
        replace hc17 := kb_hc17 _ g199
        clear kb_hc17
        replace hc63 := kb_hc63 _ g199
        clear kb_hc63
        replace hc92 := kb_hc92 _ g199
        clear kb_hc92
        replace G := kb_G _ g199
        clear kb_G
        replace hTn := kb_hTn _ g199
        clear kb_hTn
        refine stn (qS hc17 ?_)
        intro w200 hc201 u202
        replace hc92 := u202.heap hc92 ne97.symm
        replace hc63 := u202.heap hc63 ne20
        replace hTn := hTn.sees (Sees.upd u202 (fun h_ => by omega))
        replace hc8x := u202.heap hc8x ne21
        replace G := G.upd u202 hge19
        clear u202 hc17
        refine qZ 2 ?_
        rw [hfe]
        refine ret2 (zA9 rfl hc8x (by rfl)) (zA9 rfl hc201 (by rfl)) ⟨pd, _, _, rfl, hTn.sees (Sees.low hwB0 _), hfi, G⟩
theorem zR6 (w : World) {u : Value} {A : List (List Int)} (hA : zF3 w u A) (hn : A.length ≤ 8796093022208) (hx : ∀ q ∈ A, ∀ x ∈ q, inR .u64 x) : Calls Tryz.prog 17 #[u] w (Ret fun v w' => ∃ cells, v = .tuple #[.agg cells.toArray, .int .i64 (decT A).2] ∧ NodeR (hide w.heap.size w') cells (decT A).1 ∧ Grow w w') := by
 have hA0 := hA
 obtain ⟨ada, ca, segs, sa, sc, rfl, hca, hca2, RA, hsf, hrf⟩ := hA.fn
 have hs : ∀ i, len2 A i ≤ 140737488355328 := fun i => by by_cases hi : i < A.length; exact (hrf i hi).2.2.lim; (have := zS9 (A := A) (j := i) (by omega); omega)
 have G := Grow.rfl' w
 refine zC0 Tryz.func17 Tryz.ntmps17 Tryz.results17 rfl rfl ?_
 refine qZ 2 ?_
 refine stp (zB0 ?_)
 intro b1 w2 hb3 hc4 g5
 refine qZ 6 ?_
 have hge6 := Nat.le_trans G.size hb3
 replace G := G.tr g5
 clear g5 hb3
 refine stp (zA4 (v := .bool (zE0 A)) rfl (qT7 _ (hA0.grow G) hn) ?_)
 intro w7 g8
 replace hc4 := g8.heap hc4
 replace G := G.tr g8
 clear g8
 refine stp (zL0 rfl ?_)
 refine zA6 ?_
 refine zA2 (b := (!(zE0 A))) rfl (fun h1 => ?_) (fun h1 => ?_)
 ·
  simp only [sb] at h1
  have h9 : decT A = (.nil, 1) := if_pos (by simpa using h1)
  refine qZ 2 ?_
  refine stp (zA7 (v := .agg #[.int .i64 0, .int .i64 0, .slice none 0 0, .slice none 0 0, .slice none 0 0]) (fun w => by kernel_rfl) ?_)
  refine stn (qS hc4 ?_)
  intro w9 hc10 u11
  replace G := G.upd u11 hge6
  clear u11 hc4
  refine qZ 3 ?_
  rw [h9]
  refine ret2 (zA9 rfl hc10 (by rfl)) (zA1 (v := .int .i64 1) rfl) ⟨[_, _, _, _, _], rfl, NodeR.zero _, G⟩
 ·
  simp only [sb] at h1
  have h1' : zE0 A = true := by simpa using h1
  have hr : OkA A := qX2 h1' hx
  have h9 : decT A = (zG3 (zD6 A) 32 0 0 0).2 := if_neg (by simp [h1'])
  rw [h9]
  have hl16 := hr.most
  refine qZ 4 ?_
  refine stp (zA7 (v := .agg #[.slice ada A.length ca, .bool false, .slice none 0 0]) (fun w => by kernel_rfl) ?_)
  refine stp (zA7 (v := .agg #[.slice ada A.length ca, .bool false, .slice none 0 0, .int .i64 0, .int .i64 0]) (fun w => by kernel_rfl) ?_)
  refine stp ?_
  have H := yM2 (uh := .slice none 0 0) (hA0.grow G) (by omega) hx hs
  have hcal := yD7 _ w7 H (seg := 0) (a := 0) (paid := 0) (by simp [inR]) (by decide) (by decide) (by decide) (by decide) (d := 32) (by decide) (Nat.le_refl _)
  rw [show (32 - ((32 : Nat) : Int)) = 0 from by decide] at hcal
  have hlow := G.size
  have hlt1 := zB2 hc4
  refine zD0 rfl hcal ?_
  rintro v_ w12 ⟨pd9, cells, t9, rfl, hT9, ht9, g_⟩
  clear hcal H
  replace hc4 := g_.heap hc4
  replace G := G.tr g_
  clear g_
  obtain ⟨y0, y1, ya, yn, yc, za, zn, zc, ua, un, uc, rfl⟩ := hT9.cells
  refine qZ 3 ?_
  refine stp (zB0 ?_)
  intro b13a w13a hb13a hc13a g13a
  refine stp (zB0 ?_)
  intro b13b w13b hb13b hc13b g13b
  have n13 : b13a ≠ b13b := qN hc13a hb13b
  refine stn (zO9 rfl rfl (g13b.heap hc13a) (by rfl) (by rfl) (by rfl) ?_)
  intro w13c hd13a u13a
  refine stn (zO9 rfl rfl (u13a.heap hc13b n13.symm) (by rfl) (by rfl) (by rfl) ?_)
  intro w13d he13b u13b
  have he13a := u13b.heap hd13a n13
  have hx13 := Nat.le_trans g13a.size hb13b
  have gx13 := ((g13a.tr g13b).upd u13a hb13a).upd u13b hx13
  clear hc13a hc13b hd13a u13a u13b g13a g13b
  have hge14 := Nat.le_trans G.size hb13a
  have ne15 := qN hc4 hb13a
  have hge16 := Nat.le_trans G.size hx13
  have ne17 := qN hc4 hx13
  replace hc4 := gx13.heap hc4
  replace hT9 := hT9.sees (Sees.grow gx13)
  replace G := G.tr gx13
  clear gx13
  refine qZ 6 ?_
  refine stp (zH4 rfl rfl ?_)
  refine zA6 ?_
  refine zA2 (b := (decide (((zG3 (zD6 A) 32 0 0 0).2.2) ≠ 0))) rfl (fun h2 => ?_) (fun h2 => ?_)
  ·
   replace h2 := qT h2
   refine zS2 ?_
   have kb_he13a : ∀ w_, Kp [b1] w13d w_ → w_.heap[b13a]? = some (.cells #[.slice ada A.length ca, .bool false, .slice none 0 0, .int .i64 pd9, .int .i64 ((zG3 (zD6 A) 32 0 0 0).2.2)] 90 (0, 0)) := fun w_ k_ => k_.heap he13a (fun hm_ => by simp only [List.mem_singleton] at hm_; first | exact ne15 hm_ | exact ne15 hm_.symm)
   have kb_G : ∀ w_, Kp [b1] w13d w_ → Grow w w_ := fun w_ k_ => G.trK k_ (fun x_ hx_ => by simp only [List.mem_singleton] at hx_; subst hx_; exact hge6)
   refine zZ2 4 [[], [], [0], [2]] [3] [b1] (fun k_ w_ => match k_ with | 0 => w_.heap[b1]? = some (.cells #[.int .i64 0, .int .i64 0, .slice none 0 0, .slice none 0 0, .slice none 0 0] 48 (0, 0)) | _ => w_.heap[b1]? = some (.cells #[.int .i64 0, .int .i64 0, .slice none 0 0, .slice none 0 0, .slice none 0 0] 48 (0, 0))) mixed (by kernel_rfl) (by kernel_rfl) (by kernel_rfl) (by kernel_rfl) (fun k_ w_ w2_ g_ h_ => match k_, h_ with | 0, h_ => g_.heap h_ | n_ + 1, h_ => g_.heap h_) (fun w_ g_ => g_.heap hc4) ?_
   intro w18 g19
   replace kb_he13a : ∀ w_, Kp [b1] w18 w_ → w_.heap[b13a]? = some (.cells #[.slice ada A.length ca, .bool false, .slice none 0 0, .int .i64 pd9, .int .i64 ((zG3 (zD6 A) 32 0 0 0).2.2)] 90 (0, 0)) := fun w_ k_ => kb_he13a w_ (g19.kp.tr k_)
   replace kb_G : ∀ w_, Kp [b1] w18 w_ → Grow w w_ := fun w_ k_ => kb_G w_ (g19.kp.tr k_)
   have k0_ : Kp [b1] w13d w18 := g19.kp
   apply zE7 (hm := by rfl)
   ·intro w_ g_; exact og rfl (zA7 (v := .agg #[.int .i64 0, .int .i64 0, .slice none 0 0, .slice none 0 0, .slice none 0 0]) (fun w => by kernel_rfl) qX)
   refine qM 1 ?_
   apply zE7 (hm := by rfl)
   ·intro w_ g_; exact og rfl (zD8 (v := .int .i64 ((zG3 (zD6 A) 32 0 0 0).2.2)) rfl (kb_he13a _ g_) rfl qX)
   apply zQ7 0 (hm := by rfl)
   ·intro w_ g_ s_
    refine og rfl ?_
    refine qS s_ ?_
    intro w2_ s2_ u_
    exact ⟨Kp.of_upd u_ (by simp), s2_, rfl⟩
   refine zS6 ?_
   intro w20 g21 S_
   replace k0_ := (k0_.tr g21)
   have hc2x := S_
   clear S_
   replace he13a := kb_he13a _ g21
   clear kb_he13a
   replace G := kb_G _ g21
   clear kb_G
   refine qZ 3 ?_
   have hz := yS4 h2
   rw [hz]
   refine ret2 (zA9 rfl hc2x (by rfl)) (zA1 (v := .int .i64 ((zG3 (zD6 A) 32 0 0 0).2.2)) rfl) ⟨[_, _, _, _, _], rfl, NodeR.zero _, G⟩
  ·
   replace h2 := qF h2
   have he0 : (zG3 (zD6 A) 32 0 0 0).2.2 = 0 := by omega
   refine qZ 4 ?_
   refine stn (qS hc4 ?_)
   intro w22 hc23 u24
   replace hT9 := hT9.sees (Sees.upd u24 (fun h_ => absurd h_ (Nat.not_le.2 hlt1)))
   replace he13a := u24.heap he13a ne15.symm
   replace he13b := u24.heap he13b ne17.symm
   replace G := G.upd u24 hge6
   clear u24 hc4
   refine qZ 3 ?_
   have ht8 := (ht9 he0).2
   rw [← ht8, he0]
   refine ret2 (zA9 rfl hc23 (by rfl)) (zA1 (v := .int .i64 0) rfl) ⟨_, rfl, hT9.sees (Sees.low hlow _), G⟩
theorem qY9 (w : World) {w0 : World} {bB : Nat} {so : Value} {segs : List Value} {A : List (List Int)} {lim : Int} {c : List Value} {t : Nd} {s i : Nat} (h : BldAt 144 37 23 w bB (so) segs (A) lim (zC2 (A))) (T : NodeR w0 c t) (g0 : Grow w0 w) (hb : ∀ k ∈ blks bB so segs, w0.heap.size ≤ k) (F : Fit lim A) (hsA : s < A.length) (hiA : i < len2 A s) (hl1 : 1 ≤ lim) (hl2 : lim ≤ 4096) (hn0 : 0 ≤ t.need) (hn1 : t.need ≤ 100000) : Calls Tryz.prog 113 #[.pointer (some ⟨bB, 0, none⟩), .agg c.toArray, .int .i64 (s : Int), .int .i64 (i : Int)] w (Ret fun v w' => v = .tuple #[.int .i64 ((zF2 lim t ⟨A, false⟩ s i).seg : Int), .int .i64 ((zF2 lim t ⟨A, false⟩ s i).at_ : Int), .bool (!(zF2 lim t ⟨A, false⟩ s i).S.full)] ∧ ∃ so' segs', BldAt 144 37 23 w' bB (so') segs' ((zF2 lim t ⟨A, false⟩ s i).S.A) lim (zC2 ((zF2 lim t ⟨A, false⟩ s i).S.A)) ∧ Kp (blks bB so segs) w w' ∧ (∀ k ∈ blks bB so' segs', k ∈ blks bB so segs ∨ w.heap.size ≤ k)) := by
 have FS := F.small hl2
 obtain ⟨ado, co, sa, sc, rfl, hco, RO, hsf⟩ := h.fn FS.1
 have hbox := h.box
 have K := Kp.refl (blks bB (.slice ado A.length co) segs) w
 have h5 := T.len
 obtain ⟨x0, x1, x2, x3, x4, rfl⟩ := five h5
 obtain ⟨hlast, hlastE⟩ := qS7 F.one
 have hlt0 := h.lt
 have hsz0 := g0.size
 have hA16 := F.most
 have htot := F.all
 have htn := zL1 A
 have hlseg := F.seg (zB5 A)
 refine zC0 Tryz.func113 Tryz.ntmps113 Tryz.results113 rfl rfl ?_
 refine qZ 2 ?_
 refine stp ?_
 refine qC ?_
 intro b1 w2 hb3 hc4 g5
 have hge6 := Nat.le_trans K.size hb3
 replace hbox := g5.heap hbox
 replace h := h.grow g5
 replace K := K.tr g5.kp
 replace g0 := g0.tr g5
 replace RO := RO.grow g5
 clear g5 hb3
 refine qZ 11 ?_
 refine stp ?_
 refine zL3 rfl rfl ?_ ?_; constructor <;> omega
 rw [hlastE]
 refine qZ 3 ?_
 refine zJ5 12 [[], [0], [1, 0], [2, 1, 0], [], [4, 3, 2, 1, 0], [5, 4, 3, 2, 1, 0], [6, 5, 4, 3, 2, 1, 0], [], [0], [9, 8, 7, 6, 5, 4, 3, 2, 1, 0], [10, 9, 8, 7, 6, 5, 4, 3, 2, 1, 0]] mixed (by kernel_rfl) (by kernel_rfl) (by kernel_rfl) ?_
 intro w7 g8
 replace hbox := g8.heap hbox
 replace h := h.grow g8
 replace K := K.tr g8.kp
 replace g0 := g0.tr g8
 replace RO := RO.grow g8
 replace hc4 := g8.heap hc4
 clear g8
 refine qA 5 ?_
 apply zA5
 ·intro w_ g_; refine og rfl ?_; refine zD1 (RO.grow g_) rfl rfl ?_ ?_; omega; exact qX
 apply zA5
 ·intro w_ g_; refine og rfl ?_; refine zC6 (v := .slice (sa (zB5 A)) (len2 A (zB5 A)) (sc (zB5 A))) (m := 0) (RO.grow g_) rfl (by rw [Nat.mul_one]; exact hsf _ (by assumption)) ?_; exact qX
 refine qA 2 ?_
 apply zA5
 ·intro w_ g_; refine og rfl ?_; exact zA4 (v := .int .i64 t.need) rfl (qB1 _ (T.grow (g0.tr g_))) (fun w2_ g2_ => ⟨g2_, rfl⟩)
 refine qA 2 ?_
 refine zG4 ?_
 intro w9 g10
 replace hbox := g10.heap hbox
 replace h := h.grow g10
 replace K := K.tr g10.kp
 replace g0 := g0.tr g10
 replace RO := RO.grow g10
 replace hc4 := g10.heap hc4
 clear g10
 refine qZ 6 ?_
 refine stp (zD5 rfl rfl ?_)
 refine qZ 1 ?_
 refine qG 2 ?_
 refine zA3 (zB3 (s := .bool _) (v := .int .i64 (((len2 A (zB5 A)) : Int) + t.need)) rfl (zE5 _) (fun hc13 => ?_) ?_)
 ·
  have hc13_ := qT hc13
  refine zB8 (gvt hc13) (gvt hc13) ?_ ?_; constructor <;> omega
  exact ⟨rfl, rfl⟩
 refine zA3 (zB3 (s := .bool _) (v := .pointer (some ⟨bB, 0, none⟩)) rfl (zE5 _) (fun hc14 => ?_) ?_)
 ·
  have hc14_ := qT hc14
  refine zF8 rfl ?_
  exact ⟨rfl, rfl⟩
 refine zA3 (zB3 (s := .bool _) (v := .pointer (some ⟨bB, 0, none⟩)) rfl (zE5 _) (fun hc15 => ?_) ?_)
 ·
  have hc15_ := qT hc15
  refine zF4 (gvt hc15) ?_
  exact ⟨rfl, rfl⟩
 refine zA3 (zB3 (s := .bool _) (v := .pointer (some ⟨bB, 1, none⟩)) rfl (zE5 _) (fun hc16 => ?_) ?_)
 ·
  have hc16_ := qT hc16
  refine zC1 (gvt hc16) ?_
  exact ⟨rfl, rfl⟩
 refine qG 1 ?_
 refine zA3 (zB3 (s := .bool _) (v := .bool (decide ((((len2 A (zB5 A)) : Int) + t.need) ≤ lim))) rfl (zE5 _) (fun hc18 => ?_) ?_)
 ·
  have hc18_ := qT hc18
  refine zQ6 (gvt hc18) (gvt hc18) ?_
  exact ⟨rfl, rfl⟩
 refine stp (zG6 rfl rfl rfl ?_)
 refine zA6 ?_
 refine zA2 (b := ((decide ((s : Int) = (zB5 A : Int))) && (decide ((((len2 A (zB5 A)) : Int) + t.need) ≤ lim)))) rfl (fun h1 => ?_) (fun h1 => ?_)
 ·
  simp only [sb] at h1
  have hsl : s = zB5 A := by omega
  have hi2 := hiA
  rw [hsl] at hi2
  have hp : zF2 lim t ⟨A, false⟩ s i = ⟨⟨setP A s i (t.near ((len2 A (zB5 A) : Int) - i - 1)), false⟩, zB5 A, len2 A (zB5 A)⟩ := by unfold zF2; dsimp only; rw [if_pos ⟨by omega, h1.2⟩]
  refine zS2 ?_
  obtain ⟨gq, cap, cur, hsg, hcur, hci, hgb, hgO, hgB, hput⟩ := h.put (s := s) (i := i) (by decide) (by decide) hsA hiA
  have hsa := zZ4 ((hsf s hsA).symm.trans hsg)
  have kb_hbox : ∀ w_, Kp [gq] w9 w_ → w_.heap[bB]? = some (.cells #[.slice ado A.length co, .int .i64 lim, .int .i64 (zC2 A)] 144 (0, 0)) := fun w_ k_ => k_.heap hbox (by simpa using hgB)
  have kb_RO : ∀ w_, Kp [gq] w9 w_ → RowAt w_ 1 ado A.length segs := fun w_ k_ => RO.keep1 k_ (fun b_ o_ he_ hb_ => hgO (by rw [he_, hb_]; rfl))
  have kb_g0 : ∀ w_, Kp [gq] w9 w_ → Grow w0 w_ := fun w_ k_ => g0.kp1 k_ (hb _ hgb)
  have kb_K : ∀ w_, Kp [gq] w9 w_ → Kp (blks bB (.slice ado A.length co) segs) w w_ := fun w_ k_ => K.trans k_ (fun x_ hx_ => .inl (by simp only [List.mem_singleton] at hx_; subst hx_; exact hgb))
  have kb_hc4 : ∀ w_, Kp [gq] w9 w_ → w_.heap[b1]? = some (.cells #[x0, x1, x2, x3, x4] 48 (0, 0)) := fun w_ k_ => k_.heap hc4 (fun hm_ => by simp only [List.mem_singleton] at hm_; have := hlt0 _ hgb; have := hge6; omega)
  refine zZ2 16 [[], [0], [1, 0], [2, 1, 0], [], [4, 3, 2, 1, 0], [5, 4, 3, 2, 1, 0], [], [], [], [], [1, 0], [2, 1, 0], [4, 3, 2, 1, 0], [13, 12, 11, 10, 9, 8, 7, 6, 5, 4, 3, 2, 1, 0], [14, 13, 12, 11, 10, 9, 8, 7, 6, 5, 4, 3, 2, 1, 0]] [15] [gq] (fun k_ w_ => match k_ with | 0 => w_.heap[gq]? = some (.cells cur 23 (0, 0)) | _ => w_.heap[gq]? = some (.cells (cur.toList.set i (.int .u64 (t.near ((len2 A (zB5 A) : Int) - i - 1)))).toArray 23 (0, 0))) mixed (by kernel_rfl) (by kernel_rfl) (by kernel_rfl) (by kernel_rfl) (fun k_ w_ w2_ g_ h_ => match k_, h_ with | 0, h_ => g_.heap h_ | n_ + 1, h_ => g_.heap h_) (fun w_ g_ => g_.heap hcur) ?_
  intro w19 g20
  replace kb_hbox : ∀ w_, Kp [gq] w19 w_ → w_.heap[bB]? = some (.cells #[.slice ado A.length co, .int .i64 lim, .int .i64 (zC2 A)] 144 (0, 0)) := fun w_ k_ => kb_hbox w_ (g20.kp.tr k_)
  replace kb_RO : ∀ w_, Kp [gq] w19 w_ → RowAt w_ 1 ado A.length segs := fun w_ k_ => kb_RO w_ (g20.kp.tr k_)
  replace kb_g0 : ∀ w_, Kp [gq] w19 w_ → Grow w0 w_ := fun w_ k_ => kb_g0 w_ (g20.kp.tr k_)
  replace kb_K : ∀ w_, Kp [gq] w19 w_ → Kp (blks bB (.slice ado A.length co) segs) w w_ := fun w_ k_ => kb_K w_ (g20.kp.tr k_)
  replace kb_hc4 : ∀ w_, Kp [gq] w19 w_ → w_.heap[b1]? = some (.cells #[x0, x1, x2, x3, x4] 48 (0, 0)) := fun w_ k_ => kb_hc4 w_ (g20.kp.tr k_)
  have k0_ : Kp [gq] w9 w19 := g20.kp
  refine qM 3 ?_
  apply zE7 (hm := by rfl)
  ·intro w_ g_; exact og rfl (zD8 (v := .slice ado A.length co) rfl (kb_hbox _ g_) rfl qX)
  refine qM 1 ?_
  apply zE7 (hm := by rfl)
  ·intro w_ g_; refine og rfl ?_; refine zD1 (kb_RO _ g_) rfl rfl ?_ ?_; omega; exact qX
  apply zE7 (hm := by rfl)
  ·intro w_ g_; refine og rfl ?_; refine zC6 (v := .slice (sa s) (len2 A s) (sc s)) (m := 0) (kb_RO _ g_) rfl (by rw [Nat.mul_one]; exact hsf _ (by assumption)) ?_; exact qX
  refine qM 1 ?_
  apply zE7 (hm := by rfl)
  ·intro w_ g_; exact og rfl (zC5 rfl (kb_hc4 _ g_) (by rfl) qX)
  refine qM 2 ?_
  apply zE7 (hm := by rfl)
  ·intro w_ g_; refine og rfl ?_; refine zL3 rfl rfl ?_ ?_; constructor <;> omega; exact qX
  apply zE7 (hm := by rfl)
  ·intro w_ g_; refine og rfl ?_; refine zL3 rfl rfl ?_ ?_; constructor <;> omega; exact qX
  apply zE7 (hm := by rfl)
  ·intro w_ g_; refine og rfl ?_; exact zA4 (v := .int .u64 (t.near ((((len2 A (zB5 A)) : Int) - (i : Int)) - 1))) rfl (zW4 _ (T.grow (kb_g0 _ g_)) ((((len2 A (zB5 A)) : Int) - (i : Int)) - 1)) (fun w2_ g2_ => ⟨g2_, rfl⟩)
  apply zE7 (hm := by rfl)
  ·intro w_ g_; refine og rfl ?_; refine zD7 (b := gq) (o := 0) (by show Value.slice (sa s) _ _ = _; rw [hsa]) rfl (by omega) (by omega) ?_; rw [Int.toNat_natCast, Nat.zero_add, Nat.mul_one]; exact qX
  apply zQ7 0 (hm := by rfl)
  ·intro w_ g_ s_
   refine og rfl ?_
   refine zB9 (v := .int .u64 (t.near ((len2 A (zB5 A) : Int) - i - 1))) rfl rfl rfl s_ (Nat.ble_eq_true_of_le (by omega)) rfl ?_
   intro w2_ s2_ u_
   exact ⟨Kp.of_upd u_ (by simp), s2_, rfl⟩
  refine zS6 ?_
  intro w21 g22 S_
  replace k0_ := (k0_.tr g22)
  replace h := hput _ _ (t.near ((len2 A (zB5 A) : Int) - i - 1)) S_ (by simp) k0_
  rw [← zJ6 A s i (t.near ((len2 A (zB5 A) : Int) - i - 1))] at h
  clear hput S_ k0_ hcur
  replace hbox := kb_hbox _ g22
  clear kb_hbox
  replace RO := kb_RO _ g22
  clear kb_RO
  replace g0 := kb_g0 _ g22
  clear kb_g0
  replace K := kb_K _ g22
  clear kb_K
  replace hc4 := kb_hc4 _ g22
  clear kb_hc4
  refine qZ 10 ?_
  rw [hp]
  refine ret3 (zA1 (v := .int .i64 (zB5 A : Int)) rfl) (zA1 (v := .int .i64 ((len2 A (zB5 A)) : Int)) rfl) (zA1 (v := .bool true) rfl) ⟨rfl, _, _, h, K, fun k hk => .inl hk⟩
 ·
  simp only [sb] at h1
  refine qZ 6 ?_
  refine stp (zD5 rfl rfl ?_)
  refine qZ 1 ?_
  refine qG 2 ?_
  refine zA3 (zB3 (s := .bool _) (v := .int .i64 (((len2 A (zB5 A)) : Int) + t.need)) rfl (zE1 _) (fun hc25 => ?_) ?_)
  ·
   have hc25_ := hc25
   try simp only [sb] at hc25_
   refine zB8 (gvt hc25) (gvt hc25) ?_ ?_; constructor <;> omega
   exact ⟨rfl, rfl⟩
  refine zA3 (zB3 (s := .bool _) (v := .int .i64 ((((len2 A (zB5 A)) : Int) + t.need) + 1)) rfl (zE1 _) (fun hc26 => ?_) ?_)
  ·
   have hc26_ := hc26
   try simp only [sb] at hc26_
   refine zB8 (gvt hc26) rfl ?_ ?_; constructor <;> omega
   exact ⟨rfl, rfl⟩
  refine zA3 (zB3 (s := .bool _) (v := .pointer (some ⟨bB, 0, none⟩)) rfl (zE1 _) (fun hc27 => ?_) ?_)
  ·
   have hc27_ := hc27
   try simp only [sb] at hc27_
   refine zF8 rfl ?_
   exact ⟨rfl, rfl⟩
  refine zA3 (zB3 (s := .bool _) (v := .pointer (some ⟨bB, 0, none⟩)) rfl (zE1 _) (fun hc28 => ?_) ?_)
  ·
   have hc28_ := hc28
   try simp only [sb] at hc28_
   refine zF4 (gvt hc28) ?_
   exact ⟨rfl, rfl⟩
  refine zA3 (zB3 (s := .bool _) (v := .pointer (some ⟨bB, 1, none⟩)) rfl (zE1 _) (fun hc29 => ?_) ?_)
  ·
   have hc29_ := hc29
   try simp only [sb] at hc29_
   refine zC1 (gvt hc29) ?_
   exact ⟨rfl, rfl⟩
  refine qG 1 ?_
  refine zA3 (zB3 (s := .bool _) (v := .bool (decide (((((len2 A (zB5 A)) : Int) + t.need) + 1) > lim))) rfl (zE1 _) (fun hc31 => ?_) ?_)
  ·
   have hc31_ := hc31
   try simp only [sb] at hc31_
   refine zO4 (gvt hc31) (gvt hc31) ?_
   exact ⟨rfl, rfl⟩
  refine stp (zI1 rfl rfl rfl ?_)
  refine zA6 ?_
  refine zA2 (b := ((decide ((s : Int) = (zB5 A : Int))) || (decide (((((len2 A (zB5 A)) : Int) + t.need) + 1) > lim)))) rfl (fun h2 => ?_) (fun h2 => ?_)
  ·
   simp only [sb] at h2
   have hp : zF2 lim t ⟨A, false⟩ s i = ⟨zJ8 lim ⟨setP A s i (farP ((zB5 A : Int) + 1) 0), false⟩ (zB5 A + 1) [t.near 0], zB5 A + 1, 1⟩ := by unfold zF2; dsimp only; rw [if_neg (by omega), if_pos (by simp only [qQ0, Bool.or_eq_true, decide_eq_true_eq]; omega)]
   refine qZ 2 ?_
   refine stp (zB8 rfl rfl ?_ ?_); constructor <;> omega
   refine qZ 4 ?_
   obtain ⟨gq, cap, cur, hsg, hcur, hci, hgb, hgO, hgB, hput⟩ := h.put (s := s) (i := i) (by decide) (by decide) hsA hiA
   have hsa := zZ4 ((hsf s hsA).symm.trans hsg)
   have kb_hbox : ∀ w_, Kp [gq] w9 w_ → w_.heap[bB]? = some (.cells #[.slice ado A.length co, .int .i64 lim, .int .i64 (zC2 A)] 144 (0, 0)) := fun w_ k_ => k_.heap hbox (by simpa using hgB)
   have kb_RO : ∀ w_, Kp [gq] w9 w_ → RowAt w_ 1 ado A.length segs := fun w_ k_ => RO.keep1 k_ (fun b_ o_ he_ hb_ => hgO (by rw [he_, hb_]; rfl))
   have kb_g0 : ∀ w_, Kp [gq] w9 w_ → Grow w0 w_ := fun w_ k_ => g0.kp1 k_ (hb _ hgb)
   have kb_K : ∀ w_, Kp [gq] w9 w_ → Kp (blks bB (.slice ado A.length co) segs) w w_ := fun w_ k_ => K.trans k_ (fun x_ hx_ => .inl (by simp only [List.mem_singleton] at hx_; subst hx_; exact hgb))
   have kb_hc4 : ∀ w_, Kp [gq] w9 w_ → w_.heap[b1]? = some (.cells #[x0, x1, x2, x3, x4] 48 (0, 0)) := fun w_ k_ => k_.heap hc4 (fun hm_ => by simp only [List.mem_singleton] at hm_; have := hlt0 _ hgb; have := hge6; omega)
   refine zZ2 17 [[], [0], [1, 0], [2, 1, 0], [], [4, 3, 2, 1, 0], [5, 4, 3, 2, 1, 0], [], [], [], [1, 0], [2, 1, 0], [3, 2, 1, 0], [4, 3, 2, 1, 0], [5, 4, 3, 2, 1], [14, 13, 12, 11, 10, 9, 8, 7, 6, 5, 4, 3, 2, 1], [15, 14, 13, 12, 11, 10, 9, 8, 7, 6, 5, 4, 3, 2, 0]] [16] [gq] (fun k_ w_ => match k_ with | 0 => w_.heap[gq]? = some (.cells cur 23 (0, 0)) | _ => w_.heap[gq]? = some (.cells (cur.toList.set i (.int .u64 (farP ((zB5 A : Int) + 1) 0))).toArray 23 (0, 0))) mixed (by kernel_rfl) (by kernel_rfl) (by kernel_rfl) (by kernel_rfl) (fun k_ w_ w2_ g_ h_ => match k_, h_ with | 0, h_ => g_.heap h_ | n_ + 1, h_ => g_.heap h_) (fun w_ g_ => g_.heap hcur) ?_
   intro w32 g33
   replace kb_hbox : ∀ w_, Kp [gq] w32 w_ → w_.heap[bB]? = some (.cells #[.slice ado A.length co, .int .i64 lim, .int .i64 (zC2 A)] 144 (0, 0)) := fun w_ k_ => kb_hbox w_ (g33.kp.tr k_)
   replace kb_RO : ∀ w_, Kp [gq] w32 w_ → RowAt w_ 1 ado A.length segs := fun w_ k_ => kb_RO w_ (g33.kp.tr k_)
   replace kb_g0 : ∀ w_, Kp [gq] w32 w_ → Grow w0 w_ := fun w_ k_ => kb_g0 w_ (g33.kp.tr k_)
   replace kb_K : ∀ w_, Kp [gq] w32 w_ → Kp (blks bB (.slice ado A.length co) segs) w w_ := fun w_ k_ => kb_K w_ (g33.kp.tr k_)
   replace kb_hc4 : ∀ w_, Kp [gq] w32 w_ → w_.heap[b1]? = some (.cells #[x0, x1, x2, x3, x4] 48 (0, 0)) := fun w_ k_ => kb_hc4 w_ (g33.kp.tr k_)
   have k0_ : Kp [gq] w9 w32 := g33.kp
   refine qM 3 ?_
   apply zE7 (hm := by rfl)
   ·intro w_ g_; exact og rfl (zD8 (v := .slice ado A.length co) rfl (kb_hbox _ g_) rfl qX)
   refine qM 1 ?_
   apply zE7 (hm := by rfl)
   ·intro w_ g_; refine og rfl ?_; refine zD1 (kb_RO _ g_) rfl rfl ?_ ?_; omega; exact qX
   apply zE7 (hm := by rfl)
   ·intro w_ g_; refine og rfl ?_; refine zC6 (v := .slice (sa s) (len2 A s) (sc s)) (m := 0) (kb_RO _ g_) rfl (by rw [Nat.mul_one]; exact hsf _ (by assumption)) ?_; exact qX
   refine qM 3 ?_
   apply zE7 (hm := by rfl)
   ·intro w_ g_; exact og rfl (zA7 (v := .agg #[.int .i64 3, .int .i64 0, .int .i64 0, .int .i64 0, .int .i64 0, .int .i64 0, .int .i64 ((zB5 A : Int) + 1), .bool false]) (fun w => by kernel_rfl) qX)
   apply zE7 (hm := by rfl)
   ·intro w_ g_; refine og rfl ?_; exact zA4 (v := .tuple #[.int .u64 (farP ((zB5 A : Int) + 1) 0), .int .u16 (encE ⟨3, 0, 0, 0, 0, 0, (zB5 A : Int) + 1, false⟩)]) rfl (zQ3 _ ⟨3, 0, 0, 0, 0, 0, (zB5 A : Int) + 1, false⟩) (fun w2_ g2_ => ⟨g2_, rfl⟩)
   refine qM 3 ?_
   apply zE7 (hm := by rfl)
   ·intro w_ g_; refine og rfl ?_; refine zD7 (b := gq) (o := 0) (by show Value.slice (sa s) _ _ = _; rw [hsa]) rfl (by omega) (by omega) ?_; rw [Int.toNat_natCast, Nat.zero_add, Nat.mul_one]; exact qX
   apply zQ7 0 (hm := by rfl)
   ·intro w_ g_ s_
    refine og rfl ?_
    refine zB9 (v := .int .u64 (farP ((zB5 A : Int) + 1) 0)) rfl rfl rfl s_ (Nat.ble_eq_true_of_le (by omega)) rfl ?_
    intro w2_ s2_ u_
    exact ⟨Kp.of_upd u_ (by simp), s2_, rfl⟩
   refine zS6 ?_
   intro w34 g35 S_
   replace k0_ := (k0_.tr g35)
   replace h := hput _ _ (farP ((zB5 A : Int) + 1) 0) S_ (by simp) k0_
   rw [← zJ6 A s i (farP ((zB5 A : Int) + 1) 0)] at h
   clear hput S_ k0_ hcur
   replace hbox := kb_hbox _ g35
   clear kb_hbox
   replace RO := kb_RO _ g35
   clear kb_RO
   replace g0 := kb_g0 _ g35
   clear kb_g0
   replace K := kb_K _ g35
   clear kb_K
   replace hc4 := kb_hc4 _ g35
   clear kb_hc4
   refine qZ 5 ?_
   refine stp (zB8 rfl rfl ?_ ?_); constructor <;> omega
   refine qZ 3 ?_
   refine stp (zA4 (v := .int .u64 (t.near 0)) rfl (zW4 _ (T.grow g0) (0)) ?_)
   intro w36 g37
   replace hbox := g37.heap hbox
   replace K := K.tr g37.kp
   replace g0 := g0.tr g37
   replace RO := RO.grow g37
   replace hc4 := g37.heap hc4
   replace h := h.grow g37
   clear g37
   refine stp ?_
   have hlt := h.lt
   refine zB4 (cs := #[.int .u64 (t.near 0)]) (el := 23) (fun w => by kernel_rfl) ?_
   intro bs38 w39 hb40 hc41 g42
   have hge43 := Nat.le_trans K.size hb40
   replace hbox := g42.heap hbox
   replace K := K.tr g42.kp
   replace g0 := g0.tr g42
   replace RO := RO.grow g42
   replace hc4 := g42.heap hc4
   replace h := h.grow g42
   clear g42
   refine stp ?_
   have ol := qH2 (base := w36.heap.size) (sz := 1) (n := 1) hc41 hb40 rfl (by decide)
   have hq : zB5 A + 1 ≤ (setP A s i (farP ((zB5 A : Int) + 1) 0)).length := by rw [zE9]; omega
   have FA := (F.set s i (farP ((zB5 A : Int) + 1) 0)).small hl2
   have hqc : ((zB5 A + 1 : Nat) : Int) = (zB5 A : Int) + 1 := by omega
   have hcal := qI2 _ (q := zB5 A + 1) (l := [t.near 0]) h hq ol (fun k hk => hlt k hk) (Nat.le_of_lt (Nat.lt_of_le_of_lt hb40 (zB2 hc41))) FA.1 FA.2 (by simp) (by rw [zJ6]; omega) (by rw [zJ6]; omega)
   rw [hqc] at hcal
   refine zD0 rfl hcal ?_
   rintro v_ w44 ⟨rfl, so9, segs9, h9, K9, nb9⟩
   refine qZ 5 ?_
   rw [hp]
   refine ret3 (zA1 (v := .int .i64 ((zB5 A : Int) + 1)) rfl) (zA1 (v := .int .i64 (0 + 1)) rfl) (zA1 (v := .bool (decide (((zK2 (setP A s i (farP ((zB5 A : Int) + 1) 0)) (zB5 A + 1) [t.near 0]).length : Int) ≤ 16) && (decide ((((zK2 (setP A s i (farP ((zB5 A : Int) + 1) 0)) (zB5 A + 1) [t.near 0]).getD (zB5 A + 1) []).length : Int) ≤ lim) && decide (zC2 (setP A s i (farP ((zB5 A : Int) + 1) 0)) + (([t.near 0] : List Int).length : Int) ≤ 4096)))) rfl) ⟨?_, so9, segs9, ?_, K.trans K9 (fun x hx => .inl hx), fun k hk => (nb9 k hk).imp id (fun h_ => Nat.le_trans K.size h_)⟩
   ·rw [qM4 hq]; simp only [Value.tuple.injEq]; try simp
   ·rw [← zU6 _ _ _ hq] at h9; exact h9
  ·
   simp only [sb] at h2
   have hp : zF2 lim t ⟨A, false⟩ s i = ⟨zJ8 lim ⟨setP A s i (farP (zB5 A) (len2 A (zB5 A))), false⟩ (zB5 A) [t.near 0], zB5 A, len2 A (zB5 A) + 1⟩ := by unfold zF2; dsimp only; rw [if_neg (by omega), if_neg (by simp only [qQ0, Bool.or_eq_true, decide_eq_true_eq]; omega)]
   refine qZ 2 ?_
   obtain ⟨gq, cap, cur, hsg, hcur, hci, hgb, hgO, hgB, hput⟩ := h.put (s := s) (i := i) (by decide) (by decide) hsA hiA
   have hsa := zZ4 ((hsf s hsA).symm.trans hsg)
   have kb_hbox : ∀ w_, Kp [gq] w9 w_ → w_.heap[bB]? = some (.cells #[.slice ado A.length co, .int .i64 lim, .int .i64 (zC2 A)] 144 (0, 0)) := fun w_ k_ => k_.heap hbox (by simpa using hgB)
   have kb_RO : ∀ w_, Kp [gq] w9 w_ → RowAt w_ 1 ado A.length segs := fun w_ k_ => RO.keep1 k_ (fun b_ o_ he_ hb_ => hgO (by rw [he_, hb_]; rfl))
   have kb_g0 : ∀ w_, Kp [gq] w9 w_ → Grow w0 w_ := fun w_ k_ => g0.kp1 k_ (hb _ hgb)
   have kb_K : ∀ w_, Kp [gq] w9 w_ → Kp (blks bB (.slice ado A.length co) segs) w w_ := fun w_ k_ => K.trans k_ (fun x_ hx_ => .inl (by simp only [List.mem_singleton] at hx_; subst hx_; exact hgb))
   have kb_hc4 : ∀ w_, Kp [gq] w9 w_ → w_.heap[b1]? = some (.cells #[x0, x1, x2, x3, x4] 48 (0, 0)) := fun w_ k_ => k_.heap hc4 (fun hm_ => by simp only [List.mem_singleton] at hm_; have := hlt0 _ hgb; have := hge6; omega)
   refine zZ2 17 [[], [0], [1, 0], [2, 1, 0], [], [4, 3, 2, 1, 0], [5, 4, 3, 2, 1, 0], [], [], [], [1, 0], [2, 1, 0], [3, 2, 1, 0], [4, 3, 2, 1, 0], [5, 4, 3, 2, 1], [14, 13, 12, 11, 10, 9, 8, 7, 6, 5, 4, 3, 2, 1], [15, 14, 13, 12, 11, 10, 9, 8, 7, 6, 5, 4, 3, 2, 0]] [16] [gq] (fun k_ w_ => match k_ with | 0 => w_.heap[gq]? = some (.cells cur 23 (0, 0)) | _ => w_.heap[gq]? = some (.cells (cur.toList.set i (.int .u64 (farP (zB5 A : Int) (len2 A (zB5 A) : Int)))).toArray 23 (0, 0))) mixed (by kernel_rfl) (by kernel_rfl) (by kernel_rfl) (by kernel_rfl) (fun k_ w_ w2_ g_ h_ => match k_, h_ with | 0, h_ => g_.heap h_ | n_ + 1, h_ => g_.heap h_) (fun w_ g_ => g_.heap hcur) ?_
   intro w45 g46
   replace kb_hbox : ∀ w_, Kp [gq] w45 w_ → w_.heap[bB]? = some (.cells #[.slice ado A.length co, .int .i64 lim, .int .i64 (zC2 A)] 144 (0, 0)) := fun w_ k_ => kb_hbox w_ (g46.kp.tr k_)
   replace kb_RO : ∀ w_, Kp [gq] w45 w_ → RowAt w_ 1 ado A.length segs := fun w_ k_ => kb_RO w_ (g46.kp.tr k_)
   replace kb_g0 : ∀ w_, Kp [gq] w45 w_ → Grow w0 w_ := fun w_ k_ => kb_g0 w_ (g46.kp.tr k_)
   replace kb_K : ∀ w_, Kp [gq] w45 w_ → Kp (blks bB (.slice ado A.length co) segs) w w_ := fun w_ k_ => kb_K w_ (g46.kp.tr k_)
   replace kb_hc4 : ∀ w_, Kp [gq] w45 w_ → w_.heap[b1]? = some (.cells #[x0, x1, x2, x3, x4] 48 (0, 0)) := fun w_ k_ => kb_hc4 w_ (g46.kp.tr k_)
   have k0_ : Kp [gq] w9 w45 := g46.kp
   refine qM 3 ?_
   apply zE7 (hm := by rfl)
   ·intro w_ g_; exact og rfl (zD8 (v := .slice ado A.length co) rfl (kb_hbox _ g_) rfl qX)
   refine qM 1 ?_
   apply zE7 (hm := by rfl)
   ·intro w_ g_; refine og rfl ?_; refine zD1 (kb_RO _ g_) rfl rfl ?_ ?_; omega; exact qX
   apply zE7 (hm := by rfl)
   ·intro w_ g_; refine og rfl ?_; refine zC6 (v := .slice (sa s) (len2 A s) (sc s)) (m := 0) (kb_RO _ g_) rfl (by rw [Nat.mul_one]; exact hsf _ (by assumption)) ?_; exact qX
   refine qM 3 ?_
   apply zE7 (hm := by rfl)
   ·intro w_ g_; exact og rfl (zA7 (v := .agg #[.int .i64 3, .int .i64 ((len2 A (zB5 A)) : Int), .int .i64 0, .int .i64 0, .int .i64 0, .int .i64 0, .int .i64 (zB5 A : Int), .bool false]) (fun w => by kernel_rfl) qX)
   apply zE7 (hm := by rfl)
   ·intro w_ g_; refine og rfl ?_; exact zA4 (v := .tuple #[.int .u64 (farP (zB5 A : Int) (len2 A (zB5 A) : Int)), .int .u16 (encE ⟨3, (len2 A (zB5 A) : Int), 0, 0, 0, 0, (zB5 A : Int), false⟩)]) rfl (zQ3 _ ⟨3, (len2 A (zB5 A) : Int), 0, 0, 0, 0, (zB5 A : Int), false⟩) (fun w2_ g2_ => ⟨g2_, rfl⟩)
   refine qM 3 ?_
   apply zE7 (hm := by rfl)
   ·intro w_ g_; refine og rfl ?_; refine zD7 (b := gq) (o := 0) (by show Value.slice (sa s) _ _ = _; rw [hsa]) rfl (by omega) (by omega) ?_; rw [Int.toNat_natCast, Nat.zero_add, Nat.mul_one]; exact qX
   apply zQ7 0 (hm := by rfl)
   ·intro w_ g_ s_
    refine og rfl ?_
    refine zB9 (v := .int .u64 (farP (zB5 A : Int) (len2 A (zB5 A) : Int))) rfl rfl rfl s_ (Nat.ble_eq_true_of_le (by omega)) rfl ?_
    intro w2_ s2_ u_
    exact ⟨Kp.of_upd u_ (by simp), s2_, rfl⟩
   refine zS6 ?_
   intro w47 g48 S_
   replace k0_ := (k0_.tr g48)
   replace h := hput _ _ (farP (zB5 A : Int) (len2 A (zB5 A) : Int)) S_ (by simp) k0_
   rw [← zJ6 A s i (farP (zB5 A : Int) (len2 A (zB5 A) : Int))] at h
   clear hput S_ k0_ hcur
   replace hbox := kb_hbox _ g48
   clear kb_hbox
   replace RO := kb_RO _ g48
   clear kb_RO
   replace g0 := kb_g0 _ g48
   clear kb_g0
   replace K := kb_K _ g48
   clear kb_K
   replace hc4 := kb_hc4 _ g48
   clear kb_hc4
   refine qZ 5 ?_
   refine stp (zB8 rfl rfl ?_ ?_); constructor <;> omega
   refine qZ 3 ?_
   refine stp (zA4 (v := .int .u64 (t.near 0)) rfl (zW4 _ (T.grow g0) (0)) ?_)
   intro w49 g50
   replace hbox := g50.heap hbox
   replace K := K.tr g50.kp
   replace g0 := g0.tr g50
   replace RO := RO.grow g50
   replace hc4 := g50.heap hc4
   replace h := h.grow g50
   clear g50
   refine stp ?_
   have hlt := h.lt
   refine zB4 (cs := #[.int .u64 (t.near 0)]) (el := 23) (fun w => by kernel_rfl) ?_
   intro bs51 w52 hb53 hc54 g55
   have hge56 := Nat.le_trans K.size hb53
   replace hbox := g55.heap hbox
   replace K := K.tr g55.kp
   replace g0 := g0.tr g55
   replace RO := RO.grow g55
   replace hc4 := g55.heap hc4
   replace h := h.grow g55
   clear g55
   refine stp ?_
   have ol := qH2 (base := w49.heap.size) (sz := 1) (n := 1) hc54 hb53 rfl (by decide)
   have hq : zB5 A ≤ (setP A s i (farP (zB5 A : Int) (len2 A (zB5 A) : Int))).length := by rw [zE9]; omega
   have FA := (F.set s i (farP (zB5 A : Int) (len2 A (zB5 A) : Int))).small hl2
   have hqc : ((zB5 A : Nat) : Int) = (zB5 A : Int) := by omega
   have hcal := qI2 _ (q := zB5 A) (l := [t.near 0]) h hq ol (fun k hk => hlt k hk) (Nat.le_of_lt (Nat.lt_of_le_of_lt hb53 (zB2 hc54))) FA.1 FA.2 (by simp) (by rw [zJ6]; omega) (by rw [zJ6]; omega)
   rw [hqc] at hcal
   refine zD0 rfl hcal ?_
   rintro v_ w57 ⟨rfl, so9, segs9, h9, K9, nb9⟩
   refine qZ 5 ?_
   rw [hp]
   refine ret3 (zA1 (v := .int .i64 (zB5 A : Int)) rfl) (zA1 (v := .int .i64 (((len2 A (zB5 A)) : Int) + 1)) rfl) (zA1 (v := .bool (decide (((zK2 (setP A s i (farP (zB5 A : Int) (len2 A (zB5 A) : Int))) (zB5 A) [t.near 0]).length : Int) ≤ 16) && (decide ((((zK2 (setP A s i (farP (zB5 A : Int) (len2 A (zB5 A) : Int))) (zB5 A) [t.near 0]).getD (zB5 A) []).length : Int) ≤ lim) && decide (zC2 (setP A s i (farP (zB5 A : Int) (len2 A (zB5 A) : Int))) + (([t.near 0] : List Int).length : Int) ≤ 4096)))) rfl) ⟨?_, so9, segs9, ?_, K.trans K9 (fun x hx => .inl hx), fun k hk => (nb9 k hk).imp id (fun h_ => Nat.le_trans K.size h_)⟩
   ·rw [qM4 hq]; simp only [Value.tuple.injEq]; try simp
   ·rw [← zU6 _ _ _ hq] at h9; exact h9
theorem qZ0 : ∀ (n_ : Nat) (w : World) {w0 : World} {bB : Nat} {so : Value} {segs : List Value} {A : List (List Int)} {lim : Int} {c : List Value} {t : Nd} {s i : Nat} (h : BldAt 144 37 23 w bB (so) segs (A) lim (zC2 (A))) (T : NodeR w0 c t) (g0 : Grow w0 w) (hb : ∀ k ∈ blks bB so segs, w0.heap.size ≤ k) (F : Fit lim A) (hsA : s < A.length) (hiA : i < len2 A s) (hl1 : 1 ≤ lim) (hl2 : lim ≤ 4096) (hR : t.fine), t.sz ≤ n_ → Calls Tryz.prog 81 #[.pointer (some ⟨bB, 0, none⟩), .agg c.toArray, .int .i64 (s : Int), .int .i64 (i : Int)] w (Ret fun v w' => v = .bool (!(t.lay lim ⟨A, false⟩ s i).full) ∧ Kp (blks bB so segs) w w' ∧ ((t.lay lim ⟨A, false⟩ s i).full = false → ∃ so' segs', BldAt 144 37 23 w' bB (so') segs' ((t.lay lim ⟨A, false⟩ s i).A) lim (zC2 ((t.lay lim ⟨A, false⟩ s i).A)) ∧ (∀ k ∈ blks bB so' segs', k ∈ blks bB so segs ∨ w.heap.size ≤ k))) := by
 intro n_
 induction n_ with
 | zero => intro w w0 bB so segs A lim c t s i h T g0 hb F hsA hiA hl1 hl2 hR hm_; exact absurd hm_ (by have := t.sz_pos; omega)
 | succ n_ ih_ =>
 intro w w0 bB so segs A lim c t s i h T g0 hb F hsA hiA hl1 hl2 hR hm_
 have Tk := T
 have FS := F.small hl2
 obtain ⟨ado, co, sa, sc, rfl, hco, RO, hsf⟩ := h.fn FS.1
 have hbox := h.box
 have K := Kp.refl (blks bB (.slice ado A.length co) segs) w
 obtain ⟨hlast, hlastE⟩ := qS7 F.one
 have hlt0 := h.lt
 have hsz0 := g0.size
 have hA16 := F.most
 have htot := F.all
 have htn := zL1 A
 have hlseg := F.seg (zB5 A)
 obtain @⟨kind, size, words, bytes, kids, ws, bs, ks, kc, hk, hs, hW, hwr, hB, hbr, hK, hKs⟩ := T
 obtain ⟨aw, cw, rfl, hcw, hcw2, RW⟩ := hW
 obtain ⟨ab, cb, rfl, hcb, hcb2, RB⟩ := hB
 obtain ⟨ak, ck, rfl, hck, hck2, RK⟩ := hK
 have lw := RW.lim
 have lb := RB.lim
 have lk := RK.lim
 simp only [inR] at hk hs
 have T0 := Tk
 have hB_ := Nd.own_b (Nd.fine_own hR)
 obtain ⟨hkd, hlw, hlb, hlk, hnn, hnm, hkn, hb1⟩ := hB_
 refine zC0 Tryz.func81 Tryz.ntmps81 Tryz.results81 rfl rfl ?_
 refine qZ 2 ?_
 refine stp ?_
 refine qC ?_
 intro b1 w2 hb3 hc4 g5
 have hge6 := Nat.le_trans K.size hb3
 replace hbox := g5.heap hbox
 replace h := h.grow g5
 replace K := K.tr g5.kp
 replace g0 := g0.tr g5
 replace RO := RO.grow g5
 clear g5 hb3
 refine qZ 8 ?_
 refine stp (zD5 rfl rfl ?_)
 refine qZ 2 ?_
 refine zA2 (b := (decide (kind = 0))) rfl (fun h1 => ?_) (fun h1 => ?_)
 ·
  replace h1 := qT h1
  have hl : (Nd.mk kind size words bytes kids).lay lim ⟨A, false⟩ s i = ⟨A, false⟩ := by simp only [Nd.lay]; rw [if_pos (.inl h1)]
  refine qZ 5 ?_
  rw [hl]
  refine ret1 (zA1 (v := .bool true) rfl) ⟨rfl, K, fun _ => ⟨_, _, h, fun k hk => .inl hk⟩⟩
 ·
  replace h1 := qF h1
  refine qZ 3 ?_
  refine stp (zA4 (v := .int .i64 ((Nd.mk kind size words bytes kids).need)) rfl (qB1 _ (T0.grow g0)) ?_)
  intro w7 g8
  replace hbox := g8.heap hbox
  replace h := h.grow g8
  replace K := K.tr g8.kp
  replace g0 := g0.tr g8
  replace RO := RO.grow g8
  replace hc4 := g8.heap hc4
  clear g8
  refine stp (zD5 rfl rfl ?_)
  refine qZ 1 ?_
  refine qG 2 ?_
  refine zA3 (zB3 (s := .bool _) (v := .bool (decide (kind = 1))) rfl (zE5 _) (fun hc11 => ?_) ?_)
  ·
   have hc11_ := qT hc11
   refine zD5 (gvt hc11) rfl ?_
   exact ⟨rfl, rfl⟩
  refine stp (zG6 rfl rfl rfl ?_)
  refine qZ 2 ?_
  refine zA2 (b := ((decide (((Nd.mk kind size words bytes kids).need) = 0)) && (decide (kind = 1)))) rfl (fun h2 => ?_) (fun h2 => ?_)
  ·
   simp only [sb] at h2
   have hl : (Nd.mk kind size words bytes kids).lay lim ⟨A, false⟩ s i = ⟨setP A s i ((Nd.mk kind size words bytes kids).near (-1)), false⟩ := by simp only [Nd.lay]; rw [if_neg (by simp [h1]), if_pos h2.1, if_pos h2.2]
   refine zS2 ?_
   obtain ⟨gq, cap, cur, hsg, hcur, hci, hgb, hgO, hgB, hput⟩ := h.put (s := s) (i := i) (by decide) (by decide) hsA hiA
   have hsa := zZ4 ((hsf s hsA).symm.trans hsg)
   have kb_hbox : ∀ w_, Kp [gq] w7 w_ → w_.heap[bB]? = some (.cells #[.slice ado A.length co, .int .i64 lim, .int .i64 (zC2 A)] 144 (0, 0)) := fun w_ k_ => k_.heap hbox (by simpa using hgB)
   have kb_RO : ∀ w_, Kp [gq] w7 w_ → RowAt w_ 1 ado A.length segs := fun w_ k_ => RO.keep1 k_ (fun b_ o_ he_ hb_ => hgO (by rw [he_, hb_]; rfl))
   have kb_g0 : ∀ w_, Kp [gq] w7 w_ → Grow w0 w_ := fun w_ k_ => g0.kp1 k_ (hb _ hgb)
   have kb_K : ∀ w_, Kp [gq] w7 w_ → Kp (blks bB (.slice ado A.length co) segs) w w_ := fun w_ k_ => K.trans k_ (fun x_ hx_ => .inl (by simp only [List.mem_singleton] at hx_; subst hx_; exact hgb))
   have kb_hc4 : ∀ w_, Kp [gq] w7 w_ → w_.heap[b1]? = some (.cells #[.int .i64 kind, .int .i64 size, .slice aw words.length cw, .slice ab bytes.length cb, .slice ak kids.length ck] 48 (0, 0)) := fun w_ k_ => k_.heap hc4 (fun hm_ => by simp only [List.mem_singleton] at hm_; have := hlt0 _ hgb; have := hge6; omega)
   refine zZ2 12 [[], [0], [1, 0], [2, 1, 0], [], [4, 3, 2, 1, 0], [5, 4, 3, 2, 1, 0], [], [], [0], [9, 8, 7, 6, 5, 4, 3, 2, 1, 0], [10, 9, 8, 7, 6, 5, 4, 3, 2, 1, 0]] [11] [gq] (fun k_ w_ => match k_ with | 0 => w_.heap[gq]? = some (.cells cur 23 (0, 0)) | _ => w_.heap[gq]? = some (.cells (cur.toList.set i (.int .u64 ((Nd.mk kind size words bytes kids).near (-1)))).toArray 23 (0, 0))) mixed (by kernel_rfl) (by kernel_rfl) (by kernel_rfl) (by kernel_rfl) (fun k_ w_ w2_ g_ h_ => match k_, h_ with | 0, h_ => g_.heap h_ | n_ + 1, h_ => g_.heap h_) (fun w_ g_ => g_.heap hcur) ?_
   intro w12 g13
   replace kb_hbox : ∀ w_, Kp [gq] w12 w_ → w_.heap[bB]? = some (.cells #[.slice ado A.length co, .int .i64 lim, .int .i64 (zC2 A)] 144 (0, 0)) := fun w_ k_ => kb_hbox w_ (g13.kp.tr k_)
   replace kb_RO : ∀ w_, Kp [gq] w12 w_ → RowAt w_ 1 ado A.length segs := fun w_ k_ => kb_RO w_ (g13.kp.tr k_)
   replace kb_g0 : ∀ w_, Kp [gq] w12 w_ → Grow w0 w_ := fun w_ k_ => kb_g0 w_ (g13.kp.tr k_)
   replace kb_K : ∀ w_, Kp [gq] w12 w_ → Kp (blks bB (.slice ado A.length co) segs) w w_ := fun w_ k_ => kb_K w_ (g13.kp.tr k_)
   replace kb_hc4 : ∀ w_, Kp [gq] w12 w_ → w_.heap[b1]? = some (.cells #[.int .i64 kind, .int .i64 size, .slice aw words.length cw, .slice ab bytes.length cb, .slice ak kids.length ck] 48 (0, 0)) := fun w_ k_ => kb_hc4 w_ (g13.kp.tr k_)
   have k0_ : Kp [gq] w7 w12 := g13.kp
   refine qM 3 ?_
   apply zE7 (hm := by rfl)
   ·intro w_ g_; exact og rfl (zD8 (v := .slice ado A.length co) rfl (kb_hbox _ g_) rfl qX)
   refine qM 1 ?_
   apply zE7 (hm := by rfl)
   ·intro w_ g_; refine og rfl ?_; refine zD1 (kb_RO _ g_) rfl rfl ?_ ?_; omega; exact qX
   apply zE7 (hm := by rfl)
   ·intro w_ g_; refine og rfl ?_; refine zC6 (v := .slice (sa s) (len2 A s) (sc s)) (m := 0) (kb_RO _ g_) rfl (by rw [Nat.mul_one]; exact hsf _ (by assumption)) ?_; exact qX
   refine qM 1 ?_
   apply zE7 (hm := by rfl)
   ·intro w_ g_; exact og rfl (zC5 rfl (kb_hc4 _ g_) (by rfl) qX)
   apply zE7 (hm := by rfl)
   ·intro w_ g_; refine og rfl ?_; exact zA4 (v := .int .u64 ((Nd.mk kind size words bytes kids).near (-1))) rfl (zW4 _ (T0.grow (kb_g0 _ g_)) (-1)) (fun w2_ g2_ => ⟨g2_, rfl⟩)
   apply zE7 (hm := by rfl)
   ·intro w_ g_; refine og rfl ?_; refine zD7 (b := gq) (o := 0) (by show Value.slice (sa s) _ _ = _; rw [hsa]) rfl (by omega) (by omega) ?_; rw [Int.toNat_natCast, Nat.zero_add, Nat.mul_one]; exact qX
   apply zQ7 0 (hm := by rfl)
   ·intro w_ g_ s_
    refine og rfl ?_
    refine zB9 (v := .int .u64 ((Nd.mk kind size words bytes kids).near (-1))) rfl rfl rfl s_ (Nat.ble_eq_true_of_le (by omega)) rfl ?_
    intro w2_ s2_ u_
    exact ⟨Kp.of_upd u_ (by simp), s2_, rfl⟩
   refine zS6 ?_
   intro w14 g15 S_
   replace k0_ := (k0_.tr g15)
   replace h := hput _ _ ((Nd.mk kind size words bytes kids).near (-1)) S_ (by simp) k0_
   rw [← zJ6 A s i ((Nd.mk kind size words bytes kids).near (-1))] at h
   clear hput S_ k0_ hcur
   replace hbox := kb_hbox _ g15
   clear kb_hbox
   replace RO := kb_RO _ g15
   clear kb_RO
   replace g0 := kb_g0 _ g15
   clear kb_g0
   replace K := kb_K _ g15
   clear kb_K
   replace hc4 := kb_hc4 _ g15
   clear kb_hc4
   refine qZ 6 ?_
   rw [hl]
   refine ret1 (zA1 (v := .bool true) rfl) ⟨rfl, K, fun _ => ⟨_, _, h, fun k hk => .inl hk⟩⟩
  ·
   simp only [sb] at h2
   refine qZ 3 ?_
   refine stp (zA4 (v := .int .i64 ((Nd.mk kind size words bytes kids).need)) rfl (qB1 _ (T0.grow g0)) ?_)
   intro w16 g17
   replace hbox := g17.heap hbox
   replace h := h.grow g17
   replace K := K.tr g17.kp
   replace g0 := g0.tr g17
   replace RO := RO.grow g17
   replace hc4 := g17.heap hc4
   clear g17
   refine stp (zD5 rfl rfl ?_)
   refine qZ 2 ?_
   refine zA2 (b := (decide (((Nd.mk kind size words bytes kids).need) = 0))) rfl (fun h3 => ?_) (fun h3 => ?_)
   ·
    replace h3 := qT h3
    have hl : (Nd.mk kind size words bytes kids).lay lim ⟨A, false⟩ s i = ⟨setP A s i ((Nd.mk kind size words bytes kids).near (0)), false⟩ := by simp only [Nd.lay]; rw [if_neg (by simp [h1]), if_pos h3, if_neg (fun hk1 => h2.elim (fun h => h h3) (fun h => h hk1))]
    refine zS2 ?_
    obtain ⟨gq, cap, cur, hsg, hcur, hci, hgb, hgO, hgB, hput⟩ := h.put (s := s) (i := i) (by decide) (by decide) hsA hiA
    have hsa := zZ4 ((hsf s hsA).symm.trans hsg)
    have kb_hbox : ∀ w_, Kp [gq] w16 w_ → w_.heap[bB]? = some (.cells #[.slice ado A.length co, .int .i64 lim, .int .i64 (zC2 A)] 144 (0, 0)) := fun w_ k_ => k_.heap hbox (by simpa using hgB)
    have kb_RO : ∀ w_, Kp [gq] w16 w_ → RowAt w_ 1 ado A.length segs := fun w_ k_ => RO.keep1 k_ (fun b_ o_ he_ hb_ => hgO (by rw [he_, hb_]; rfl))
    have kb_g0 : ∀ w_, Kp [gq] w16 w_ → Grow w0 w_ := fun w_ k_ => g0.kp1 k_ (hb _ hgb)
    have kb_K : ∀ w_, Kp [gq] w16 w_ → Kp (blks bB (.slice ado A.length co) segs) w w_ := fun w_ k_ => K.trans k_ (fun x_ hx_ => .inl (by simp only [List.mem_singleton] at hx_; subst hx_; exact hgb))
    have kb_hc4 : ∀ w_, Kp [gq] w16 w_ → w_.heap[b1]? = some (.cells #[.int .i64 kind, .int .i64 size, .slice aw words.length cw, .slice ab bytes.length cb, .slice ak kids.length ck] 48 (0, 0)) := fun w_ k_ => k_.heap hc4 (fun hm_ => by simp only [List.mem_singleton] at hm_; have := hlt0 _ hgb; have := hge6; omega)
    refine zZ2 12 [[], [0], [1, 0], [2, 1, 0], [], [4, 3, 2, 1, 0], [5, 4, 3, 2, 1, 0], [], [], [0], [9, 8, 7, 6, 5, 4, 3, 2, 1, 0], [10, 9, 8, 7, 6, 5, 4, 3, 2, 1, 0]] [11] [gq] (fun k_ w_ => match k_ with | 0 => w_.heap[gq]? = some (.cells cur 23 (0, 0)) | _ => w_.heap[gq]? = some (.cells (cur.toList.set i (.int .u64 ((Nd.mk kind size words bytes kids).near 0))).toArray 23 (0, 0))) mixed (by kernel_rfl) (by kernel_rfl) (by kernel_rfl) (by kernel_rfl) (fun k_ w_ w2_ g_ h_ => match k_, h_ with | 0, h_ => g_.heap h_ | n_ + 1, h_ => g_.heap h_) (fun w_ g_ => g_.heap hcur) ?_
    intro w18 g19
    replace kb_hbox : ∀ w_, Kp [gq] w18 w_ → w_.heap[bB]? = some (.cells #[.slice ado A.length co, .int .i64 lim, .int .i64 (zC2 A)] 144 (0, 0)) := fun w_ k_ => kb_hbox w_ (g19.kp.tr k_)
    replace kb_RO : ∀ w_, Kp [gq] w18 w_ → RowAt w_ 1 ado A.length segs := fun w_ k_ => kb_RO w_ (g19.kp.tr k_)
    replace kb_g0 : ∀ w_, Kp [gq] w18 w_ → Grow w0 w_ := fun w_ k_ => kb_g0 w_ (g19.kp.tr k_)
    replace kb_K : ∀ w_, Kp [gq] w18 w_ → Kp (blks bB (.slice ado A.length co) segs) w w_ := fun w_ k_ => kb_K w_ (g19.kp.tr k_)
    replace kb_hc4 : ∀ w_, Kp [gq] w18 w_ → w_.heap[b1]? = some (.cells #[.int .i64 kind, .int .i64 size, .slice aw words.length cw, .slice ab bytes.length cb, .slice ak kids.length ck] 48 (0, 0)) := fun w_ k_ => kb_hc4 w_ (g19.kp.tr k_)
    have k0_ : Kp [gq] w16 w18 := g19.kp
    refine qM 3 ?_
    apply zE7 (hm := by rfl)
    ·intro w_ g_; exact og rfl (zD8 (v := .slice ado A.length co) rfl (kb_hbox _ g_) rfl qX)
    refine qM 1 ?_
    apply zE7 (hm := by rfl)
    ·intro w_ g_; refine og rfl ?_; refine zD1 (kb_RO _ g_) rfl rfl ?_ ?_; omega; exact qX
    apply zE7 (hm := by rfl)
    ·intro w_ g_; refine og rfl ?_; refine zC6 (v := .slice (sa s) (len2 A s) (sc s)) (m := 0) (kb_RO _ g_) rfl (by rw [Nat.mul_one]; exact hsf _ (by assumption)) ?_; exact qX
    refine qM 1 ?_
    apply zE7 (hm := by rfl)
    ·intro w_ g_; exact og rfl (zC5 rfl (kb_hc4 _ g_) (by rfl) qX)
    apply zE7 (hm := by rfl)
    ·intro w_ g_; refine og rfl ?_; exact zA4 (v := .int .u64 ((Nd.mk kind size words bytes kids).near 0)) rfl (zW4 _ (T0.grow (kb_g0 _ g_)) (0)) (fun w2_ g2_ => ⟨g2_, rfl⟩)
    apply zE7 (hm := by rfl)
    ·intro w_ g_; refine og rfl ?_; refine zD7 (b := gq) (o := 0) (by show Value.slice (sa s) _ _ = _; rw [hsa]) rfl (by omega) (by omega) ?_; rw [Int.toNat_natCast, Nat.zero_add, Nat.mul_one]; exact qX
    apply zQ7 0 (hm := by rfl)
    ·intro w_ g_ s_
     refine og rfl ?_
     refine zB9 (v := .int .u64 ((Nd.mk kind size words bytes kids).near 0)) rfl rfl rfl s_ (Nat.ble_eq_true_of_le (by omega)) rfl ?_
     intro w2_ s2_ u_
     exact ⟨Kp.of_upd u_ (by simp), s2_, rfl⟩
    refine zS6 ?_
    intro w20 g21 S_
    replace k0_ := (k0_.tr g21)
    replace h := hput _ _ ((Nd.mk kind size words bytes kids).near 0) S_ (by simp) k0_
    rw [← zJ6 A s i ((Nd.mk kind size words bytes kids).near 0)] at h
    clear hput S_ k0_ hcur
    replace hbox := kb_hbox _ g21
    clear kb_hbox
    replace RO := kb_RO _ g21
    clear kb_RO
    replace g0 := kb_g0 _ g21
    clear kb_g0
    replace K := kb_K _ g21
    clear kb_K
    replace hc4 := kb_hc4 _ g21
    clear kb_hc4
    refine qZ 6 ?_
    rw [hl]
    refine ret1 (zA1 (v := .bool true) rfl) ⟨rfl, K, fun _ => ⟨_, _, h, fun k hk => .inl hk⟩⟩
   ·
    replace h3 := qF h3
    have hp0 := qM3 lim (Nd.mk kind size words bytes kids) ⟨A, false⟩ s i F.one
    have hl : (Nd.mk kind size words bytes kids).lay lim ⟨A, false⟩ s i = Nd.lays lim kids (zJ8 lim (zF2 lim (Nd.mk kind size words bytes kids) ⟨A, false⟩ s i).S (zF2 lim (Nd.mk kind size words bytes kids) ⟨A, false⟩ s i).seg (Nd.mk kind size words bytes kids).content) (zF2 lim (Nd.mk kind size words bytes kids) ⟨A, false⟩ s i).seg ((zF2 lim (Nd.mk kind size words bytes kids) ⟨A, false⟩ s i).at_ + ((Nd.mk kind size words bytes kids).need.toNat - kids.length)) := by simp only [Nd.lay]; rw [if_neg (by simp [h1]), if_neg h3]
    rw [hl]
    refine qZ 7 ?_
    refine stp ?_
    refine zD0 rfl (qY9 _ h T0 g0 hb F hsA hiA hl1 hl2 hnn (by omega)) ?_
    rintro v_ w22 ⟨rfl, so1, segs1, h1_, K1, nb1⟩
    obtain ⟨p, hp⟩ : ∃ p, p = zF2 lim (Nd.mk kind size words bytes kids) ⟨A, false⟩ s i := ⟨_, rfl⟩
    simp only [← hp] at hp0 h1_ nb1 ⊢
    clear hl
    obtain ⟨hpG, hpS, hpA, hpF, -⟩ := hp0
    simp only [← hp] at hpG hpS hpA hpF
    clear hp
    have nb5 : b1 ∉ blks bB so1 segs1 := fun hm => by rcases nb1 _ hm with h_ | h_; (have := hlt0 _ h_; have := hge6; omega); (have := zB2 hc4; omega)
    replace g0 := g0.trK K1 hb
    have hc4' := K1.heap hc4 (fun hm => by have := hlt0 _ hm; have := hge6; omega)
    clear hc4
    have hc4 := hc4'
    clear hc4'
    replace nb1 : ∀ k ∈ blks bB so1 segs1, k ∈ blks bB (.slice ado A.length co) segs ∨ w.heap.size ≤ k := fun k hk => (nb1 k hk).imp id (fun h_ => Nat.le_trans K.size h_)
    replace K := K.tr K1
    clear K1 hbox h RO
    have h := h1_
    clear h1_
    refine qZ 8 ?_
    rcases qS4 (p.S.full) with hf | hf
    ·
     have FP := hpF F hf
     have hpb := FP.seg p.seg
     rw [← hpA] at hpb
     have FPs := FP.small hl2
     have hco : ((Nd.mk kind size words bytes kids).content.length : Int) = (Nd.mk kind size words bytes kids).need := Nd.content_length _ (by simp only [Nd.kind]; omega) (by simpa only [Nd.kind, Nd.bytes] using hb1)
     refine qZ 4 ?_
     refine stp (zL0 (p := !p.S.full) rfl ?_)
     refine stp ?_
     refine zC9 (v := .bool (!(!p.S.full))) rfl ?_
     rw [show (!(!p.S.full)) = false from by rw [hf]; rfl]
     refine qZ 3 ?_
     refine stp ?_
     have hlt1 := h.lt
     refine zD0 rfl (qT3 _ (T0.grow g0) hlw hlb hlk) ?_
     rintro lv w23 ⟨ol, gc⟩
     replace K := K.tr gc.kp
     replace g0 := g0.tr gc
     replace hc4 := gc.heap hc4
     replace h := h.grow gc
     refine stp ?_
     have hpt := FP.all
     have hpt0 := zL1 p.S.A
     refine zD0 rfl (qI2 _ (q := p.seg) (l := (Nd.mk kind size words bytes kids).content) h (Nat.le_of_lt hpS) ol (fun k hk => hlt1 k hk) gc.size FPs.1 FPs.2 (by omega) (by omega) (by omega)) ?_
     rintro v_ w24 ⟨rfl, so2, segs2, h2_, K2, nb2⟩
     have hS2 : zJ8 lim p.S p.seg (Nd.mk kind size words bytes kids).content = ⟨zK2 p.S.A p.seg (Nd.mk kind size words bytes kids).content, qS6 lim (zK2 p.S.A p.seg (Nd.mk kind size words bytes kids).content) p.seg⟩ := by simp only [zJ8, hf, Bool.false_or]
     rw [← zU6 _ _ _ (Nat.le_of_lt hpS)] at h2_
     rw [qM4 (Nat.le_of_lt hpS)]
     have hm0 : zJ8 lim ⟨p.S.A, false⟩ p.seg (Nd.mk kind size words bytes kids).content = zJ8 lim p.S p.seg (Nd.mk kind size words bytes kids).content := by rw [show p.S = ⟨p.S.A, false⟩ from by rw [← hf]]
     rw [hm0]
     have hok := LayOk.more lim p.S p.seg (Nd.mk kind size words bytes kids).content (Nat.le_of_lt hpS)
     have nb6 : b1 ∉ blks bB so2 segs2 := fun hm => by rcases nb2 _ hm with h_ | h_; (exact nb5 h_); (have := zB2 hc4; omega)
     replace g0 := g0.trK K2 (fun k hk => (nb1 k hk).elim (hb k) (fun h_ => Nat.le_trans hsz0 h_))
     have hc4' := K2.heap hc4 nb5
     clear hc4
     have hc4 := hc4'
     clear hc4'
     replace nb2 : ∀ k ∈ blks bB so2 segs2, k ∈ blks bB (.slice ado A.length co) segs ∨ w.heap.size ≤ k := fun k hk => (nb2 k hk).elim (nb1 k) (fun h_ => .inr (Nat.le_trans K.size h_))
     replace K := K.trans K2 nb1
     clear K2 h nb1 nb5 ol
     have h : BldAt 144 37 23 w24 bB (so2) segs2 ((zJ8 lim p.S p.seg (Nd.mk kind size words bytes kids).content).A) lim (zC2 ((zJ8 lim p.S p.seg (Nd.mk kind size words bytes kids).content).A)) := h2_
     clear h2_
     have hge2 : p.at_ + (Nd.mk kind size words bytes kids).content.length ≤ len2 (zJ8 lim p.S p.seg (Nd.mk kind size words bytes kids).content).A p.seg := by rw [hpA, show (zJ8 lim p.S p.seg (Nd.mk kind size words bytes kids).content).A = zK2 p.S.A p.seg (Nd.mk kind size words bytes kids).content from rfl]; simp only [len2]; rw [zN5 _ _ _ _ (Nat.le_of_lt hpS), if_pos rfl, List.length_append]; exact Nat.le_refl _
     have hS2s : p.seg < (zJ8 lim p.S p.seg (Nd.mk kind size words bytes kids).content).A.length := Nat.lt_of_lt_of_le hpS hok.grew.len
     have hS21 : 1 ≤ (zJ8 lim p.S p.seg (Nd.mk kind size words bytes kids).content).A.length := by omega
     have hF2 : (zJ8 lim p.S p.seg (Nd.mk kind size words bytes kids).content).full = false → Fit lim (zJ8 lim p.S p.seg (Nd.mk kind size words bytes kids).content).A := hok.fit FP
     obtain ⟨Q, hQ⟩ : ∃ Q, Q = zJ8 lim p.S p.seg (Nd.mk kind size words bytes kids).content := ⟨_, rfl⟩
     simp only [← hQ] at h hge2 hS2s hS21 hF2 hok ⊢
     clear hS2 hm0 hQ hok
     refine stp (zL0 rfl ?_)
     refine stp (zI5 (v := .bool (!(!Q.full))) rfl rfl rfl ?_)
     refine zA6 ?_
     rcases qS4 (Q.full) with hf2 | hf2
     ·
      have FQ := hF2 hf2
      refine zJ4 (show _ = Value.bool false from congrArg Value.bool (by rw [hf2]; rfl)) ?_
      refine qZ 4 ?_
      refine stp (zV8 (vs := [.pointer (some ⟨bB, 0, none⟩)]) (us := []) rfl rfl ?_)
      refine qZ 11 ?_
      refine zF6 (fun m_ e_ w_ => ∃ (k : Nat) (so4 : Value) (segs4 : List Value), m_ = kids.length - k ∧ Fr [(5, .pointer (some ⟨b1, 0, none⟩)), (9, .int .i64 (p.seg : Int)), (10, .int .i64 (p.at_ : Int)), (12, .func (.func 81) #[.pointer (some ⟨bB, 0, none⟩)] #[]), (76, .slice ak kids.length ck), (77, .int .i64 (kids.length : Int)), (78, .int .i64 (k : Int))] e_ ∧ (k ≤ kids.length) ∧ ((Nd.lays lim (kids.take k) Q p.seg (p.at_ + ((Nd.mk kind size words bytes kids).need.toNat - kids.length))).full = false) ∧ (b1 ∉ blks bB so4 segs4) ∧ (∀ k ∈ blks bB so4 segs4, k ∈ blks bB (.slice ado A.length co) segs ∨ w.heap.size ≤ k) ∧ (Kp (blks bB (.slice ado A.length co) segs) w w_) ∧ (Grow w0 w_) ∧ (w_.heap[b1]? = some (.cells #[.int .i64 kind, .int .i64 size, .slice aw words.length cw, .slice ab bytes.length cb, .slice ak kids.length ck] 48 (0, 0))) ∧ (BldAt 144 37 23 w_ bB (so4) segs4 ((Nd.lays lim (kids.take k) Q p.seg (p.at_ + ((Nd.mk kind size words bytes kids).need.toNat - kids.length))).A) lim (zC2 ((Nd.lays lim (kids.take k) Q p.seg (p.at_ + ((Nd.mk kind size words bytes kids).need.toNat - kids.length))).A)))) _ ⟨0, so2, segs2, rfl, zC8 ⟨rfl, rfl, rfl, rfl, rfl, rfl, rfl, trivial⟩, by omega, hf2, nb6, nb2, K, g0, hc4, h⟩ ?_
      clear K g0 hc4 h
      rintro m_ e_ w25 ⟨k, so4, segs4, rfl, ⟨e26, rfl⟩, hk2, hfk0, nb7, nb4, K, g0, hc4, h⟩
      refine qZ 2 ?_
      refine stp (zH1 rfl rfl ?_)
      refine qZ 2 ?_
      refine zA2 (b := (decide ((k : Int) < (kids.length : Int)))) rfl (fun hlt => ?_) (fun hlt => ?_)
      ·
       replace hlt := qT hlt
       have hk3 : k < kids.length := by omega
       have hat := KidsR.at_ k kids[k] hKs (by simp [hk3])
       obtain ⟨y0, y1, ya, yn, yc, za, zn, zc, ua, un, uc, hy⟩ := hat.cells
       rw [hy] at hat
       have hsz := Nd.szs_at kids k kids[k] (by simp [hk3])
       have hfk := Nd.fine_kid hR hk3
       have hkn2 := hkn h1
       have hlk_ := Nd.lays_ok lim (kids.take k) Q p.seg (p.at_ + ((Nd.mk kind size words bytes kids).need.toNat - kids.length)) hS21
       have FS_ := hlk_.fit FQ hfk0
       have hss : p.seg < (Nd.lays lim (kids.take k) Q p.seg (p.at_ + ((Nd.mk kind size words bytes kids).need.toNat - kids.length))).A.length := Nat.lt_of_lt_of_le hS2s hlk_.grew.len
       have hii : p.at_ + ((Nd.mk kind size words bytes kids).need.toNat - kids.length) + k < len2 (Nd.lays lim (kids.take k) Q p.seg (p.at_ + ((Nd.mk kind size words bytes kids).need.toNat - kids.length))).A p.seg := by have := hlk_.grew.seg p.seg; omega
       refine qZ 6 ?_
       refine stp (zD1 (RK.grow g0) rfl rfl ?_ ?_); omega
       refine stp (zM7 (RK.grow g0) rfl (by decide) (by rw [RK.len]; omega) hy ?_)
       refine stp (zB0 ?_)
       intro b27 w28 hb29 hc30 g31
       refine qZ 1 ?_
       refine stn (qS hc30 ?_)
       intro w32 hc33 u34
       have g35 := g31.upd u34 hb29
       have hge36 := Nat.le_trans K.size hb29
       replace K := K.tr g35.kp
       replace g0 := g0.tr g35
       replace hc4 := g35.heap hc4
       replace h := h.grow g35
       clear u34 g31 hb29 hc30
       refine qZ 2 ?_
       refine zJ5 13 [[], [], [], [], [], [0], [2, 1, 0], [], [0], [1, 0], [6, 5, 4, 3, 2, 1, 0], [], [8, 7, 6, 5, 4, 3, 2, 1, 0]] mixed (by kernel_rfl) (by kernel_rfl) (by kernel_rfl) ?_
       intro w37 g38
       replace K := K.tr g38.kp
       replace g0 := g0.tr g38
       replace hc4 := g38.heap hc4
       replace h := h.grow g38
       replace hc33 := g38.heap hc33
       clear g38
       refine qA 5 ?_
       apply zA5
       ·intro w_ g_; refine og rfl ?_; exact zA4 (v := .int .i64 ((Nd.mk kind size words bytes kids).need)) rfl (qB1 _ (T0.grow (g0.tr g_))) (fun w2_ g2_ => ⟨g2_, rfl⟩)
       apply zA5
       ·intro w_ g_; refine og rfl ?_; refine zB8 rfl rfl ?_ ?_; constructor <;> omega; exact qX
       refine qA 3 ?_
       apply zA5
       ·intro w_ g_; refine og rfl ?_; refine zL3 rfl rfl ?_ ?_; constructor <;> omega; exact qX
       refine qA 1 ?_
       apply zA5
       ·intro w_ g_; refine og rfl ?_; refine zB8 rfl rfl ?_ ?_; constructor <;> omega; exact qX
       refine zG4 ?_
       intro w39 g40
       replace K := K.tr g40.kp
       replace g0 := g0.tr g40
       replace hc4 := g40.heap hc4
       replace h := h.grow g40
       replace hc33 := g40.heap hc33
       clear g40
       refine stp ?_
       have hbk : ∀ k ∈ blks bB so4 segs4, w0.heap.size ≤ k := fun k hk => (nb4 k hk).elim (hb k) (fun h_ => Nat.le_trans hsz0 h_)
       have hcal := ih_ _ h hat g0 hbk FS_ hss hii hl1 hl2 hfk (by simp only [Nd.sz] at hm_; omega)
       rw [show ((p.at_ + ((Nd.mk kind size words bytes kids).need.toNat - kids.length) + k : Nat) : Int) = (p.at_ : Int) + (Nd.mk kind size words bytes kids).need - kids.length + k from by omega] at hcal
       rw [Lay.eta hfk0, ← Nd.lays_take hk3] at hcal
       refine zD0 rfl hcal ?_
       rintro v_ w41 ⟨rfl, K4, ho4⟩
       replace g0 := g0.trK K4 hbk
       have hc4' := K4.heap hc4 nb7
       have hsz4 := zB2 hc4
       clear hc4
       have hc4 := hc4'
       clear hc4'
       have K0_ := K
       replace K := K.trans K4 nb4
       clear h K4
       refine stp (zL0 rfl ?_)
       refine zA6 ?_
       rcases qS4 ((Nd.lays lim (kids.take (k + 1)) Q p.seg (p.at_ + ((Nd.mk kind size words bytes kids).need.toNat - kids.length))).full) with hf4 | hf4
       ·
        refine zJ4 (show _ = Value.bool false from congrArg Value.bool (by rw [hf4]; rfl)) ?_
        obtain ⟨so5, segs5, h, nb5⟩ := ho4 hf4
        have nb8 : b1 ∉ blks bB so5 segs5 := fun hm => by rcases nb5 _ hm with h_ | h_; (exact nb7 h_); omega
        have nb9 : ∀ k ∈ blks bB so5 segs5, k ∈ blks bB (.slice ado A.length co) segs ∨ w.heap.size ≤ k := fun k hk => (nb5 k hk).elim (nb4 k) (fun h_ => .inr (Nat.le_trans K0_.size h_))
        refine qZ 2 ?_
        refine stp (zB8 rfl rfl ?_ ?_); constructor <;> omega
        refine qZ 2 ?_
        refine ⟨_, ?_, k + 1, so5, segs5, rfl, zC8 ⟨rfl, rfl, rfl, rfl, rfl, rfl, congrArg (Value.int .i64) (by omega), trivial⟩, by omega, hf4, nb8, nb9, K, g0, hc4, h⟩
        omega
       ·
        refine zL4 (show _ = Value.bool true from congrArg Value.bool (by rw [hf4]; rfl)) ?_
        refine qZ 5 ?_
        have hff := Nd.lays_full_take hf4
        refine ret1 (zA1 (v := .bool false) rfl) ⟨by rw [hff]; rfl, K, fun hx => by rw [hff] at hx; cases hx⟩
      ·
       replace hlt := qF hlt
       have hk3 : k = kids.length := by omega
       rw [hk3, List.take_length] at h hfk0
       refine qZ 6 ?_
       refine ret1 (zA1 (v := .bool true) rfl) ⟨by rw [hfk0]; rfl, K, fun _ => ⟨so4, segs4, h, nb4⟩⟩
     ·
      refine zL4 (show _ = Value.bool true from congrArg Value.bool (by rw [hf2]; rfl)) ?_
      refine qZ 5 ?_
      have hff : (Nd.lays lim kids Q p.seg (p.at_ + ((Nd.mk kind size words bytes kids).need.toNat - kids.length))).full = true := by rw [Nd.lays_full hf2]; exact hf2
      refine ret1 (zA1 (v := .bool false) rfl) ⟨by rw [hff]; rfl, K, fun hx => by rw [hff] at hx; cases hx⟩
    ·
     refine qZ 3 ?_
     refine stp ?_
     refine zC9 (v := .bool (!p.S.full)) rfl ?_
     rw [show (!p.S.full) = false from by rw [hf]; rfl]
     refine stp (qR8 rfl rfl ?_)
     refine qZ 1 ?_
     refine zA3 (zE8 rfl ?_)
     refine zA3 (zE8 rfl ?_)
     refine zA3 (zE8 rfl ?_)
     refine zA3 (zE8 rfl ?_)
     refine zA3 (zE8 rfl ?_)
     refine zA3 (zE8 rfl ?_)
     refine stp (zJ1 (v := .bool true) rfl rfl rfl ?_)
     refine zA6 ?_
     refine zL4 rfl ?_
     refine qZ 5 ?_
     have h_ : (zJ8 lim p.S p.seg (Nd.mk kind size words bytes kids).content).full = true := by simp [zJ8, hf]
     have hff : (Nd.lays lim kids (zJ8 lim p.S p.seg (Nd.mk kind size words bytes kids).content) p.seg (p.at_ + ((Nd.mk kind size words bytes kids).need.toNat - kids.length))).full = true := by rw [Nd.lays_full h_]; exact h_
     refine ret1 (zA1 (v := .bool false) rfl) ⟨by rw [hff]; rfl, K, fun hx => by rw [hff] at hx; cases hx⟩
theorem yD8 (w : World) {c : List Value} {t : Nd} (T : NodeR w c t) (n : Int) : Calls Tryz.prog 46 #[.agg c.toArray, .int .i64 n] w (Ret fun v w' => ∃ so segs, v = .tuple #[so, .int .u16 (t.build n).2] ∧ OwnA 37 23 w' w.heap.size so segs (t.build n).1 ∧ Grow w w') := by
 obtain ⟨y0, y1, ya, yn, yc, za, zn, zc, ua, un, uc, rfl⟩ := T.cells
 have G := Grow.rfl' w
 refine zC0 Tryz.func46 Tryz.ntmps46 Tryz.results46 rfl rfl ?_
 refine qZ 2 ?_
 refine stp ?_
 refine qC ?_
 intro b1 w2 hb3 hc4 g5
 have hge6 := Nat.le_trans G.size hb3
 replace G := G.tr g5
 clear g5 hb3
 refine qZ 7 ?_
 refine stp (zH1 rfl rfl ?_)
 refine qZ 1 ?_
 refine qG 1 ?_
 refine zA3 (zB3 (s := .bool _) (v := .bool (decide (n > 4096))) rfl (zE1 _) (fun hc8 => ?_) ?_)
 ·
  have hc8_ := hc8
  try simp only [sb] at hc8_
  refine zO4 (gvt hc8) rfl ?_
  exact ⟨rfl, rfl⟩
 refine stp (zI1 rfl rfl rfl ?_)
 refine qZ 1 ?_
 refine zA3 (zB3 (s := .bool _) (v := .agg #[.int .i64 y0, .int .i64 y1, .slice ya yn yc, .slice za zn zc, .slice ua un uc]) rfl (zE1 _) (fun hc9 => ?_) ?_)
 ·
  have hc9_ := hc9
  try simp only [sb] at hc9_
  refine zC5 rfl hc4 (by rfl) ?_
  exact ⟨rfl, rfl⟩
 refine zA3 (zU4 (s := .bool ((decide (n < 1)) || (decide (n > 4096)))) (b := false) (v := .bool (t.right 32)) rfl (zE1 _) (fun hc10 => ?_) ?_)
 ·
  have hc10_ := hc10
  try simp only [sb] at hc10_
  exact zL7 (l := ([.agg #[.int .i64 y0, .int .i64 y1, .slice ya yn yc, .slice za zn zc, .slice ua un uc]] : List Value)) rfl (by show ([gv (!((decide (n < 1)) || (decide (n > 4096)))) (.agg #[.int .i64 y0, .int .i64 y1, .slice ya yn yc, .slice za zn zc, .slice ua un uc])] : List Value) = _; rw [gvt hc10]) (qN1 _ (T.grow G)) (fun w2_ g2_ => ⟨rfl, g2_⟩)
 intro w11 g12
 replace hc4 := g12.heap hc4
 replace G := G.tr g12
 clear g12
 refine zA3 (zB3 (s := .bool _) (v := .bool (!(t.right 32))) rfl (zE1 _) (fun hc13 => ?_) ?_)
 ·
  have hc13_ := hc13
  try simp only [sb] at hc13_
  refine zL0 (gvt hc13) ?_
  exact ⟨rfl, rfl⟩
 refine stp (zI1 rfl rfl rfl ?_)
 refine zA6 ?_
 refine zA2 (b := (((decide (n < 1)) || (decide (n > 4096))) || (!(t.right 32)))) rfl (fun h1 => ?_) (fun h1 => ?_)
 ·
  simp only [sb] at h1
  have hb : t.build n = ([], 1) := by unfold Nd.build; rw [if_pos]; rcases h1 with (h | h) | h; exact .inl h; exact .inr (.inl h); exact .inr (.inr h)
  refine qZ 6 ?_
  rw [hb]
  refine ret2 (zA1 (v := .slice none 0 0) rfl) (zA1 (v := .int .u16 1) rfl) ⟨_, _, rfl, OwnA.nil _ _ _ _, G⟩
 ·
  simp only [sb] at h1
  obtain ⟨⟨h1a, h1b⟩, h1c⟩ := h1
  have hlb1 : 1 ≤ n := by omega
  have hlb2 : n ≤ 4096 := by omega
  have hnb : ¬ (n < 1 ∨ n > 4096 ∨ t.right 32 = false) := by rw [h1c]; simp; omega
  refine qZ 3 ?_
  refine stp (zB4 (cs := #[.int .u64 0]) (el := 23) (fun w => by kernel_rfl) ?_)
  intro bs14 w15 hb16 hc17 g18
  have hge19 := Nat.le_trans G.size hb16
  replace hc4 := g18.heap hc4
  replace G := G.tr g18
  clear g18
  refine stp (zB4 (cs := #[.slice (some ⟨bs14, 0, none⟩) 1 1]) (el := 37) (fun w => by kernel_rfl) ?_)
  intro bs20 w21 hb22 hc23 g24
  have hge25 := Nat.le_trans G.size hb22
  replace hc4 := g24.heap hc4
  replace hc17 := g24.heap hc17
  replace G := G.tr g24
  clear g24
  refine qZ 1 ?_
  refine stp (zA7 (v := .agg #[.slice (some ⟨bs20, 0, none⟩) 1 1, .int .i64 n, .int .i64 1]) (fun w => by kernel_rfl) ?_)
  refine stp ?_
  refine qC ?_
  intro b26 w27 hb28 hc29 g30
  have hge31 := Nat.le_trans G.size hb28
  replace hc4 := g30.heap hc4
  replace hc17 := g30.heap hc17
  replace hc23 := g30.heap hc23
  replace G := G.tr g30
  clear g30 hb28
  refine qZ 2 ?_
  rcases qS4 (t.lay n ⟨[[0]], false⟩ 0 0).full with hf | hf
  ·
   refine qZ 5 ?_
   refine stp ?_
   have h := BldAt.init hc29 hc23 hc17
   have hbk : ∀ k ∈ blks b26 (.slice (some ⟨bs20, 0, none⟩) 1 1) [.slice (some ⟨bs14, 0, none⟩) 1 1], w.heap.size ≤ k := by
    intro k hk
    rcases zH6.1 hk with rfl | hk | ⟨i, v, hv, hk⟩
    ·exact hge31
    ·simp only [Value.ownBlock, Option.some.injEq] at hk; subst hk; exact hge25
    ·have hm_ := List.mem_of_getElem? hv; simp only [List.mem_singleton] at hm_; subst hm_; simp only [Value.ownBlock, Option.some.injEq] at hk; subst hk; exact hge19
   have hszl := G.size
   refine zD0 rfl (qZ0 _ _ (s := 0) (i := 0) h T G hbk (Fit.init hlb1) (by simp) (by simp [len2]) hlb1 hlb2 ⟨32, h1c⟩ (Nat.le_refl _)) ?_
   rintro v_ w32 ⟨rfl, K, hlay⟩
   replace G := G.trK K hbk
   clear h hc4 hc17 hc23 hc29
   refine stp ?_
   refine zL0 (p := !(t.lay n ⟨[[0]], false⟩ 0 0).full) rfl ?_
   rw [hf]
   refine qZ 1 ?_
   refine stp ?_
   obtain ⟨so, segs, h, hnb2⟩ := hlay hf
   have hok := Nd.lay_ok n t ⟨[[0]], false⟩ 0 0 (by simp)
   have FA := hok.fit (Fit.init hlb1) hf
   have FAs := FA.small hlb2
   obtain ⟨ado, co, sa, sc, rfl, hco, RO, hsf⟩ := h.fn FAs.1
   have hbox := h.box
   have hrows := h.rows FAs.2
   have hl00 : 1 ≤ ((t.lay n ⟨[[0]], false⟩ 0 0).A.getD 0 []).length := by have := hok.grew.seg 0; simpa [len2] using this
   have hown := h.owns (fun k hk => (hnb2 k hk).elim (hbk k) (fun h_ => Nat.le_trans hszl h_))
   refine zC9 (v := .pointer (some ⟨b26, 0, none⟩)) rfl ?_
   refine qZ 3 ?_
   refine stp (zA4 (v := .bool true) rfl (qX4 _ RO rfl hrows FA.one FA.most hl00 FA.all) ?_)
   intro w33 g34
   replace hbox := g34.heap hbox
   replace hown := hown.grow g34
   replace G := G.tr g34
   clear g34
   refine stp (qG7 rfl rfl ?_)
   refine stp (zI5 (v := .bool false) rfl rfl rfl ?_)
   refine zA6 ?_
   refine zJ4 rfl ?_
   refine qZ 11 ?_
   have hb : t.build n = ((t.lay n ⟨[[0]], false⟩ 0 0).A, 0) := by unfold Nd.build; rw [if_neg hnb, if_neg (by rw [hf]; simp)]
   rw [hb]
   refine ret2 (zA1 (v := .slice ado ((t.lay n ⟨[[0]], false⟩ 0 0).A.length) co) rfl) (zA1 (v := .int .u16 0) rfl) ⟨_, _, rfl, hown, G⟩
  ·
   refine qZ 5 ?_
   refine stp ?_
   have h := BldAt.init hc29 hc23 hc17
   have hbk : ∀ k ∈ blks b26 (.slice (some ⟨bs20, 0, none⟩) 1 1) [.slice (some ⟨bs14, 0, none⟩) 1 1], w.heap.size ≤ k := by
    intro k hk
    rcases zH6.1 hk with rfl | hk | ⟨i, v, hv, hk⟩
    ·exact hge31
    ·simp only [Value.ownBlock, Option.some.injEq] at hk; subst hk; exact hge25
    ·have hm_ := List.mem_of_getElem? hv; simp only [List.mem_singleton] at hm_; subst hm_; simp only [Value.ownBlock, Option.some.injEq] at hk; subst hk; exact hge19
   have hszl := G.size
   refine zD0 rfl (qZ0 _ _ (s := 0) (i := 0) h T G hbk (Fit.init hlb1) (by simp) (by simp [len2]) hlb1 hlb2 ⟨32, h1c⟩ (Nat.le_refl _)) ?_
   rintro v_ w35 ⟨rfl, K, hlay⟩
   replace G := G.trK K hbk
   clear h hc4 hc17 hc23 hc29
   refine stp ?_
   refine zL0 (p := !(t.lay n ⟨[[0]], false⟩ 0 0).full) rfl ?_
   rw [hf]
   refine qZ 1 ?_
   refine zA3 (zE8 rfl ?_)
   refine zA3 (zE8 rfl ?_)
   refine zA3 (zE8 rfl ?_)
   refine zA3 (zE8 rfl ?_)
   refine zA3 (zE8 rfl ?_)
   refine zA3 (zE8 rfl ?_)
   refine stp (zJ1 (v := .bool true) rfl rfl rfl ?_)
   refine zA6 ?_
   refine zL4 rfl ?_
   refine qZ 6 ?_
   have hb : t.build n = ([], 24) := by unfold Nd.build; rw [if_neg hnb, if_pos hf]
   rw [hb]
   refine ret2 (zA1 (v := .slice none 0 0) rfl) (zA1 (v := .int .u16 24) rfl) ⟨_, _, rfl, OwnA.nil _ _ _ _, G⟩
end Go.Proofs.YtkkbbhpbcfcplaaGreat.K
namespace Go.Proofs.YtkkbbhpbcfcplaaGreat.K
open Go Go.RowKit
section
variable {P : Program} {ops : Array Oper} {Q : Ex → Env → World → Prop} {e : Env} {w : World} {K : Value → World → Prop} {r : List Oper}
variable {d : Option Nat} {ty : TypeId} {pos : String} {af : Array Edge} {g : Option (Nat × Bool)}
variable {t u : TypeId} {x y z : Operand}
theorem qB2 {n c : Nat} {ad : Option Addr} {el : TypeId} {xs : List Int} [hui : ElI P t el 1] [hei : IntI P el .u8] [hsi : StrI P u] (R : RowAt w 1 ad n (xs.map (.int .u8))) (hx : ev e x = .slice ad n c) (h : K (.string (strOfNums xs)) w) : Run1 P ⟨d, .convert t u x, ty, pos, af, g⟩ e w K := by
  have hn : n = xs.length := by have := R.len; simp at this; exact this.symm
  have hu := hui.h
  have ht : P.underlying t = some (.slice el) := by
    unfold elS at hu
    split at hu
    · rename_i el' hul
      split at hu
      · simp only [Option.some.injEq, Prod.mk.injEq] at hu
        obtain ⟨rfl, _⟩ := hu
        exact hul
      · cases hu
    · cases hu
  have key : (convert t u (.slice ad n c)).run P w = .ok (.string (strOfNums xs)) w := by
    rcases Nat.eq_zero_or_pos n with h0 | h0
    · have hxs : xs = [] := List.eq_nil_of_length_eq_zero (by omega)
      subst hxs
      cases ad with
      | none => exact run_convert_bytes_nil w t el ht hei.h n c u hsi.h
      | some a =>
        subst h0
        rw [run_convert_bytes_string w t u el _ 0 c ht hei.h hsi.h, run_bytesToString w a 0 c [] (by rfl)]
        rfl
    · obtain ⟨b, o, cs, T, fr, rfl, hb, hr⟩ := R.at_ h0
      refine run_convert_bytes_arg w t el ht hei.h b o n c xs hn.symm (fun i hi => ?_) u hsi.h
      rw [cell_of_row w b (o + i) cs T fr hb]
      refine zM6 hr ?_
      rw [List.getElem?_map, List.getElem?_eq_getElem (by omega), List.getD_eq_getElem?_getD, List.getElem?_eq_getElem (by omega)]
      rfl
  exact zF1 (w' := w) (by simp only [execOp, hx, Sem.run_bind, key, Result.andThen_ok, Sem.run_pure]) h
theorem yY1 {s q : ByteArray} (hx : ev e x = .string s) (hy : ev e y = .string q) (h : K (.bool (s.toList == q.toList)) w) : Run1 P ⟨d, .binOp .eql t x y u, ty, pos, af, g⟩ e w K :=
  zF1 (w' := w) (by
    have hg : ∀ w : World, (eqGuard .eql t x y (.string s) (.string q)).run P w = .ok () w := fun _ => rfl
    simp only [execOp, hx, hy, Sem.run_bind, hg, Result.andThen_ok, binOp, Op.stringOp, Sem.run_pure]) h
theorem yY2 {s q : ByteArray} (hx : ev e x = .string s) (hy : ev e y = .string q) (h : K (.bool (!(s.toList == q.toList))) w) : Run1 P ⟨d, .binOp .neq t x y u, ty, pos, af, g⟩ e w K :=
  zF1 (w' := w) (by
    have hg : ∀ w : World, (eqGuard .neq t x y (.string s) (.string q)).run P w = .ok () w := fun _ => rfl
    simp only [execOp, hx, hy, Sem.run_bind, hg, Result.andThen_ok, binOp, Op.stringOp, Sem.run_pure]) h
end
theorem yS8 : ∀ (xs ys : List Int), (∀ x ∈ xs, inR .u8 x) → (∀ y ∈ ys, inR .u8 y) → (strOfNums xs).data.toList = (strOfNums ys).data.toList → xs = ys := by
  intro xs ys hx hy h2
  simp only [strOfNums_data] at h2
  induction xs generalizing ys with
  | nil => cases ys with
    | nil => rfl
    | cons y ys => simp at h2
  | cons x xs ih => cases ys with
    | nil => simp at h2
    | cons y ys =>
      simp only [List.map_cons, List.cons.injEq] at h2
      have h3 := ih ys (fun z hz => hx z (by simp [hz])) (fun z hz => hy z (by simp [hz])) h2.2
      have h4 := hx x (by simp)
      have h5 := hy y (by simp)
      simp only [inR] at h4 h5
      have h6 := congrArg UInt8.toNat h2.1
      simp only [UInt8.toNat_ofNat'] at h6
      have : x = y := by omega
      rw [this, h3]
theorem yI6 {xs ys : List Int} (hx : ∀ x ∈ xs, inR .u8 x) (hy : ∀ y ∈ ys, inR .u8 y) : ((strOfNums xs).toList == (strOfNums ys).toList) = decide (xs = ys) := by
  rw [ByteArray.toList_eq, ByteArray.toList_eq]
  by_cases h : xs = ys
  · subst h; simp
  · rw [decide_eq_false h, beq_eq_false_iff_ne]
    exact fun hs => h (yS8 xs ys hx hy hs)
end Go.Proofs.YtkkbbhpbcfcplaaGreat.K
namespace Go.Proofs.YtkkbbhpbcfcplaaGreat.K
open Go Go.RowKit Go.Proofs
attribute [local irreducible] Run1 OpG WL W AO zC4
theorem yS9 (w : World) {ad ad2 : Option Addr} {c c2 : Nat} {xs ys : List Int} (R : RowAt w 1 ad xs.length (xs.map (.int .u64))) (R2 : RowAt w 1 ad2 ys.length (ys.map (.int .u64))) : zC4 Tryz.prog 82 #[.slice ad xs.length c, .slice ad2 ys.length c2] w (.bool (decide (xs = ys))) := by
 have l1 := R.lim
 have l2 := R2.lim
 have G := Grow.rfl' w
 refine zB1 Tryz.func82 Tryz.ntmps82 Tryz.results82 rfl rfl ?_
 refine qZ 11 ?_
 refine stp (zH4 rfl rfl ?_)
 refine zA6 ?_
 refine zA2 (b := (decide ((xs.length : Int) ≠ (ys.length : Int)))) rfl (fun h1 => ?_) (fun h1 => ?_)
 ·
  replace h1 := qT h1
  refine qZ 5 ?_
  refine ret1 (zA1 (v := .bool false) rfl) ⟨?_, G⟩
  congr 1; exact (decide_eq_false (fun he => h1 (by rw [he]))).symm
 ·
  replace h1 := qF h1
  have hl : xs.length = ys.length := by omega
  refine qZ 9 ?_
  refine zF6 (fun m_ e_ w_ => ∃ (k : Nat), m_ = xs.length - k ∧ Fr [(0, .slice ad xs.length c), (1, .slice ad2 ys.length c2), (12, .int .i64 (xs.length : Int)), (13, .int .i64 (k : Int))] e_ ∧ (k ≤ xs.length) ∧ (∀ j, j < k → xs.getD j 0 = ys.getD j 0) ∧ Grow w w_) _ ⟨0, rfl, zC8 ⟨rfl, rfl, rfl, rfl, trivial⟩, by omega, fun j hj => by omega, G⟩ ?_
  clear G
  rintro m_ e_ w1 ⟨k, rfl, ⟨e2, rfl⟩, hk2, hk, G⟩
  refine qZ 2 ?_
  refine stp (zH1 rfl rfl ?_)
  refine qZ 2 ?_
  refine zA2 (b := (decide ((k : Int) < (xs.length : Int)))) rfl (fun hlt => ?_) (fun hlt => ?_)
  ·
   replace hlt := qT hlt
   have hk3 : k < ys.length := by omega
   refine qZ 9 ?_
   refine zJ5 9 [[], [], [1, 0], [2, 1, 0], [], [], [1, 0], [2, 1, 0], [7, 6, 5, 4, 3, 2, 1, 0]] mixed (by kernel_rfl) (by kernel_rfl) (by kernel_rfl) ?_
   intro w3 g4
   replace G := G.tr g4
   clear g4
   refine qA 2 ?_
   apply zA5
   ·intro w_ g_; refine og rfl ?_; refine zD1 (R.grow (G.tr g_)) rfl rfl ?_ ?_; omega; exact qX
   apply zA5
   ·intro w_ g_; exact og rfl (zC6 (v := .int .u64 (xs.getD k 0)) (m := 0) (R.grow (G.tr g_)) rfl (zF5 0 (by omega)) qX)
   refine qA 2 ?_
   apply zA5
   ·intro w_ g_; refine og rfl ?_; refine zD1 (R2.grow (G.tr g_)) rfl rfl ?_ ?_; omega; exact qX
   apply zA5
   ·intro w_ g_; exact og rfl (zC6 (v := .int .u64 (ys.getD k 0)) (m := 0) (R2.grow (G.tr g_)) rfl (zF5 0 (by omega)) qX)
   apply zA5
   ·intro w_ g_; exact og rfl (zH4 rfl rfl qX)
   refine zG4 ?_
   intro w5 g6
   replace G := G.tr g6
   clear g6
   refine zA6 ?_
   refine zA2 (b := (decide ((xs.getD k 0) ≠ (ys.getD k 0)))) rfl (fun h3 => ?_) (fun h3 => ?_)
   ·
    replace h3 := qT h3
    refine qZ 5 ?_
    refine ret1 (zA1 (v := .bool false) rfl) ⟨?_, G⟩
    congr 1; exact (decide_eq_false (fun he => h3 (by rw [he]))).symm
   ·
    replace h3 := qF h3
    refine qZ 2 ?_
    refine stp (zB8 rfl rfl ?_ ?_); constructor <;> omega
    refine qZ 2 ?_
    refine ⟨_, ?_, k + 1, rfl, zC8 ⟨rfl, rfl, rfl, rfl, trivial⟩, by omega, fun j hj => by rcases Nat.lt_succ_iff_lt_or_eq.1 hj with h_ | h_; exact hk j h_; subst h_; omega, G⟩
    omega
  ·
   replace hlt := qF hlt
   have hk3 : k = xs.length := by omega
   refine qZ 6 ?_
   refine ret1 (zA1 (v := .bool true) rfl) ⟨?_, G⟩
   congr 1; exact (decide_eq_true (qK8 hl (fun j hj => hk j (by omega)))).symm
theorem yT0 (w : World) {ad ad2 : Option Addr} {c c2 : Nat} {xs ys : List Int} (R : RowAt w 1 ad xs.length (xs.map (.int .u8))) (R2 : RowAt w 1 ad2 ys.length (ys.map (.int .u8))) (hx : ∀ x ∈ xs, inR .u8 x) (hy : ∀ y ∈ ys, inR .u8 y) : zC4 Tryz.prog 83 #[.slice ad xs.length c, .slice ad2 ys.length c2] w (.bool (decide (xs = ys))) := by
 have G := Grow.rfl' w
 refine zB1 Tryz.func83 Tryz.ntmps83 Tryz.results83 rfl rfl ?_
 refine qZ 7 ?_
 refine stp (qB2 (xs := xs) (R.grow G) rfl ?_)
 refine qZ 1 ?_
 refine stp (qB2 (xs := ys) (R2.grow G) rfl ?_)
 refine stp ?_
 refine yY1 rfl rfl ?_
 rw [yI6 hx hy]
 refine qZ 3 ?_
 refine ret1 (zA1 (v := .bool (decide (xs = ys))) rfl) ⟨?_, G⟩
 rfl
theorem yT1 (w : World) {ad ad2 : Option Addr} {c c2 n m fid : Nat} {fst cap : Array Value} {kc kd : List Value} [FuncI Tryz.prog fid] (R : RowAt w 5 ad n kc) (R2 : RowAt w 5 ad2 m kd) (p : Nat → Bool) (hf : ∀ i, i < n → i < m → ∀ w', Grow w w' → zC4 Tryz.prog fid (fst.toList ++ ([Value.agg ((kc.drop (i * 5)).take 5).toArray, Value.agg ((kd.drop (i * 5)).take 5).toArray] ++ cap.toList)).toArray w' (.bool (p i))) (h1c : ∀ i, i < n → ∃ k s a n cp a2 n2 c2 a3 n3 c3, (kc.drop (i * 5)).take 5 = [.int .i64 k, .int .i64 s, .slice a n cp, .slice a2 n2 c2, .slice a3 n3 c3]) (h2c : ∀ i, i < m → ∃ k s a n cp a2 n2 c2 a3 n3 c3, (kd.drop (i * 5)).take 5 = [.int .i64 k, .int .i64 s, .slice a n cp, .slice a2 n2 c2, .slice a3 n3 c3]) : zC4 Tryz.prog 84 #[.slice ad n c, .slice ad2 m c2, .func (.func fid) fst cap] w (.bool (decide (n = m) && (List.range n).all p)) := by
 have l1 := R.lim
 have l2 := R2.lim
 have e1 := R.len
 have e2 := R2.len
 have G := Grow.rfl' w
 refine zB1 Tryz.func84 Tryz.ntmps84 Tryz.results84 rfl rfl ?_
 refine qZ 11 ?_
 refine stp (zH4 rfl rfl ?_)
 refine zA6 ?_
 refine zA2 (b := (decide ((n : Int) ≠ (m : Int)))) rfl (fun h1 => ?_) (fun h1 => ?_)
 ·
  replace h1 := qT h1
  refine qZ 5 ?_
  refine ret1 (zA1 (v := .bool false) rfl) ⟨?_, G⟩
  rw [decide_eq_false (by omega), Bool.false_and]
 ·
  replace h1 := qF h1
  have hl : n = m := by omega
  refine qZ 9 ?_
  refine zF6 (fun m_ e_ w_ => ∃ (k : Nat), m_ = n - k ∧ Fr [(1, .slice ad2 m c2), (2, .func (.func fid) fst cap), (15, .slice ad n c), (16, .int .i64 (n : Int)), (17, .int .i64 (k : Int))] e_ ∧ (k ≤ n) ∧ (∀ j, j < k → p j = true) ∧ Grow w w_) _ ⟨0, rfl, zC8 ⟨rfl, rfl, rfl, rfl, rfl, trivial⟩, by omega, fun j hj => by omega, G⟩ ?_
  clear G
  rintro m_ e_ w1 ⟨k, rfl, ⟨e2, rfl⟩, hk2, hk, G⟩
  refine qZ 2 ?_
  refine stp (zH1 rfl rfl ?_)
  refine qZ 2 ?_
  refine zA2 (b := (decide ((k : Int) < (n : Int)))) rfl (fun hlt => ?_) (fun hlt => ?_)
  ·
   replace hlt := qT hlt
   have hk3 : k < m := by omega
   have hfk := hf k (by omega) hk3
   obtain ⟨x0, x1, x2, x3, x4, x5, x6, x7, x8, x9, x10, hx5⟩ := h1c k (by omega)
   obtain ⟨y0, y1, y2, y3, y4, y5, y6, y7, y8, y9, y10, hy5⟩ := h2c k (by omega)
   rw [hx5, hy5] at hfk
   refine qZ 6 ?_
   refine stp (zD1 (R.grow G) rfl rfl ?_ ?_); omega
   refine stp (zM7 (R.grow G) rfl (by decide) (by omega) hx5 ?_)
   refine stp (zB0 ?_)
   intro b3 w4 hb5 hc6 g7
   refine qZ 1 ?_
   refine stn (qS hc6 ?_)
   intro w8 hc9 u10
   have g11 := g7.upd u10 hb5
   have hge12 := Nat.le_trans G.size hb5
   replace G := G.tr g11
   clear u10 g7 hb5 hc6
   refine qZ 5 ?_
   refine stp (zD1 (R2.grow G) rfl rfl ?_ ?_); omega
   refine stp (zM7 (R2.grow G) rfl (by decide) (by omega) hy5 ?_)
   refine stp (zB0 ?_)
   intro b13 w14 hb15 hc16 g17
   refine stn (qS hc16 ?_)
   intro w18 hc19 u20
   have g21 := g17.upd u20 hb15
   have hge22 := Nat.le_trans G.size hb15
   have ne23 := qN hc9 hb15
   replace hc9 := g21.heap hc9
   replace G := G.tr g21
   clear u20 g17 hb15 hc16
   refine qZ 6 ?_
   refine stp (zA4 (v := .bool (p k)) rfl (hfk _ G) ?_)
   intro w24 g25
   replace hc9 := g25.heap hc9
   replace hc19 := g25.heap hc19
   replace G := G.tr g25
   clear g25
   refine stp (zL0 rfl ?_)
   refine zA6 ?_
   refine zA2 (b := (!(p k))) rfl (fun hpk => ?_) (fun hpk => ?_)
   ·
    simp only [sb] at hpk
    refine qZ 5 ?_
    refine ret1 (zA1 (v := .bool false) rfl) ⟨?_, G⟩
    rw [qY6 (k := k) (by omega) (by simpa using hpk), Bool.and_false]
   ·
    simp only [sb] at hpk
    refine qZ 2 ?_
    refine stp (zB8 rfl rfl ?_ ?_); constructor <;> omega
    refine qZ 2 ?_
    refine ⟨_, ?_, k + 1, rfl, zC8 ⟨rfl, rfl, rfl, rfl, rfl, trivial⟩, by omega, fun j hj => by rcases Nat.lt_succ_iff_lt_or_eq.1 hj with h_ | h_; exact hk j h_; subst h_; simpa using hpk, G⟩
    omega
  ·
   replace hlt := qF hlt
   have hk3 : k = n := by omega
   refine qZ 6 ?_
   refine ret1 (zA1 (v := .bool true) rfl) ⟨?_, G⟩
   rw [qT6 (fun j hj => hk j (by omega)), decide_eq_true hl]; rfl
theorem yM3 : ∀ (n_ : Nat) (w : World) {c : List Value} {t : Nd} (T : NodeR w c t) {d : List Value} {u : Nd} (U : NodeR w d u), t.sz ≤ n_ → zC4 Tryz.prog 47 #[.agg c.toArray, .agg d.toArray] w (.bool (t.beq u)) := by
 intro n_
 induction n_ with
 | zero => intro w c t T d u U hm_; exact absurd hm_ (by have := t.sz_pos; omega)
 | succ n_ ih_ =>
 intro w c t T d u U hm_
 obtain @⟨kind, size, words, bytes, kids, ws, bs, ks, kc, hk, hs, hW, hwr, hB, hbr, hK, hKs⟩ := T
 obtain ⟨aw, cw, rfl, hcw, hcw2, RW⟩ := hW
 obtain ⟨ab, cb, rfl, hcb, hcb2, RB⟩ := hB
 obtain ⟨ak, ck, rfl, hck, hck2, RK⟩ := hK
 have lw := RW.lim
 have lb := RB.lim
 have lk := RK.lim
 simp only [inR] at hk hs
 obtain @⟨kind2, size2, words2, bytes2, kids2, ws2, bs2, ks2, kc2, hk2, hs2, hW2, hwr2, hB2, hbr2, hK2, hKs2⟩ := U
 obtain ⟨aw2, cw2, rfl, hcw2, hcw22, RW2⟩ := hW2
 obtain ⟨ab2, cb2, rfl, hcb2, hcb22, RB2⟩ := hB2
 obtain ⟨ak2, ck2, rfl, hck2, hck22, RK2⟩ := hK2
 have lw2 := RW2.lim
 have lb2 := RB2.lim
 have lk2 := RK2.lim
 simp only [inR] at hk2 hs2
 have G := Grow.rfl' w
 refine zB1 Tryz.func47 Tryz.ntmps47 Tryz.results47 rfl rfl ?_
 refine qZ 2 ?_
 refine stp ?_
 refine qC ?_
 intro b1 w2 hb3 hc4 g5
 have hge6 := Nat.le_trans G.size hb3
 replace G := G.tr g5
 clear g5 hb3
 refine stp ?_
 refine qC ?_
 intro b7 w8 hb9 hc10 g11
 have hge12 := Nat.le_trans G.size hb9
 replace hc4 := g11.heap hc4
 replace G := G.tr g11
 clear g11 hb9
 refine qZ 8 ?_
 refine stp (zD5 rfl rfl ?_)
 refine qZ 1 ?_
 refine qG 4 ?_
 refine zA3 (zB3 (s := .bool _) (v := .bool (decide (size = size2))) rfl (zE5 _) (fun hc17 => ?_) ?_)
 ·
  have hc17_ := qT hc17
  refine zD5 (gvt hc17) (gvt hc17) ?_
  exact ⟨rfl, rfl⟩
 refine stp (zG6 rfl rfl rfl ?_)
 refine qZ 1 ?_
 refine qG 4 ?_
 refine zA3 (zU4 (s := .bool ((decide (kind = kind2)) && (decide (size = size2)))) (b := true) (v := .bool (decide (words = words2))) rfl (zE5 _) (fun hc22 => ?_) ?_)
 ·
  obtain ⟨hc22a, hc22b⟩ := and_t hc22
  have hc22a_ := qT hc22a
  have hc22b_ := qT hc22b
  exact zL7 (l := ([.slice aw words.length cw, .slice aw2 words2.length cw2] : List Value)) rfl (by show ([gv ((decide (kind = kind2)) && (decide (size = size2))) (.slice aw words.length cw), gv ((decide (kind = kind2)) && (decide (size = size2))) (.slice aw2 words2.length cw2)] : List Value) = _; rw [gvt hc22, gvt hc22]) (yS9 _ (RW.grow G) (RW2.grow G)) (fun w2_ g2_ => ⟨rfl, g2_⟩)
 intro w23 g24
 replace hc4 := g24.heap hc4
 replace hc10 := g24.heap hc10
 replace G := G.tr g24
 clear g24
 refine stp (zG6 rfl rfl rfl ?_)
 refine qZ 1 ?_
 refine zA3 (zB3 (s := .bool _) (v := .pointer (some ⟨b1, 3, none⟩)) rfl (zE5 _) (fun hc25 => ?_) ?_)
 ·
  obtain ⟨hc25a, hc25b⟩ := and_t hc25
  obtain ⟨hc25aa, hc25ab⟩ := and_t hc25a
  have hc25aa_ := qT hc25aa
  have hc25ab_ := qT hc25ab
  refine zC1 rfl ?_
  exact ⟨rfl, rfl⟩
 refine zA3 (zB3 (s := .bool _) (v := .slice ab bytes.length cb) rfl (zE5 _) (fun hc26 => ?_) ?_)
 ·
  obtain ⟨hc26a, hc26b⟩ := and_t hc26
  obtain ⟨hc26aa, hc26ab⟩ := and_t hc26a
  have hc26aa_ := qT hc26aa
  have hc26ab_ := qT hc26ab
  refine zD8 (v := .slice ab bytes.length cb) (gvt hc26) hc4 rfl ?_
  exact ⟨rfl, rfl⟩
 refine zA3 (zB3 (s := .bool _) (v := .pointer (some ⟨b7, 3, none⟩)) rfl (zE5 _) (fun hc27 => ?_) ?_)
 ·
  obtain ⟨hc27a, hc27b⟩ := and_t hc27
  obtain ⟨hc27aa, hc27ab⟩ := and_t hc27a
  have hc27aa_ := qT hc27aa
  have hc27ab_ := qT hc27ab
  refine zC1 rfl ?_
  exact ⟨rfl, rfl⟩
 refine zA3 (zB3 (s := .bool _) (v := .slice ab2 bytes2.length cb2) rfl (zE5 _) (fun hc28 => ?_) ?_)
 ·
  obtain ⟨hc28a, hc28b⟩ := and_t hc28
  obtain ⟨hc28aa, hc28ab⟩ := and_t hc28a
  have hc28aa_ := qT hc28aa
  have hc28ab_ := qT hc28ab
  refine zD8 (v := .slice ab2 bytes2.length cb2) (gvt hc28) hc10 rfl ?_
  exact ⟨rfl, rfl⟩
 refine zA3 (zU4 (s := .bool (((decide (kind = kind2)) && (decide (size = size2))) && (decide (words = words2)))) (b := true) (v := .bool (decide (bytes = bytes2))) rfl (zE5 _) (fun hc29 => ?_) ?_)
 ·
  obtain ⟨hc29a, hc29b⟩ := and_t hc29
  obtain ⟨hc29aa, hc29ab⟩ := and_t hc29a
  have hc29aa_ := qT hc29aa
  have hc29ab_ := qT hc29ab
  exact zL7 (l := ([.slice ab bytes.length cb, .slice ab2 bytes2.length cb2] : List Value)) rfl (by show ([gv (((decide (kind = kind2)) && (decide (size = size2))) && (decide (words = words2))) (.slice ab bytes.length cb), gv (((decide (kind = kind2)) && (decide (size = size2))) && (decide (words = words2))) (.slice ab2 bytes2.length cb2)] : List Value) = _; rw [gvt hc29, gvt hc29]) (yT0 _ (RB.grow G) (RB2.grow G) hbr hbr2) (fun w2_ g2_ => ⟨rfl, g2_⟩)
 intro w30 g31
 replace hc4 := g31.heap hc4
 replace hc10 := g31.heap hc10
 replace G := G.tr g31
 clear g31
 refine stp (zG6 rfl rfl rfl ?_)
 refine qZ 1 ?_
 refine zA3 (zB3 (s := .bool _) (v := .pointer (some ⟨b1, 4, none⟩)) rfl (zE5 _) (fun hc32 => ?_) ?_)
 ·
  obtain ⟨hc32a, hc32b⟩ := and_t hc32
  obtain ⟨hc32aa, hc32ab⟩ := and_t hc32a
  obtain ⟨hc32aaa, hc32aab⟩ := and_t hc32aa
  have hc32aaa_ := qT hc32aaa
  have hc32aab_ := qT hc32aab
  refine zC1 rfl ?_
  exact ⟨rfl, rfl⟩
 refine zA3 (zB3 (s := .bool _) (v := .slice ak kids.length ck) rfl (zE5 _) (fun hc33 => ?_) ?_)
 ·
  obtain ⟨hc33a, hc33b⟩ := and_t hc33
  obtain ⟨hc33aa, hc33ab⟩ := and_t hc33a
  obtain ⟨hc33aaa, hc33aab⟩ := and_t hc33aa
  have hc33aaa_ := qT hc33aaa
  have hc33aab_ := qT hc33aab
  refine zD8 (v := .slice ak kids.length ck) (gvt hc33) hc4 rfl ?_
  exact ⟨rfl, rfl⟩
 refine zA3 (zB3 (s := .bool _) (v := .pointer (some ⟨b7, 4, none⟩)) rfl (zE5 _) (fun hc34 => ?_) ?_)
 ·
  obtain ⟨hc34a, hc34b⟩ := and_t hc34
  obtain ⟨hc34aa, hc34ab⟩ := and_t hc34a
  obtain ⟨hc34aaa, hc34aab⟩ := and_t hc34aa
  have hc34aaa_ := qT hc34aaa
  have hc34aab_ := qT hc34aab
  refine zC1 rfl ?_
  exact ⟨rfl, rfl⟩
 refine zA3 (zB3 (s := .bool _) (v := .slice ak2 kids2.length ck2) rfl (zE5 _) (fun hc35 => ?_) ?_)
 ·
  obtain ⟨hc35a, hc35b⟩ := and_t hc35
  obtain ⟨hc35aa, hc35ab⟩ := and_t hc35a
  obtain ⟨hc35aaa, hc35aab⟩ := and_t hc35aa
  have hc35aaa_ := qT hc35aaa
  have hc35aab_ := qT hc35aab
  refine zD8 (v := .slice ak2 kids2.length ck2) (gvt hc35) hc10 rfl ?_
  exact ⟨rfl, rfl⟩
 refine zA3 (zU4 (s := .bool ((((decide (kind = kind2)) && (decide (size = size2))) && (decide (words = words2))) && (decide (bytes = bytes2)))) (b := true) (v := .bool (decide (kids.length = kids2.length) && (List.range kids.length).all (fun i => (kids.getD i (.mk 0 0 [] [] [])).beq (kids2.getD i (.mk 0 0 [] [] []))))) rfl (zE5 _) (fun hc36 => ?_) ?_)
 ·
  obtain ⟨hc36a, hc36b⟩ := and_t hc36
  obtain ⟨hc36aa, hc36ab⟩ := and_t hc36a
  obtain ⟨hc36aaa, hc36aab⟩ := and_t hc36aa
  have hc36aaa_ := qT hc36aaa
  have hc36aab_ := qT hc36aab
  have kid : ∀ i, i < kids.length → i < kids2.length → ∀ w', Grow w30 w' → zC4 Tryz.prog 47 ((#[] : Array Value).toList ++ ([Value.agg ((kc.drop (i * 5)).take 5).toArray, Value.agg ((kc2.drop (i * 5)).take 5).toArray] ++ (#[] : Array Value).toList)).toArray w' (.bool ((kids.getD i (.mk 0 0 [] [] [])).beq (kids2.getD i (.mk 0 0 [] [] [])))) := by
   intro i hi hi2 w' g'
   have hat := KidsR.at_ i kids[i] (hKs.grow (G.tr g')) (by simp [hi])
   have hat2 := KidsR.at_ i kids2[i] (hKs2.grow (G.tr g')) (by simp [hi2])
   have hsz := Nd.szs_at kids i kids[i] (by simp [hi])
   rw [List.getD_eq_getElem?_getD, List.getElem?_eq_getElem hi, Option.getD_some, List.getD_eq_getElem?_getD, List.getElem?_eq_getElem hi2, Option.getD_some]
   exact ih_ w' hat hat2 (by simp only [Nd.sz] at hm_; omega)
  exact zL7 (l := ([.slice ak kids.length ck, .slice ak2 kids2.length ck2, .func (.func 47) #[] #[]] : List Value)) rfl (by show ([gv ((((decide (kind = kind2)) && (decide (size = size2))) && (decide (words = words2))) && (decide (bytes = bytes2))) (.slice ak kids.length ck), gv ((((decide (kind = kind2)) && (decide (size = size2))) && (decide (words = words2))) && (decide (bytes = bytes2))) (.slice ak2 kids2.length ck2), .func (.func 47) #[] #[]] : List Value) = _; rw [gvt hc36, gvt hc36]) (yT1 _ (RK.grow G) (RK2.grow G) (fun i => (kids.getD i (.mk 0 0 [] [] [])).beq (kids2.getD i (.mk 0 0 [] [] []))) kid (fun i hi => (KidsR.at_ i kids[i] hKs (by simp [hi])).cells) (fun i hi => (KidsR.at_ i kids2[i] hKs2 (by simp [hi])).cells)) (fun w2_ g2_ => ⟨rfl, g2_⟩)
 intro w37 g38
 replace hc4 := g38.heap hc4
 replace hc10 := g38.heap hc10
 replace G := G.tr g38
 clear g38
 refine stp (zG6 rfl rfl rfl ?_)
 refine qZ 3 ?_
 refine ret1 (zA1 (v := .bool (((((decide (kind = kind2)) && (decide (size = size2))) && (decide (words = words2))) && (decide (bytes = bytes2))) && (decide (kids.length = kids2.length) && (List.range kids.length).all (fun i => (kids.getD i (.mk 0 0 [] [] [])).beq (kids2.getD i (.mk 0 0 [] [] [])))))) rfl) ⟨?_, G⟩
 rw [Nd.beqs_all, Nd.beq]
end Go.Proofs.YtkkbbhpbcfcplaaGreat.K
