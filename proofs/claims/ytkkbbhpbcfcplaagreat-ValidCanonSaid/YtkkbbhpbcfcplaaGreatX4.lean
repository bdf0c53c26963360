/- Plain laws, rules and walks of this claim's functions, laid together. -/
import Derived.Test.YtkkbbhpbcfcplaaGreatX3
import Derived.Laws.BytesArg
import Derived.Laws.Strings
import Derived.Laws.Pointers
set_option linter.unusedVariables false
set_option linter.unusedSimpArgs false
set_option maxRecDepth 100000
namespace Go.Proofs.YtkkbbhpbcfcplaaGreat.K
open Go Go.RowKit Go.Proofs
attribute [local irreducible] Run1 OpG WL W AO zC5
theorem qW8 (w : World) {w0 : World} {bB : Nat} {so : Value} {segs : List Value} {A : List (List Int)} {lim : Int} {c : List Value} {t : Nd} {s i : Nat} (h : BldAt 144 37 23 w bB (so) segs (A) lim (zB9 (A))) (T : NodeR w0 c t) (g0 : Grow w0 w) (hb : ∀ k ∈ blks bB so segs, w0.heap.size ≤ k) (F : Fit lim A) (hsA : s < A.length) (hiA : i < len2 A s) (hl1 : 1 ≤ lim) (hl2 : lim ≤ 4096) (hn0 : 0 ≤ t.need) (hn1 : t.need ≤ 100000) : Calls Tryz.prog 113 #[.pointer (some ⟨bB, 0, none⟩), .agg c.toArray, .int .i64 (s : Int), .int .i64 (i : Int)] w (Ret fun v w' => v = .tuple #[.int .i64 ((zC6 lim t ⟨A, false⟩ s i).seg : Int), .int .i64 ((zC6 lim t ⟨A, false⟩ s i).at_ : Int), .bool (!(zC6 lim t ⟨A, false⟩ s i).S.full)] ∧ ∃ so' segs', BldAt 144 37 23 w' bB (so') segs' ((zC6 lim t ⟨A, false⟩ s i).S.A) lim (zB9 ((zC6 lim t ⟨A, false⟩ s i).S.A)) ∧ Kp (blks bB so segs) w w' ∧ (∀ k ∈ blks bB so' segs', k ∈ blks bB so segs ∨ w.heap.size ≤ k)) := by
 have FS := F.small hl2
 obtain ⟨ado, co, sa, sc, rfl, hco, RO, hsf⟩ := h.fn FS.1
 have hbox := h.box
 have K := Kp.refl (blks bB (.slice ado A.length co) segs) w
 have h5 := T.len
 obtain ⟨x0, x1, x2, x3, x4, rfl⟩ := five h5
 obtain ⟨hlast, hlastE⟩ := qQ8 F.one
 have hlt0 := h.lt
 have hsz0 := g0.size
 have hA16 := F.most
 have htot := F.all
 have htn := zK5 A
 have hlseg := F.seg (zA8 A)
 refine zC0 Tryz.func113 Tryz.ntmps113 Tryz.results113 rfl rfl ?_
 refine qZ 2 ?_
 refine stp ?_
 refine qC ?_
 intro b1 w2 hb3 hc4 g5
 have hge6 := Nat.le_trans K.size hb3
 replace hbox := g5.heap hbox
 replace h := h.grow g5
 replace K := K.tr g5.kp
 replace g0 := g0.tr g5
 replace RO := RO.grow g5
 clear g5 hb3
 refine qZ 11 ?_
 refine stp ?_
 refine zL2 rfl rfl ?_ ?_; constructor <;> omega
 rw [hlastE]
 refine qZ 3 ?_
 refine zK0 12 [[], [0], [1, 0], [2, 1, 0], [], [4, 3, 2, 1, 0], [5, 4, 3, 2, 1, 0], [6, 5, 4, 3, 2, 1, 0], [], [0], [9, 8, 7, 6, 5, 4, 3, 2, 1, 0], [10, 9, 8, 7, 6, 5, 4, 3, 2, 1, 0]] mixed (by kernel_rfl) (by kernel_rfl) (by kernel_rfl) ?_
 intro w7 g8
 replace hbox := g8.heap hbox
 replace h := h.grow g8
 replace K := K.tr g8.kp
 replace g0 := g0.tr g8
 replace RO := RO.grow g8
 replace hc4 := g8.heap hc4
 clear g8
 refine qA 5 ?_
 apply zA5
 ·intro w_ g_; refine og rfl ?_; refine zD7 (RO.grow g_) rfl rfl ?_ ?_; omega; exact qX
 apply zA5
 ·intro w_ g_; refine og rfl ?_; refine zF2 (v := .slice (sa (zA8 A)) (len2 A (zA8 A)) (sc (zA8 A))) (m := 0) (RO.grow g_) rfl (by rw [Nat.mul_one]; exact hsf _ (by assumption)) ?_; exact qX
 refine qA 2 ?_
 apply zA5
 ·intro w_ g_; refine og rfl ?_; exact zA2 (v := .int .i64 t.need) rfl (zY8 _ (T.grow (g0.tr g_))) (fun w2_ g2_ => ⟨g2_, rfl⟩)
 refine qA 2 ?_
 refine zG5 ?_
 intro w9 g10
 replace hbox := g10.heap hbox
 replace h := h.grow g10
 replace K := K.tr g10.kp
 replace g0 := g0.tr g10
 replace RO := RO.grow g10
 replace hc4 := g10.heap hc4
 clear g10
 refine qZ 6 ?_
 refine stp (zE2 rfl rfl ?_)
 refine qZ 1 ?_
 refine qG 2 ?_
 refine zA4 (zB7 (s := .bool _) (v := .int .i64 (((len2 A (zA8 A)) : Int) + t.need)) rfl (zG3 _) (fun hc13 => ?_) ?_)
 ·
  have hc13_ := qT hc13
  refine zC3 (gvt hc13) (gvt hc13) ?_ ?_; constructor <;> omega
  exact ⟨rfl, rfl⟩
 refine zA4 (zB7 (s := .bool _) (v := .pointer (some ⟨bB, 0, none⟩)) rfl (zG3 _) (fun hc14 => ?_) ?_)
 ·
  have hc14_ := qT hc14
  refine zE8 rfl ?_
  exact ⟨rfl, rfl⟩
 refine zA4 (zB7 (s := .bool _) (v := .pointer (some ⟨bB, 0, none⟩)) rfl (zG3 _) (fun hc15 => ?_) ?_)
 ·
  have hc15_ := qT hc15
  refine zE5 (gvt hc15) ?_
  exact ⟨rfl, rfl⟩
 refine zA4 (zB7 (s := .bool _) (v := .pointer (some ⟨bB, 1, none⟩)) rfl (zG3 _) (fun hc16 => ?_) ?_)
 ·
  have hc16_ := qT hc16
  refine zB6 (gvt hc16) ?_
  exact ⟨rfl, rfl⟩
 refine qG 1 ?_
 refine zA4 (zB7 (s := .bool _) (v := .bool (decide ((((len2 A (zA8 A)) : Int) + t.need) ≤ lim))) rfl (zG3 _) (fun hc18 => ?_) ?_)
 ·
  have hc18_ := qT hc18
  refine zQ6 (gvt hc18) (gvt hc18) ?_
  exact ⟨rfl, rfl⟩
 refine stp (zI8 rfl rfl rfl ?_)
 refine zA6 ?_
 refine zA3 (b := ((decide ((s : Int) = (zA8 A : Int))) && (decide ((((len2 A (zA8 A)) : Int) + t.need) ≤ lim)))) rfl (fun h1 => ?_) (fun h1 => ?_)
 ·
  simp only [sb] at h1
  have hsl : s = zA8 A := by omega
  have hi2 := hiA
  rw [hsl] at hi2
  have hp : zC6 lim t ⟨A, false⟩ s i = ⟨⟨setP A s i (t.near ((len2 A (zA8 A) : Int) - i - 1)), false⟩, zA8 A, len2 A (zA8 A)⟩ := by unfold zC6; dsimp only; rw [if_pos ⟨by omega, h1.2⟩]
  refine zU5 ?_
  obtain ⟨gq, cap, cur, hsg, hcur, hci, hgb, hgO, hgB, hput⟩ := h.put (s := s) (i := i) (by decide) (by decide) hsA hiA
  have hsa := zX0 ((hsf s hsA).symm.trans hsg)
  have kb_hbox : ∀ w_, Kp [gq] w9 w_ → w_.heap[bB]? = some (.cells #[.slice ado A.length co, .int .i64 lim, .int .i64 (zB9 A)] 144 (0, 0)) := fun w_ k_ => k_.heap hbox (by simpa using hgB)
  have kb_RO : ∀ w_, Kp [gq] w9 w_ → RowAt w_ 1 ado A.length segs := fun w_ k_ => RO.keep1 k_ (fun b_ o_ he_ hb_ => hgO (by rw [he_, hb_]; rfl))
  have kb_g0 : ∀ w_, Kp [gq] w9 w_ → Grow w0 w_ := fun w_ k_ => g0.kp1 k_ (hb _ hgb)
  have kb_K : ∀ w_, Kp [gq] w9 w_ → Kp (blks bB (.slice ado A.length co) segs) w w_ := fun w_ k_ => K.trans k_ (fun x_ hx_ => .inl (by simp only [List.mem_singleton] at hx_; subst hx_; exact hgb))
  have kb_hc4 : ∀ w_, Kp [gq] w9 w_ → w_.heap[b1]? = some (.cells #[x0, x1, x2, x3, x4] 48 (0, 0)) := fun w_ k_ => k_.heap hc4 (fun hm_ => by simp only [List.mem_singleton] at hm_; have := hlt0 _ hgb; have := hge6; omega)
  refine qC8 16 [[], [0], [1, 0], [2, 1, 0], [], [4, 3, 2, 1, 0], [5, 4, 3, 2, 1, 0], [], [], [], [], [1, 0], [2, 1, 0], [4, 3, 2, 1, 0], [13, 12, 11, 10, 9, 8, 7, 6, 5, 4, 3, 2, 1, 0], [14, 13, 12, 11, 10, 9, 8, 7, 6, 5, 4, 3, 2, 1, 0]] [15] [gq] (fun k_ w_ => match k_ with | 0 => w_.heap[gq]? = some (.cells cur 23 (0, 0)) | _ => w_.heap[gq]? = some (.cells (cur.toList.set i (.int .u64 (t.near ((len2 A (zA8 A) : Int) - i - 1)))).toArray 23 (0, 0))) mixed (by kernel_rfl) (by kernel_rfl) (by kernel_rfl) (by kernel_rfl) (fun k_ w_ w2_ g_ h_ => match k_, h_ with | 0, h_ => g_.heap h_ | n_ + 1, h_ => g_.heap h_) (fun w_ g_ => g_.heap hcur) ?_
  intro w19 g20
  replace kb_hbox : ∀ w_, Kp [gq] w19 w_ → w_.heap[bB]? = some (.cells #[.slice ado A.length co, .int .i64 lim, .int .i64 (zB9 A)] 144 (0, 0)) := fun w_ k_ => kb_hbox w_ (g20.kp.tr k_)
  replace kb_RO : ∀ w_, Kp [gq] w19 w_ → RowAt w_ 1 ado A.length segs := fun w_ k_ => kb_RO w_ (g20.kp.tr k_)
  replace kb_g0 : ∀ w_, Kp [gq] w19 w_ → Grow w0 w_ := fun w_ k_ => kb_g0 w_ (g20.kp.tr k_)
  replace kb_K : ∀ w_, Kp [gq] w19 w_ → Kp (blks bB (.slice ado A.length co) segs) w w_ := fun w_ k_ => kb_K w_ (g20.kp.tr k_)
  replace kb_hc4 : ∀ w_, Kp [gq] w19 w_ → w_.heap[b1]? = some (.cells #[x0, x1, x2, x3, x4] 48 (0, 0)) := fun w_ k_ => kb_hc4 w_ (g20.kp.tr k_)
  have k0_ : Kp [gq] w9 w19 := g20.kp
  refine qM 3 ?_
  apply zE0 (hm := by rfl)
  ·intro w_ g_; exact og rfl (zD1 (v := .slice ado A.length co) rfl (kb_hbox _ g_) rfl qX)
  refine qM 1 ?_
  apply zE0 (hm := by rfl)
  ·intro w_ g_; refine og rfl ?_; refine zD7 (kb_RO _ g_) rfl rfl ?_ ?_; omega; exact qX
  apply zE0 (hm := by rfl)
  ·intro w_ g_; refine og rfl ?_; refine zF2 (v := .slice (sa s) (len2 A s) (sc s)) (m := 0) (kb_RO _ g_) rfl (by rw [Nat.mul_one]; exact hsf _ (by assumption)) ?_; exact qX
  refine qM 1 ?_
  apply zE0 (hm := by rfl)
  ·intro w_ g_; exact og rfl (zC7 rfl (kb_hc4 _ g_) (by rfl) qX)
  refine qM 2 ?_
  apply zE0 (hm := by rfl)
  ·intro w_ g_; refine og rfl ?_; refine zL2 rfl rfl ?_ ?_; constructor <;> omega; exact qX
  apply zE0 (hm := by rfl)
  ·intro w_ g_; refine og rfl ?_; refine zL2 rfl rfl ?_ ?_; constructor <;> omega; exact qX
  apply zE0 (hm := by rfl)
  ·intro w_ g_; refine og rfl ?_; exact zA2 (v := .int .u64 (t.near ((((len2 A (zA8 A)) : Int) - (i : Int)) - 1))) rfl (zU0 _ (T.grow (kb_g0 _ g_)) ((((len2 A (zA8 A)) : Int) - (i : Int)) - 1)) (fun w2_ g2_ => ⟨g2_, rfl⟩)
  apply zE0 (hm := by rfl)
  ·intro w_ g_; refine og rfl ?_; refine zD4 (b := gq) (o := 0) (by show Value.slice (sa s) _ _ = _; rw [hsa]) rfl (by omega) (by omega) ?_; rw [Int.toNat_natCast, Nat.zero_add, Nat.mul_one]; exact qX
  apply zS8 0 (hm := by rfl)
  ·intro w_ g_ s_
   refine og rfl ?_
   refine zC2 (v := .int .u64 (t.near ((len2 A (zA8 A) : Int) - i - 1))) rfl rfl rfl s_ (Nat.ble_eq_true_of_le (by omega)) rfl ?_
   intro w2_ s2_ u_
   exact ⟨Kp.of_upd u_ (by simp), s2_, rfl⟩
  refine zV1 ?_
  intro w21 g22 S_
  replace k0_ := (k0_.tr g22)
  replace h := hput _ _ (t.near ((len2 A (zA8 A) : Int) - i - 1)) S_ (by simp) k0_
  rw [← zJ4 A s i (t.near ((len2 A (zA8 A) : Int) - i - 1))] at h
  clear hput S_ k0_ hcur
  replace hbox := kb_hbox _ g22
  clear kb_hbox
  replace RO := kb_RO _ g22
  clear kb_RO
  replace g0 := kb_g0 _ g22
  clear kb_g0
  replace K := kb_K _ g22
  clear kb_K
  replace hc4 := kb_hc4 _ g22
  clear kb_hc4
  refine qZ 10 ?_
  rw [hp]
  refine ret3 (zA1 (v := .int .i64 (zA8 A : Int)) rfl) (zA1 (v := .int .i64 ((len2 A (zA8 A)) : Int)) rfl) (zA1 (v := .bool true) rfl) ⟨rfl, _, _, h, K, fun k hk => .inl hk⟩
 ·
  simp only [sb] at h1
  refine qZ 6 ?_
  refine stp (zE2 rfl rfl ?_)
  refine qZ 1 ?_
  refine qG 2 ?_
  refine zA4 (zB7 (s := .bool _) (v := .int .i64 (((len2 A (zA8 A)) : Int) + t.need)) rfl (zF0 _) (fun hc25 => ?_) ?_)
  ·
   have hc25_ := hc25
   try simp only [sb] at hc25_
   refine zC3 (gvt hc25) (gvt hc25) ?_ ?_; constructor <;> omega
   exact ⟨rfl, rfl⟩
  refine zA4 (zB7 (s := .bool _) (v := .int .i64 ((((len2 A (zA8 A)) : Int) + t.need) + 1)) rfl (zF0 _) (fun hc26 => ?_) ?_)
  ·
   have hc26_ := hc26
   try simp only [sb] at hc26_
   refine zC3 (gvt hc26) rfl ?_ ?_; constructor <;> omega
   exact ⟨rfl, rfl⟩
  refine zA4 (zB7 (s := .bool _) (v := .pointer (some ⟨bB, 0, none⟩)) rfl (zF0 _) (fun hc27 => ?_) ?_)
  ·
   have hc27_ := hc27
   try simp only [sb] at hc27_
   refine zE8 rfl ?_
   exact ⟨rfl, rfl⟩
  refine zA4 (zB7 (s := .bool _) (v := .pointer (some ⟨bB, 0, none⟩)) rfl (zF0 _) (fun hc28 => ?_) ?_)
  ·
   have hc28_ := hc28
   try simp only [sb] at hc28_
   refine zE5 (gvt hc28) ?_
   exact ⟨rfl, rfl⟩
  refine zA4 (zB7 (s := .bool _) (v := .pointer (some ⟨bB, 1, none⟩)) rfl (zF0 _) (fun hc29 => ?_) ?_)
  ·
   have hc29_ := hc29
   try simp only [sb] at hc29_
   refine zB6 (gvt hc29) ?_
   exact ⟨rfl, rfl⟩
  refine qG 1 ?_
  refine zA4 (zB7 (s := .bool _) (v := .bool (decide (((((len2 A (zA8 A)) : Int) + t.need) + 1) > lim))) rfl (zF0 _) (fun hc31 => ?_) ?_)
  ·
   have hc31_ := hc31
   try simp only [sb] at hc31_
   refine zQ7 (gvt hc31) (gvt hc31) ?_
   exact ⟨rfl, rfl⟩
  refine stp (zJ3 rfl rfl rfl ?_)
  refine zA6 ?_
  refine zA3 (b := ((decide ((s : Int) = (zA8 A : Int))) || (decide (((((len2 A (zA8 A)) : Int) + t.need) + 1) > lim)))) rfl (fun h2 => ?_) (fun h2 => ?_)
  ·
   simp only [sb] at h2
   have hp : zC6 lim t ⟨A, false⟩ s i = ⟨zG8 lim ⟨setP A s i (farP ((zA8 A : Int) + 1) 0), false⟩ (zA8 A + 1) [t.near 0], zA8 A + 1, 1⟩ := by unfold zC6; dsimp only; rw [if_neg (by omega), if_pos (by simp only [qJ7, Bool.or_eq_true, decide_eq_true_eq]; omega)]
   refine qZ 2 ?_
   refine stp (zC3 rfl rfl ?_ ?_); constructor <;> omega
   refine qZ 4 ?_
   obtain ⟨gq, cap, cur, hsg, hcur, hci, hgb, hgO, hgB, hput⟩ := h.put (s := s) (i := i) (by decide) (by decide) hsA hiA
   have hsa := zX0 ((hsf s hsA).symm.trans hsg)
   have kb_hbox : ∀ w_, Kp [gq] w9 w_ → w_.heap[bB]? = some (.cells #[.slice ado A.length co, .int .i64 lim, .int .i64 (zB9 A)] 144 (0, 0)) := fun w_ k_ => k_.heap hbox (by simpa using hgB)
   have kb_RO : ∀ w_, Kp [gq] w9 w_ → RowAt w_ 1 ado A.length segs := fun w_ k_ => RO.keep1 k_ (fun b_ o_ he_ hb_ => hgO (by rw [he_, hb_]; rfl))
   have kb_g0 : ∀ w_, Kp [gq] w9 w_ → Grow w0 w_ := fun w_ k_ => g0.kp1 k_ (hb _ hgb)
   have kb_K : ∀ w_, Kp [gq] w9 w_ → Kp (blks bB (.slice ado A.length co) segs) w w_ := fun w_ k_ => K.trans k_ (fun x_ hx_ => .inl (by simp only [List.mem_singleton] at hx_; subst hx_; exact hgb))
   have kb_hc4 : ∀ w_, Kp [gq] w9 w_ → w_.heap[b1]? = some (.cells #[x0, x1, x2, x3, x4] 48 (0, 0)) := fun w_ k_ => k_.heap hc4 (fun hm_ => by simp only [List.mem_singleton] at hm_; have := hlt0 _ hgb; have := hge6; omega)
   refine qC8 17 [[], [0], [1, 0], [2, 1, 0], [], [4, 3, 2, 1, 0], [5, 4, 3, 2, 1, 0], [], [], [], [1, 0], [2, 1, 0], [3, 2, 1, 0], [4, 3, 2, 1, 0], [5, 4, 3, 2, 1], [14, 13, 12, 11, 10, 9, 8, 7, 6, 5, 4, 3, 2, 1], [15, 14, 13, 12, 11, 10, 9, 8, 7, 6, 5, 4, 3, 2, 0]] [16] [gq] (fun k_ w_ => match k_ with | 0 => w_.heap[gq]? = some (.cells cur 23 (0, 0)) | _ => w_.heap[gq]? = some (.cells (cur.toList.set i (.int .u64 (farP ((zA8 A : Int) + 1) 0))).toArray 23 (0, 0))) mixed (by kernel_rfl) (by kernel_rfl) (by kernel_rfl) (by kernel_rfl) (fun k_ w_ w2_ g_ h_ => match k_, h_ with | 0, h_ => g_.heap h_ | n_ + 1, h_ => g_.heap h_) (fun w_ g_ => g_.heap hcur) ?_
   intro w32 g33
   replace kb_hbox : ∀ w_, Kp [gq] w32 w_ → w_.heap[bB]? = some (.cells #[.slice ado A.length co, .int .i64 lim, .int .i64 (zB9 A)] 144 (0, 0)) := fun w_ k_ => kb_hbox w_ (g33.kp.tr k_)
   replace kb_RO : ∀ w_, Kp [gq] w32 w_ → RowAt w_ 1 ado A.length segs := fun w_ k_ => kb_RO w_ (g33.kp.tr k_)
   replace kb_g0 : ∀ w_, Kp [gq] w32 w_ → Grow w0 w_ := fun w_ k_ => kb_g0 w_ (g33.kp.tr k_)
   replace kb_K : ∀ w_, Kp [gq] w32 w_ → Kp (blks bB (.slice ado A.length co) segs) w w_ := fun w_ k_ => kb_K w_ (g33.kp.tr k_)
   replace kb_hc4 : ∀ w_, Kp [gq] w32 w_ → w_.heap[b1]? = some (.cells #[x0, x1, x2, x3, x4] 48 (0, 0)) := fun w_ k_ => kb_hc4 w_ (g33.kp.tr k_)
   have k0_ : Kp [gq] w9 w32 := g33.kp
   refine qM 3 ?_
   apply zE0 (hm := by rfl)
   ·intro w_ g_; exact og rfl (zD1 (v := .slice ado A.length co) rfl (kb_hbox _ g_) rfl qX)
   refine qM 1 ?_
   apply zE0 (hm := by rfl)
   ·intro w_ g_; refine og rfl ?_; refine zD7 (kb_RO _ g_) rfl rfl ?_ ?_; omega; exact qX
   apply zE0 (hm := by rfl)
   ·intro w_ g_; refine og rfl ?_; refine zF2 (v := .slice (sa s) (len2 A s) (sc s)) (m := 0) (kb_RO _ g_) rfl (by rw [Nat.mul_one]; exact hsf _ (by assumption)) ?_; exact qX
   refine qM 3 ?_
   apply zE0 (hm := by rfl)
   ·intro w_ g_; exact og rfl (zA7 (v := .agg #[.int .i64 3, .int .i64 0, .int .i64 0, .int .i64 0, .int .i64 0, .int .i64 0, .int .i64 ((zA8 A : Int) + 1), .bool false]) (fun w => by kernel_rfl) qX)
   apply zE0 (hm := by rfl)
   ·intro w_ g_; refine og rfl ?_; exact zA2 (v := .tuple #[.int .u64 (farP ((zA8 A : Int) + 1) 0), .int .u16 (encE ⟨3, 0, 0, 0, 0, 0, (zA8 A : Int) + 1, false⟩)]) rfl (zP3 _ ⟨3, 0, 0, 0, 0, 0, (zA8 A : Int) + 1, false⟩) (fun w2_ g2_ => ⟨g2_, rfl⟩)
   refine qM 3 ?_
   apply zE0 (hm := by rfl)
   ·intro w_ g_; refine og rfl ?_; refine zD4 (b := gq) (o := 0) (by show Value.slice (sa s) _ _ = _; rw [hsa]) rfl (by omega) (by omega) ?_; rw [Int.toNat_natCast, Nat.zero_add, Nat.mul_one]; exact qX
   apply zS8 0 (hm := by rfl)
   ·intro w_ g_ s_
    refine og rfl ?_
    refine zC2 (v := .int .u64 (farP ((zA8 A : Int) + 1) 0)) rfl rfl rfl s_ (Nat.ble_eq_true_of_le (by omega)) rfl ?_
    intro w2_ s2_ u_
    exact ⟨Kp.of_upd u_ (by simp), s2_, rfl⟩
   refine zV1 ?_
   intro w34 g35 S_
   replace k0_ := (k0_.tr g35)
   replace h := hput _ _ (farP ((zA8 A : Int) + 1) 0) S_ (by simp) k0_
   rw [← zJ4 A s i (farP ((zA8 A : Int) + 1) 0)] at h
   clear hput S_ k0_ hcur
   replace hbox := kb_hbox _ g35
   clear kb_hbox
   replace RO := kb_RO _ g35
   clear kb_RO
   replace g0 := kb_g0 _ g35
   clear kb_g0
   replace K := kb_K _ g35
   clear kb_K
   replace hc4 := kb_hc4 _ g35
   clear kb_hc4
   refine qZ 5 ?_
   refine stp (zC3 rfl rfl ?_ ?_); constructor <;> omega
   refine qZ 3 ?_
   refine stp (zA2 (v := .int .u64 (t.near 0)) rfl (zU0 _ (T.grow g0) (0)) ?_)
   intro w36 g37
   replace hbox := g37.heap hbox
   replace K := K.tr g37.kp
   replace g0 := g0.tr g37
   replace RO := RO.grow g37
   replace hc4 := g37.heap hc4
   replace h := h.grow g37
   clear g37
   refine stp ?_
   have hlt := h.lt
   refine zB4 (cs := #[.int .u64 (t.near 0)]) (el := 23) (fun w => by kernel_rfl) ?_
   intro bs38 w39 hb40 hc41 g42
   have hge43 := Nat.le_trans K.size hb40
   replace hbox := g42.heap hbox
   replace K := K.tr g42.kp
   replace g0 := g0.tr g42
   replace RO := RO.grow g42
   replace hc4 := g42.heap hc4
   replace h := h.grow g42
   clear g42
   refine stp ?_
   have ol := qF1 (base := w36.heap.size) (sz := 1) (n := 1) hc41 hb40 rfl (by decide)
   have hq : zA8 A + 1 ≤ (setP A s i (farP ((zA8 A : Int) + 1) 0)).length := by rw [zD5]; omega
   have FA := (F.set s i (farP ((zA8 A : Int) + 1) 0)).small hl2
   have hqc : ((zA8 A + 1 : Nat) : Int) = (zA8 A : Int) + 1 := by omega
   have hcal := qF9 _ (q := zA8 A + 1) (l := [t.near 0]) h hq ol (fun k hk => hlt k hk) (Nat.le_of_lt (Nat.lt_of_le_of_lt hb40 (zC1 hc41))) FA.1 FA.2 (by simp) (by rw [zJ4]; omega) (by rw [zJ4]; omega)
   rw [hqc] at hcal
   refine zC8 rfl hcal ?_
   rintro v_ w44 ⟨rfl, so9, segs9, h9, K9, nb9⟩
   refine qZ 5 ?_
   rw [hp]
   refine ret3 (zA1 (v := .int .i64 ((zA8 A : Int) + 1)) rfl) (zA1 (v := .int .i64 (0 + 1)) rfl) (zA1 (v := .bool (decide (((zI9 (setP A s i (farP ((zA8 A : Int) + 1) 0)) (zA8 A + 1) [t.near 0]).length : Int) ≤ 16) && (decide ((((zI9 (setP A s i (farP ((zA8 A : Int) + 1) 0)) (zA8 A + 1) [t.near 0]).getD (zA8 A + 1) []).length : Int) ≤ lim) && decide (zB9 (setP A s i (farP ((zA8 A : Int) + 1) 0)) + (([t.near 0] : List Int).length : Int) ≤ 4096)))) rfl) ⟨?_, so9, segs9, ?_, K.trans K9 (fun x hx => .inl hx), fun k hk => (nb9 k hk).imp id (fun h_ => Nat.le_trans K.size h_)⟩
   ·rw [qJ9 hq]; simp only [Value.tuple.injEq]; try simp
   ·rw [← zS2 _ _ _ hq] at h9; exact h9
  ·
   simp only [sb] at h2
   have hp : zC6 lim t ⟨A, false⟩ s i = ⟨zG8 lim ⟨setP A s i (farP (zA8 A) (len2 A (zA8 A))), false⟩ (zA8 A) [t.near 0], zA8 A, len2 A (zA8 A) + 1⟩ := by unfold zC6; dsimp only; rw [if_neg (by omega), if_neg (by simp only [qJ7, Bool.or_eq_true, decide_eq_true_eq]; omega)]
   refine qZ 2 ?_
   obtain ⟨gq, cap, cur, hsg, hcur, hci, hgb, hgO, hgB, hput⟩ := h.put (s := s) (i := i) (by decide) (by decide) hsA hiA
   have hsa := zX0 ((hsf s hsA).symm.trans hsg)
   have kb_hbox : ∀ w_, Kp [gq] w9 w_ → w_.heap[bB]? = some (.cells #[.slice ado A.length co, .int .i64 lim, .int .i64 (zB9 A)] 144 (0, 0)) := fun w_ k_ => k_.heap hbox (by simpa using hgB)
   have kb_RO : ∀ w_, Kp [gq] w9 w_ → RowAt w_ 1 ado A.length segs := fun w_ k_ => RO.keep1 k_ (fun b_ o_ he_ hb_ => hgO (by rw [he_, hb_]; rfl))
   have kb_g0 : ∀ w_, Kp [gq] w9 w_ → Grow w0 w_ := fun w_ k_ => g0.kp1 k_ (hb _ hgb)
   have kb_K : ∀ w_, Kp [gq] w9 w_ → Kp (blks bB (.slice ado A.length co) segs) w w_ := fun w_ k_ => K.trans k_ (fun x_ hx_ => .inl (by simp only [List.mem_singleton] at hx_; subst hx_; exact hgb))
   have kb_hc4 : ∀ w_, Kp [gq] w9 w_ → w_.heap[b1]? = some (.cells #[x0, x1, x2, x3, x4] 48 (0, 0)) := fun w_ k_ => k_.heap hc4 (fun hm_ => by simp only [List.mem_singleton] at hm_; have := hlt0 _ hgb; have := hge6; omega)
   refine qC8 17 [[], [0], [1, 0], [2, 1, 0], [], [4, 3, 2, 1, 0], [5, 4, 3, 2, 1, 0], [], [], [], [1, 0], [2, 1, 0], [3, 2, 1, 0], [4, 3, 2, 1, 0], [5, 4, 3, 2, 1], [14, 13, 12, 11, 10, 9, 8, 7, 6, 5, 4, 3, 2, 1], [15, 14, 13, 12, 11, 10, 9, 8, 7, 6, 5, 4, 3, 2, 0]] [16] [gq] (fun k_ w_ => match k_ with | 0 => w_.heap[gq]? = some (.cells cur 23 (0, 0)) | _ => w_.heap[gq]? = some (.cells (cur.toList.set i (.int .u64 (farP (zA8 A : Int) (len2 A (zA8 A) : Int)))).toArray 23 (0, 0))) mixed (by kernel_rfl) (by kernel_rfl) (by kernel_rfl) (by kernel_rfl) (fun k_ w_ w2_ g_ h_ => match k_, h_ with | 0, h_ => g_.heap h_ | n_ + 1, h_ => g_.heap h_) (fun w_ g_ => g_.heap hcur) ?_
   intro w45 g46
   replace kb_hbox : ∀ w_, Kp [gq] w45 w_ → w_.heap[bB]? = some (.cells #[.slice ado A.length co, .int .i64 lim, .int .i64 (zB9 A)] 144 (0, 0)) := fun w_ k_ => kb_hbox w_ (g46.kp.tr k_)
   replace kb_RO : ∀ w_, Kp [gq] w45 w_ → RowAt w_ 1 ado A.length segs := fun w_ k_ => kb_RO w_ (g46.kp.tr k_)
   replace kb_g0 : ∀ w_, Kp [gq] w45 w_ → Grow w0 w_ := fun w_ k_ => kb_g0 w_ (g46.kp.tr k_)
   replace kb_K : ∀ w_, Kp [gq] w45 w_ → Kp (blks bB (.slice ado A.length co) segs) w w_ := fun w_ k_ => kb_K w_ (g46.kp.tr k_)
   replace kb_hc4 : ∀ w_, Kp [gq] w45 w_ → w_.heap[b1]? = some (.cells #[x0, x1, x2, x3, x4] 48 (0, 0)) := fun w_ k_ => kb_hc4 w_ (g46.kp.tr k_)
   have k0_ : Kp [gq] w9 w45 := g46.kp
   refine qM 3 ?_
   apply zE0 (hm := by rfl)
   ·intro w_ g_; exact og rfl (zD1 (v := .slice ado A.length co) rfl (kb_hbox _ g_) rfl qX)
   refine qM 1 ?_
   apply zE0 (hm := by rfl)
   ·intro w_ g_; refine og rfl ?_; refine zD7 (kb_RO _ g_) rfl rfl ?_ ?_; omega; exact qX
   apply zE0 (hm := by rfl)
   ·intro w_ g_; refine og rfl ?_; refine zF2 (v := .slice (sa s) (len2 A s) (sc s)) (m := 0) (kb_RO _ g_) rfl (by rw [Nat.mul_one]; exact hsf _ (by assumption)) ?_; exact qX
   refine qM 3 ?_
   apply zE0 (hm := by rfl)
   ·intro w_ g_; exact og rfl (zA7 (v := .agg #[.int .i64 3, .int .i64 ((len2 A (zA8 A)) : Int), .int .i64 0, .int .i64 0, .int .i64 0, .int .i64 0, .int .i64 (zA8 A : Int), .bool false]) (fun w => by kernel_rfl) qX)
   apply zE0 (hm := by rfl)
   ·intro w_ g_; refine og rfl ?_; exact zA2 (v := .tuple #[.int .u64 (farP (zA8 A : Int) (len2 A (zA8 A) : Int)), .int .u16 (encE ⟨3, (len2 A (zA8 A) : Int), 0, 0, 0, 0, (zA8 A : Int), false⟩)]) rfl (zP3 _ ⟨3, (len2 A (zA8 A) : Int), 0, 0, 0, 0, (zA8 A : Int), false⟩) (fun w2_ g2_ => ⟨g2_, rfl⟩)
   refine qM 3 ?_
   apply zE0 (hm := by rfl)
   ·intro w_ g_; refine og rfl ?_; refine zD4 (b := gq) (o := 0) (by show Value.slice (sa s) _ _ = _; rw [hsa]) rfl (by omega) (by omega) ?_; rw [Int.toNat_natCast, Nat.zero_add, Nat.mul_one]; exact qX
   apply zS8 0 (hm := by rfl)
   ·intro w_ g_ s_
    refine og rfl ?_
    refine zC2 (v := .int .u64 (farP (zA8 A : Int) (len2 A (zA8 A) : Int))) rfl rfl rfl s_ (Nat.ble_eq_true_of_le (by omega)) rfl ?_
    intro w2_ s2_ u_
    exact ⟨Kp.of_upd u_ (by simp), s2_, rfl⟩
   refine zV1 ?_
   intro w47 g48 S_
   replace k0_ := (k0_.tr g48)
   replace h := hput _ _ (farP (zA8 A : Int) (len2 A (zA8 A) : Int)) S_ (by simp) k0_
   rw [← zJ4 A s i (farP (zA8 A : Int) (len2 A (zA8 A) : Int))] at h
   clear hput S_ k0_ hcur
   replace hbox := kb_hbox _ g48
   clear kb_hbox
   replace RO := kb_RO _ g48
   clear kb_RO
   replace g0 := kb_g0 _ g48
   clear kb_g0
   replace K := kb_K _ g48
   clear kb_K
   replace hc4 := kb_hc4 _ g48
   clear kb_hc4
   refine qZ 5 ?_
   refine stp (zC3 rfl rfl ?_ ?_); constructor <;> omega
   refine qZ 3 ?_
   refine stp (zA2 (v := .int .u64 (t.near 0)) rfl (zU0 _ (T.grow g0) (0)) ?_)
   intro w49 g50
   replace hbox := g50.heap hbox
   replace K := K.tr g50.kp
   replace g0 := g0.tr g50
   replace RO := RO.grow g50
   replace hc4 := g50.heap hc4
   replace h := h.grow g50
   clear g50
   refine stp ?_
   have hlt := h.lt
   refine zB4 (cs := #[.int .u64 (t.near 0)]) (el := 23) (fun w => by kernel_rfl) ?_
   intro bs51 w52 hb53 hc54 g55
   have hge56 := Nat.le_trans K.size hb53
   replace hbox := g55.heap hbox
   replace K := K.tr g55.kp
   replace g0 := g0.tr g55
   replace RO := RO.grow g55
   replace hc4 := g55.heap hc4
   replace h := h.grow g55
   clear g55
   refine stp ?_
   have ol := qF1 (base := w49.heap.size) (sz := 1) (n := 1) hc54 hb53 rfl (by decide)
   have hq : zA8 A ≤ (setP A s i (farP (zA8 A : Int) (len2 A (zA8 A) : Int))).length := by rw [zD5]; omega
   have FA := (F.set s i (farP (zA8 A : Int) (len2 A (zA8 A) : Int))).small hl2
   have hqc : ((zA8 A : Nat) : Int) = (zA8 A : Int) := by omega
   have hcal := qF9 _ (q := zA8 A) (l := [t.near 0]) h hq ol (fun k hk => hlt k hk) (Nat.le_of_lt (Nat.lt_of_le_of_lt hb53 (zC1 hc54))) FA.1 FA.2 (by simp) (by rw [zJ4]; omega) (by rw [zJ4]; omega)
   rw [hqc] at hcal
   refine zC8 rfl hcal ?_
   rintro v_ w57 ⟨rfl, so9, segs9, h9, K9, nb9⟩
   refine qZ 5 ?_
   rw [hp]
   refine ret3 (zA1 (v := .int .i64 (zA8 A : Int)) rfl) (zA1 (v := .int .i64 (((len2 A (zA8 A)) : Int) + 1)) rfl) (zA1 (v := .bool (decide (((zI9 (setP A s i (farP (zA8 A : Int) (len2 A (zA8 A) : Int))) (zA8 A) [t.near 0]).length : Int) ≤ 16) && (decide ((((zI9 (setP A s i (farP (zA8 A : Int) (len2 A (zA8 A) : Int))) (zA8 A) [t.near 0]).getD (zA8 A) []).length : Int) ≤ lim) && decide (zB9 (setP A s i (farP (zA8 A : Int) (len2 A (zA8 A) : Int))) + (([t.near 0] : List Int).length : Int) ≤ 4096)))) rfl) ⟨?_, so9, segs9, ?_, K.trans K9 (fun x hx => .inl hx), fun k hk => (nb9 k hk).imp id (fun h_ => Nat.le_trans K.size h_)⟩
   ·rw [qJ9 hq]; simp only [Value.tuple.injEq]; try simp
   ·rw [← zS2 _ _ _ hq] at h9; exact h9
theorem qW9 : ∀ (n_ : Nat) (w : World) {w0 : World} {bB : Nat} {so : Value} {segs : List Value} {A : List (List Int)} {lim : Int} {c : List Value} {t : Nd} {s i : Nat} (h : BldAt 144 37 23 w bB (so) segs (A) lim (zB9 (A))) (T : NodeR w0 c t) (g0 : Grow w0 w) (hb : ∀ k ∈ blks bB so segs, w0.heap.size ≤ k) (F : Fit lim A) (hsA : s < A.length) (hiA : i < len2 A s) (hl1 : 1 ≤ lim) (hl2 : lim ≤ 4096) (hR : t.fine), t.sz ≤ n_ → Calls Tryz.prog 81 #[.pointer (some ⟨bB, 0, none⟩), .agg c.toArray, .int .i64 (s : Int), .int .i64 (i : Int)] w (Ret fun v w' => v = .bool (!(t.lay lim ⟨A, false⟩ s i).full) ∧ Kp (blks bB so segs) w w' ∧ ((t.lay lim ⟨A, false⟩ s i).full = false → ∃ so' segs', BldAt 144 37 23 w' bB (so') segs' ((t.lay lim ⟨A, false⟩ s i).A) lim (zB9 ((t.lay lim ⟨A, false⟩ s i).A)) ∧ (∀ k ∈ blks bB so' segs', k ∈ blks bB so segs ∨ w.heap.size ≤ k))) := by
 intro n_
 induction n_ with
 | zero => intro w w0 bB so segs A lim c t s i h T g0 hb F hsA hiA hl1 hl2 hR hm_; exact absurd hm_ (by have := t.sz_pos; omega)
 | succ n_ ih_ =>
 intro w w0 bB so segs A lim c t s i h T g0 hb F hsA hiA hl1 hl2 hR hm_
 have Tk := T
 have FS := F.small hl2
 obtain ⟨ado, co, sa, sc, rfl, hco, RO, hsf⟩ := h.fn FS.1
 have hbox := h.box
 have K := Kp.refl (blks bB (.slice ado A.length co) segs) w
 obtain ⟨hlast, hlastE⟩ := qQ8 F.one
 have hlt0 := h.lt
 have hsz0 := g0.size
 have hA16 := F.most
 have htot := F.all
 have htn := zK5 A
 have hlseg := F.seg (zA8 A)
 obtain @⟨kind, size, words, bytes, kids, ws, bs, ks, kc, hk, hs, hW, hwr, hB, hbr, hK, hKs⟩ := T
 obtain ⟨aw, cw, rfl, hcw, hcw2, RW⟩ := hW
 obtain ⟨ab, cb, rfl, hcb, hcb2, RB⟩ := hB
 obtain ⟨ak, ck, rfl, hck, hck2, RK⟩ := hK
 have lw := RW.lim
 have lb := RB.lim
 have lk := RK.lim
 simp only [inR] at hk hs
 have T0 := Tk
 have hB_ := Nd.own_b (Nd.fine_own hR)
 obtain ⟨hkd, hlw, hlb, hlk, hnn, hnm, hkn, hb1⟩ := hB_
 refine zC0 Tryz.func81 Tryz.ntmps81 Tryz.results81 rfl rfl ?_
 refine qZ 2 ?_
 refine stp ?_
 refine qC ?_
 intro b1 w2 hb3 hc4 g5
 have hge6 := Nat.le_trans K.size hb3
 replace hbox := g5.heap hbox
 replace h := h.grow g5
 replace K := K.tr g5.kp
 replace g0 := g0.tr g5
 replace RO := RO.grow g5
 clear g5 hb3
 refine qZ 8 ?_
 refine stp (zE2 rfl rfl ?_)
 refine qZ 2 ?_
 refine zA3 (b := (decide (kind = 0))) rfl (fun h1 => ?_) (fun h1 => ?_)
 ·
  replace h1 := qT h1
  have hl : (Nd.mk kind size words bytes kids).lay lim ⟨A, false⟩ s i = ⟨A, false⟩ := by simp only [Nd.lay]; rw [if_pos (.inl h1)]
  refine qZ 5 ?_
  rw [hl]
  refine ret1 (zA1 (v := .bool true) rfl) ⟨rfl, K, fun _ => ⟨_, _, h, fun k hk => .inl hk⟩⟩
 ·
  replace h1 := qF h1
  refine qZ 3 ?_
  refine stp (zA2 (v := .int .i64 ((Nd.mk kind size words bytes kids).need)) rfl (zY8 _ (T0.grow g0)) ?_)
  intro w7 g8
  replace hbox := g8.heap hbox
  replace h := h.grow g8
  replace K := K.tr g8.kp
  replace g0 := g0.tr g8
  replace RO := RO.grow g8
  replace hc4 := g8.heap hc4
  clear g8
  refine stp (zE2 rfl rfl ?_)
  refine qZ 1 ?_
  refine qG 2 ?_
  refine zA4 (zB7 (s := .bool _) (v := .bool (decide (kind = 1))) rfl (zG3 _) (fun hc11 => ?_) ?_)
  ·
   have hc11_ := qT hc11
   refine zE2 (gvt hc11) rfl ?_
   exact ⟨rfl, rfl⟩
  refine stp (zI8 rfl rfl rfl ?_)
  refine qZ 2 ?_
  refine zA3 (b := ((decide (((Nd.mk kind size words bytes kids).need) = 0)) && (decide (kind = 1)))) rfl (fun h2 => ?_) (fun h2 => ?_)
  ·
   simp only [sb] at h2
   have hl : (Nd.mk kind size words bytes kids).lay lim ⟨A, false⟩ s i = ⟨setP A s i ((Nd.mk kind size words bytes kids).near (-1)), false⟩ := by simp only [Nd.lay]; rw [if_neg (by simp [h1]), if_pos h2.1, if_pos h2.2]
   refine zU5 ?_
   obtain ⟨gq, cap, cur, hsg, hcur, hci, hgb, hgO, hgB, hput⟩ := h.put (s := s) (i := i) (by decide) (by decide) hsA hiA
   have hsa := zX0 ((hsf s hsA).symm.trans hsg)
   have kb_hbox : ∀ w_, Kp [gq] w7 w_ → w_.heap[bB]? = some (.cells #[.slice ado A.length co, .int .i64 lim, .int .i64 (zB9 A)] 144 (0, 0)) := fun w_ k_ => k_.heap hbox (by simpa using hgB)
   have kb_RO : ∀ w_, Kp [gq] w7 w_ → RowAt w_ 1 ado A.length segs := fun w_ k_ => RO.keep1 k_ (fun b_ o_ he_ hb_ => hgO (by rw [he_, hb_]; rfl))
   have kb_g0 : ∀ w_, Kp [gq] w7 w_ → Grow w0 w_ := fun w_ k_ => g0.kp1 k_ (hb _ hgb)
   have kb_K : ∀ w_, Kp [gq] w7 w_ → Kp (blks bB (.slice ado A.length co) segs) w w_ := fun w_ k_ => K.trans k_ (fun x_ hx_ => .inl (by simp only [List.mem_singleton] at hx_; subst hx_; exact hgb))
   have kb_hc4 : ∀ w_, Kp [gq] w7 w_ → w_.heap[b1]? = some (.cells #[.int .i64 kind, .int .i64 size, .slice aw words.length cw, .slice ab bytes.length cb, .slice ak kids.length ck] 48 (0, 0)) := fun w_ k_ => k_.heap hc4 (fun hm_ => by simp only [List.mem_singleton] at hm_; have := hlt0 _ hgb; have := hge6; omega)
   refine qC8 12 [[], [0], [1, 0], [2, 1, 0], [], [4, 3, 2, 1, 0], [5, 4, 3, 2, 1, 0], [], [], [0], [9, 8, 7, 6, 5, 4, 3, 2, 1, 0], [10, 9, 8, 7, 6, 5, 4, 3, 2, 1, 0]] [11] [gq] (fun k_ w_ => match k_ with | 0 => w_.heap[gq]? = some (.cells cur 23 (0, 0)) | _ => w_.heap[gq]? = some (.cells (cur.toList.set i (.int .u64 ((Nd.mk kind size words bytes kids).near (-1)))).toArray 23 (0, 0))) mixed (by kernel_rfl) (by kernel_rfl) (by kernel_rfl) (by kernel_rfl) (fun k_ w_ w2_ g_ h_ => match k_, h_ with | 0, h_ => g_.heap h_ | n_ + 1, h_ => g_.heap h_) (fun w_ g_ => g_.heap hcur) ?_
   intro w12 g13
   replace kb_hbox : ∀ w_, Kp [gq] w12 w_ → w_.heap[bB]? = some (.cells #[.slice ado A.length co, .int .i64 lim, .int .i64 (zB9 A)] 144 (0, 0)) := fun w_ k_ => kb_hbox w_ (g13.kp.tr k_)
   replace kb_RO : ∀ w_, Kp [gq] w12 w_ → RowAt w_ 1 ado A.length segs := fun w_ k_ => kb_RO w_ (g13.kp.tr k_)
   replace kb_g0 : ∀ w_, Kp [gq] w12 w_ → Grow w0 w_ := fun w_ k_ => kb_g0 w_ (g13.kp.tr k_)
   replace kb_K : ∀ w_, Kp [gq] w12 w_ → Kp (blks bB (.slice ado A.length co) segs) w w_ := fun w_ k_ => kb_K w_ (g13.kp.tr k_)
   replace kb_hc4 : ∀ w_, Kp [gq] w12 w_ → w_.heap[b1]? = some (.cells #[.int .i64 kind, .int .i64 size, .slice aw words.length cw, .slice ab bytes.length cb, .slice ak kids.length ck] 48 (0, 0)) := fun w_ k_ => kb_hc4 w_ (g13.kp.tr k_)
   have k0_ : Kp [gq] w7 w12 := g13.kp
   refine qM 3 ?_
   apply zE0 (hm := by rfl)
   ·intro w_ g_; exact og rfl (zD1 (v := .slice ado A.length co) rfl (kb_hbox _ g_) rfl qX)
   refine qM 1 ?_
   apply zE0 (hm := by rfl)
   ·intro w_ g_; refine og rfl ?_; refine zD7 (kb_RO _ g_) rfl rfl ?_ ?_; omega; exact qX
   apply zE0 (hm := by rfl)
   ·intro w_ g_; refine og rfl ?_; refine zF2 (v := .slice (sa s) (len2 A s) (sc s)) (m := 0) (kb_RO _ g_) rfl (by rw [Nat.mul_one]; exact hsf _ (by assumption)) ?_; exact qX
   refine qM 1 ?_
   apply zE0 (hm := by rfl)
   ·intro w_ g_; exact og rfl (zC7 rfl (kb_hc4 _ g_) (by rfl) qX)
   apply zE0 (hm := by rfl)
   ·intro w_ g_; refine og rfl ?_; exact zA2 (v := .int .u64 ((Nd.mk kind size words bytes kids).near (-1))) rfl (zU0 _ (T0.grow (kb_g0 _ g_)) (-1)) (fun w2_ g2_ => ⟨g2_, rfl⟩)
   apply zE0 (hm := by rfl)
   ·intro w_ g_; refine og rfl ?_; refine zD4 (b := gq) (o := 0) (by show Value.slice (sa s) _ _ = _; rw [hsa]) rfl (by omega) (by omega) ?_; rw [Int.toNat_natCast, Nat.zero_add, Nat.mul_one]; exact qX
   apply zS8 0 (hm := by rfl)
   ·intro w_ g_ s_
    refine og rfl ?_
    refine zC2 (v := .int .u64 ((Nd.mk kind size words bytes kids).near (-1))) rfl rfl rfl s_ (Nat.ble_eq_true_of_le (by omega)) rfl ?_
    intro w2_ s2_ u_
    exact ⟨Kp.of_upd u_ (by simp), s2_, rfl⟩
   refine zV1 ?_
   intro w14 g15 S_
   replace k0_ := (k0_.tr g15)
   replace h := hput _ _ ((Nd.mk kind size words bytes kids).near (-1)) S_ (by simp) k0_
   rw [← zJ4 A s i ((Nd.mk kind size words bytes kids).near (-1))] at h
   clear hput S_ k0_ hcur
   replace hbox := kb_hbox _ g15
   clear kb_hbox
   replace RO := kb_RO _ g15
   clear kb_RO
   replace g0 := kb_g0 _ g15
   clear kb_g0
   replace K := kb_K _ g15
   clear kb_K
   replace hc4 := kb_hc4 _ g15
   clear kb_hc4
   refine qZ 6 ?_
   rw [hl]
   refine ret1 (zA1 (v := .bool true) rfl) ⟨rfl, K, fun _ => ⟨_, _, h, fun k hk => .inl hk⟩⟩
  ·
   simp only [sb] at h2
   refine qZ 3 ?_
   refine stp (zA2 (v := .int .i64 ((Nd.mk kind size words bytes kids).need)) rfl (zY8 _ (T0.grow g0)) ?_)
   intro w16 g17
   replace hbox := g17.heap hbox
   replace h := h.grow g17
   replace K := K.tr g17.kp
   replace g0 := g0.tr g17
   replace RO := RO.grow g17
   replace hc4 := g17.heap hc4
   clear g17
   refine stp (zE2 rfl rfl ?_)
   refine qZ 2 ?_
   refine zA3 (b := (decide (((Nd.mk kind size words bytes kids).need) = 0))) rfl (fun h3 => ?_) (fun h3 => ?_)
   ·
    replace h3 := qT h3
    have hl : (Nd.mk kind size words bytes kids).lay lim ⟨A, false⟩ s i = ⟨setP A s i ((Nd.mk kind size words bytes kids).near (0)), false⟩ := by simp only [Nd.lay]; rw [if_neg (by simp [h1]), if_pos h3, if_neg (fun hk1 => h2.elim (fun h => h h3) (fun h => h hk1))]
    refine zU5 ?_
    obtain ⟨gq, cap, cur, hsg, hcur, hci, hgb, hgO, hgB, hput⟩ := h.put (s := s) (i := i) (by decide) (by decide) hsA hiA
    have hsa := zX0 ((hsf s hsA).symm.trans hsg)
    have kb_hbox : ∀ w_, Kp [gq] w16 w_ → w_.heap[bB]? = some (.cells #[.slice ado A.length co, .int .i64 lim, .int .i64 (zB9 A)] 144 (0, 0)) := fun w_ k_ => k_.heap hbox (by simpa using hgB)
    have kb_RO : ∀ w_, Kp [gq] w16 w_ → RowAt w_ 1 ado A.length segs := fun w_ k_ => RO.keep1 k_ (fun b_ o_ he_ hb_ => hgO (by rw [he_, hb_]; rfl))
    have kb_g0 : ∀ w_, Kp [gq] w16 w_ → Grow w0 w_ := fun w_ k_ => g0.kp1 k_ (hb _ hgb)
    have kb_K : ∀ w_, Kp [gq] w16 w_ → Kp (blks bB (.slice ado A.length co) segs) w w_ := fun w_ k_ => K.trans k_ (fun x_ hx_ => .inl (by simp only [List.mem_singleton] at hx_; subst hx_; exact hgb))
    have kb_hc4 : ∀ w_, Kp [gq] w16 w_ → w_.heap[b1]? = some (.cells #[.int .i64 kind, .int .i64 size, .slice aw words.length cw, .slice ab bytes.length cb, .slice ak kids.length ck] 48 (0, 0)) := fun w_ k_ => k_.heap hc4 (fun hm_ => by simp only [List.mem_singleton] at hm_; have := hlt0 _ hgb; have := hge6; omega)
    refine qC8 12 [[], [0], [1, 0], [2, 1, 0], [], [4, 3, 2, 1, 0], [5, 4, 3, 2, 1, 0], [], [], [0], [9, 8, 7, 6, 5, 4, 3, 2, 1, 0], [10, 9, 8, 7, 6, 5, 4, 3, 2, 1, 0]] [11] [gq] (fun k_ w_ => match k_ with | 0 => w_.heap[gq]? = some (.cells cur 23 (0, 0)) | _ => w_.heap[gq]? = some (.cells (cur.toList.set i (.int .u64 ((Nd.mk kind size words bytes kids).near 0))).toArray 23 (0, 0))) mixed (by kernel_rfl) (by kernel_rfl) (by kernel_rfl) (by kernel_rfl) (fun k_ w_ w2_ g_ h_ => match k_, h_ with | 0, h_ => g_.heap h_ | n_ + 1, h_ => g_.heap h_) (fun w_ g_ => g_.heap hcur) ?_
    intro w18 g19
    replace kb_hbox : ∀ w_, Kp [gq] w18 w_ → w_.heap[bB]? = some (.cells #[.slice ado A.length co, .int .i64 lim, .int .i64 (zB9 A)] 144 (0, 0)) := fun w_ k_ => kb_hbox w_ (g19.kp.tr k_)
    replace kb_RO : ∀ w_, Kp [gq] w18 w_ → RowAt w_ 1 ado A.length segs := fun w_ k_ => kb_RO w_ (g19.kp.tr k_)
    replace kb_g0 : ∀ w_, Kp [gq] w18 w_ → Grow w0 w_ := fun w_ k_ => kb_g0 w_ (g19.kp.tr k_)
    replace kb_K : ∀ w_, Kp [gq] w18 w_ → Kp (blks bB (.slice ado A.length co) segs) w w_ := fun w_ k_ => kb_K w_ (g19.kp.tr k_)
    replace kb_hc4 : ∀ w_, Kp [gq] w18 w_ → w_.heap[b1]? = some (.cells #[.int .i64 kind, .int .i64 size, .slice aw words.length cw, .slice ab bytes.length cb, .slice ak kids.length ck] 48 (0, 0)) := fun w_ k_ => kb_hc4 w_ (g19.kp.tr k_)
    have k0_ : Kp [gq] w16 w18 := g19.kp
    refine qM 3 ?_
    apply zE0 (hm := by rfl)
    ·intro w_ g_; exact og rfl (zD1 (v := .slice ado A.length co) rfl (kb_hbox _ g_) rfl qX)
    refine qM 1 ?_
    apply zE0 (hm := by rfl)
    ·intro w_ g_; refine og rfl ?_; refine zD7 (kb_RO _ g_) rfl rfl ?_ ?_; omega; exact qX
    apply zE0 (hm := by rfl)
    ·intro w_ g_; refine og rfl ?_; refine zF2 (v := .slice (sa s) (len2 A s) (sc s)) (m := 0) (kb_RO _ g_) rfl (by rw [Nat.mul_one]; exact hsf _ (by assumption)) ?_; exact qX
    refine qM 1 ?_
    apply zE0 (hm := by rfl)
    ·intro w_ g_; exact og rfl (zC7 rfl (kb_hc4 _ g_) (by rfl) qX)
    apply zE0 (hm := by rfl)
    ·intro w_ g_; refine og rfl ?_; exact zA2 (v := .int .u64 ((Nd.mk kind size words bytes kids).near 0)) rfl (zU0 _ (T0.grow (kb_g0 _ g_)) (0)) (fun w2_ g2_ => ⟨g2_, rfl⟩)
    apply zE0 (hm := by rfl)
    ·intro w_ g_; refine og rfl ?_; refine zD4 (b := gq) (o := 0) (by show Value.slice (sa s) _ _ = _; rw [hsa]) rfl (by omega) (by omega) ?_; rw [Int.toNat_natCast, Nat.zero_add, Nat.mul_one]; exact qX
    apply zS8 0 (hm := by rfl)
    ·intro w_ g_ s_
     refine og rfl ?_
     refine zC2 (v := .int .u64 ((Nd.mk kind size words bytes kids).near 0)) rfl rfl rfl s_ (Nat.ble_eq_true_of_le (by omega)) rfl ?_
     intro w2_ s2_ u_
     exact ⟨Kp.of_upd u_ (by simp), s2_, rfl⟩
    refine zV1 ?_
    intro w20 g21 S_
    replace k0_ := (k0_.tr g21)
    replace h := hput _ _ ((Nd.mk kind size words bytes kids).near 0) S_ (by simp) k0_
    rw [← zJ4 A s i ((Nd.mk kind size words bytes kids).near 0)] at h
    clear hput S_ k0_ hcur
    replace hbox := kb_hbox _ g21
    clear kb_hbox
    replace RO := kb_RO _ g21
    clear kb_RO
    replace g0 := kb_g0 _ g21
    clear kb_g0
    replace K := kb_K _ g21
    clear kb_K
    replace hc4 := kb_hc4 _ g21
    clear kb_hc4
    refine qZ 6 ?_
    rw [hl]
    refine ret1 (zA1 (v := .bool true) rfl) ⟨rfl, K, fun _ => ⟨_, _, h, fun k hk => .inl hk⟩⟩
   ·
    replace h3 := qF h3
    have hp0 := qD3 lim (Nd.mk kind size words bytes kids) ⟨A, false⟩ s i F.one
    have hl : (Nd.mk kind size words bytes kids).lay lim ⟨A, false⟩ s i = Nd.lays lim kids (zG8 lim (zC6 lim (Nd.mk kind size words bytes kids) ⟨A, false⟩ s i).S (zC6 lim (Nd.mk kind size words bytes kids) ⟨A, false⟩ s i).seg (Nd.mk kind size words bytes kids).content) (zC6 lim (Nd.mk kind size words bytes kids) ⟨A, false⟩ s i).seg ((zC6 lim (Nd.mk kind size words bytes kids) ⟨A, false⟩ s i).at_ + ((Nd.mk kind size words bytes kids).need.toNat - kids.length)) := by simp only [Nd.lay]; rw [if_neg (by simp [h1]), if_neg h3]
    rw [hl]
    refine qZ 7 ?_
    refine stp ?_
    refine zC8 rfl (qW8 _ h T0 g0 hb F hsA hiA hl1 hl2 hnn (by omega)) ?_
    rintro v_ w22 ⟨rfl, so1, segs1, h1_, K1, nb1⟩
    obtain ⟨p, hp⟩ : ∃ p, p = zC6 lim (Nd.mk kind size words bytes kids) ⟨A, false⟩ s i := ⟨_, rfl⟩
    simp only [← hp] at hp0 h1_ nb1 ⊢
    clear hl
    obtain ⟨hpG, hpS, hpA, hpF, -⟩ := hp0
    simp only [← hp] at hpG hpS hpA hpF
    clear hp
    have nb5 : b1 ∉ blks bB so1 segs1 := fun hm => by rcases nb1 _ hm with h_ | h_; (have := hlt0 _ h_; have := hge6; omega); (have := zC1 hc4; omega)
    replace g0 := g0.trK K1 hb
    have hc4' := K1.heap hc4 (fun hm => by have := hlt0 _ hm; have := hge6; omega)
    clear hc4
    have hc4 := hc4'
    clear hc4'
    replace nb1 : ∀ k ∈ blks bB so1 segs1, k ∈ blks bB (.slice ado A.length co) segs ∨ w.heap.size ≤ k := fun k hk => (nb1 k hk).imp id (fun h_ => Nat.le_trans K.size h_)
    replace K := K.tr K1
    clear K1 hbox h RO
    have h := h1_
    clear h1_
    refine qZ 8 ?_
    rcases qQ4 (p.S.full) with hf | hf
    ·
     have FP := hpF F hf
     have hpb := FP.seg p.seg
     rw [← hpA] at hpb
     have FPs := FP.small hl2
     have hco : ((Nd.mk kind size words bytes kids).content.length : Int) = (Nd.mk kind size words bytes kids).need := Nd.content_length _ (by simp only [Nd.kind]; omega) (by simpa only [Nd.kind, Nd.bytes] using hb1)
     refine qZ 4 ?_
     refine stp (zM1 (p := !p.S.full) rfl ?_)
     refine stp ?_
     refine zD0 (v := .bool (!(!p.S.full))) rfl ?_
     rw [show (!(!p.S.full)) = false from by rw [hf]; rfl]
     refine qZ 3 ?_
     refine stp ?_
     have hlt1 := h.lt
     refine zC8 rfl (qR6 _ (T0.grow g0) hlw hlb hlk) ?_
     rintro lv w23 ⟨ol, gc⟩
     replace K := K.tr gc.kp
     replace g0 := g0.tr gc
     replace hc4 := gc.heap hc4
     replace h := h.grow gc
     refine stp ?_
     have hpt := FP.all
     have hpt0 := zK5 p.S.A
     refine zC8 rfl (qF9 _ (q := p.seg) (l := (Nd.mk kind size words bytes kids).content) h (Nat.le_of_lt hpS) ol (fun k hk => hlt1 k hk) gc.size FPs.1 FPs.2 (by omega) (by omega) (by omega)) ?_
     rintro v_ w24 ⟨rfl, so2, segs2, h2_, K2, nb2⟩
     have hS2 : zG8 lim p.S p.seg (Nd.mk kind size words bytes kids).content = ⟨zI9 p.S.A p.seg (Nd.mk kind size words bytes kids).content, qQ7 lim (zI9 p.S.A p.seg (Nd.mk kind size words bytes kids).content) p.seg⟩ := by simp only [zG8, hf, Bool.false_or]
     rw [← zS2 _ _ _ (Nat.le_of_lt hpS)] at h2_
     rw [qJ9 (Nat.le_of_lt hpS)]
     have hm0 : zG8 lim ⟨p.S.A, false⟩ p.seg (Nd.mk kind size words bytes kids).content = zG8 lim p.S p.seg (Nd.mk kind size words bytes kids).content := by rw [show p.S = ⟨p.S.A, false⟩ from by rw [← hf]]
     rw [hm0]
     have hok := LayOk.more lim p.S p.seg (Nd.mk kind size words bytes kids).content (Nat.le_of_lt hpS)
     have nb6 : b1 ∉ blks bB so2 segs2 := fun hm => by rcases nb2 _ hm with h_ | h_; (exact nb5 h_); (have := zC1 hc4; omega)
     replace g0 := g0.trK K2 (fun k hk => (nb1 k hk).elim (hb k) (fun h_ => Nat.le_trans hsz0 h_))
     have hc4' := K2.heap hc4 nb5
     clear hc4
     have hc4 := hc4'
     clear hc4'
     replace nb2 : ∀ k ∈ blks bB so2 segs2, k ∈ blks bB (.slice ado A.length co) segs ∨ w.heap.size ≤ k := fun k hk => (nb2 k hk).elim (nb1 k) (fun h_ => .inr (Nat.le_trans K.size h_))
     replace K := K.trans K2 nb1
     clear K2 h nb1 nb5 ol
     have h : BldAt 144 37 23 w24 bB (so2) segs2 ((zG8 lim p.S p.seg (Nd.mk kind size words bytes kids).content).A) lim (zB9 ((zG8 lim p.S p.seg (Nd.mk kind size words bytes kids).content).A)) := h2_
     clear h2_
     have hge2 : p.at_ + (Nd.mk kind size words bytes kids).content.length ≤ len2 (zG8 lim p.S p.seg (Nd.mk kind size words bytes kids).content).A p.seg := by rw [hpA, show (zG8 lim p.S p.seg (Nd.mk kind size words bytes kids).content).A = zI9 p.S.A p.seg (Nd.mk kind size words bytes kids).content from rfl]; simp only [len2]; rw [zJ0 _ _ _ _ (Nat.le_of_lt hpS), if_pos rfl, List.length_append]; exact Nat.le_refl _
     have hS2s : p.seg < (zG8 lim p.S p.seg (Nd.mk kind size words bytes kids).content).A.length := Nat.lt_of_lt_of_le hpS hok.grew.len
     have hS21 : 1 ≤ (zG8 lim p.S p.seg (Nd.mk kind size words bytes kids).content).A.length := by omega
     have hF2 : (zG8 lim p.S p.seg (Nd.mk kind size words bytes kids).content).full = false → Fit lim (zG8 lim p.S p.seg (Nd.mk kind size words bytes kids).content).A := hok.fit FP
     obtain ⟨Q, hQ⟩ : ∃ Q, Q = zG8 lim p.S p.seg (Nd.mk kind size words bytes kids).content := ⟨_, rfl⟩
     simp only [← hQ] at h hge2 hS2s hS21 hF2 hok ⊢
     clear hS2 hm0 hQ hok
     refine stp (zM1 rfl ?_)
     refine stp (zH6 (v := .bool (!(!Q.full))) rfl rfl rfl ?_)
     refine zA6 ?_
     rcases qQ4 (Q.full) with hf2 | hf2
     ·
      have FQ := hF2 hf2
      refine zJ5 (show _ = Value.bool false from congrArg Value.bool (by rw [hf2]; rfl)) ?_
      refine qZ 4 ?_
      refine stp (zT3 (vs := [.pointer (some ⟨bB, 0, none⟩)]) (us := []) rfl rfl ?_)
      refine qZ 11 ?_
      refine zG4 (fun m_ e_ w_ => ∃ (k : Nat) (so4 : Value) (segs4 : List Value), m_ = kids.length - k ∧ Fr [(5, .pointer (some ⟨b1, 0, none⟩)), (9, .int .i64 (p.seg : Int)), (10, .int .i64 (p.at_ : Int)), (12, .func (.func 81) #[.pointer (some ⟨bB, 0, none⟩)] #[]), (76, .slice ak kids.length ck), (77, .int .i64 (kids.length : Int)), (78, .int .i64 (k : Int))] e_ ∧ (k ≤ kids.length) ∧ ((Nd.lays lim (kids.take k) Q p.seg (p.at_ + ((Nd.mk kind size words bytes kids).need.toNat - kids.length))).full = false) ∧ (b1 ∉ blks bB so4 segs4) ∧ (∀ k ∈ blks bB so4 segs4, k ∈ blks bB (.slice ado A.length co) segs ∨ w.heap.size ≤ k) ∧ (Kp (blks bB (.slice ado A.length co) segs) w w_) ∧ (Grow w0 w_) ∧ (w_.heap[b1]? = some (.cells #[.int .i64 kind, .int .i64 size, .slice aw words.length cw, .slice ab bytes.length cb, .slice ak kids.length ck] 48 (0, 0))) ∧ (BldAt 144 37 23 w_ bB (so4) segs4 ((Nd.lays lim (kids.take k) Q p.seg (p.at_ + ((Nd.mk kind size words bytes kids).need.toNat - kids.length))).A) lim (zB9 ((Nd.lays lim (kids.take k) Q p.seg (p.at_ + ((Nd.mk kind size words bytes kids).need.toNat - kids.length))).A)))) _ ⟨0, so2, segs2, rfl, zD2 ⟨rfl, rfl, rfl, rfl, rfl, rfl, rfl, trivial⟩, by omega, hf2, nb6, nb2, K, g0, hc4, h⟩ ?_
      clear K g0 hc4 h
      rintro m_ e_ w25 ⟨k, so4, segs4, rfl, ⟨e26, rfl⟩, hk2, hfk0, nb7, nb4, K, g0, hc4, h⟩
      refine qZ 2 ?_
      refine stp (zI1 rfl rfl ?_)
      refine qZ 2 ?_
      refine zA3 (b := (decide ((k : Int) < (kids.length : Int)))) rfl (fun hlt => ?_) (fun hlt => ?_)
      ·
       replace hlt := qT hlt
       have hk3 : k < kids.length := by omega
       have hat := KidsR.at_ k kids[k] hKs (by simp [hk3])
       obtain ⟨y0, y1, ya, yn, yc, za, zn, zc, ua, un, uc, hy⟩ := hat.cells
       rw [hy] at hat
       have hsz := Nd.szs_at kids k kids[k] (by simp [hk3])
       have hfk := Nd.fine_kid hR hk3
       have hkn2 := hkn h1
       have hlk_ := Nd.lays_ok lim (kids.take k) Q p.seg (p.at_ + ((Nd.mk kind size words bytes kids).need.toNat - kids.length)) hS21
       have FS_ := hlk_.fit FQ hfk0
       have hss : p.seg < (Nd.lays lim (kids.take k) Q p.seg (p.at_ + ((Nd.mk kind size words bytes kids).need.toNat - kids.length))).A.length := Nat.lt_of_lt_of_le hS2s hlk_.grew.len
       have hii : p.at_ + ((Nd.mk kind size words bytes kids).need.toNat - kids.length) + k < len2 (Nd.lays lim (kids.take k) Q p.seg (p.at_ + ((Nd.mk kind size words bytes kids).need.toNat - kids.length))).A p.seg := by have := hlk_.grew.seg p.seg; omega
       refine qZ 6 ?_
       refine stp (zD7 (RK.grow g0) rfl rfl ?_ ?_); omega
       refine stp (zO7 (RK.grow g0) rfl (by decide) (by rw [RK.len]; omega) hy ?_)
       refine stp (zB2 ?_)
       intro b27 w28 hb29 hc30 g31
       refine qZ 1 ?_
       refine stn (qS hc30 ?_)
       intro w32 hc33 u34
       have g35 := g31.upd u34 hb29
       have hge36 := Nat.le_trans K.size hb29
       replace K := K.tr g35.kp
       replace g0 := g0.tr g35
       replace hc4 := g35.heap hc4
       replace h := h.grow g35
       clear u34 g31 hb29 hc30
       refine qZ 2 ?_
       refine zK0 13 [[], [], [], [], [], [0], [2, 1, 0], [], [0], [1, 0], [6, 5, 4, 3, 2, 1, 0], [], [8, 7, 6, 5, 4, 3, 2, 1, 0]] mixed (by kernel_rfl) (by kernel_rfl) (by kernel_rfl) ?_
       intro w37 g38
       replace K := K.tr g38.kp
       replace g0 := g0.tr g38
       replace hc4 := g38.heap hc4
       replace h := h.grow g38
       replace hc33 := g38.heap hc33
       clear g38
       refine qA 5 ?_
       apply zA5
       ·intro w_ g_; refine og rfl ?_; exact zA2 (v := .int .i64 ((Nd.mk kind size words bytes kids).need)) rfl (zY8 _ (T0.grow (g0.tr g_))) (fun w2_ g2_ => ⟨g2_, rfl⟩)
       apply zA5
       ·intro w_ g_; refine og rfl ?_; refine zC3 rfl rfl ?_ ?_; constructor <;> omega; exact qX
       refine qA 3 ?_
       apply zA5
       ·intro w_ g_; refine og rfl ?_; refine zL2 rfl rfl ?_ ?_; constructor <;> omega; exact qX
       refine qA 1 ?_
       apply zA5
       ·intro w_ g_; refine og rfl ?_; refine zC3 rfl rfl ?_ ?_; constructor <;> omega; exact qX
       refine zG5 ?_
       intro w39 g40
       replace K := K.tr g40.kp
       replace g0 := g0.tr g40
       replace hc4 := g40.heap hc4
       replace h := h.grow g40
       replace hc33 := g40.heap hc33
       clear g40
       refine stp ?_
       have hbk : ∀ k ∈ blks bB so4 segs4, w0.heap.size ≤ k := fun k hk => (nb4 k hk).elim (hb k) (fun h_ => Nat.le_trans hsz0 h_)
       have hcal := ih_ _ h hat g0 hbk FS_ hss hii hl1 hl2 hfk (by simp only [Nd.sz] at hm_; omega)
       rw [show ((p.at_ + ((Nd.mk kind size words bytes kids).need.toNat - kids.length) + k : Nat) : Int) = (p.at_ : Int) + (Nd.mk kind size words bytes kids).need - kids.length + k from by omega] at hcal
       rw [Lay.eta hfk0, ← Nd.lays_take hk3] at hcal
       refine zC8 rfl hcal ?_
       rintro v_ w41 ⟨rfl, K4, ho4⟩
       replace g0 := g0.trK K4 hbk
       have hc4' := K4.heap hc4 nb7
       have hsz4 := zC1 hc4
       clear hc4
       have hc4 := hc4'
       clear hc4'
       have K0_ := K
       replace K := K.trans K4 nb4
       clear h K4
       refine stp (zM1 rfl ?_)
       refine zA6 ?_
       rcases qQ4 ((Nd.lays lim (kids.take (k + 1)) Q p.seg (p.at_ + ((Nd.mk kind size words bytes kids).need.toNat - kids.length))).full) with hf4 | hf4
       ·
        refine zJ5 (show _ = Value.bool false from congrArg Value.bool (by rw [hf4]; rfl)) ?_
        obtain ⟨so5, segs5, h, nb5⟩ := ho4 hf4
        have nb8 : b1 ∉ blks bB so5 segs5 := fun hm => by rcases nb5 _ hm with h_ | h_; (exact nb7 h_); omega
        have nb9 : ∀ k ∈ blks bB so5 segs5, k ∈ blks bB (.slice ado A.length co) segs ∨ w.heap.size ≤ k := fun k hk => (nb5 k hk).elim (nb4 k) (fun h_ => .inr (Nat.le_trans K0_.size h_))
        refine qZ 2 ?_
        refine stp (zC3 rfl rfl ?_ ?_); constructor <;> omega
        refine qZ 2 ?_
        refine ⟨_, ?_, k + 1, so5, segs5, rfl, zD2 ⟨rfl, rfl, rfl, rfl, rfl, rfl, congrArg (Value.int .i64) (by omega), trivial⟩, by omega, hf4, nb8, nb9, K, g0, hc4, h⟩
        omega
       ·
        refine zM3 (show _ = Value.bool true from congrArg Value.bool (by rw [hf4]; rfl)) ?_
        refine qZ 5 ?_
        have hff := Nd.lays_full_take hf4
        refine ret1 (zA1 (v := .bool false) rfl) ⟨by rw [hff]; rfl, K, fun hx => by rw [hff] at hx; cases hx⟩
      ·
       replace hlt := qF hlt
       have hk3 : k = kids.length := by omega
       rw [hk3, List.take_length] at h hfk0
       refine qZ 6 ?_
       refine ret1 (zA1 (v := .bool true) rfl) ⟨by rw [hfk0]; rfl, K, fun _ => ⟨so4, segs4, h, nb4⟩⟩
     ·
      refine zM3 (show _ = Value.bool true from congrArg Value.bool (by rw [hf2]; rfl)) ?_
      refine qZ 5 ?_
      have hff : (Nd.lays lim kids Q p.seg (p.at_ + ((Nd.mk kind size words bytes kids).need.toNat - kids.length))).full = true := by rw [Nd.lays_full hf2]; exact hf2
      refine ret1 (zA1 (v := .bool false) rfl) ⟨by rw [hff]; rfl, K, fun hx => by rw [hff] at hx; cases hx⟩
    ·
     refine qZ 3 ?_
     refine stp ?_
     refine zD0 (v := .bool (!p.S.full)) rfl ?_
     rw [show (!p.S.full) = false from by rw [hf]; rfl]
     refine stp (qP7 rfl rfl ?_)
     refine qZ 1 ?_
     refine zA4 (zE1 rfl ?_)
     refine zA4 (zE1 rfl ?_)
     refine zA4 (zE1 rfl ?_)
     refine zA4 (zE1 rfl ?_)
     refine zA4 (zE1 rfl ?_)
     refine zA4 (zE1 rfl ?_)
     refine stp (zH0 (v := .bool true) rfl rfl rfl ?_)
     refine zA6 ?_
     refine zM3 rfl ?_
     refine qZ 5 ?_
     have h_ : (zG8 lim p.S p.seg (Nd.mk kind size words bytes kids).content).full = true := by simp [zG8, hf]
     have hff : (Nd.lays lim kids (zG8 lim p.S p.seg (Nd.mk kind size words bytes kids).content) p.seg (p.at_ + ((Nd.mk kind size words bytes kids).need.toNat - kids.length))).full = true := by rw [Nd.lays_full h_]; exact h_
     refine ret1 (zA1 (v := .bool false) rfl) ⟨by rw [hff]; rfl, K, fun hx => by rw [hff] at hx; cases hx⟩
theorem yB2 (w : World) {c : List Value} {t : Nd} (T : NodeR w c t) (n : Int) : Calls Tryz.prog 46 #[.agg c.toArray, .int .i64 n] w (Ret fun v w' => ∃ so segs, v = .tuple #[so, .int .u16 (t.build n).2] ∧ OwnA 37 23 w' w.heap.size so segs (t.build n).1 ∧ Grow w w') := by
 obtain ⟨y0, y1, ya, yn, yc, za, zn, zc, ua, un, uc, rfl⟩ := T.cells
 have G := Grow.rfl' w
 refine zC0 Tryz.func46 Tryz.ntmps46 Tryz.results46 rfl rfl ?_
 refine qZ 2 ?_
 refine stp ?_
 refine qC ?_
 intro b1 w2 hb3 hc4 g5
 have hge6 := Nat.le_trans G.size hb3
 replace G := G.tr g5
 clear g5 hb3
 refine qZ 7 ?_
 refine stp (zI1 rfl rfl ?_)
 refine qZ 1 ?_
 refine qG 1 ?_
 refine zA4 (zB7 (s := .bool _) (v := .bool (decide (n > 4096))) rfl (zF0 _) (fun hc8 => ?_) ?_)
 ·
  have hc8_ := hc8
  try simp only [sb] at hc8_
  refine zQ7 (gvt hc8) rfl ?_
  exact ⟨rfl, rfl⟩
 refine stp (zJ3 rfl rfl rfl ?_)
 refine qZ 1 ?_
 refine zA4 (zB7 (s := .bool _) (v := .agg #[.int .i64 y0, .int .i64 y1, .slice ya yn yc, .slice za zn zc, .slice ua un uc]) rfl (zF0 _) (fun hc9 => ?_) ?_)
 ·
  have hc9_ := hc9
  try simp only [sb] at hc9_
  refine zC7 rfl hc4 (by rfl) ?_
  exact ⟨rfl, rfl⟩
 refine zA4 (zZ5 (s := .bool ((decide (n < 1)) || (decide (n > 4096)))) (b := false) (v := .bool (t.right 32)) rfl (zF0 _) (fun hc10 => ?_) ?_)
 ·
  have hc10_ := hc10
  try simp only [sb] at hc10_
  exact zO6 (l := ([.agg #[.int .i64 y0, .int .i64 y1, .slice ya yn yc, .slice za zn zc, .slice ua un uc]] : List Value)) rfl (by show ([gv (!((decide (n < 1)) || (decide (n > 4096)))) (.agg #[.int .i64 y0, .int .i64 y1, .slice ya yn yc, .slice za zn zc, .slice ua un uc])] : List Value) = _; rw [gvt hc10]) (qK8 _ (T.grow G)) (fun w2_ g2_ => ⟨rfl, g2_⟩)
 intro w11 g12
 replace hc4 := g12.heap hc4
 replace G := G.tr g12
 clear g12
 refine zA4 (zB7 (s := .bool _) (v := .bool (!(t.right 32))) rfl (zF0 _) (fun hc13 => ?_) ?_)
 ·
  have hc13_ := hc13
  try simp only [sb] at hc13_
  refine zM1 (gvt hc13) ?_
  exact ⟨rfl, rfl⟩
 refine stp (zJ3 rfl rfl rfl ?_)
 refine zA6 ?_
 refine zA3 (b := (((decide (n < 1)) || (decide (n > 4096))) || (!(t.right 32)))) rfl (fun h1 => ?_) (fun h1 => ?_)
 ·
  simp only [sb] at h1
  have hb : t.build n = ([], 1) := by unfold Nd.build; rw [if_pos]; rcases h1 with (h | h) | h; exact .inl h; exact .inr (.inl h); exact .inr (.inr h)
  refine qZ 6 ?_
  rw [hb]
  refine ret2 (zA1 (v := .slice none 0 0) rfl) (zA1 (v := .int .u16 1) rfl) ⟨_, _, rfl, OwnA.nil _ _ _ _, G⟩
 ·
  simp only [sb] at h1
  obtain ⟨⟨h1a, h1b⟩, h1c⟩ := h1
  have hlb1 : 1 ≤ n := by omega
  have hlb2 : n ≤ 4096 := by omega
  have hnb : ¬ (n < 1 ∨ n > 4096 ∨ t.right 32 = false) := by rw [h1c]; simp; omega
  refine qZ 3 ?_
  refine stp (zB4 (cs := #[.int .u64 0]) (el := 23) (fun w => by kernel_rfl) ?_)
  intro bs14 w15 hb16 hc17 g18
  have hge19 := Nat.le_trans G.size hb16
  replace hc4 := g18.heap hc4
  replace G := G.tr g18
  clear g18
  refine stp (zB4 (cs := #[.slice (some ⟨bs14, 0, none⟩) 1 1]) (el := 37) (fun w => by kernel_rfl) ?_)
  intro bs20 w21 hb22 hc23 g24
  have hge25 := Nat.le_trans G.size hb22
  replace hc4 := g24.heap hc4
  replace hc17 := g24.heap hc17
  replace G := G.tr g24
  clear g24
  refine qZ 1 ?_
  refine stp (zA7 (v := .agg #[.slice (some ⟨bs20, 0, none⟩) 1 1, .int .i64 n, .int .i64 1]) (fun w => by kernel_rfl) ?_)
  refine stp ?_
  refine qC ?_
  intro b26 w27 hb28 hc29 g30
  have hge31 := Nat.le_trans G.size hb28
  replace hc4 := g30.heap hc4
  replace hc17 := g30.heap hc17
  replace hc23 := g30.heap hc23
  replace G := G.tr g30
  clear g30 hb28
  refine qZ 2 ?_
  rcases qQ4 (t.lay n ⟨[[0]], false⟩ 0 0).full with hf | hf
  ·
   refine qZ 5 ?_
   refine stp ?_
   have h := BldAt.init hc29 hc23 hc17
   have hbk : ∀ k ∈ blks b26 (.slice (some ⟨bs20, 0, none⟩) 1 1) [.slice (some ⟨bs14, 0, none⟩) 1 1], w.heap.size ≤ k := by
    intro k hk
    rcases zG2.1 hk with rfl | hk | ⟨i, v, hv, hk⟩
    ·exact hge31
    ·simp only [Value.ownBlock, Option.some.injEq] at hk; subst hk; exact hge25
    ·have hm_ := List.mem_of_getElem? hv; simp only [List.mem_singleton] at hm_; subst hm_; simp only [Value.ownBlock, Option.some.injEq] at hk; subst hk; exact hge19
   have hszl := G.size
   refine zC8 rfl (qW9 _ _ (s := 0) (i := 0) h T G hbk (Fit.init hlb1) (by simp) (by simp [len2]) hlb1 hlb2 ⟨32, h1c⟩ (Nat.le_refl _)) ?_
   rintro v_ w32 ⟨rfl, K, hlay⟩
   replace G := G.trK K hbk
   clear h hc4 hc17 hc23 hc29
   refine stp ?_
   refine zM1 (p := !(t.lay n ⟨[[0]], false⟩ 0 0).full) rfl ?_
   rw [hf]
   refine qZ 1 ?_
   refine stp ?_
   obtain ⟨so, segs, h, hnb2⟩ := hlay hf
   have hok := Nd.lay_ok n t ⟨[[0]], false⟩ 0 0 (by simp)
   have FA := hok.fit (Fit.init hlb1) hf
   have FAs := FA.small hlb2
   obtain ⟨ado, co, sa, sc, rfl, hco, RO, hsf⟩ := h.fn FAs.1
   have hbox := h.box
   have hrows := h.rows FAs.2
   have hl00 : 1 ≤ ((t.lay n ⟨[[0]], false⟩ 0 0).A.getD 0 []).length := by have := hok.grew.seg 0; simpa [len2] using this
   have hown := h.owns (fun k hk => (hnb2 k hk).elim (hbk k) (fun h_ => Nat.le_trans hszl h_))
   refine zD0 (v := .pointer (some ⟨b26, 0, none⟩)) rfl ?_
   refine qZ 3 ?_
   refine stp (zA2 (v := .bool true) rfl (qV8 _ RO rfl hrows FA.one FA.most hl00 FA.all) ?_)
   intro w33 g34
   replace hbox := g34.heap hbox
   replace hown := hown.grow g34
   replace G := G.tr g34
   clear g34
   refine stp (qJ3 rfl rfl ?_)
   refine stp (zH6 (v := .bool false) rfl rfl rfl ?_)
   refine zA6 ?_
   refine zJ5 rfl ?_
   refine qZ 11 ?_
   have hb : t.build n = ((t.lay n ⟨[[0]], false⟩ 0 0).A, 0) := by unfold Nd.build; rw [if_neg hnb, if_neg (by rw [hf]; simp)]
   rw [hb]
   refine ret2 (zA1 (v := .slice ado ((t.lay n ⟨[[0]], false⟩ 0 0).A.length) co) rfl) (zA1 (v := .int .u16 0) rfl) ⟨_, _, rfl, hown, G⟩
  ·
   refine qZ 5 ?_
   refine stp ?_
   have h := BldAt.init hc29 hc23 hc17
   have hbk : ∀ k ∈ blks b26 (.slice (some ⟨bs20, 0, none⟩) 1 1) [.slice (some ⟨bs14, 0, none⟩) 1 1], w.heap.size ≤ k := by
    intro k hk
    rcases zG2.1 hk with rfl | hk | ⟨i, v, hv, hk⟩
    ·exact hge31
    ·simp only [Value.ownBlock, Option.some.injEq] at hk; subst hk; exact hge25
    ·have hm_ := List.mem_of_getElem? hv; simp only [List.mem_singleton] at hm_; subst hm_; simp only [Value.ownBlock, Option.some.injEq] at hk; subst hk; exact hge19
   have hszl := G.size
   refine zC8 rfl (qW9 _ _ (s := 0) (i := 0) h T G hbk (Fit.init hlb1) (by simp) (by simp [len2]) hlb1 hlb2 ⟨32, h1c⟩ (Nat.le_refl _)) ?_
   rintro v_ w35 ⟨rfl, K, hlay⟩
   replace G := G.trK K hbk
   clear h hc4 hc17 hc23 hc29
   refine stp ?_
   refine zM1 (p := !(t.lay n ⟨[[0]], false⟩ 0 0).full) rfl ?_
   rw [hf]
   refine qZ 1 ?_
   refine zA4 (zE1 rfl ?_)
   refine zA4 (zE1 rfl ?_)
   refine zA4 (zE1 rfl ?_)
   refine zA4 (zE1 rfl ?_)
   refine zA4 (zE1 rfl ?_)
   refine zA4 (zE1 rfl ?_)
   refine stp (zH0 (v := .bool true) rfl rfl rfl ?_)
   refine zA6 ?_
   refine zM3 rfl ?_
   refine qZ 6 ?_
   have hb : t.build n = ([], 24) := by unfold Nd.build; rw [if_neg hnb, if_pos hf]
   rw [hb]
   refine ret2 (zA1 (v := .slice none 0 0) rfl) (zA1 (v := .int .u16 24) rfl) ⟨_, _, rfl, OwnA.nil _ _ _ _, G⟩
end Go.Proofs.YtkkbbhpbcfcplaaGreat.K
namespace Go.Proofs.YtkkbbhpbcfcplaaGreat.K
open Go Go.RowKit
section
variable {P : Program} {ops : Array Oper} {Q : Ex → Env → World → Prop} {e : Env} {w : World} {K : Value → World → Prop} {r : List Oper}
variable {d : Option Nat} {ty : TypeId} {pos : String} {af : Array Edge} {g : Option (Nat × Bool)}
variable {t u : TypeId} {x y z : Operand}
theorem qO4 {n c : Nat} {ad : Option Addr} {el : TypeId} {xs : List Int} [hui : ElI P t el 1] [hei : IntI P el .u8] [hsi : StrI P u] (R : RowAt w 1 ad n (xs.map (.int .u8))) (hx : ev e x = .slice ad n c) (h : K (.string (strOfNums xs)) w) : Run1 P ⟨d, .convert t u x, ty, pos, af, g⟩ e w K := by
  have hn : n = xs.length := by have := R.len; simp at this; exact this.symm
  have hu := hui.h
  have ht : P.underlying t = some (.slice el) := by
    unfold elS at hu
    split at hu
    · rename_i el' hul
      split at hu
      · simp only [Option.some.injEq, Prod.mk.injEq] at hu
        obtain ⟨rfl, _⟩ := hu
        exact hul
      · cases hu
    · cases hu
  have key : (convert t u (.slice ad n c)).run P w = .ok (.string (strOfNums xs)) w := by
    rcases Nat.eq_zero_or_pos n with h0 | h0
    · have hxs : xs = [] := List.eq_nil_of_length_eq_zero (by omega)
      subst hxs
      cases ad with
      | none => exact run_convert_bytes_nil w t el ht hei.h n c u hsi.h
      | some a =>
        subst h0
        rw [run_convert_bytes_string w t u el _ 0 c ht hei.h hsi.h, run_bytesToString w a 0 c [] (by rfl)]
        rfl
    · obtain ⟨b, o, cs, T, fr, rfl, hb, hr⟩ := R.at_ h0
      refine run_convert_bytes_arg w t el ht hei.h b o n c xs hn.symm (fun i hi => ?_) u hsi.h
      rw [cell_of_row w b (o + i) cs T fr hb]
      refine zL6 hr ?_
      rw [List.getElem?_map, List.getElem?_eq_getElem (by omega), List.getD_eq_getElem?_getD, List.getElem?_eq_getElem (by omega)]
      rfl
  exact zE3 (w' := w) (by simp only [execOp, hx, Sem.run_bind, key, Result.andThen_ok, Sem.run_pure]) h
theorem yT6 {s q : ByteArray} (hx : ev e x = .string s) (hy : ev e y = .string q) (h : K (.bool (s.toList == q.toList)) w) : Run1 P ⟨d, .binOp .eql t x y u, ty, pos, af, g⟩ e w K :=
  zE3 (w' := w) (by
    have hg : ∀ w : World, (eqGuard .eql t x y (.string s) (.string q)).run P w = .ok () w := fun _ => rfl
    simp only [execOp, hx, hy, Sem.run_bind, hg, Result.andThen_ok, binOp, Op.stringOp, Sem.run_pure]) h
end
theorem yO6 : ∀ (xs ys : List Int), (∀ x ∈ xs, inR .u8 x) → (∀ y ∈ ys, inR .u8 y) → (strOfNums xs).data.toList = (strOfNums ys).data.toList → xs = ys := by
  intro xs ys hx hy h2
  simp only [strOfNums_data] at h2
  induction xs generalizing ys with
  | nil => cases ys with
    | nil => rfl
    | cons y ys => simp at h2
  | cons x xs ih => cases ys with
    | nil => simp at h2
    | cons y ys =>
      simp only [List.map_cons, List.cons.injEq] at h2
      have h3 := ih ys (fun z hz => hx z (by simp [hz])) (fun z hz => hy z (by simp [hz])) h2.2
      have h4 := hx x (by simp)
      have h5 := hy y (by simp)
      simp only [inR] at h4 h5
      have h6 := congrArg UInt8.toNat h2.1
      simp only [UInt8.toNat_ofNat'] at h6
      have : x = y := by omega
      rw [this, h3]
theorem yT7 {xs ys : List Int} (hx : ∀ x ∈ xs, inR .u8 x) (hy : ∀ y ∈ ys, inR .u8 y) : ((strOfNums xs).toList == (strOfNums ys).toList) = decide (xs = ys) := by
  rw [ByteArray.toList_eq, ByteArray.toList_eq]
  by_cases h : xs = ys
  · subst h; simp
  · rw [decide_eq_false h, beq_eq_false_iff_ne]
    exact fun hs => h (yO6 xs ys hx hy hs)
end Go.Proofs.YtkkbbhpbcfcplaaGreat.K
namespace Go.Proofs.YtkkbbhpbcfcplaaGreat.K
open Go Go.RowKit Go.Proofs
attribute [local irreducible] Run1 OpG WL W AO zC5
theorem yO7 (w : World) {ad ad2 : Option Addr} {c c2 : Nat} {xs ys : List Int} (R : RowAt w 1 ad xs.length (xs.map (.int .u64))) (R2 : RowAt w 1 ad2 ys.length (ys.map (.int .u64))) : zC5 Tryz.prog 82 #[.slice ad xs.length c, .slice ad2 ys.length c2] w (.bool (decide (xs = ys))) := by
 have l1 := R.lim
 have l2 := R2.lim
 have G := Grow.rfl' w
 refine zB1 Tryz.func82 Tryz.ntmps82 Tryz.results82 rfl rfl ?_
 refine qZ 11 ?_
 refine stp (zI5 rfl rfl ?_)
 refine zA6 ?_
 refine zA3 (b := (decide ((xs.length : Int) ≠ (ys.length : Int)))) rfl (fun h1 => ?_) (fun h1 => ?_)
 ·
  replace h1 := qT h1
  refine qZ 5 ?_
  refine ret1 (zA1 (v := .bool false) rfl) ⟨?_, G⟩
  congr 1; exact (decide_eq_false (fun he => h1 (by rw [he]))).symm
 ·
  replace h1 := qF h1
  have hl : xs.length = ys.length := by omega
  refine qZ 9 ?_
  refine zG4 (fun m_ e_ w_ => ∃ (k : Nat), m_ = xs.length - k ∧ Fr [(0, .slice ad xs.length c), (1, .slice ad2 ys.length c2), (12, .int .i64 (xs.length : Int)), (13, .int .i64 (k : Int))] e_ ∧ (k ≤ xs.length) ∧ (∀ j, j < k → xs.getD j 0 = ys.getD j 0) ∧ Grow w w_) _ ⟨0, rfl, zD2 ⟨rfl, rfl, rfl, rfl, trivial⟩, by omega, fun j hj => by omega, G⟩ ?_
  clear G
  rintro m_ e_ w1 ⟨k, rfl, ⟨e2, rfl⟩, hk2, hk, G⟩
  refine qZ 2 ?_
  refine stp (zI1 rfl rfl ?_)
  refine qZ 2 ?_
  refine zA3 (b := (decide ((k : Int) < (xs.length : Int)))) rfl (fun hlt => ?_) (fun hlt => ?_)
  ·
   replace hlt := qT hlt
   have hk3 : k < ys.length := by omega
   refine qZ 9 ?_
   refine zK0 9 [[], [], [1, 0], [2, 1, 0], [], [], [1, 0], [2, 1, 0], [7, 6, 5, 4, 3, 2, 1, 0]] mixed (by kernel_rfl) (by kernel_rfl) (by kernel_rfl) ?_
   intro w3 g4
   replace G := G.tr g4
   clear g4
   refine qA 2 ?_
   apply zA5
   ·intro w_ g_; refine og rfl ?_; refine zD7 (R.grow (G.tr g_)) rfl rfl ?_ ?_; omega; exact qX
   apply zA5
   ·intro w_ g_; exact og rfl (zF2 (v := .int .u64 (xs.getD k 0)) (m := 0) (R.grow (G.tr g_)) rfl (zL8 0 (by omega)) qX)
   refine qA 2 ?_
   apply zA5
   ·intro w_ g_; refine og rfl ?_; refine zD7 (R2.grow (G.tr g_)) rfl rfl ?_ ?_; omega; exact qX
   apply zA5
   ·intro w_ g_; exact og rfl (zF2 (v := .int .u64 (ys.getD k 0)) (m := 0) (R2.grow (G.tr g_)) rfl (zL8 0 (by omega)) qX)
   apply zA5
   ·intro w_ g_; exact og rfl (zI5 rfl rfl qX)
   refine zG5 ?_
   intro w5 g6
   replace G := G.tr g6
   clear g6
   refine zA6 ?_
   refine zA3 (b := (decide ((xs.getD k 0) ≠ (ys.getD k 0)))) rfl (fun h3 => ?_) (fun h3 => ?_)
   ·
    replace h3 := qT h3
    refine qZ 5 ?_
    refine ret1 (zA1 (v := .bool false) rfl) ⟨?_, G⟩
    congr 1; exact (decide_eq_false (fun he => h3 (by rw [he]))).symm
   ·
    replace h3 := qF h3
    refine qZ 2 ?_
    refine stp (zC3 rfl rfl ?_ ?_); constructor <;> omega
    refine qZ 2 ?_
    refine ⟨_, ?_, k + 1, rfl, zD2 ⟨rfl, rfl, rfl, rfl, trivial⟩, by omega, fun j hj => by rcases Nat.lt_succ_iff_lt_or_eq.1 hj with h_ | h_; exact hk j h_; subst h_; omega, G⟩
    omega
  ·
   replace hlt := qF hlt
   have hk3 : k = xs.length := by omega
   refine qZ 6 ?_
   refine ret1 (zA1 (v := .bool true) rfl) ⟨?_, G⟩
   congr 1; exact (decide_eq_true (qQ9 hl (fun j hj => hk j (by omega)))).symm
theorem yO8 (w : World) {ad ad2 : Option Addr} {c c2 : Nat} {xs ys : List Int} (R : RowAt w 1 ad xs.length (xs.map (.int .u8))) (R2 : RowAt w 1 ad2 ys.length (ys.map (.int .u8))) (hx : ∀ x ∈ xs, inR .u8 x) (hy : ∀ y ∈ ys, inR .u8 y) : zC5 Tryz.prog 83 #[.slice ad xs.length c, .slice ad2 ys.length c2] w (.bool (decide (xs = ys))) := by
 have G := Grow.rfl' w
 refine zB1 Tryz.func83 Tryz.ntmps83 Tryz.results83 rfl rfl ?_
 refine qZ 7 ?_
 refine stp (qO4 (xs := xs) (R.grow G) rfl ?_)
 refine qZ 1 ?_
 refine stp (qO4 (xs := ys) (R2.grow G) rfl ?_)
 refine stp ?_
 refine yT6 rfl rfl ?_
 rw [yT7 hx hy]
 refine qZ 3 ?_
 refine ret1 (zA1 (v := .bool (decide (xs = ys))) rfl) ⟨?_, G⟩
 rfl
theorem yO9 (w : World) {ad ad2 : Option Addr} {c c2 n m fid : Nat} {fst cap : Array Value} {kc kd : List Value} [FuncI Tryz.prog fid] (R : RowAt w 5 ad n kc) (R2 : RowAt w 5 ad2 m kd) (p : Nat → Bool) (hf : ∀ i, i < n → i < m → ∀ w', Grow w w' → zC5 Tryz.prog fid (fst.toList ++ ([Value.agg ((kc.drop (i * 5)).take 5).toArray, Value.agg ((kd.drop (i * 5)).take 5).toArray] ++ cap.toList)).toArray w' (.bool (p i))) (h1c : ∀ i, i < n → ∃ k s a n cp a2 n2 c2 a3 n3 c3, (kc.drop (i * 5)).take 5 = [.int .i64 k, .int .i64 s, .slice a n cp, .slice a2 n2 c2, .slice a3 n3 c3]) (h2c : ∀ i, i < m → ∃ k s a n cp a2 n2 c2 a3 n3 c3, (kd.drop (i * 5)).take 5 = [.int .i64 k, .int .i64 s, .slice a n cp, .slice a2 n2 c2, .slice a3 n3 c3]) : zC5 Tryz.prog 84 #[.slice ad n c, .slice ad2 m c2, .func (.func fid) fst cap] w (.bool (decide (n = m) && (List.range n).all p)) := by
 have l1 := R.lim
 have l2 := R2.lim
 have e1 := R.len
 have e2 := R2.len
 have G := Grow.rfl' w
 refine zB1 Tryz.func84 Tryz.ntmps84 Tryz.results84 rfl rfl ?_
 refine qZ 11 ?_
 refine stp (zI5 rfl rfl ?_)
 refine zA6 ?_
 refine zA3 (b := (decide ((n : Int) ≠ (m : Int)))) rfl (fun h1 => ?_) (fun h1 => ?_)
 ·
  replace h1 := qT h1
  refine qZ 5 ?_
  refine ret1 (zA1 (v := .bool false) rfl) ⟨?_, G⟩
  rw [decide_eq_false (by omega), Bool.false_and]
 ·
  replace h1 := qF h1
  have hl : n = m := by omega
  refine qZ 9 ?_
  refine zG4 (fun m_ e_ w_ => ∃ (k : Nat), m_ = n - k ∧ Fr [(1, .slice ad2 m c2), (2, .func (.func fid) fst cap), (15, .slice ad n c), (16, .int .i64 (n : Int)), (17, .int .i64 (k : Int))] e_ ∧ (k ≤ n) ∧ (∀ j, j < k → p j = true) ∧ Grow w w_) _ ⟨0, rfl, zD2 ⟨rfl, rfl, rfl, rfl, rfl, trivial⟩, by omega, fun j hj => by omega, G⟩ ?_
  clear G
  rintro m_ e_ w1 ⟨k, rfl, ⟨e2, rfl⟩, hk2, hk, G⟩
  refine qZ 2 ?_
  refine stp (zI1 rfl rfl ?_)
  refine qZ 2 ?_
  refine zA3 (b := (decide ((k : Int) < (n : Int)))) rfl (fun hlt => ?_) (fun hlt => ?_)
  ·
   replace hlt := qT hlt
   have hk3 : k < m := by omega
   have hfk := hf k (by omega) hk3
   obtain ⟨x0, x1, x2, x3, x4, x5, x6, x7, x8, x9, x10, hx5⟩ := h1c k (by omega)
   obtain ⟨y0, y1, y2, y3, y4, y5, y6, y7, y8, y9, y10, hy5⟩ := h2c k (by omega)
   rw [hx5, hy5] at hfk
   refine qZ 6 ?_
   refine stp (zD7 (R.grow G) rfl rfl ?_ ?_); omega
   refine stp (zO7 (R.grow G) rfl (by decide) (by omega) hx5 ?_)
   refine stp (zB2 ?_)
   intro b3 w4 hb5 hc6 g7
   refine qZ 1 ?_
   refine stn (qS hc6 ?_)
   intro w8 hc9 u10
   have g11 := g7.upd u10 hb5
   have hge12 := Nat.le_trans G.size hb5
   replace G := G.tr g11
   clear u10 g7 hb5 hc6
   refine qZ 5 ?_
   refine stp (zD7 (R2.grow G) rfl rfl ?_ ?_); omega
   refine stp (zO7 (R2.grow G) rfl (by decide) (by omega) hy5 ?_)
   refine stp (zB2 ?_)
   intro b13 w14 hb15 hc16 g17
   refine stn (qS hc16 ?_)
   intro w18 hc19 u20
   have g21 := g17.upd u20 hb15
   have hge22 := Nat.le_trans G.size hb15
   have ne23 := qN hc9 hb15
   replace hc9 := g21.heap hc9
   replace G := G.tr g21
   clear u20 g17 hb15 hc16
   refine qZ 6 ?_
   refine stp (zA2 (v := .bool (p k)) rfl (hfk _ G) ?_)
   intro w24 g25
   replace hc9 := g25.heap hc9
   replace hc19 := g25.heap hc19
   replace G := G.tr g25
   clear g25
   refine stp (zM1 rfl ?_)
   refine zA6 ?_
   refine zA3 (b := (!(p k))) rfl (fun hpk => ?_) (fun hpk => ?_)
   ·
    simp only [sb] at hpk
    refine qZ 5 ?_
    refine ret1 (zA1 (v := .bool false) rfl) ⟨?_, G⟩
    rw [qW7 (k := k) (by omega) (by simpa using hpk), Bool.and_false]
   ·
    simp only [sb] at hpk
    refine qZ 2 ?_
    refine stp (zC3 rfl rfl ?_ ?_); constructor <;> omega
    refine qZ 2 ?_
    refine ⟨_, ?_, k + 1, rfl, zD2 ⟨rfl, rfl, rfl, rfl, rfl, trivial⟩, by omega, fun j hj => by rcases Nat.lt_succ_iff_lt_or_eq.1 hj with h_ | h_; exact hk j h_; subst h_; simpa using hpk, G⟩
    omega
  ·
   replace hlt := qF hlt
   have hk3 : k = n := by omega
   refine qZ 6 ?_
   refine ret1 (zA1 (v := .bool true) rfl) ⟨?_, G⟩
   rw [qR9 (fun j hj => hk j (by omega)), decide_eq_true hl]; rfl
theorem yJ2 : ∀ (n_ : Nat) (w : World) {c : List Value} {t : Nd} (T : NodeR w c t) {d : List Value} {u : Nd} (U : NodeR w d u), t.sz ≤ n_ → zC5 Tryz.prog 47 #[.agg c.toArray, .agg d.toArray] w (.bool (t.beq u)) := by
 intro n_
 induction n_ with
 | zero => intro w c t T d u U hm_; exact absurd hm_ (by have := t.sz_pos; omega)
 | succ n_ ih_ =>
 intro w c t T d u U hm_
 obtain @⟨kind, size, words, bytes, kids, ws, bs, ks, kc, hk, hs, hW, hwr, hB, hbr, hK, hKs⟩ := T
 obtain ⟨aw, cw, rfl, hcw, hcw2, RW⟩ := hW
 obtain ⟨ab, cb, rfl, hcb, hcb2, RB⟩ := hB
 obtain ⟨ak, ck, rfl, hck, hck2, RK⟩ := hK
 have lw := RW.lim
 have lb := RB.lim
 have lk := RK.lim
 simp only [inR] at hk hs
 obtain @⟨kind2, size2, words2, bytes2, kids2, ws2, bs2, ks2, kc2, hk2, hs2, hW2, hwr2, hB2, hbr2, hK2, hKs2⟩ := U
 obtain ⟨aw2, cw2, rfl, hcw2, hcw22, RW2⟩ := hW2
 obtain ⟨ab2, cb2, rfl, hcb2, hcb22, RB2⟩ := hB2
 obtain ⟨ak2, ck2, rfl, hck2, hck22, RK2⟩ := hK2
 have lw2 := RW2.lim
 have lb2 := RB2.lim
 have lk2 := RK2.lim
 simp only [inR] at hk2 hs2
 have G := Grow.rfl' w
 refine zB1 Tryz.func47 Tryz.ntmps47 Tryz.results47 rfl rfl ?_
 refine qZ 2 ?_
 refine stp ?_
 refine qC ?_
 intro b1 w2 hb3 hc4 g5
 have hge6 := Nat.le_trans G.size hb3
 replace G := G.tr g5
 clear g5 hb3
 refine stp ?_
 refine qC ?_
 intro b7 w8 hb9 hc10 g11
 have hge12 := Nat.le_trans G.size hb9
 replace hc4 := g11.heap hc4
 replace G := G.tr g11
 clear g11 hb9
 refine qZ 8 ?_
 refine stp (zE2 rfl rfl ?_)
 refine qZ 1 ?_
 refine qG 4 ?_
 refine zA4 (zB7 (s := .bool _) (v := .bool (decide (size = size2))) rfl (zG3 _) (fun hc17 => ?_) ?_)
 ·
  have hc17_ := qT hc17
  refine zE2 (gvt hc17) (gvt hc17) ?_
  exact ⟨rfl, rfl⟩
 refine stp (zI8 rfl rfl rfl ?_)
 refine qZ 1 ?_
 refine qG 4 ?_
 refine zA4 (zZ5 (s := .bool ((decide (kind = kind2)) && (decide (size = size2)))) (b := true) (v := .bool (decide (words = words2))) rfl (zG3 _) (fun hc22 => ?_) ?_)
 ·
  obtain ⟨hc22a, hc22b⟩ := and_t hc22
  have hc22a_ := qT hc22a
  have hc22b_ := qT hc22b
  exact zO6 (l := ([.slice aw words.length cw, .slice aw2 words2.length cw2] : List Value)) rfl (by show ([gv ((decide (kind = kind2)) && (decide (size = size2))) (.slice aw words.length cw), gv ((decide (kind = kind2)) && (decide (size = size2))) (.slice aw2 words2.length cw2)] : List Value) = _; rw [gvt hc22, gvt hc22]) (yO7 _ (RW.grow G) (RW2.grow G)) (fun w2_ g2_ => ⟨rfl, g2_⟩)
 intro w23 g24
 replace hc4 := g24.heap hc4
 replace hc10 := g24.heap hc10
 replace G := G.tr g24
 clear g24
 refine stp (zI8 rfl rfl rfl ?_)
 refine qZ 1 ?_
 refine zA4 (zB7 (s := .bool _) (v := .pointer (some ⟨b1, 3, none⟩)) rfl (zG3 _) (fun hc25 => ?_) ?_)
 ·
  obtain ⟨hc25a, hc25b⟩ := and_t hc25
  obtain ⟨hc25aa, hc25ab⟩ := and_t hc25a
  have hc25aa_ := qT hc25aa
  have hc25ab_ := qT hc25ab
  refine zB6 rfl ?_
  exact ⟨rfl, rfl⟩
 refine zA4 (zB7 (s := .bool _) (v := .slice ab bytes.length cb) rfl (zG3 _) (fun hc26 => ?_) ?_)
 ·
  obtain ⟨hc26a, hc26b⟩ := and_t hc26
  obtain ⟨hc26aa, hc26ab⟩ := and_t hc26a
  have hc26aa_ := qT hc26aa
  have hc26ab_ := qT hc26ab
  refine zD1 (v := .slice ab bytes.length cb) (gvt hc26) hc4 rfl ?_
  exact ⟨rfl, rfl⟩
 refine zA4 (zB7 (s := .bool _) (v := .pointer (some ⟨b7, 3, none⟩)) rfl (zG3 _) (fun hc27 => ?_) ?_)
 ·
  obtain ⟨hc27a, hc27b⟩ := and_t hc27
  obtain ⟨hc27aa, hc27ab⟩ := and_t hc27a
  have hc27aa_ := qT hc27aa
  have hc27ab_ := qT hc27ab
  refine zB6 rfl ?_
  exact ⟨rfl, rfl⟩
 refine zA4 (zB7 (s := .bool _) (v := .slice ab2 bytes2.length cb2) rfl (zG3 _) (fun hc28 => ?_) ?_)
 ·
  obtain ⟨hc28a, hc28b⟩ := and_t hc28
  obtain ⟨hc28aa, hc28ab⟩ := and_t hc28a
  have hc28aa_ := qT hc28aa
  have hc28ab_ := qT hc28ab
  refine zD1 (v := .slice ab2 bytes2.length cb2) (gvt hc28) hc10 rfl ?_
  exact ⟨rfl, rfl⟩
 refine zA4 (zZ5 (s := .bool (((decide (kind = kind2)) && (decide (size = size2))) && (decide (words = words2)))) (b := true) (v := .bool (decide (bytes = bytes2))) rfl (zG3 _) (fun hc29 => ?_) ?_)
 ·
  obtain ⟨hc29a, hc29b⟩ := and_t hc29
  obtain ⟨hc29aa, hc29ab⟩ := and_t hc29a
  have hc29aa_ := qT hc29aa
  have hc29ab_ := qT hc29ab
  exact zO6 (l := ([.slice ab bytes.length cb, .slice ab2 bytes2.length cb2] : List Value)) rfl (by show ([gv (((decide (kind = kind2)) && (decide (size = size2))) && (decide (words = words2))) (.slice ab bytes.length cb), gv (((decide (kind = kind2)) && (decide (size = size2))) && (decide (words = words2))) (.slice ab2 bytes2.length cb2)] : List Value) = _; rw [gvt hc29, gvt hc29]) (yO8 _ (RB.grow G) (RB2.grow G) hbr hbr2) (fun w2_ g2_ => ⟨rfl, g2_⟩)
 intro w30 g31
 replace hc4 := g31.heap hc4
 replace hc10 := g31.heap hc10
 replace G := G.tr g31
 clear g31
 refine stp (zI8 rfl rfl rfl ?_)
 refine qZ 1 ?_
 refine zA4 (zB7 (s := .bool _) (v := .pointer (some ⟨b1, 4, none⟩)) rfl (zG3 _) (fun hc32 => ?_) ?_)
 ·
  obtain ⟨hc32a, hc32b⟩ := and_t hc32
  obtain ⟨hc32aa, hc32ab⟩ := and_t hc32a
  obtain ⟨hc32aaa, hc32aab⟩ := and_t hc32aa
  have hc32aaa_ := qT hc32aaa
  have hc32aab_ := qT hc32aab
  refine zB6 rfl ?_
  exact ⟨rfl, rfl⟩
 refine zA4 (zB7 (s := .bool _) (v := .slice ak kids.length ck) rfl (zG3 _) (fun hc33 => ?_) ?_)
 ·
  obtain ⟨hc33a, hc33b⟩ := and_t hc33
  obtain ⟨hc33aa, hc33ab⟩ := and_t hc33a
  obtain ⟨hc33aaa, hc33aab⟩ := and_t hc33aa
  have hc33aaa_ := qT hc33aaa
  have hc33aab_ := qT hc33aab
  refine zD1 (v := .slice ak kids.length ck) (gvt hc33) hc4 rfl ?_
  exact ⟨rfl, rfl⟩
 refine zA4 (zB7 (s := .bool _) (v := .pointer (some ⟨b7, 4, none⟩)) rfl (zG3 _) (fun hc34 => ?_) ?_)
 ·
  obtain ⟨hc34a, hc34b⟩ := and_t hc34
  obtain ⟨hc34aa, hc34ab⟩ := and_t hc34a
  obtain ⟨hc34aaa, hc34aab⟩ := and_t hc34aa
  have hc34aaa_ := qT hc34aaa
  have hc34aab_ := qT hc34aab
  refine zB6 rfl ?_
  exact ⟨rfl, rfl⟩
 refine zA4 (zB7 (s := .bool _) (v := .slice ak2 kids2.length ck2) rfl (zG3 _) (fun hc35 => ?_) ?_)
 ·
  obtain ⟨hc35a, hc35b⟩ := and_t hc35
  obtain ⟨hc35aa, hc35ab⟩ := and_t hc35a
  obtain ⟨hc35aaa, hc35aab⟩ := and_t hc35aa
  have hc35aaa_ := qT hc35aaa
  have hc35aab_ := qT hc35aab
  refine zD1 (v := .slice ak2 kids2.length ck2) (gvt hc35) hc10 rfl ?_
  exact ⟨rfl, rfl⟩
 refine zA4 (zZ5 (s := .bool ((((decide (kind = kind2)) && (decide (size = size2))) && (decide (words = words2))) && (decide (bytes = bytes2)))) (b := true) (v := .bool (decide (kids.length = kids2.length) && (List.range kids.length).all (fun i => (kids.getD i (.mk 0 0 [] [] [])).beq (kids2.getD i (.mk 0 0 [] [] []))))) rfl (zG3 _) (fun hc36 => ?_) ?_)
 ·
  obtain ⟨hc36a, hc36b⟩ := and_t hc36
  obtain ⟨hc36aa, hc36ab⟩ := and_t hc36a
  obtain ⟨hc36aaa, hc36aab⟩ := and_t hc36aa
  have hc36aaa_ := qT hc36aaa
  have hc36aab_ := qT hc36aab
  have kid : ∀ i, i < kids.length → i < kids2.length → ∀ w', Grow w30 w' → zC5 Tryz.prog 47 ((#[] : Array Value).toList ++ ([Value.agg ((kc.drop (i * 5)).take 5).toArray, Value.agg ((kc2.drop (i * 5)).take 5).toArray] ++ (#[] : Array Value).toList)).toArray w' (.bool ((kids.getD i (.mk 0 0 [] [] [])).beq (kids2.getD i (.mk 0 0 [] [] [])))) := by
   intro i hi hi2 w' g'
   have hat := KidsR.at_ i kids[i] (hKs.grow (G.tr g')) (by simp [hi])
   have hat2 := KidsR.at_ i kids2[i] (hKs2.grow (G.tr g')) (by simp [hi2])
   have hsz := Nd.szs_at kids i kids[i] (by simp [hi])
   rw [List.getD_eq_getElem?_getD, List.getElem?_eq_getElem hi, Option.getD_some, List.getD_eq_getElem?_getD, List.getElem?_eq_getElem hi2, Option.getD_some]
   exact ih_ w' hat hat2 (by simp only [Nd.sz] at hm_; omega)
  exact zO6 (l := ([.slice ak kids.length ck, .slice ak2 kids2.length ck2, .func (.func 47) #[] #[]] : List Value)) rfl (by show ([gv ((((decide (kind = kind2)) && (decide (size = size2))) && (decide (words = words2))) && (decide (bytes = bytes2))) (.slice ak kids.length ck), gv ((((decide (kind = kind2)) && (decide (size = size2))) && (decide (words = words2))) && (decide (bytes = bytes2))) (.slice ak2 kids2.length ck2), .func (.func 47) #[] #[]] : List Value) = _; rw [gvt hc36, gvt hc36]) (yO9 _ (RK.grow G) (RK2.grow G) (fun i => (kids.getD i (.mk 0 0 [] [] [])).beq (kids2.getD i (.mk 0 0 [] [] []))) kid (fun i hi => (KidsR.at_ i kids[i] hKs (by simp [hi])).cells) (fun i hi => (KidsR.at_ i kids2[i] hKs2 (by simp [hi])).cells)) (fun w2_ g2_ => ⟨rfl, g2_⟩)
 intro w37 g38
 replace hc4 := g38.heap hc4
 replace hc10 := g38.heap hc10
 replace G := G.tr g38
 clear g38
 refine stp (zI8 rfl rfl rfl ?_)
 refine qZ 3 ?_
 refine ret1 (zA1 (v := .bool (((((decide (kind = kind2)) && (decide (size = size2))) && (decide (words = words2))) && (decide (bytes = bytes2))) && (decide (kids.length = kids2.length) && (List.range kids.length).all (fun i => (kids.getD i (.mk 0 0 [] [] [])).beq (kids2.getD i (.mk 0 0 [] [] [])))))) rfl) ⟨?_, G⟩
 rw [Nd.beqs_all, Nd.beq]
theorem yJ3 : ∀ (n_ : Nat) (w : World) {w0 : World} {d n cp : Nat} {ad : Option Addr} {xs : List Int} (R : RowAt w0 1 ad n (xs.map (.int .u8))) (g0 : Grow w0 w) (hn : n = xs.length) (hx : ∀ x ∈ xs, inR .u8 x) (hcp : n ≤ cp) (hcp2 : cp ≤ maxLen) (hd : d ≤ 100), d + 1 ≤ n_ → Calls Tryz.prog 20 #[.slice ad n cp, .int .i64 (d : Int)] w (Ret fun v w' => ∃ cells ad' n' c', v = .tuple #[.agg cells.toArray, .slice ad' n' c'] ∧ NodeR (hide w.heap.size w') cells (zE9 d xs).1 ∧ n' = (zE9 d xs).2.length ∧ n' ≤ c' ∧ c' ≤ maxLen ∧ RowAt w0 1 ad' n' ((zE9 d xs).2.map (.int .u8)) ∧ Grow w w') := by
 intro n_
 induction n_ with
 | zero => intro w w0 d n cp ad xs R g0 hn hx hcp hcp2 hd hm_; exact absurd hm_ (by have := Nat.succ_pos d; omega)
 | succ n_ ih_ =>
 intro w w0 d n cp ad xs R g0 hn hx hcp hcp2 hd hm_
 have G := Grow.rfl' w
 refine zC0 Tryz.func20 Tryz.ntmps20 Tryz.results20 rfl rfl ?_
 refine qZ 2 ?_
 refine stp (zB2 ?_)
 intro b1 w2 hb3 hc4 g5
 refine qZ 7 ?_
 refine stp (zE2 rfl rfl ?_)
 refine qZ 1 ?_
 refine qG 1 ?_
 refine zA4 (zB7 (s := .bool _) (v := .bool (decide ((d : Int) = 0))) rfl (zF0 _) (fun hc7 => ?_) ?_)
 ·
  have hc7_ := hc7
  try simp only [sb] at hc7_
  refine zE2 (gvt hc7) rfl ?_
  exact ⟨rfl, rfl⟩
 refine stp (zJ3 rfl rfl rfl ?_)
 refine zA6 ?_
 have hge8 := Nat.le_trans G.size hb3
 replace G := G.tr g5
 clear g5 hb3
 refine zA3 (b := ((decide ((n : Int) = 0)) || (decide ((d : Int) = 0)))) rfl (fun h1 => ?_) (fun h1 => ?_)
 ·
  simp only [sb] at h1
  have hst : zE9 d xs = (.nil, xs) := yH7 (by rcases h1 with h | h; exact .inl (List.eq_nil_of_length_eq_zero (by omega)); exact .inr (by omega))
  refine qZ 2 ?_
  refine stp (zA7 (v := .agg #[.int .i64 0, .int .i64 0, .slice none 0 0, .slice none 0 0, .slice none 0 0]) (fun w => by kernel_rfl) ?_)
  refine qZ 1 ?_
  refine stn (qS hc4 ?_)
  intro w9 hc10 u11
  replace G := G.upd u11 hge8
  clear u11 hc4
  refine qZ 3 ?_
  rw [hst]
  refine ret2 (zB0 rfl hc10 (by rfl)) (zA1 (v := .slice ad n cp) rfl) ⟨[_, _, _, _, _], _, _, _, rfl, NodeR.zero _, hn, hcp, hcp2, R, G⟩
 ·
  simp only [sb] at h1
  obtain ⟨h1a, h1b⟩ := h1
  obtain ⟨d, rfl⟩ : ∃ e, d = e + 1 := ⟨d - 1, by omega⟩
  obtain ⟨k, c, rfl⟩ : ∃ k c, xs = k :: c := by cases xs with | nil => simp at hn; omega | cons k c => exact ⟨_, _, rfl⟩
  have hk := hx k (by simp)
  simp only [inR] at hk
  simp only [List.length_cons] at hn
  have hxc : ∀ x ∈ c, inR .u8 x := fun x h_ => hx x (by simp [h_])
  have hlim := R.lim
  have hnc : n - 1 = c.length := by omega
  refine qZ 4 ?_
  refine stp (zL7 ((R.grow g0).grow G) rfl rfl ?_ ?_ ?_); omega; omega
  refine stp (zF2 (v := .int .u8 k) (m := 0) ((R.grow g0).grow G) rfl rfl ?_)
  refine qZ 5 ?_
  refine stp (qP8 rfl rfl (by omega) (by omega) ?_)
  have R1 := R.sliceLH (l := 1) (m := n - 1) hcp (by omega) (by omega)
  rw [show ((1 : Int).toNat) = 1 from rfl]
  generalize (if cp = 1 then ad else ad.map (·.add (1 * 1))) = ad1 at R1 ⊢
  have R2 : RowAt w0 1 ad1 (n - 1) (c.map (.int .u8)) := by
   have e_ : (List.take ((n - 1) * 1) (List.drop (1 * 1) (List.map (Value.int .u8) (k :: c)))) = c.map (.int .u8) := by simp only [Nat.mul_one, List.map_cons, List.drop_succ_cons, List.drop_zero]; rw [List.take_of_length_le (by rw [List.length_map]; omega)]
   rw [e_] at R1; exact R1
  clear R1
  refine qZ 4 ?_
  refine stp (zA7 (v := .agg #[.int .i64 0, .int .i64 0, .slice none 0 0, .slice none 0 0, .slice none 0 0]) (fun w => by kernel_rfl) ?_)
  refine stp (zB2 ?_)
  intro b12 w13 hb14 hc15 g16
  refine stn (qS hc15 ?_)
  intro w17 hc18 u19
  have g20 := g16.upd u19 hb14
  have hge21 := Nat.le_trans G.size hb14
  have ne22 := qN hc4 hb14
  replace hc4 := g20.heap hc4
  replace G := G.tr g20
  clear u19 g16 hb14 hc15
  refine qZ 4 ?_
  refine stp (qT4 rfl rfl ?_ ?_ ?_ ?_); omega; omega; (constructor <;> omega)
  refine stp (qJ0 rfl rfl ?_ ?_ ?_); omega; omega
  refine stp (zH8 rfl ?_ ?_); constructor <;> omega
  refine qZ 6 ?_
  refine stp (qJ0 rfl rfl ?_ ?_ ?_); omega; omega
  refine qZ 4 ?_
  refine stp (zE2 rfl rfl ?_)
  refine qZ 2 ?_
  refine zA3 (b := (decide ((k % 8) = 0))) rfl (fun h2 => ?_) (fun h2 => ?_)
  ·
   replace h2 := qT h2
   have ht : zE9 (d + 1) (k :: c) = (.nil, c) := by simp only [zE9]; rw [if_pos h2]
   refine qZ 4 ?_
   refine stn (qS hc4 ?_)
   intro w23 hc24 u25
   replace hc18 := u25.heap hc18 ne22.symm
   replace G := G.upd u25 hge8
   clear u25 hc4
   refine qZ 3 ?_
   rw [ht]
   refine ret2 (zB0 rfl hc24 (by rfl)) (zA1 (v := .slice ad1 (n - 1) (cp - 1)) rfl) ⟨[_, _, _, _, _], _, _, _, rfl, NodeR.zero _, hnc, by omega, by omega, R2, G⟩
  ·
   replace h2 := qF h2
   refine qZ 3 ?_
   refine stp (zE2 rfl rfl ?_)
   refine qZ 2 ?_
   refine zA3 (b := (decide ((k % 8) = 1))) rfl (fun h3 => ?_) (fun h3 => ?_)
   ·
    replace h3 := qT h3
    refine zZ2 ?_
    refine zM3 (show _ = Value.bool true from congrArg Value.bool (decide_eq_true h3)) ?_
    refine qZ 3 ?_
    refine stn (zC2 (v := .int .i64 2) rfl rfl (by rfl) hc18 (by rfl) (by rfl) ?_)
    intro w26 hc27 u28
    replace hc4 := u28.heap hc4 ne22
    replace G := G.upd u28 hge21
    clear u28 hc18
    refine qZ 4 ?_
    refine stn (zC2 (v := .int .i64 2) rfl rfl (by rfl) hc27 (by rfl) (by rfl) ?_)
    intro w29 hc30 u31
    replace hc4 := u31.heap hc4 ne22
    replace G := G.upd u31 hge21
    clear u31 hc27
    refine qZ 6 ?_
    refine zG4 (fun m_ e_ w_ => ∃ (m : Nat) (ad3 : Option Addr) (n3 : Nat) (c3 : Nat), m_ = ((3 * (k / 8 % 5) + k % 2)).toNat - m ∧ Fr [(0, .slice ad1 (n - 1) (cp - 1)), (4, .pointer (some ⟨b1, 0, none⟩)), (5, .slice none 0 0), (6, .int .u8 k), (7, .pointer (some ⟨b12, 0, none⟩)), (8, .int .i64 ((k / 8) % 5)), (9, .int .i64 (m : Int))] e_ ∧ ((m : Int) ≤ (3 * (k / 8 % 5) + k % 2)) ∧ (w_.heap[b1]? = some (.cells #[.int .i64 0, .int .i64 0, .slice none 0 0, .slice none 0 0, .slice none 0 0] 48 (0, 0))) ∧ (w_.heap[b12]? = some (.cells #[.int .i64 2, .int .i64 2, .slice none 0 0, .slice ad3 n3 c3, .slice none 0 0] 48 (0, 0))) ∧ (w_.ownsRow w.heap.size 5 1 (.slice ad3 n3 c3) m ((List.range m).map fun i => .int .u8 (qZ9 k i))) ∧ Grow w w_) _ ⟨0, none, 0, 0, rfl, zD2 ⟨rfl, rfl, rfl, rfl, rfl, rfl, rfl, trivial⟩, by omega, hc4, hc30, World.ownsRow_nil _ _ _ _, G⟩ ?_
    clear hc4 hc30
    clear G
    rintro m_ e_ w32 ⟨m, ad3, n3, c3, rfl, ⟨e33, rfl⟩, hm, hc4, hc30, own, G⟩
    refine qZ 5 ?_
    refine stp (qC2 rfl rfl ?_ ?_); constructor <;> omega
    refine qZ 1 ?_
    refine stp (qJ0 rfl rfl ?_ ?_ ?_); omega; omega
    refine stp (zH8 rfl ?_ ?_); constructor <;> omega
    refine stp (zC3 rfl rfl ?_ ?_); constructor <;> omega
    refine stp (zI1 rfl rfl ?_)
    refine zA6 ?_
    refine zA3 (b := (decide ((m : Int) < ((3 * ((k / 8) % 5)) + (k % 2))))) rfl (fun hlt => ?_) (fun hlt => ?_)
    ·
     replace hlt := qT hlt
     refine qZ 8 ?_
     refine stp (zH8 rfl ?_ ?_); constructor <;> omega
     refine stp (zF7 rfl rfl ?_)
     refine stp (zB4 (cs := #[.int .u8 (qZ9 k m)]) (el := 5) (fun w => by kernel_rfl) ?_)
     intro bs34 w35 hb36 hc37 g38
     have hge39 := Nat.le_trans G.size hb36
     have ne40 := qN hc4 hb36
     have ne41 := qN hc30 hb36
     replace hc4 := g38.heap hc4
     replace hc30 := g38.heap hc30
     replace own := zB8 own g38
     replace G := G.tr g38
     clear g38
     refine stp (zH1 rfl rfl rfl rfl own (Row.of_block (n := 1) hc37 rfl rfl (by omega)) (fun q_ hq_ => by simp at hq_; subst hq_; rfl) (by simp only [maxLen]; omega) (by omega) G.size ?_)
     intro v42 w43 own6 gr6
     replace G := G.grown gr6 (zJ7 own)
     replace hc4 := zG7 gr6 hc4 (zD3 own hc4 (by decide))
     replace hc30 := zG7 gr6 hc30 (zD3 own hc30 (by decide))
     clear own gr6
     obtain ⟨ad4, n4, c4, rfl⟩ := zE6 own6
     refine qZ 1 ?_
     refine stn (zC2 (v := .slice ad4 n4 c4) rfl rfl (by rfl) hc30 (by rfl) (by rfl) ?_)
     intro w44 hc45 u46
     replace hc4 := u46.heap hc4 ne22
     replace own6 := zF1 own6 u46 (zD3 own6 hc30 (by decide))
     replace G := G.upd u46 hge21
     clear u46 hc30
     refine qZ 3 ?_
     refine stp (zC3 rfl rfl ?_ ?_); constructor <;> omega
     refine qZ 2 ?_
     refine ⟨_, ?_, m + 1, ad4, n4, c4, rfl, zD2 ⟨rfl, rfl, rfl, rfl, rfl, rfl, congrArg (Value.int .i64) (by omega), trivial⟩, by omega, hc4, hc45, (by rw [List.range_succ, List.map_append]; exact own6), G⟩
     omega
    ·
     replace hlt := qF hlt
     have hm2 : m = (3 * (k / 8 % 5) + k % 2).toNat := by omega
     have ht : zE9 (d + 1) (k :: c) = (.mk 2 2 [] ((List.range (3 * (k / 8 % 5) + k % 2).toNat).map (qZ9 k)) [], c) := by simp only [zE9]; rw [if_neg h2, if_pos (by omega)]
     refine qZ 5 ?_
     refine stn (qS hc4 ?_)
     intro w47 hc48 u49
     replace hc30 := u49.heap hc30 ne22.symm
     replace own := zF1 own u49 (zD3 own hc4 (by decide))
     replace G := G.upd u49 hge8
     clear u49 hc4
     refine qZ 3 ?_
     rw [ht]
     refine ret2 (zB0 rfl hc48 (by rfl)) (zA1 (v := .slice ad1 (n - 1) (cp - 1)) rfl) ⟨[_, _, _, _, _], _, _, _, rfl, .mk (by simp [inR]) (by simp [inR]) (Row.nil _ _) (by simp) (zQ1 own hm2 (by omega)) (fun x hx_ => by obtain ⟨i, _, rfl⟩ := List.mem_map.1 hx_; exact yF0 _) (Row.nil _ _) .nil, hnc, (by omega), (by omega), R2, G⟩
   ·
    replace h3 := qF h3
    refine zP8 rfl ?_
    refine stp (zE2 rfl rfl ?_)
    refine qZ 2 ?_
    refine zA3 (b := (decide ((k % 8) = 2))) rfl (fun h4 => ?_) (fun h4 => ?_)
    ·
     replace h4 := qT h4
     refine qZ 3 ?_
     refine stn (zC2 (v := .int .i64 2) rfl rfl (by rfl) hc18 (by rfl) (by rfl) ?_)
     intro w50 hc51 u52
     replace hc4 := u52.heap hc4 ne22
     replace G := G.upd u52 hge21
     clear u52 hc18
     refine qZ 4 ?_
     refine stn (zC2 (v := .int .i64 2) rfl rfl (by rfl) hc51 (by rfl) (by rfl) ?_)
     intro w53 hc54 u55
     replace hc4 := u55.heap hc4 ne22
     replace G := G.upd u55 hge21
     clear u55 hc51
     refine qZ 6 ?_
     refine zG4 (fun m_ e_ w_ => ∃ (m : Nat) (ad3 : Option Addr) (n3 : Nat) (c3 : Nat), m_ = ((3 * (k / 8 % 5) + k % 2)).toNat - m ∧ Fr [(0, .slice ad1 (n - 1) (cp - 1)), (4, .pointer (some ⟨b1, 0, none⟩)), (5, .slice none 0 0), (6, .int .u8 k), (7, .pointer (some ⟨b12, 0, none⟩)), (8, .int .i64 ((k / 8) % 5)), (9, .int .i64 (m : Int))] e_ ∧ ((m : Int) ≤ (3 * (k / 8 % 5) + k % 2)) ∧ (w_.heap[b1]? = some (.cells #[.int .i64 0, .int .i64 0, .slice none 0 0, .slice none 0 0, .slice none 0 0] 48 (0, 0))) ∧ (w_.heap[b12]? = some (.cells #[.int .i64 2, .int .i64 2, .slice none 0 0, .slice ad3 n3 c3, .slice none 0 0] 48 (0, 0))) ∧ (w_.ownsRow w.heap.size 5 1 (.slice ad3 n3 c3) m ((List.range m).map fun i => .int .u8 (qZ9 k i))) ∧ Grow w w_) _ ⟨0, none, 0, 0, rfl, zD2 ⟨rfl, rfl, rfl, rfl, rfl, rfl, rfl, trivial⟩, by omega, hc4, hc54, World.ownsRow_nil _ _ _ _, G⟩ ?_
     clear hc4 hc54
     clear G
     rintro m_ e_ w56 ⟨m, ad3, n3, c3, rfl, ⟨e57, rfl⟩, hm, hc4, hc54, own, G⟩
     refine qZ 5 ?_
     refine stp (qC2 rfl rfl ?_ ?_); constructor <;> omega
     refine qZ 1 ?_
     refine stp (qJ0 rfl rfl ?_ ?_ ?_); omega; omega
     refine stp (zH8 rfl ?_ ?_); constructor <;> omega
     refine stp (zC3 rfl rfl ?_ ?_); constructor <;> omega
     refine stp (zI1 rfl rfl ?_)
     refine zA6 ?_
     refine zA3 (b := (decide ((m : Int) < ((3 * ((k / 8) % 5)) + (k % 2))))) rfl (fun hlt => ?_) (fun hlt => ?_)
     ·
      replace hlt := qT hlt
      refine qZ 8 ?_
      refine stp (zH8 rfl ?_ ?_); constructor <;> omega
      refine stp (zF7 rfl rfl ?_)
      refine stp (zB4 (cs := #[.int .u8 (qZ9 k m)]) (el := 5) (fun w => by kernel_rfl) ?_)
      intro bs58 w59 hb60 hc61 g62
      have hge63 := Nat.le_trans G.size hb60
      have ne64 := qN hc4 hb60
      have ne65 := qN hc54 hb60
      replace hc4 := g62.heap hc4
      replace hc54 := g62.heap hc54
      replace own := zB8 own g62
      replace G := G.tr g62
      clear g62
      refine stp (zH1 rfl rfl rfl rfl own (Row.of_block (n := 1) hc61 rfl rfl (by omega)) (fun q_ hq_ => by simp at hq_; subst hq_; rfl) (by simp only [maxLen]; omega) (by omega) G.size ?_)
      intro v66 w67 own6 gr6
      replace G := G.grown gr6 (zJ7 own)
      replace hc4 := zG7 gr6 hc4 (zD3 own hc4 (by decide))
      replace hc54 := zG7 gr6 hc54 (zD3 own hc54 (by decide))
      clear own gr6
      obtain ⟨ad4, n4, c4, rfl⟩ := zE6 own6
      refine qZ 1 ?_
      refine stn (zC2 (v := .slice ad4 n4 c4) rfl rfl (by rfl) hc54 (by rfl) (by rfl) ?_)
      intro w68 hc69 u70
      replace hc4 := u70.heap hc4 ne22
      replace own6 := zF1 own6 u70 (zD3 own6 hc54 (by decide))
      replace G := G.upd u70 hge21
      clear u70 hc54
      refine qZ 3 ?_
      refine stp (zC3 rfl rfl ?_ ?_); constructor <;> omega
      refine qZ 2 ?_
      refine ⟨_, ?_, m + 1, ad4, n4, c4, rfl, zD2 ⟨rfl, rfl, rfl, rfl, rfl, rfl, congrArg (Value.int .i64) (by omega), trivial⟩, by omega, hc4, hc69, (by rw [List.range_succ, List.map_append]; exact own6), G⟩
      omega
     ·
      replace hlt := qF hlt
      have hm2 : m = (3 * (k / 8 % 5) + k % 2).toNat := by omega
      have ht : zE9 (d + 1) (k :: c) = (.mk 2 2 [] ((List.range (3 * (k / 8 % 5) + k % 2).toNat).map (qZ9 k)) [], c) := by simp only [zE9]; rw [if_neg h2, if_pos (by omega)]
      refine qZ 5 ?_
      refine stn (qS hc4 ?_)
      intro w71 hc72 u73
      replace hc54 := u73.heap hc54 ne22.symm
      replace own := zF1 own u73 (zD3 own hc4 (by decide))
      replace G := G.upd u73 hge8
      clear u73 hc4
      refine qZ 3 ?_
      rw [ht]
      refine ret2 (zB0 rfl hc72 (by rfl)) (zA1 (v := .slice ad1 (n - 1) (cp - 1)) rfl) ⟨[_, _, _, _, _], _, _, _, rfl, .mk (by simp [inR]) (by simp [inR]) (Row.nil _ _) (by simp) (zQ1 own hm2 (by omega)) (fun x hx_ => by obtain ⟨i, _, rfl⟩ := List.mem_map.1 hx_; exact yF0 _) (Row.nil _ _) .nil, hnc, (by omega), (by omega), R2, G⟩
    ·
     replace h4 := qF h4
     refine qZ 2 ?_
     refine stp (zE2 rfl rfl ?_)
     refine qZ 2 ?_
     refine zA3 (b := (decide ((k % 8) = 3))) rfl (fun h5 => ?_) (fun h5 => ?_)
     ·
      replace h5 := qT h5
      refine qZ 3 ?_
      refine stn (zC2 (v := .int .i64 2) rfl rfl (by rfl) hc18 (by rfl) (by rfl) ?_)
      intro w74 hc75 u76
      replace hc4 := u76.heap hc4 ne22
      replace G := G.upd u76 hge21
      clear u76 hc18
      refine qZ 4 ?_
      refine stn (zC2 (v := .int .i64 5) rfl rfl (by rfl) hc75 (by rfl) (by rfl) ?_)
      intro w77 hc78 u79
      replace hc4 := u79.heap hc4 ne22
      replace G := G.upd u79 hge21
      clear u79 hc75
      refine qZ 6 ?_
      refine zG4 (fun m_ e_ w_ => ∃ (m : Nat) (ad3 : Option Addr) (n3 : Nat) (c3 : Nat), m_ = ((k / 8 % 5)).toNat - m ∧ Fr [(0, .slice ad1 (n - 1) (cp - 1)), (4, .pointer (some ⟨b1, 0, none⟩)), (5, .slice none 0 0), (6, .int .u8 k), (7, .pointer (some ⟨b12, 0, none⟩)), (8, .int .i64 ((k / 8) % 5)), (10, .int .i64 (m : Int))] e_ ∧ ((m : Int) ≤ (k / 8 % 5)) ∧ (w_.heap[b1]? = some (.cells #[.int .i64 0, .int .i64 0, .slice none 0 0, .slice none 0 0, .slice none 0 0] 48 (0, 0))) ∧ (w_.heap[b12]? = some (.cells #[.int .i64 2, .int .i64 5, .slice ad3 n3 c3, .slice none 0 0, .slice none 0 0] 48 (0, 0))) ∧ (w_.ownsRow w.heap.size 23 1 (.slice ad3 n3 c3) m ((List.range m).map fun i => .int .u64 (yE9 k i))) ∧ Grow w w_) _ ⟨0, none, 0, 0, rfl, zD2 ⟨rfl, rfl, rfl, rfl, rfl, rfl, rfl, trivial⟩, by omega, hc4, hc78, World.ownsRow_nil _ _ _ _, G⟩ ?_
      clear hc4 hc78
      clear G
      rintro m_ e_ w80 ⟨m, ad3, n3, c3, rfl, ⟨e81, rfl⟩, hm, hc4, hc78, own, G⟩
      refine qZ 5 ?_
      refine stp (zI1 rfl rfl ?_)
      refine zA6 ?_
      refine zA3 (b := (decide ((m : Int) < ((k / 8) % 5)))) rfl (fun hlt => ?_) (fun hlt => ?_)
      ·
       replace hlt := qT hlt
       refine qZ 7 ?_
       refine stp (zH8 rfl ?_ ?_); constructor <;> omega
       refine stp (zW2 rfl rfl ?_)
       refine qZ 1 ?_
       refine stp (zH8 rfl ?_ ?_); constructor <;> omega
       refine stp (zF7 rfl rfl ?_)
       refine stp (zB4 (cs := #[.int .u64 (yE9 k m)]) (el := 23) (fun w => by kernel_rfl) ?_)
       intro bs82 w83 hb84 hc85 g86
       have hge87 := Nat.le_trans G.size hb84
       have ne88 := qN hc4 hb84
       have ne89 := qN hc78 hb84
       replace hc4 := g86.heap hc4
       replace hc78 := g86.heap hc78
       replace own := zB8 own g86
       replace G := G.tr g86
       clear g86
       refine stp (zH1 rfl rfl rfl rfl own (Row.of_block (n := 1) hc85 rfl rfl (by omega)) (fun q_ hq_ => by simp at hq_; subst hq_; rfl) (by simp only [maxLen]; omega) (by omega) G.size ?_)
       intro v90 w91 own6 gr6
       replace G := G.grown gr6 (zJ7 own)
       replace hc4 := zG7 gr6 hc4 (zD3 own hc4 (by decide))
       replace hc78 := zG7 gr6 hc78 (zD3 own hc78 (by decide))
       clear own gr6
       obtain ⟨ad4, n4, c4, rfl⟩ := zE6 own6
       refine qZ 1 ?_
       refine stn (zC2 (v := .slice ad4 n4 c4) rfl rfl (by rfl) hc78 (by rfl) (by rfl) ?_)
       intro w92 hc93 u94
       replace hc4 := u94.heap hc4 ne22
       replace own6 := zF1 own6 u94 (zD3 own6 hc78 (by decide))
       replace G := G.upd u94 hge21
       clear u94 hc78
       refine qZ 3 ?_
       refine stp (zC3 rfl rfl ?_ ?_); constructor <;> omega
       refine qZ 2 ?_
       refine ⟨_, ?_, m + 1, ad4, n4, c4, rfl, zD2 ⟨rfl, rfl, rfl, rfl, rfl, rfl, congrArg (Value.int .i64) (by omega), trivial⟩, by omega, hc4, hc93, (by rw [List.range_succ, List.map_append]; exact own6), G⟩
       omega
      ·
       replace hlt := qF hlt
       have hm2 : m = (k / 8 % 5).toNat := by omega
       have ht : zE9 (d + 1) (k :: c) = (.mk 2 5 ((List.range (k / 8 % 5).toNat).map (yE9 k)) [] [], c) := by simp only [zE9]; rw [if_neg h2, if_neg (by omega), if_pos h5]
       refine qZ 5 ?_
       refine stn (qS hc4 ?_)
       intro w95 hc96 u97
       replace hc78 := u97.heap hc78 ne22.symm
       replace own := zF1 own u97 (zD3 own hc4 (by decide))
       replace G := G.upd u97 hge8
       clear u97 hc4
       refine qZ 3 ?_
       rw [ht]
       refine ret2 (zB0 rfl hc96 (by rfl)) (zA1 (v := .slice ad1 (n - 1) (cp - 1)) rfl) ⟨[_, _, _, _, _], _, _, _, rfl, .mk (by simp [inR]) (by simp [inR]) (zQ1 own hm2 (by omega)) (fun x hx_ => by obtain ⟨i, _, rfl⟩ := List.mem_map.1 hx_; exact qV2 _) (Row.nil _ _) (by simp) (Row.nil _ _) .nil, hnc, (by omega), (by omega), R2, G⟩
     ·
      replace h5 := qF h5
      refine qZ 3 ?_
      refine stn (zC2 (v := .int .i64 1) rfl rfl (by rfl) hc18 (by rfl) (by rfl) ?_)
      intro w98 hc99 u100
      replace hc4 := u100.heap hc4 ne22
      replace G := G.upd u100 hge21
      clear u100 hc18
      refine qZ 5 ?_
      refine stp (qJ0 rfl rfl ?_ ?_ ?_); omega; omega
      refine stp (zQ7 rfl rfl ?_)
      refine zA6 ?_
      refine zA3 (b := (decide ((k % 8) > 6))) rfl (fun h6 => ?_) (fun h6 => ?_)
      ·
       replace h6 := qT h6
       refine qZ 3 ?_
       refine stn (zC2 (v := .int .i64 2) rfl rfl (by rfl) hc99 (by rfl) (by rfl) ?_)
       intro w101 hc102 u103
       replace hc4 := u103.heap hc4 ne22
       replace G := G.upd u103 hge21
       clear u103 hc99
       refine qZ 3 ?_
       refine stn (zC2 (v := .int .i64 6) rfl rfl (by rfl) hc102 (by rfl) (by rfl) ?_)
       intro w104 hc105 u106
       replace hc4 := u106.heap hc4 ne22
       replace G := G.upd u106 hge21
       clear u106 hc102
       refine qZ 7 ?_
       refine zG4 (fun m_ e_ w_ => m_ = 0 ∧ Fr [(0, .slice ad1 (n - 1) (cp - 1)), (1, .int .i64 ((d + 1 : Nat) : Int)), (4, .pointer (some ⟨b1, 0, none⟩)), (5, .slice none 0 0), (6, .int .u8 k), (7, .pointer (some ⟨b12, 0, none⟩)), (8, .int .i64 ((k / 8) % 5)), (11, .int .i64 0)] e_ ∧ (w_.heap[b1]? = some (.cells #[.int .i64 0, .int .i64 0, .slice none 0 0, .slice none 0 0, .slice none 0 0] 48 (0, 0))) ∧ (w_.heap[b12]? = some (.cells #[.int .i64 2, .int .i64 6, .slice none 0 0, .slice none 0 0, .slice none 0 0] 48 (0, 0))) ∧ Grow w w_) _ ⟨rfl, zD2 ⟨rfl, rfl, rfl, rfl, rfl, rfl, rfl, rfl, trivial⟩, hc4, hc105, G⟩ ?_
       clear hc4 hc105
       clear G
       rintro m_ e_ w107 ⟨rfl, ⟨e108, rfl⟩, hc4, hc105, G⟩
       refine qZ 5 ?_
       refine stp (qT4 rfl rfl ?_ ?_ ?_ ?_); omega; omega; (constructor <;> omega)
       refine stp (zH8 rfl ?_ ?_); constructor <;> omega
       refine stp (zI1 rfl rfl ?_)
       refine qZ 1 ?_
       refine qG 2 ?_
       refine zA4 (zB7 (s := .bool _) (v := .bool false) rfl (zG3 _) (fun hc111 => ?_) ?_)
       ·
        have hc111_ := qT hc111
        refine qP6 (gvt hc111) rfl (by decide) ?_
        exact ⟨rfl, rfl⟩
       refine stp (zI8 rfl rfl rfl ?_)
       refine zA6 ?_
       refine zJ5 (show _ = Value.bool false from congrArg Value.bool (by simp)) ?_
       refine qZ 6 ?_
       obtain ⟨B, hB⟩ : ∃ B, B = w107.heap.size := ⟨_, rfl⟩
       have hB7 : b12 < B := by rw [hB]; exact zC1 hc105
       have hwB : w.heap.size ≤ B := by rw [hB]; exact G.size
       have hBw : B ≤ w107.heap.size := by rw [hB]; exact Nat.le_refl _
       have hB4 : b1 < B := by rw [hB]; exact zC1 hc4
       clear hB
       have hc1 : (zH7 (zE9 d) 0 c).2 = c := rfl
       refine zG4 (fun m_ e_ w_ => ∃ (j : Nat) (ad5 : Option Addr) (n5 : Nat) (c5 : Nat) (ad6 : Option Addr) (n6 : Nat) (c6 : Nat) (kc : List Value) (V : Nat → Prop), m_ = (k / 8 % 5).toNat - j ∧ Fr [(1, .int .i64 ((d + 1 : Nat) : Int)), (4, .pointer (some ⟨b1, 0, none⟩)), (5, .slice none 0 0), (7, .pointer (some ⟨b12, 0, none⟩)), (8, .int .i64 ((k / 8) % 5)), (12, .int .i64 (j : Int)), (0, .slice ad5 n5 c5)] e_ ∧ ((j : Int) ≤ (k / 8 % 5)) ∧ (n5 = (zH7 (zE9 d) j c).2.length) ∧ (n5 ≤ c5) ∧ (c5 ≤ maxLen) ∧ (RowAt w0 1 ad5 n5 ((zH7 (zE9 d) j c).2.map (.int .u8))) ∧ (∀ x, (Value.slice ad6 n6 c6).ownBlock = some x → ¬ V x) ∧ (w_.heap[b1]? = some (.cells #[.int .i64 0, .int .i64 0, .slice none 0 0, .slice none 0 0, .slice none 0 0] 48 (0, 0))) ∧ (w_.heap[b12]? = some (.cells #[.int .i64 2, .int .i64 6, .slice none 0 0, .slice none 0 0, .slice ad6 n6 c6] 48 (0, 0))) ∧ (B ≤ w_.heap.size) ∧ (w_.ownsRow B 48 5 (.slice ad6 n6 c6) j kc) ∧ (∀ x, V x → B ≤ x ∧ x < w_.heap.size) ∧ (KidsR (see V w_) kc (zH7 (zE9 d) j c).1) ∧ Grow w w_) _ ⟨0, ad1, n - 1, cp - 1, none, 0, 0, [], fun _ => False, rfl, zD2 ⟨rfl, rfl, rfl, rfl, rfl, rfl, rfl, trivial⟩, by omega, hnc, by omega, by omega, R2, fun x _ h_ => h_, hc4, hc105, hBw, World.ownsRow_nil _ _ _ _, fun x h_ => h_.elim, .nil, G⟩ ?_
       clear hc4 hc105
       clear G
       rintro m_ e_ w112 ⟨j, ad5, n5, c5, ad6, n6, c6, kc, V, rfl, ⟨e113, rfl⟩, hj, hn5, hc5, hc52, hR5, hVo, hc4, hc105, hBw, ownk, hV, hK, G⟩
       refine qZ 5 ?_
       refine stp (zI1 rfl rfl ?_)
       refine zA6 ?_
       refine zA3 (b := (decide ((j : Int) < ((k / 8) % 5)))) rfl (fun hlt => ?_) (fun hlt => ?_)
       ·
        replace hlt := qT hlt
        refine qZ 7 ?_
        refine stp (zL2 rfl rfl ?_ ?_); constructor <;> omega
        refine stp ?_
        have hBw0 := hBw
        have hol := fun x hx_ => (ownk.lt x hx_).2
        have hcal := ih_ _ (d := d) hR5 (g0.tr G) hn5 (qA7 d j c hxc) hc5 hc52 (by omega) (by omega)
        rw [show ((d : Nat) : Int) = ((d + 1 : Nat) : Int) - 1 from by omega] at hcal
        refine zC8 rfl hcal ?_
        rintro v_ w114 ⟨cells, ad9, n9, c9, rfl, hT9, hn9, hc9, hc92, hR9, g_⟩
        have hsz9 := zC1 hc105
        replace hc4 := g_.heap hc4
        replace hc105 := g_.heap hc105
        replace hBw := Nat.le_trans hBw g_.size
        replace ownk := zB8 ownk g_
        replace hV := vlt hV g_.size
        replace hK := hK.sees (Sees.grow g_)
        replace G := G.tr g_
        clear g_
        obtain ⟨y0, y1, ya, yn, yc, za, zn, zc, ua, un, uc, rfl⟩ := hT9.cells
        have hT8 := hT9.sees (Sees.more (V' := fun x => V x ∨ (w112.heap.size ≤ x ∧ x < w114.heap.size)) w114 (fun x h1_ h2_ => .inr ⟨h2_, h1_⟩))
        clear hT9
        replace hK := hK.sees (Sees.more (V' := fun x => V x ∨ (w112.heap.size ≤ x ∧ x < w114.heap.size)) w114 (fun x _ h2_ => .inl h2_))
        have hV9 : ∀ x, (V x ∨ (w112.heap.size ≤ x ∧ x < w114.heap.size)) → B ≤ x ∧ x < w114.heap.size := fun x hx_ => hx_.elim (fun h_ => hV x h_) (fun h_ => ⟨Nat.le_trans hBw0 h_.1, h_.2⟩)
        have hVo9 : ∀ x, (Value.slice ad6 n6 c6).ownBlock = some x → ¬ (V x ∨ (w112.heap.size ≤ x ∧ x < w114.heap.size)) := fun x hx_ hv_ => hv_.elim (hVo x hx_) (fun h_ => by have := (hol x hx_); omega)
        clear hV hVo
        obtain ⟨V9, hV9e⟩ : ∃ V9 : Nat → Prop, V9 = fun x => V x ∨ (w112.heap.size ≤ x ∧ x < w114.heap.size) := ⟨_, rfl⟩
        rw [← hV9e] at hT8 hK
        have hV : ∀ x, V9 x → B ≤ x ∧ x < w114.heap.size := by rw [hV9e]; exact hV9
        have hVo : ∀ x, (Value.slice ad6 n6 c6).ownBlock = some x → ¬ V9 x := by rw [hV9e]; exact hVo9
        clear hV9 hVo9 hV9e hBw0 hol
        refine qZ 3 ?_
        refine stp (zB2 ?_)
        intro b115 w116 hb117 hc118 g119
        refine stn (qS hc118 ?_)
        intro w120 hc121 u122
        have g123 := g119.upd u122 hb117
        have hge124 := Nat.le_trans G.size hb117
        have ne125 := qN hc4 hb117
        have ne126 := qN hc105 hb117
        replace hc4 := g123.heap hc4
        replace hc105 := g123.heap hc105
        replace hBw := Nat.le_trans hBw g123.size
        replace ownk := zB8 ownk g123
        replace hK := hK.sees (Sees.grow g123)
        replace hT8 := hT8.sees (Sees.grow g123)
        replace hV := vlt hV g123.size
        replace G := G.tr g123
        clear u122 g119 hb117 hc118
        refine qZ 11 ?_
        refine stp (zB4 (cs := #[.int .i64 y0, .int .i64 y1, .slice ya yn yc, .slice za zn zc, .slice ua un uc]) (el := 48) (fun w => by kernel_rfl) ?_)
        intro bs127 w128 hb129 hc130 g131
        have hge132 := Nat.le_trans G.size hb129
        have ne133 := qN hc4 hb129
        have ne134 := qN hc105 hb129
        have ne135 := qN hc121 hb129
        replace hc4 := g131.heap hc4
        replace hc105 := g131.heap hc105
        replace hBw := Nat.le_trans hBw g131.size
        replace ownk := zB8 ownk g131
        replace hK := hK.sees (Sees.grow g131)
        replace hT8 := hT8.sees (Sees.grow g131)
        replace hV := vlt hV g131.size
        replace hc121 := g131.heap hc121
        replace G := G.tr g131
        clear g131
        refine stp (zW8 rfl rfl rfl rfl ownk (Row.of_block (n := 1) hc130 rfl rfl (by omega)) (fun q_ hq_ => by simp at hq_; rcases hq_ with rfl | rfl | rfl | rfl | rfl <;> rfl) (by simp only [maxLen]; omega) (by omega) hBw ?_)
        intro v136 w137 own6 gr6 hbk6
        have k6_ : Kp (Value.slice ad6 n6 c6).ownBlock.toList w128 w137 := Kp.of_grownBy gr6 (fun k_ hk_ => by rw [Option.mem_toList]; exact hk_)
        have hF6 : ∀ x ∈ (Value.slice ad6 n6 c6).ownBlock.toList, B ≤ x := fun x hx_ => zJ7 ownk x (Option.mem_toList.1 hx_)
        have hF7 : ∀ x ∈ (Value.slice ad6 n6 c6).ownBlock.toList, ¬ V9 x := fun x hx_ => hVo x (Option.mem_toList.1 hx_)
        replace hT8 := hT8.sees (Sees.kp k6_ hF7)
        replace hK := hK.sees (Sees.kp k6_ hF7)
        have hVo6 : ∀ x, v136.ownBlock = some x → ¬ V9 x := fun x hx_ hv_ => hbk6.elim (fun h_ => hVo x (h_ ▸ hx_) hv_) (fun h_ => by rw [h_] at hx_; simp only [Option.some.injEq] at hx_; have := (hV x hv_).2; omega)
        replace hV := fun x hx_ => (⟨(hV x hx_).1, Nat.lt_of_lt_of_le (hV x hx_).2 k6_.size⟩ : B ≤ x ∧ x < w137.heap.size)
        replace G := G.trK k6_ (fun x hx_ => Nat.le_trans hwB (hF6 x hx_))
        clear hc121
        replace hc4 := k6_.heap hc4 (fun hm_ => by have h1_ := hF6 _ hm_; have := hB4; omega)
        replace hc105 := k6_.heap hc105 (fun hm_ => by have h1_ := hF6 _ hm_; omega)
        replace hBw := Nat.le_trans hBw k6_.size
        clear ownk gr6 hVo k6_ hF6 hF7 hbk6
        obtain ⟨ad7, n7, c7, rfl⟩ := zE6 own6
        refine qZ 1 ?_
        refine stn (zC2 (v := .slice ad7 n7 c7) rfl rfl (by rfl) hc105 (by rfl) (by rfl) ?_)
        intro w138 hc139 u140
        replace hc4 := u140.heap hc4 ne22
        replace own6 := zF1 own6 u140 (fun he_ => by have := zJ7 own6 _ he_; omega)
        replace hT8 := hT8.sees (Sees.upd u140 (fun h_ => by have := (hV _ h_).1; omega))
        replace hK := hK.sees (Sees.upd u140 (fun h_ => by have := (hV _ h_).1; omega))
        replace hV := fun x hx_ => (⟨(hV x hx_).1, Nat.lt_of_lt_of_le (hV x hx_).2 (Nat.le_of_eq u140.size.symm)⟩ : B ≤ x ∧ x < w138.heap.size)
        replace hBw : B ≤ w138.heap.size := by rw [u140.size]; exact hBw
        replace G := G.upd u140 hge21
        clear hc105
        refine qZ 3 ?_
        refine stp (zC3 rfl rfl ?_ ?_); constructor <;> omega
        refine qZ 2 ?_
        refine ⟨_, ?_, j + 1, ad9, n9, c9, ad7, n7, c7, _, V9, rfl, zD2 ⟨rfl, rfl, rfl, rfl, rfl, congrArg (Value.int .i64) (by omega), rfl, trivial⟩, by omega, hn9, hc9, hc92, hR9, hVo6, hc4, hc139, hBw, own6, hV, (KidsR.append hK (by have := KidsR.cons hT8 .nil; simpa using this)), G⟩
        omega
       ·
        replace hlt := qF hlt
        have hj2 : j = (k / 8 % 5).toNat := by omega
        have hlk := zP0 (zE9 d) j c
        have hrk : Row (hide B w112) 5 (.slice ad6 n6 c6) (zH7 (zE9 d) j c).1.length kc := by rw [hlk]; exact zY6 ownk (by omega)
        have hK9 := hK.sees (Sees.more (V' := fun x => B ≤ x) _ (fun x _ hx_ => (hV x hx_).1))
        clear hK hV
        have ht : zE9 (d + 1) (k :: c) = (.mk 2 6 [] [] (zH7 (zE9 d) j c).1, (zH7 (zE9 d) j c).2) := by simp only [zE9]; rw [if_neg h2, if_neg (by omega), if_neg h5, if_pos h6, ← hj2]
        refine qZ 5 ?_
        refine stn (qS hc4 ?_)
        intro w141 hc142 u143
        replace hc105 := u143.heap hc105 ne22.symm
        replace hrk := hrk.sees (Sees.upd u143 (fun h_ => by omega))
        replace hK9 := hK9.sees (Sees.upd u143 (fun h_ => by omega))
        replace G := G.upd u143 hge8
        clear u143 hc4
        refine qZ 3 ?_
        rw [ht]
        refine ret2 (zB0 rfl hc142 (by rfl)) (zA1 (v := .slice ad5 n5 c5) rfl) ⟨[_, _, _, _, _], _, _, _, rfl, .mk (by simp [inR]) (by simp [inR]) (Row.nil _ _) (by simp) (Row.nil _ _) (by simp) (hrk.sees (Sees.low hwB _)) (hK9.sees (Sees.low hwB _)), hn5, hc5, hc52, hR5, G⟩
      ·
       replace h6 := qF h6
       have hkd6 : ¬ k % 8 > 6 := h6
       refine qZ 7 ?_
       refine zG4 (fun m_ e_ w_ => ∃ (m : Nat) (ad3 : Option Addr) (n3 : Nat) (c3 : Nat), m_ = ((k / 64)).toNat - m ∧ Fr [(0, .slice ad1 (n - 1) (cp - 1)), (1, .int .i64 ((d + 1 : Nat) : Int)), (4, .pointer (some ⟨b1, 0, none⟩)), (5, .slice none 0 0), (6, .int .u8 k), (7, .pointer (some ⟨b12, 0, none⟩)), (8, .int .i64 ((k / 8) % 5)), (11, .int .i64 (m : Int))] e_ ∧ ((m : Int) ≤ (k / 64)) ∧ (w_.heap[b1]? = some (.cells #[.int .i64 0, .int .i64 0, .slice none 0 0, .slice none 0 0, .slice none 0 0] 48 (0, 0))) ∧ (w_.heap[b12]? = some (.cells #[.int .i64 1, .int .i64 0, .slice ad3 n3 c3, .slice none 0 0, .slice none 0 0] 48 (0, 0))) ∧ (w_.ownsRow w.heap.size 23 1 (.slice ad3 n3 c3) m ((List.range m).map fun i => .int .u64 (qV1 k i))) ∧ Grow w w_) _ ⟨0, none, 0, 0, rfl, zD2 ⟨rfl, rfl, rfl, rfl, rfl, rfl, rfl, rfl, trivial⟩, by omega, hc4, hc99, World.ownsRow_nil _ _ _ _, G⟩ ?_
       clear hc4 hc99
       clear G
       rintro m_ e_ w144 ⟨m, ad3, n3, c3, rfl, ⟨e145, rfl⟩, hm, hc4, hc99, own, G⟩
       refine qZ 5 ?_
       refine stp (qT4 rfl rfl ?_ ?_ ?_ ?_); omega; omega; (constructor <;> omega)
       refine stp (zH8 rfl ?_ ?_); constructor <;> omega
       refine stp (zI1 rfl rfl ?_)
       refine qZ 1 ?_
       refine qG 2 ?_
       refine zA4 (zB7 (s := .bool _) (v := .bool true) rfl (zG3 _) (fun hc148 => ?_) ?_)
       ·
        have hc148_ := qT hc148
        refine zQ8 (gvt hc148) rfl (by decide) ?_
        exact ⟨rfl, rfl⟩
       refine stp (zI8 rfl rfl rfl ?_)
       refine zA6 ?_
       refine zA3 (b := ((decide ((m : Int) < (k / 64))) && true)) rfl (fun hlt => ?_) (fun hlt => ?_)
       ·
        simp only [sb] at hlt
        refine qZ 7 ?_
        refine stp (zH8 rfl ?_ ?_); constructor <;> omega
        refine qZ 1 ?_
        refine stp (qC2 rfl rfl ?_ ?_); constructor <;> omega
        refine stp (zH8 rfl ?_ ?_); constructor <;> omega
        refine stp (qZ2 rfl rfl ?_ ?_); omega
        refine qZ 1 ?_
        refine stp (zH8 rfl ?_ ?_); constructor <;> omega
        refine stp (zF7 rfl rfl ?_)
        refine stp (zB4 (cs := #[.int .u64 (qV1 k m)]) (el := 23) (fun w => by kernel_rfl) ?_)
        intro bs149 w150 hb151 hc152 g153
        have hge154 := Nat.le_trans G.size hb151
        have ne155 := qN hc4 hb151
        have ne156 := qN hc99 hb151
        replace hc4 := g153.heap hc4
        replace hc99 := g153.heap hc99
        replace own := zB8 own g153
        replace G := G.tr g153
        clear g153
        refine stp (zH1 rfl rfl rfl rfl own (Row.of_block (n := 1) hc152 rfl rfl (by omega)) (fun q_ hq_ => by simp at hq_; subst hq_; rfl) (by simp only [maxLen]; omega) (by omega) G.size ?_)
        intro v157 w158 own6 gr6
        replace G := G.grown gr6 (zJ7 own)
        replace hc4 := zG7 gr6 hc4 (zD3 own hc4 (by decide))
        replace hc99 := zG7 gr6 hc99 (zD3 own hc99 (by decide))
        clear own gr6
        obtain ⟨ad4, n4, c4, rfl⟩ := zE6 own6
        refine qZ 1 ?_
        refine stn (zC2 (v := .slice ad4 n4 c4) rfl rfl (by rfl) hc99 (by rfl) (by rfl) ?_)
        intro w159 hc160 u161
        replace hc4 := u161.heap hc4 ne22
        replace own6 := zF1 own6 u161 (zD3 own6 hc99 (by decide))
        replace G := G.upd u161 hge21
        clear u161 hc99
        refine qZ 3 ?_
        refine stp (zC3 rfl rfl ?_ ?_); constructor <;> omega
        refine qZ 2 ?_
        refine ⟨_, ?_, m + 1, ad4, n4, c4, rfl, zD2 ⟨rfl, rfl, rfl, rfl, rfl, rfl, rfl, congrArg (Value.int .i64) (by omega), trivial⟩, by omega, hc4, hc160, (by rw [List.range_succ, List.map_append]; exact own6), G⟩
        omega
       ·
        simp only [sb] at hlt
        have hm2 : m = (k / 64).toNat := by omega
        refine qZ 6 ?_
        obtain ⟨B, hB⟩ : ∃ B, B = w144.heap.size := ⟨_, rfl⟩
        have hB7 : b12 < B := by rw [hB]; exact zC1 hc99
        have hwB : w.heap.size ≤ B := by rw [hB]; exact G.size
        have hBw : B ≤ w144.heap.size := by rw [hB]; exact Nat.le_refl _
        have hB4 : b1 < B := by rw [hB]; exact zC1 hc4
        clear hB
        have hc1 : (zH7 (zE9 d) 0 c).2 = c := rfl
        refine zG4 (fun m_ e_ w_ => ∃ (j : Nat) (ad5 : Option Addr) (n5 : Nat) (c5 : Nat) (ad6 : Option Addr) (n6 : Nat) (c6 : Nat) (kc : List Value) (V : Nat → Prop), m_ = (k / 8 % 5).toNat - j ∧ Fr [(1, .int .i64 ((d + 1 : Nat) : Int)), (4, .pointer (some ⟨b1, 0, none⟩)), (5, .slice none 0 0), (7, .pointer (some ⟨b12, 0, none⟩)), (8, .int .i64 ((k / 8) % 5)), (12, .int .i64 (j : Int)), (0, .slice ad5 n5 c5)] e_ ∧ ((j : Int) ≤ (k / 8 % 5)) ∧ (n5 = (zH7 (zE9 d) j c).2.length) ∧ (n5 ≤ c5) ∧ (c5 ≤ maxLen) ∧ (RowAt w0 1 ad5 n5 ((zH7 (zE9 d) j c).2.map (.int .u8))) ∧ (∀ x, (Value.slice ad6 n6 c6).ownBlock = some x → ¬ V x) ∧ (w_.heap[b1]? = some (.cells #[.int .i64 0, .int .i64 0, .slice none 0 0, .slice none 0 0, .slice none 0 0] 48 (0, 0))) ∧ (w_.ownsRow w.heap.size 23 1 (.slice ad3 n3 c3) m ((List.range m).map fun i => .int .u64 (qV1 k i))) ∧ (w_.heap[b12]? = some (.cells #[.int .i64 1, .int .i64 0, .slice ad3 n3 c3, .slice none 0 0, .slice ad6 n6 c6] 48 (0, 0))) ∧ (B ≤ w_.heap.size) ∧ (w_.ownsRow B 48 5 (.slice ad6 n6 c6) j kc) ∧ (∀ x, V x → B ≤ x ∧ x < w_.heap.size) ∧ (KidsR (see V w_) kc (zH7 (zE9 d) j c).1) ∧ Grow w w_) _ ⟨0, ad1, n - 1, cp - 1, none, 0, 0, [], fun _ => False, rfl, zD2 ⟨rfl, rfl, rfl, rfl, rfl, rfl, rfl, trivial⟩, by omega, hnc, by omega, by omega, R2, fun x _ h_ => h_, hc4, own, hc99, hBw, World.ownsRow_nil _ _ _ _, fun x h_ => h_.elim, .nil, G⟩ ?_
        clear hc4 hc99 own
        clear G
        rintro m_ e_ w162 ⟨j, ad5, n5, c5, ad6, n6, c6, kc, V, rfl, ⟨e163, rfl⟩, hj, hn5, hc5, hc52, hR5, hVo, hc4, own, hc99, hBw, ownk, hV, hK, G⟩
        refine qZ 5 ?_
        refine stp (zI1 rfl rfl ?_)
        refine zA6 ?_
        refine zA3 (b := (decide ((j : Int) < ((k / 8) % 5)))) rfl (fun hlt => ?_) (fun hlt => ?_)
        ·
         replace hlt := qT hlt
         refine qZ 7 ?_
         refine stp (zL2 rfl rfl ?_ ?_); constructor <;> omega
         refine stp ?_
         have hBw0 := hBw
         have hol := fun x hx_ => (ownk.lt x hx_).2
         have hcal := ih_ _ (d := d) hR5 (g0.tr G) hn5 (qA7 d j c hxc) hc5 hc52 (by omega) (by omega)
         rw [show ((d : Nat) : Int) = ((d + 1 : Nat) : Int) - 1 from by omega] at hcal
         refine zC8 rfl hcal ?_
         rintro v_ w164 ⟨cells, ad9, n9, c9, rfl, hT9, hn9, hc9, hc92, hR9, g_⟩
         have hsz9 := zC1 hc99
         replace hc4 := g_.heap hc4
         replace own := zB8 own g_
         replace hc99 := g_.heap hc99
         replace hBw := Nat.le_trans hBw g_.size
         replace ownk := zB8 ownk g_
         replace hV := vlt hV g_.size
         replace hK := hK.sees (Sees.grow g_)
         replace G := G.tr g_
         clear g_
         obtain ⟨y0, y1, ya, yn, yc, za, zn, zc, ua, un, uc, rfl⟩ := hT9.cells
         have hT8 := hT9.sees (Sees.more (V' := fun x => V x ∨ (w162.heap.size ≤ x ∧ x < w164.heap.size)) w164 (fun x h1_ h2_ => .inr ⟨h2_, h1_⟩))
         clear hT9
         replace hK := hK.sees (Sees.more (V' := fun x => V x ∨ (w162.heap.size ≤ x ∧ x < w164.heap.size)) w164 (fun x _ h2_ => .inl h2_))
         have hV9 : ∀ x, (V x ∨ (w162.heap.size ≤ x ∧ x < w164.heap.size)) → B ≤ x ∧ x < w164.heap.size := fun x hx_ => hx_.elim (fun h_ => hV x h_) (fun h_ => ⟨Nat.le_trans hBw0 h_.1, h_.2⟩)
         have hVo9 : ∀ x, (Value.slice ad6 n6 c6).ownBlock = some x → ¬ (V x ∨ (w162.heap.size ≤ x ∧ x < w164.heap.size)) := fun x hx_ hv_ => hv_.elim (hVo x hx_) (fun h_ => by have := (hol x hx_); omega)
         clear hV hVo
         obtain ⟨V9, hV9e⟩ : ∃ V9 : Nat → Prop, V9 = fun x => V x ∨ (w162.heap.size ≤ x ∧ x < w164.heap.size) := ⟨_, rfl⟩
         rw [← hV9e] at hT8 hK
         have hV : ∀ x, V9 x → B ≤ x ∧ x < w164.heap.size := by rw [hV9e]; exact hV9
         have hVo : ∀ x, (Value.slice ad6 n6 c6).ownBlock = some x → ¬ V9 x := by rw [hV9e]; exact hVo9
         clear hV9 hVo9 hV9e hBw0 hol
         refine qZ 3 ?_
         refine stp (zB2 ?_)
         intro b165 w166 hb167 hc168 g169
         refine stn (qS hc168 ?_)
         intro w170 hc171 u172
         have g173 := g169.upd u172 hb167
         have hge174 := Nat.le_trans G.size hb167
         have ne175 := qN hc4 hb167
         have ne176 := qN hc99 hb167
         replace hc4 := g173.heap hc4
         replace own := zB8 own g173
         replace hc99 := g173.heap hc99
         replace hBw := Nat.le_trans hBw g173.size
         replace ownk := zB8 ownk g173
         replace hK := hK.sees (Sees.grow g173)
         replace hT8 := hT8.sees (Sees.grow g173)
         replace hV := vlt hV g173.size
         replace G := G.tr g173
         clear u172 g169 hb167 hc168
         refine qZ 11 ?_
         refine stp (zB4 (cs := #[.int .i64 y0, .int .i64 y1, .slice ya yn yc, .slice za zn zc, .slice ua un uc]) (el := 48) (fun w => by kernel_rfl) ?_)
         intro bs177 w178 hb179 hc180 g181
         have hge182 := Nat.le_trans G.size hb179
         have ne183 := qN hc4 hb179
         have ne184 := qN hc99 hb179
         have ne185 := qN hc171 hb179
         replace hc4 := g181.heap hc4
         replace own := zB8 own g181
         replace hc99 := g181.heap hc99
         replace hBw := Nat.le_trans hBw g181.size
         replace ownk := zB8 ownk g181
         replace hK := hK.sees (Sees.grow g181)
         replace hT8 := hT8.sees (Sees.grow g181)
         replace hV := vlt hV g181.size
         replace hc171 := g181.heap hc171
         replace G := G.tr g181
         clear g181
         refine stp (zW8 rfl rfl rfl rfl ownk (Row.of_block (n := 1) hc180 rfl rfl (by omega)) (fun q_ hq_ => by simp at hq_; rcases hq_ with rfl | rfl | rfl | rfl | rfl <;> rfl) (by simp only [maxLen]; omega) (by omega) hBw ?_)
         intro v186 w187 own6 gr6 hbk6
         have k6_ : Kp (Value.slice ad6 n6 c6).ownBlock.toList w178 w187 := Kp.of_grownBy gr6 (fun k_ hk_ => by rw [Option.mem_toList]; exact hk_)
         have hF6 : ∀ x ∈ (Value.slice ad6 n6 c6).ownBlock.toList, B ≤ x := fun x hx_ => zJ7 ownk x (Option.mem_toList.1 hx_)
         have hF7 : ∀ x ∈ (Value.slice ad6 n6 c6).ownBlock.toList, ¬ V9 x := fun x hx_ => hVo x (Option.mem_toList.1 hx_)
         replace hT8 := hT8.sees (Sees.kp k6_ hF7)
         replace hK := hK.sees (Sees.kp k6_ hF7)
         have hVo6 : ∀ x, v186.ownBlock = some x → ¬ V9 x := fun x hx_ hv_ => hbk6.elim (fun h_ => hVo x (h_ ▸ hx_) hv_) (fun h_ => by rw [h_] at hx_; simp only [Option.some.injEq] at hx_; have := (hV x hv_).2; omega)
         replace hV := fun x hx_ => (⟨(hV x hx_).1, Nat.lt_of_lt_of_le (hV x hx_).2 k6_.size⟩ : B ≤ x ∧ x < w187.heap.size)
         replace G := G.trK k6_ (fun x hx_ => Nat.le_trans hwB (hF6 x hx_))
         replace own := yW3 own ownk (by decide) gr6
         clear hc171
         replace hc4 := k6_.heap hc4 (fun hm_ => by have h1_ := hF6 _ hm_; have := hB4; omega)
         replace hc99 := k6_.heap hc99 (fun hm_ => by have h1_ := hF6 _ hm_; omega)
         replace hBw := Nat.le_trans hBw k6_.size
         clear ownk gr6 hVo k6_ hF6 hF7 hbk6
         obtain ⟨ad7, n7, c7, rfl⟩ := zE6 own6
         refine qZ 1 ?_
         refine stn (zC2 (v := .slice ad7 n7 c7) rfl rfl (by rfl) hc99 (by rfl) (by rfl) ?_)
         intro w188 hc189 u190
         replace hc4 := u190.heap hc4 ne22
         replace own := zF1 own u190 (zD3 own hc99 (by decide))
         replace own6 := zF1 own6 u190 (fun he_ => by have := zJ7 own6 _ he_; omega)
         replace hT8 := hT8.sees (Sees.upd u190 (fun h_ => by have := (hV _ h_).1; omega))
         replace hK := hK.sees (Sees.upd u190 (fun h_ => by have := (hV _ h_).1; omega))
         replace hV := fun x hx_ => (⟨(hV x hx_).1, Nat.lt_of_lt_of_le (hV x hx_).2 (Nat.le_of_eq u190.size.symm)⟩ : B ≤ x ∧ x < w188.heap.size)
         replace hBw : B ≤ w188.heap.size := by rw [u190.size]; exact hBw
         replace G := G.upd u190 hge21
         clear hc99
         refine qZ 3 ?_
         refine stp (zC3 rfl rfl ?_ ?_); constructor <;> omega
         refine qZ 2 ?_
         refine ⟨_, ?_, j + 1, ad9, n9, c9, ad7, n7, c7, _, V9, rfl, zD2 ⟨rfl, rfl, rfl, rfl, rfl, congrArg (Value.int .i64) (by omega), rfl, trivial⟩, by omega, hn9, hc9, hc92, hR9, hVo6, hc4, own, hc189, hBw, own6, hV, (KidsR.append hK (by have := KidsR.cons hT8 .nil; simpa using this)), G⟩
         omega
        ·
         replace hlt := qF hlt
         have hj2 : j = (k / 8 % 5).toNat := by omega
         have hlk := zP0 (zE9 d) j c
         have hrk : Row (hide B w162) 5 (.slice ad6 n6 c6) (zH7 (zE9 d) j c).1.length kc := by rw [hlk]; exact zY6 ownk (by omega)
         have hK9 := hK.sees (Sees.more (V' := fun x => B ≤ x) _ (fun x _ hx_ => (hV x hx_).1))
         clear hK hV
         have ht : zE9 (d + 1) (k :: c) = (.mk 1 0 ((List.range (k / 64).toNat).map (qV1 k)) [] (zH7 (zE9 d) j c).1, (zH7 (zE9 d) j c).2) := by simp only [zE9]; rw [if_neg h2, if_neg (by omega), if_neg h5, if_neg h6, ← hj2]
         refine qZ 5 ?_
         refine stn (qS hc4 ?_)
         intro w191 hc192 u193
         replace own := zF1 own u193 (zD3 own hc4 (by decide))
         replace hc99 := u193.heap hc99 ne22.symm
         replace hrk := hrk.sees (Sees.upd u193 (fun h_ => by omega))
         replace hK9 := hK9.sees (Sees.upd u193 (fun h_ => by omega))
         replace G := G.upd u193 hge8
         clear u193 hc4
         refine qZ 3 ?_
         rw [ht]
         refine ret2 (zB0 rfl hc192 (by rfl)) (zA1 (v := .slice ad5 n5 c5) rfl) ⟨[_, _, _, _, _], _, _, _, rfl, .mk (by simp [inR]) (by simp [inR]) (zQ1 own hm2 (by omega)) (fun x hx_ => by obtain ⟨i, _, rfl⟩ := List.mem_map.1 hx_; exact qV2 _) (Row.nil _ _) (by simp) (hrk.sees (Sees.low hwB _)) (hK9.sees (Sees.low hwB _)), hn5, hc5, hc52, hR5, G⟩
theorem qL0 (w : World) {u v : Value} {A B : List (List Int)} (hA : zG1 w u A) (hB : zG1 w v B) : zC5 Tryz.prog 28 #[u, v] w (.bool (decide (A = B))) := by
 obtain ⟨ada, ca, segsa, sa, sca, rfl, -, -, RA, hsa, hra⟩ := hA.fn
 obtain ⟨adb, cb, segsb, sb, scb, rfl, -, -, RB, hsb, hrb⟩ := hB.fn
 have la := RA.lim
 have lb := RB.lim
 have G := Grow.rfl' w
 refine zB1 Tryz.func28 Tryz.ntmps28 Tryz.results28 rfl rfl ?_
 refine qZ 11 ?_
 refine stp (zI5 rfl rfl ?_)
 refine zA6 ?_
 refine zA3 (b := (decide ((A.length : Int) ≠ (B.length : Int)))) rfl (fun h1 => ?_) (fun h1 => ?_)
 ·
  replace h1 := qT h1
  refine qZ 5 ?_
  refine ret1 (zA1 (v := .bool false) rfl) ⟨?_, G⟩
  congr 1; exact (decide_eq_false (fun he => h1 (by rw [he]))).symm
 ·
  replace h1 := qF h1
  have hl : A.length = B.length := by omega
  refine qZ 7 ?_
  refine zG4 (fun m_ e_ w_ => ∃ (k : Nat), m_ = A.length - k ∧ Fr [(0, .slice ada A.length ca), (1, .slice adb B.length cb), (5, .int .i64 (k : Int))] e_ ∧ (k ≤ A.length) ∧ (∀ j, j < k → A.getD j [] = B.getD j []) ∧ Grow w w_) _ ⟨0, rfl, zD2 ⟨rfl, rfl, rfl, trivial⟩, by omega, fun j hj => by omega, G⟩ ?_
  clear G
  rintro m_ e_ w1 ⟨k, rfl, ⟨e2, rfl⟩, hk2, hk, G⟩
  refine qZ 6 ?_
  refine stp (zI1 rfl rfl ?_)
  refine zA6 ?_
  refine zA3 (b := (decide ((k : Int) < (A.length : Int)))) rfl (fun hlt => ?_) (fun hlt => ?_)
  ·
   replace hlt := qT hlt
   have hi : k < A.length := by omega
   have hi2 : k < B.length := by omega
   obtain ⟨-, -, Rk⟩ := hra k hi
   obtain ⟨-, -, Qk⟩ := hrb k hi2
   have lk := Rk.lim
   have mk := Qk.lim
   refine qZ 5 ?_
   refine zK0 11 [[], [], [1, 0], [2, 1, 0], [3, 2, 1, 0], [], [], [1, 0], [2, 1, 0], [3, 2, 1, 0], [9, 8, 7, 6, 5, 4, 3, 2, 1, 0]] mixed (by kernel_rfl) (by kernel_rfl) (by kernel_rfl) ?_
   intro w3 g4
   replace G := G.tr g4
   clear g4
   refine qA 2 ?_
   apply zA5
   ·intro w_ g_; refine og rfl ?_; refine zD7 (RA.grow (G.tr g_)) rfl rfl ?_ ?_; omega; exact qX
   apply zA5
   ·intro w_ g_; refine og rfl ?_; refine zF2 (v := .slice (sa k) (len2 A k) (sca k)) (m := 0) (RA.grow (G.tr g_)) rfl (by rw [Nat.mul_one]; exact hsa _ (by omega)) ?_; exact qX
   refine qA 3 ?_
   apply zA5
   ·intro w_ g_; refine og rfl ?_; refine zD7 (RB.grow (G.tr g_)) rfl rfl ?_ ?_; omega; exact qX
   apply zA5
   ·intro w_ g_; refine og rfl ?_; refine zF2 (v := .slice (sb k) (len2 B k) (scb k)) (m := 0) (RB.grow (G.tr g_)) rfl (by rw [Nat.mul_one]; exact hsb _ (by omega)) ?_; exact qX
   refine qA 1 ?_
   apply zA5
   ·intro w_ g_; exact og rfl (zI5 rfl rfl qX)
   refine zG5 ?_
   intro w5 g6
   replace G := G.tr g6
   clear g6
   refine zA6 ?_
   refine zA3 (b := (decide (((len2 A k) : Int) ≠ ((len2 B k) : Int)))) rfl (fun h3 => ?_) (fun h3 => ?_)
   ·
    replace h3 := qT h3
    refine qZ 5 ?_
    refine ret1 (zA1 (v := .bool false) rfl) ⟨?_, G⟩
    congr 1; exact (decide_eq_false (fun he => h3 (by rw [he]))).symm
   ·
    replace h3 := qF h3
    have hl2 : (A.getD k []).length = (B.getD k []).length := by simp only [len2] at h3; omega
    refine qZ 6 ?_
    refine zG4 (fun m_ e_ w_ => ∃ (m : Nat), m_ = len2 A k - m ∧ Fr [(0, .slice ada A.length ca), (1, .slice adb B.length cb), (5, .int .i64 (k : Int)), (6, .int .i64 (m : Int))] e_ ∧ (m ≤ len2 A k) ∧ (∀ j, j < m → (A.getD k []).getD j 0 = (B.getD k []).getD j 0) ∧ Grow w w_) _ ⟨0, rfl, zD2 ⟨rfl, rfl, rfl, rfl, trivial⟩, by omega, fun j hj => by omega, G⟩ ?_
    clear G
    rintro m_ e_ w7 ⟨m, rfl, ⟨e8, rfl⟩, hm2, hm, G⟩
    refine qZ 6 ?_
    refine stp (zD7 (RA.grow G) rfl rfl ?_ ?_); omega
    refine stp (zF2 (v := .slice (sa k) (len2 A k) (sca k)) (m := 0) (RA.grow G) rfl (by rw [Nat.mul_one]; exact hsa _ (by omega)) ?_)
    refine qZ 1 ?_
    refine stp (zI1 rfl rfl ?_)
    refine zA6 ?_
    refine zA3 (b := (decide ((m : Int) < ((len2 A k) : Int)))) rfl (fun hlt2 => ?_) (fun hlt2 => ?_)
    ·
     replace hlt2 := qT hlt2
     have hm3 : m < (A.getD k []).length := by simp only [len2] at hlt2 hm2; omega
     have hm4 : m < (B.getD k []).length := by omega
     refine qZ 4 ?_
     refine zK0 15 [[], [], [1, 0], [2, 1, 0], [], [4, 3, 2, 1, 0], [5, 4, 3, 2, 1, 0], [], [], [1, 0], [2, 1, 0], [], [4, 3, 2, 1, 0], [5, 4, 3, 2, 1, 0], [13, 12, 11, 10, 9, 8, 7, 6, 5, 4, 3, 2, 1, 0]] mixed (by kernel_rfl) (by kernel_rfl) (by kernel_rfl) ?_
     intro w9 g10
     replace G := G.tr g10
     clear g10
     refine qA 2 ?_
     apply zA5
     ·intro w_ g_; refine og rfl ?_; refine zD7 (RA.grow (G.tr g_)) rfl rfl ?_ ?_; omega; exact qX
     apply zA5
     ·intro w_ g_; refine og rfl ?_; refine zF2 (v := .slice (sa k) (len2 A k) (sca k)) (m := 0) (RA.grow (G.tr g_)) rfl (by rw [Nat.mul_one]; exact hsa _ (by omega)) ?_; exact qX
     refine qA 1 ?_
     apply zA5
     ·intro w_ g_; refine og rfl ?_; refine zD7 (Rk.grow (G.tr g_)) rfl rfl ?_ ?_; omega; exact qX
     apply zA5
     ·intro w_ g_; exact og rfl (zF2 (v := .int .u64 ((A.getD k []).getD m 0)) (m := 0) (Rk.grow (G.tr g_)) rfl (zL8 0 (by omega)) qX)
     refine qA 2 ?_
     apply zA5
     ·intro w_ g_; refine og rfl ?_; refine zD7 (RB.grow (G.tr g_)) rfl rfl ?_ ?_; omega; exact qX
     apply zA5
     ·intro w_ g_; refine og rfl ?_; refine zF2 (v := .slice (sb k) (len2 B k) (scb k)) (m := 0) (RB.grow (G.tr g_)) rfl (by rw [Nat.mul_one]; exact hsb _ (by omega)) ?_; exact qX
     refine qA 1 ?_
     apply zA5
     ·intro w_ g_; refine og rfl ?_; refine zD7 (Qk.grow (G.tr g_)) rfl rfl ?_ ?_; omega; exact qX
     apply zA5
     ·intro w_ g_; exact og rfl (zF2 (v := .int .u64 ((B.getD k []).getD m 0)) (m := 0) (Qk.grow (G.tr g_)) rfl (zL8 0 (by omega)) qX)
     apply zA5
     ·intro w_ g_; exact og rfl (zI5 rfl rfl qX)
     refine zG5 ?_
     intro w11 g12
     replace G := G.tr g12
     clear g12
     refine zA6 ?_
     refine zA3 (b := (decide (((A.getD k []).getD m 0) ≠ ((B.getD k []).getD m 0)))) rfl (fun h5 => ?_) (fun h5 => ?_)
     ·
      replace h5 := qT h5
      refine qZ 5 ?_
      refine ret1 (zA1 (v := .bool false) rfl) ⟨?_, G⟩
      congr 1; exact (decide_eq_false (fun he => h5 (by rw [he]))).symm
     ·
      replace h5 := qF h5
      refine qZ 3 ?_
      refine stp (zC3 rfl rfl ?_ ?_); constructor <;> omega
      refine qZ 2 ?_
      refine ⟨_, ?_, m + 1, rfl, zD2 ⟨rfl, rfl, rfl, rfl, trivial⟩, by omega, fun j hj => by rcases Nat.lt_succ_iff_lt_or_eq.1 hj with h_ | h_; exact hm j h_; subst h_; omega, G⟩
      omega
    ·
     replace hlt2 := qF hlt2
     have hm5 : m = (A.getD k []).length := by simp only [len2] at hlt2 hm2; omega
     have hk9 : A.getD k [] = B.getD k [] := qQ9 hl2 (fun j hj => hm j (by omega))
     refine qZ 3 ?_
     refine stp (zC3 rfl rfl ?_ ?_); constructor <;> omega
     refine qZ 2 ?_
     refine ⟨_, ?_, k + 1, rfl, zD2 ⟨rfl, rfl, rfl, trivial⟩, by omega, fun j hj => by rcases Nat.lt_succ_iff_lt_or_eq.1 hj with h_ | h_; exact hk j h_; subst h_; exact hk9, G⟩
     omega
  ·
   replace hlt := qF hlt
   have hk3 : k = A.length := by omega
   refine qZ 6 ?_
   refine ret1 (zA1 (v := .bool true) rfl) ⟨?_, G⟩
   congr 1; exact (decide_eq_true (qQ9 hl (fun j hj => hk j (by omega)))).symm
end Go.Proofs.YtkkbbhpbcfcplaaGreat.K
namespace Go.Proofs.YtkkbbhpbcfcplaaGreat.K
open Go Go.RowKit
theorem yY9 {p : Pt} (h : okP p) : decP (encR p) = p ∧ decE (encR p) = 0 := by
  have h1 := yW2 p h
  have h2 := (yY3 p h).2
  rw [h2]
  simp only [zK7, decide_eq_true_eq] at h1
  exact ⟨h1.2, h1.1⟩
theorem qX0 {c : List Int} (hx : isU8 c) (j : Nat) : 0 ≤ zL5 c j ∧ zL5 c j ≤ 18446744073709551615 := by
  have h := zY4 ((c.drop (8 * j)).take 8) (fun x hx2 => hx x (List.mem_of_mem_drop (List.mem_of_mem_take hx2)))
  have hl : ((c.drop (8 * j)).take 8).length ≤ 8 := by rw [List.length_take]; omega
  have h2 : (256 : Int) ^ ((c.drop (8 * j)).take 8).length ≤ 256 ^ 8 := by
    generalize ((c.drop (8 * j)).take 8).length = n at hl
    have : n = 0 ∨ n = 1 ∨ n = 2 ∨ n = 3 ∨ n = 4 ∨ n = 5 ∨ n = 6 ∨ n = 7 ∨ n = 8 := by omega
    rcases this with rfl | rfl | rfl | rfl | rfl | rfl | rfl | rfl | rfl <;> decide
  have h3 : (256 : Int) ^ 8 = 18446744073709551616 := by decide
  unfold zL5
  omega
theorem qO5 : ∀ (xs : List Int) (i : Nat), (∀ x ∈ xs, inR .u8 x) → i < xs.length → getP xs / 256 ^ i % 256 = xs.getD i 0
  | [], i, _, h => by simp at h
  | x :: xs, 0, hx, _ => by
    have := hx x (by simp)
    simp only [inR] at this
    simp only [getP, List.getD_cons_zero, Int.pow_zero, Int.ediv_one]
    omega
  | x :: xs, i + 1, hx, h => by
    have h1 := hx x (by simp)
    simp only [inR] at h1
    have h2 := qO5 xs i (fun y hy => hx y (by simp [hy])) (by simpa using h)
    rw [List.getD_cons_succ, ← h2, Int.pow_succ, Int.mul_comm, ← Int.ediv_ediv_of_nonneg (by decide : (0 : Int) ≤ 256)]
    congr 2
    simp only [getP]
    omega
theorem yB3 {c : List Int} (hx : isU8 c) {i : Nat} (h : i < c.length) : zL5 c (i / 8) / 256 ^ (i % 8) % 256 = c.getD i 0 := by
  unfold zL5
  rw [qO5 _ _ (fun x hx2 => hx x (List.mem_of_mem_drop (List.mem_of_mem_take hx2))) (by rw [List.length_take, List.length_drop]; omega)]
  rw [List.getD_eq_getElem?_getD, List.getD_eq_getElem?_getD, List.getElem?_take_of_lt (by omega), List.getElem?_drop, show 8 * (i / 8) + i % 8 = i from by omega]
theorem jD5 (n : Nat) : (2 : Int) ^ (n * 8) = 256 ^ n := by rw [Nat.mul_comm, Int.pow_mul]; rfl
def Says (x : Int) (p : Pt) : Prop := decP x = p ∧ decE x = 0
theorem qS0 {p : Pt} (h : okP p) : Says (encR p) p := yY9 h
theorem qL1 {s : Src} {seg a x : Int} {p : Pt} (hp : Says x p) (hw : s.word seg a = (x, 0)) : ptrS s seg a = (p, 0) := by
  unfold ptrS
  rw [hw, if_neg (by simp), hp.1, hp.2]
/-! ### the three arenas -/
theorem qL2 {A : List (List Int)} {s i : Nat} (hs : s < A.length) (hi : i < len2 A s) : zI3 A (s : Int) (i : Int) = ((A.getD s []).getD i 0, 0) := by
  unfold zI3
  rw [if_pos (by refine ⟨by omega, by omega, by omega, ?_⟩; rw [Int.toNat_natCast]; omega)]
  simp only [Int.toNat_natCast]
theorem qD7 (p : Pt) : inR .u64 (encR p) := by
  obtain ⟨h0, h1⟩ := zJ8 p
  unfold encR
  split
  · exact ⟨h0, h1⟩
  · simp [inR]
def qL3 : Nd := .mk 1 0 [7] [] []
theorem jC3 {x : Int × Nd × Int} {p : Int} {t : Nd} {e : Int} (h : (decide (x.1 = p) && x.2.1.beq t && decide (x.2.2 = e)) = true) : x = (p, t, e) := by
  simp only [Bool.and_eq_true, decide_eq_true_eq, Nd.beq_iff] at h
  obtain ⟨⟨h1, h2⟩, h3⟩ := h
  exact Prod.ext h1 (Prod.ext h2 h3)
theorem yB4 : zK2 (zC4 zT8) 32 0 0 0 = (2, qL3, 0) := jC3 (by decide +kernel)
theorem qS1 (t : Nd) : t.beq t = true := (Nd.beq_iff _ _).2 rfl
/-! ### nothing -/
/-! ### how many are set -/
theorem yT8 {sz : List Int} {n k : Nat} (h : k < n) (hl : k < sz.length) : ((sz.map (Value.int .i64)).take (n * 1))[k * 1]? = some (.int .i64 (sz.getD k 0)) := by
  rw [Nat.mul_one, Nat.mul_one, List.getElem?_take_of_lt h, List.getElem?_map, List.getElem?_eq_getElem hl, List.getD_eq_getElem?_getD, List.getElem?_eq_getElem hl]
  rfl
/-! ### sizes -/
def sumL : List Int → Int
  | [] => 0
  | x :: xs => x + sumL xs
theorem qB4 : ∀ (a b : List Int), sumL (a ++ b) = sumL a + sumL b
  | [], b => by simp [sumL]
  | x :: a, b => by simp only [List.cons_append, sumL, qB4 a b]; omega
theorem zU2 {sz : List Int} {k : Nat} (h : k < sz.length) : sumL (sz.take (k + 1)) = sumL (sz.take k) + sz.getD k 0 := by
  rw [List.take_succ_eq_append_getElem h, qB4, List.getD_eq_getElem?_getD, List.getElem?_eq_getElem h]
  simp [sumL]
theorem qS2 : ∀ {sz : List Int}, (∀ x ∈ sz, 0 ≤ x) → 0 ≤ sumL sz
  | [], _ => by simp [sumL]
  | x :: sz, h => by have := qS2 (sz := sz) (fun y hy => h y (by simp [hy])); have := h x (by simp); simp only [sumL]; omega
theorem zN1 {sz : List Int} (h : ∀ x ∈ sz, 0 ≤ x) (k : Nat) : 0 ≤ sumL (sz.take k) ∧ sumL (sz.take k) ≤ sumL sz := by
  have h1 := qB4 (sz.take k) (sz.drop k)
  rw [List.take_append_drop] at h1
  have h2 := qS2 (sz := sz.take k) (fun x hx => h x (List.mem_of_mem_take hx))
  have h3 := qS2 (sz := sz.drop k) (fun x hx => h x (List.mem_of_mem_drop hx))
  omega
def zN6 (sz : List Int) : Bool := decide (1 ≤ sz.length ∧ sz.length ≤ 16 ∧ 1 ≤ sz.getD 0 0 ∧ (∀ x ∈ sz, 0 ≤ x) ∧ sumL sz ≤ 4096)
theorem zY9 {sz : List Int} (h : zN6 sz = true) : 1 ≤ sz.length ∧ sz.length ≤ 16 ∧ 1 ≤ sz.getD 0 0 ∧ (∀ x ∈ sz, 0 ≤ x) ∧ sumL sz ≤ 4096 := qT h
theorem zU3 {sz : List Int} (h : zN6 sz = true) (i : Nat) : 0 ≤ sz.getD i 0 ∧ sz.getD i 0 ≤ 4096 := by
  obtain ⟨-, -, -, h4, h5⟩ := zY9 h
  by_cases hi : i < sz.length
  · have e : sz.getD i 0 = sz[i] := by rw [List.getD_eq_getElem?_getD, List.getElem?_eq_getElem hi]; rfl
    have h1 := zU2 hi
    have h2 := zN1 h4 i
    have h3 := zN1 h4 (i + 1)
    have := h4 _ (List.getElem_mem hi)
    rw [← e] at this
    omega
  · rw [List.getD_eq_getElem?_getD, List.getElem?_eq_none (by omega)]; simp
theorem yT9 {sz : List Int} (h1 : 1 ≤ sz.length) (h2 : sz.length ≤ 16) (h3 : 1 ≤ sz.getD 0 0) (hn : ∀ j, j < sz.length → 0 ≤ sz.getD j 0) (hs : sumL (sz.take sz.length) ≤ 4096) : zN6 sz = true := by
  rw [List.take_length] at hs
  refine decide_eq_true ⟨h1, h2, h3, fun x hx => ?_, hs⟩
  obtain ⟨j, hj, rfl⟩ := List.getElem_of_mem hx
  have := hn j hj
  rw [List.getD_eq_getElem?_getD, List.getElem?_eq_getElem hj] at this
  exact this
theorem yZ0 {sz : List Int} {k : Nat} (hk : k < sz.length) (h : ¬ (0 ≤ sz.getD k 0 ∧ sumL (sz.take k) + sz.getD k 0 ≤ 4096)) : zN6 sz = false := by
  cases hf : zN6 sz with
  | false => rfl
  | true =>
    obtain ⟨-, -, -, h4, h5⟩ := zY9 hf
    have h6 := zU2 hk
    have h7 := zN1 h4 (k + 1)
    have h8 := zU3 hf k
    exact absurd ⟨h8.1, by omega⟩ h
theorem yP0 {sz : List Int} (h : ¬ (1 ≤ sz.length ∧ sz.length ≤ 16 ∧ 1 ≤ sz.getD 0 0)) : zN6 sz = false := decide_eq_false fun ⟨a, b, c, _⟩ => h ⟨a, b, c⟩
def zH9 (sz : List Int) (seg a : Int) : Int := if zN6 sz = true ∧ 0 ≤ seg ∧ seg < sz.length ∧ 0 ≤ a ∧ a < sz.getD seg.toNat 0 then a + sumL (sz.take seg.toNat) else -1
theorem yJ4 {sz : List Int} (h : zN6 sz = true) {seg a : Int} : zG9 sz seg a 1 = decide (0 ≤ seg ∧ seg < sz.length ∧ 0 ≤ a ∧ a < sz.getD seg.toNat 0) := by
  have hs := zU3 h seg.toNat
  unfold zG9 zL3
  rw [← Bool.decide_and]
  exact decide_eq_decide.2 (by omega)
/-! ### sums of bytes -/
def qD8 (sz : List Int) : Nat := if zN6 sz then (sumL sz).toNat else 0
theorem yP1 (sz : List Int) : qD8 sz ≤ 4096 := by
  unfold qD8
  split
  · rename_i h; have := (zY9 h).2.2.2.2; omega
  · omega
theorem qO6 {sz : List Int} (h : zN6 sz = true) : (qD8 sz : Int) = sumL sz ∧ 1 ≤ qD8 sz := by
  obtain ⟨h1, -, h3, h4, -⟩ := zY9 h
  have hn := qS2 h4
  have h5 := zN1 h4 1
  have h6 : sumL (sz.take 1) = sumL (sz.take 0) + sz.getD 0 0 := zU2 (by omega)
  simp only [List.take_zero, sumL, Int.zero_add] at h6
  unfold qD8
  rw [if_pos h]
  omega
def yP2 (sz : List Int) : Nat := (qD8 sz + 7) / 8
section
variable {P : Program} {e : Env} {w : World} {K : Value → World → Prop} {d : Option Nat} {ty : TypeId} {pos : String} {af : Array Edge} {g : Option (Nat × Bool)} {t : TypeId} {x y : Operand} {k : IntKind} {i : Int}
end
theorem zZ0 : ∀ (A : List (List Int)), sumL (zC9 A) = zB9 A
  | [] => rfl
  | s :: A => by
    have ih := zZ0 A
    simp only [zC9, List.map_cons, sumL, zB9] at ih ⊢
    omega
theorem qG1 (A : List (List Int)) : zN6 (zC9 A) = zG0 A := by
  unfold zN6 zG0
  refine decide_eq_decide.2 ?_
  rw [zM8, zR1, zZ0]
  constructor
  · rintro ⟨a, b, c, -, e⟩; exact ⟨a, b, by omega, e⟩
  · rintro ⟨a, b, c, e⟩
    exact ⟨a, b, by omega, fun x hx => by obtain ⟨s, _, rfl⟩ := List.mem_map.1 hx; omega, e⟩
section
variable {TP TI TW TB : TypeId} {w w' : World} {base b g h : Nat} {ses sum : Int} {sz wl kb : List Int}
end
theorem yU0 {sz : List Int} (h : zN6 sz = true) : ∀ x ∈ sz, inR .i64 x := fun x hx => by
  obtain ⟨i, hi, rfl⟩ := List.getElem_of_mem hx
  have := zU3 h i
  rw [List.getD_eq_getElem?_getD, List.getElem?_eq_getElem hi] at this
  simp only [Option.getD_some] at this
  simp only [inR]; omega
/-! ### what a part answers -/
theorem qX1 {sz : List Int} {seg a : Int} (h : 0 ≤ zH9 sz seg a) : zN6 sz = true ∧ 0 ≤ seg ∧ seg < sz.length ∧ 0 ≤ a ∧ a < sz.getD seg.toNat 0 ∧ zH9 sz seg a = a + sumL (sz.take seg.toNat) ∧ zH9 sz seg a < (qD8 sz : Int) := by
  unfold zH9 at h ⊢
  split at h
  · rename_i hc
    rw [if_pos hc]
    obtain ⟨h1, h2, h3, h4, h5⟩ := hc
    have hf := zY9 h1
    have h6 := zU2 (sz := sz) (k := seg.toNat) (by omega)
    have h7 := (zN1 hf.2.2.2.1 (seg.toNat + 1)).2
    have h8 := (qO6 h1).1
    exact ⟨h1, h2, h3, h4, h5, rfl, by omega⟩
  · omega
inductive Own2 (k z : Int) (w b : List Int) (ks : List Nd) (q a : Int) : Prop where
  | st (h1 : k = 1) (h2 : z = 0) (h3 : b = []) (h4 : objP ((Nd.mk k z w b ks).ptr 0) q a = ⟨1, q, a, w.length, ks.length, 0, 0⟩) (h5 : (Nd.mk k z w b ks).need = (w.length : Int) + ks.length) (h6 : w.length ≤ 100 ∧ ks.length ≤ 100)
  | bt (h1 : k = 2) (h2 : z = 2) (h3 : w = []) (h4 : ks = []) (h5 : objP ((Nd.mk k z w b ks).ptr 0) q a = ⟨2, q, a, 0, 0, 2, b.length⟩) (h6 : (Nd.mk k z w b ks).need = ((b.length : Int) + 7) / 8) (h7 : b.length ≤ 4096)
  | wd (h1 : k = 2) (h2 : z = 5) (h3 : b = []) (h4 : ks = []) (h5 : objP ((Nd.mk k z w b ks).ptr 0) q a = ⟨2, q, a, 0, 0, 5, w.length⟩) (h6 : (Nd.mk k z w b ks).need = (w.length : Int)) (h7 : w.length ≤ 4096)
  | pt (h1 : k = 2) (h2 : z = 6) (h3 : w = []) (h4 : b = []) (h5 : objP ((Nd.mk k z w b ks).ptr 0) q a = ⟨2, q, a, 0, 0, 6, ks.length⟩) (h6 : (Nd.mk k z w b ks).need = (ks.length : Int)) (h7 : ks.length ≤ 4096)
theorem own2 {k z : Int} {w b : List Int} {ks : List Nd} (ho : (Nd.mk k z w b ks).own = true) (hk : ¬ k = 0) (q a : Int) : Own2 k z w b ks q a := by
  simp only [Nd.own, if_neg hk] at ho
  split at ho
  · rename_i h1
    simp only [Bool.and_eq_true, decide_eq_true_eq] at ho
    obtain ⟨h2, h3, h4⟩ := ho
    have hb : b = [] := List.eq_nil_of_length_eq_zero (by omega)
    have hm : w.length ≤ 100 ∧ ks.length ≤ 100 := by split at h4 <;> omega
    subst hb
    subst h1
    exact .st rfl h2 rfl (by simp [Nd.ptr, objP]) (by simp [Nd.need]) hm
  · split at ho
    · rename_i h1 h2
      subst h2
      split at ho
      · rename_i h3
        simp only [Bool.and_eq_true, decide_eq_true_eq] at ho
        have hw : w = [] := List.eq_nil_of_length_eq_zero (by omega)
        have hks : ks = [] := List.eq_nil_of_length_eq_zero (by omega)
        subst hw; subst hks; subst h3
        exact .bt rfl rfl rfl rfl (by simp [Nd.ptr, objP]) (by simp [Nd.need]) (by omega)
      · split at ho
        · rename_i h3
          simp only [Bool.and_eq_true, decide_eq_true_eq] at ho
          have hb : b = [] := List.eq_nil_of_length_eq_zero (by omega)
          have hks : ks = [] := List.eq_nil_of_length_eq_zero (by omega)
          subst hb; subst hks; subst h3
          exact .wd rfl rfl rfl rfl (by simp [Nd.ptr, objP]) (by simp [Nd.need]) (by omega)
        · split at ho
          · rename_i h3
            simp only [Bool.and_eq_true, decide_eq_true_eq] at ho
            have hb : b = [] := List.eq_nil_of_length_eq_zero (by omega)
            have hw : w = [] := List.eq_nil_of_length_eq_zero (by omega)
            subst hb; subst hw; subst h3
            exact .pt rfl rfl rfl rfl (by simp [Nd.ptr, objP]) (by simp [Nd.need]) (by omega)
          · cases ho
    · cases ho
theorem qD9 (o : Ob) : zH4 o.pt = zH4 ⟨o.kind, 0, o.data, o.ptrs, o.size, o.count, 0, false⟩ := rfl
theorem qE0 (o : Ob) : zI4 o.pt = zI4 ⟨o.kind, 0, o.data, o.ptrs, o.size, o.count, 0, false⟩ := rfl
abbrev w2 (A : List (List Int)) (s i : Nat) : Int := (A.getD s []).getD i 0
theorem qH4 {A : List (List Int)} {s i : Nat} (x : Int) (hs : s < A.length) (hi : i < len2 A s) (q j : Nat) : w2 (setP A s i x) q j = if q = s ∧ j = i then x else w2 A q j := by
  simp only [w2, qU6 A s i q x hs]
  by_cases hq : q = s
  · subst hq
    rw [if_pos rfl, qQ6 _ _ _ _ _ hi]
    by_cases hj : j = i
    · rw [if_pos hj, if_pos ⟨rfl, hj⟩]
    · rw [if_neg hj, if_neg (fun h => hj h.2)]
  · rw [if_neg hq, if_neg (fun h => hq h.1)]
theorem qS3 (u l : List Int) (j : Nat) : (u ++ l).getD j 0 = if u.length ≤ j then l.getD (j - u.length) 0 else u.getD j 0 := by
  simp only [List.getD_eq_getElem?_getD]
  split
  · rename_i h; rw [List.getElem?_append_right h]
  · rename_i h; rw [List.getElem?_append_left (by omega)]
theorem qB5 {A : List (List Int)} {q : Nat} (l : List Int) (hq : q ≤ A.length) (s j : Nat) : w2 (zI9 A q l) s j = if s = q ∧ len2 A q ≤ j then l.getD (j - len2 A q) 0 else w2 A s j := by
  simp only [w2, zJ0 A q s l hq]
  by_cases hs : s = q
  · subst hs
    rw [if_pos rfl, qS3]
    by_cases hj : len2 A s ≤ j
    · rw [if_pos (show (A.getD s []).length ≤ j from hj), if_pos (show s = s ∧ len2 A s ≤ j from ⟨rfl, hj⟩)]
    · rw [if_neg (show ¬ (A.getD s []).length ≤ j from hj), if_neg (show ¬ (s = s ∧ len2 A s ≤ j) from fun h => hj h.2)]
  · rw [if_neg hs, if_neg (fun h => hs h.1)]
theorem qS4 {k z : Int} {w b : List Int} {ks : List Nd} (ho : (Nd.mk k z w b ks).own = true) (hk : ¬ k = 0) : (w ++ zF3 b).length + ks.length = (Nd.mk k z w b ks).need.toNat := by
  obtain ⟨hkd, hlw, hlb, hlk, hnn, hnm, hkn, hb1⟩ := Nd.own_b ho
  have hc := Nd.content_length (.mk k z w b ks) (by simp only [Nd.kind]; omega) (by simpa only [Nd.kind, Nd.bytes] using hb1)
  simp only [Nd.content, List.length_append, List.length_replicate] at hc
  rw [List.length_append]
  omega
def jE0 : Nd → List Int
  | .mk _ _ w b _ => w ++ zF3 b
def Pts (A : List (List Int)) (B : Nat → Nat) (t : Nd) (s i q a : Nat) : Prop :=
  (q = s ∧ w2 A s i = t.near ((a : Int) - i - 1)) ∨ (∃ p, t.need ≠ 0 ∧ p + 1 = a ∧ B q ≤ p ∧ p < len2 A q ∧ w2 A s i = farP q p ∧ w2 A q p = t.near 0)
mutual
def Rep (A : List (List Int)) (B : Nat → Nat) : Nd → Nat → Nat → Prop
  | .mk k z w b ks, s, i => i < len2 A s ∧ s < A.length ∧ (if k = 0 then w2 A s i = 0 else
    ∃ q a, Pts A B (.mk k z w b ks) s i q a ∧ q < A.length ∧ ((Nd.mk k z w b ks).need ≠ 0 → B q ≤ a) ∧ ((Nd.mk k z w b ks).need = 0 → k = 1 → q = s ∧ a = i) ∧ a + (Nd.mk k z w b ks).need.toNat ≤ len2 A q ∧ (∀ j, j < (w ++ zF3 b).length → w2 A q (a + j) = (w ++ zF3 b).getD j 0) ∧ Reps A B ks q (a + (w ++ zF3 b).length))
def Reps (A : List (List Int)) (B : Nat → Nat) : List Nd → Nat → Nat → Prop
  | [], _, _ => True
  | t :: ts, q, j => (B q ≤ j ∧ Rep A B t q j) ∧ Reps A B ts q (j + 1)
end
structure Kept (A A' : List (List Int)) (B : Nat → Nat) : Prop where
  len : A.length ≤ A'.length
  seg : ∀ q, len2 A q ≤ len2 A' q
  word : ∀ q j, B q ≤ j → j < len2 A q → w2 A' q j = w2 A q j
theorem yZ1 {A : List (List Int)} {q j : Nat} (h : j < len2 A q) : q < A.length := by
  by_cases hq : q < A.length
  · exact hq
  · have := zR0 (A := A) (j := q) (by omega); omega
theorem qX2 {k s : Int} {w b : List Int} {ks : List Nd} (h : (Nd.mk k s w b ks).fine) : ∀ t ∈ ks, t.fine := by
  intro t ht
  obtain ⟨j, hj, rfl⟩ := List.getElem_of_mem ht
  exact Nd.fine_kid h hj
mutual
theorem Rep.keep {A A' : List (List Int)} {B B' : Nat → Nat} (hk : Kept A A' B) (hB : ∀ q, B' q ≤ B q) : ∀ (t : Nd) (s i : Nat), t.fine → w2 A' s i = w2 A s i → Rep A B t s i → Rep A' B' t s i
  | .mk k z w b ks, s, i, hf, hw, h => by
    have ho := Nd.fine_own hf
    obtain ⟨hkd, hlw, hlb, hlk, hnn, hnm, hkn, hb1⟩ := Nd.own_b ho
    rw [Rep] at h ⊢
    obtain ⟨h1, h2, h3⟩ := h
    refine ⟨Nat.lt_of_lt_of_le h1 (hk.seg s), Nat.lt_of_lt_of_le h2 hk.len, ?_⟩
    split
    · rename_i hk0
      rw [if_pos hk0] at h3
      rw [hw, h3]
    · rename_i hk0
      rw [if_neg hk0] at h3
      obtain ⟨q, a, hp, hq, hb, hz0, hl, hc, hr⟩ := h3
      have hbl := qS4 ho hk0
      have hok := qX2 hf
      refine ⟨q, a, ?_, Nat.lt_of_lt_of_le hq hk.len, fun hn => Nat.le_trans (hB q) (hb hn), hz0, Nat.le_trans hl (hk.seg q), fun j hj => ?_, Reps.keep hk hB ks q _ hok hr⟩
      · rcases hp with ⟨h4, h5⟩ | ⟨p, hne, h4, h5, h6, h7, h8⟩
        · exact .inl ⟨h4, by rw [hw, h5]⟩
        · exact .inr ⟨p, hne, h4, Nat.le_trans (hB q) h5, Nat.lt_of_lt_of_le h6 (hk.seg q), by rw [hw, h7], by rw [hk.word q p h5 h6, h8]⟩
      · rw [hk.word q (a + j) (Nat.le_trans (hb (by omega)) (Nat.le_add_right _ _)) (by omega), hc j hj]
theorem Reps.keep {A A' : List (List Int)} {B B' : Nat → Nat} (hk : Kept A A' B) (hB : ∀ q, B' q ≤ B q) : ∀ (ts : List Nd) (q j : Nat), (∀ t ∈ ts, t.fine) → Reps A B ts q j → Reps A' B' ts q j
  | [], _, _, _, _ => trivial
  | t :: ts, q, j, ho, h => by
    rw [Reps] at h ⊢
    obtain ⟨⟨h1, h2⟩, h3⟩ := h
    refine ⟨⟨Nat.le_trans (hB q) h1, Rep.keep hk hB t q j (ho t (by simp)) ?_ h2⟩, Reps.keep hk hB ts q (j + 1) (fun u hu => ho u (by simp [hu])) h3⟩
    refine hk.word q j h1 ?_
    cases t with
    | mk k z w b ks => rw [Rep] at h2; exact h2.1
end
theorem yZ2 {A : List (List Int)} (h : 1 ≤ A.length) : zA8 A < A.length ∧ zA8 A + 1 = A.length := by unfold zA8; omega
theorem yJ5 (size : Int) (t : Nd) (S : Lay) (s i : Nat) (h1 : 1 ≤ S.A.length) (hs : s < S.A.length) (hi : i < len2 S.A s) :
    (∀ q j, j < len2 S.A q → ¬ (q = s ∧ j = i) → w2 (zC6 size t S s i).S.A q j = w2 S.A q j) ∧
    (((zC6 size t S s i).seg = s ∧ w2 (zC6 size t S s i).S.A s i = t.near (((zC6 size t S s i).at_ : Int) - i - 1)) ∨
      (∃ p, p + 1 = (zC6 size t S s i).at_ ∧ len2 S.A (zC6 size t S s i).seg ≤ p ∧ p < len2 (zC6 size t S s i).S.A (zC6 size t S s i).seg ∧ w2 (zC6 size t S s i).S.A s i = farP (zC6 size t S s i).seg p ∧ w2 (zC6 size t S s i).S.A (zC6 size t S s i).seg p = t.near 0)) := by
  obtain ⟨hl, hl1⟩ := yZ2 h1
  unfold zC6
  by_cases h : s = zA8 S.A ∧ (len2 S.A (zA8 S.A) : Int) + t.need ≤ size
  · simp only [if_pos h]
    refine ⟨fun q j hj hn => by rw [qH4 _ hs hi, if_neg hn], .inl ⟨h.1.symm, ?_⟩⟩
    rw [qH4 _ hs hi, if_pos ⟨rfl, rfl⟩]
  · by_cases hn : qJ7 size t S.A s = true
    · simp only [if_neg h, if_pos hn, zG8]
      have hq : zA8 S.A + 1 ≤ (setP S.A s i (farP ((zA8 S.A : Int) + 1) 0)).length := by rw [zD5]; omega
      have hz : len2 (setP S.A s i (farP ((zA8 S.A : Int) + 1) 0)) (zA8 S.A + 1) = 0 := zR0 (by rw [zD5]; omega)
      refine ⟨fun q j hj hn2 => ?_, .inr ⟨0, rfl, ?_, ?_, ?_, ?_⟩⟩
      · have hql := yZ1 hj
        rw [qB5 _ hq, if_neg (by omega), qH4 _ hs hi, if_neg hn2]
      · rw [zR0 (by omega)]; exact Nat.le_refl _
      · simp only [len2] at hz ⊢
        rw [zJ0 _ _ _ _ hq, if_pos rfl, List.length_append, hz]
        simp
      · rw [qB5 _ hq, if_neg (by omega), qH4 _ hs hi, if_pos ⟨rfl, rfl⟩]
        rfl
      · rw [qB5 _ hq, if_pos ⟨rfl, by omega⟩, hz]
        rfl
    · simp only [if_neg h, if_neg hn, zG8]
      have hq : zA8 S.A ≤ (setP S.A s i (farP (zA8 S.A) (len2 S.A (zA8 S.A)))).length := by rw [zD5]; omega
      have hz := zN4 S.A s i (zA8 S.A) (farP (zA8 S.A) (len2 S.A (zA8 S.A)))
      refine ⟨fun q j hj hn2 => ?_, .inr ⟨len2 S.A (zA8 S.A), rfl, Nat.le_refl _, ?_, ?_, ?_⟩⟩
      · rw [qB5 _ hq, if_neg (by rw [hz]; rintro ⟨rfl, h9⟩; omega), qH4 _ hs hi, if_neg hn2]
      · have hg : len2 (zI9 (setP S.A s i (farP (zA8 S.A) (len2 S.A (zA8 S.A)))) (zA8 S.A) [t.near 0]) (zA8 S.A) = len2 S.A (zA8 S.A) + 1 := by
          have hz' : ((setP S.A s i (farP (zA8 S.A) (len2 S.A (zA8 S.A)))).getD (zA8 S.A) []).length = len2 S.A (zA8 S.A) := hz
          rw [len2, zJ0 _ _ _ _ hq, if_pos rfl, List.length_append, hz']; rfl
        omega
      · rw [qB5 _ hq, if_neg (by rw [hz]; rintro ⟨rfl, h9⟩; omega), qH4 _ hs hi, if_pos ⟨rfl, rfl⟩]
      · rw [qB5 _ hq, if_pos ⟨rfl, by omega⟩, hz, Nat.sub_self]
        rfl
theorem qX3 {size : Int} {ts : List Nd} {S : Lay} {s i : Nat} (h : (Nd.lays size ts S s i).full = false) : S.full = false := by
  cases hS : S.full with
  | false => rfl
  | true => rw [Nd.lays_full hS] at h; rw [hS] at h; exact h
mutual
theorem Nd.lay_rep (size : Int) : ∀ (t : Nd) (S : Lay) (s i : Nat), t.fine → 1 ≤ S.A.length → s < S.A.length → i < len2 S.A s → w2 S.A s i = 0 → (t.lay size S s i).full = false →
    (∀ q j, j < len2 S.A q → ¬ (q = s ∧ j = i) → w2 (t.lay size S s i).A q j = w2 S.A q j) ∧ Rep (t.lay size S s i).A (len2 S.A) t s i
  | .mk k z w b ks, S, s, i, hf, h1, hs, hi, hz, hfull => by
    have ho := Nd.fine_own hf
    obtain ⟨hkd, hlw, hlb, hlk, hnn, hnm, hkn, hb1⟩ := Nd.own_b ho
    have hSf : S.full = false := by
      cases hS : S.full with
      | false => rfl
      | true => rw [Nd.lay_full hS] at hfull; rw [hS] at hfull; exact hfull
    by_cases hk : k = 0
    · have hl : (Nd.mk k z w b ks).lay size S s i = S := by simp only [Nd.lay]; rw [if_pos (.inl hk)]
      rw [hl]
      refine ⟨fun q j _ _ => rfl, ?_⟩
      rw [Rep, if_pos hk]
      exact ⟨hi, hs, hz⟩
    · have hbl := qS4 ho hk
      by_cases hn : (Nd.mk k z w b ks).need = 0
      · have hl : (Nd.mk k z w b ks).lay size S s i = ⟨setP S.A s i ((Nd.mk k z w b ks).near (if k = 1 then -1 else 0)), S.full⟩ := by
          simp only [Nd.lay]; rw [if_neg (by rw [hSf]; simp [hk]), if_pos hn]
        have hks : ks = [] := List.eq_nil_of_length_eq_zero (by omega)
        rw [hl]
        refine ⟨fun q j hj hn2 => by rw [qH4 _ hs hi, if_neg hn2], ?_⟩
        rw [Rep, if_neg hk]
        refine ⟨by rw [zN4]; exact hi, by rw [zD5]; exact hs, s, if k = 1 then i else i + 1, .inl ⟨rfl, ?_⟩, by rw [zD5]; exact hs, fun h => absurd hn h, fun _ h => ⟨rfl, if_pos h⟩, ?_, fun j hj => by omega, ?_⟩
        · rw [qH4 _ hs hi, if_pos ⟨rfl, rfl⟩]
          congr 1
          split <;> omega
        · rw [zN4, hn]
          split <;> (simp only [Int.toNat_zero, Nat.add_zero]; omega)
        · rw [hks]; trivial
      · obtain ⟨hkeep, hpts⟩ := yJ5 size (.mk k z w b ks) S s i h1 hs hi
        have hpo := qD3 size (.mk k z w b ks) S s i h1
        have hl : (Nd.mk k z w b ks).lay size S s i = Nd.lays size ks (zG8 size (zC6 size (.mk k z w b ks) S s i).S (zC6 size (.mk k z w b ks) S s i).seg (Nd.mk k z w b ks).content) (zC6 size (.mk k z w b ks) S s i).seg ((zC6 size (.mk k z w b ks) S s i).at_ + ((Nd.mk k z w b ks).need.toNat - ks.length)) := by
          simp only [Nd.lay]; rw [if_neg (by rw [hSf]; simp [hk]), if_neg hn]
        rw [hl] at hfull ⊢
        obtain ⟨hg, hseg, hat, -, -⟩ := hpo
        generalize (zC6 size (.mk k z w b ks) S s i).S = P at *
        generalize (zC6 size (.mk k z w b ks) S s i).seg = sg at *
        generalize (zC6 size (.mk k z w b ks) S s i).at_ = at_ at *
        have hcl : (Nd.mk k z w b ks).content.length = (Nd.mk k z w b ks).need.toNat := by
          simp only [Nd.content, List.length_append, List.length_replicate]
          rw [List.length_append] at hbl
          omega
        have hwg : ∀ q j, w2 (zG8 size P sg (Nd.mk k z w b ks).content).A q j = if q = sg ∧ len2 P.A sg ≤ j then (Nd.mk k z w b ks).content.getD (j - len2 P.A sg) 0 else w2 P.A q j := fun q j => qB5 _ (Nat.le_of_lt hseg) q j
        have hgl : ∀ q, len2 (zG8 size P sg (Nd.mk k z w b ks).content).A q = if q = sg then len2 P.A sg + (Nd.mk k z w b ks).need.toNat else len2 P.A q := by
          intro q
          simp only [zG8, len2]
          rw [zJ0 _ _ _ _ (Nat.le_of_lt hseg)]
          split
          · rw [List.length_append, hcl]
          · rfl
        have hgs : P.A.length ≤ (zG8 size P sg (Nd.mk k z w b ks).content).A.length := qJ8 _ _ _
        have hslot : (Nd.mk k z w b ks).need.toNat - ks.length = (w ++ zF3 b).length := by omega
        rw [hslot] at hfull ⊢
        have hsl : len2 S.A sg ≤ at_ := by rw [hat]; exact hg.seg sg
        have hlen2 : ∀ q, len2 S.A q ≤ len2 (zG8 size P sg (Nd.mk k z w b ks).content).A q := fun q => by
          rw [hgl]
          have := hg.seg q
          split
          · subst_vars; omega
          · exact this
        have hco : ∀ j, (Nd.mk k z w b ks).content.getD j 0 = if (w ++ zF3 b).length ≤ j then 0 else (w ++ zF3 b).getD j 0 := by
          intro j
          simp only [Nd.content]
          rw [qS3]
          split
          · simp only [List.getD_eq_getElem?_getD, List.getElem?_replicate]
            split <;> rfl
          · rfl
        obtain ⟨hkeep2, hreps⟩ := Nd.lays_rep size ks (zG8 size P sg (Nd.mk k z w b ks).content) sg (at_ + (w ++ zF3 b).length) (qX2 hf) (Nat.le_trans (Nat.le_trans h1 hg.len) hgs) (Nat.lt_of_lt_of_le hseg hgs)
          (by rw [hgl, if_pos rfl, ← hat]; omega) (fun j hj => by rw [hwg, if_pos ⟨rfl, by omega⟩, hco, if_pos (by omega)]) hfull (len2 S.A) hlen2 (by omega)
        have hgr := (Nd.lays_ok size ks (zG8 size P sg (Nd.mk k z w b ks).content) sg (at_ + (w ++ zF3 b).length) (Nat.le_trans (Nat.le_trans h1 hg.len) hgs)).grew
        generalize (Nd.lays size ks (zG8 size P sg (Nd.mk k z w b ks).content) sg (at_ + (w ++ zF3 b).length)) = R at *
        have hold : ∀ q j, j < len2 P.A q → w2 R.A q j = w2 P.A q j := fun q j hj => by
          rw [hkeep2 q j (by rw [hgl]; split <;> (first | omega | (subst_vars; omega))) (by rintro ⟨rfl, h5, h6⟩; omega), hwg, if_neg (by rintro ⟨rfl, h5⟩; omega)]
        refine ⟨fun q j hj hn2 => ?_, ?_⟩
        · rw [hold q j (Nat.lt_of_lt_of_le hj (hg.seg q)), hkeep q j hj hn2]
        · rw [Rep, if_neg hk]
          have hi2 : i < len2 P.A s := Nat.lt_of_lt_of_le hi (hg.seg s)
          refine ⟨Nat.lt_of_lt_of_le hi2 (Nat.le_trans ?_ (hgr.seg s)), Nat.lt_of_lt_of_le hs (Nat.le_trans hg.len (Nat.le_trans hgs hgr.len)), sg, at_, ?_, Nat.lt_of_lt_of_le hseg (Nat.le_trans hgs hgr.len), fun _ => hsl, fun h => absurd h hn, ?_, fun j hj => ?_, hreps⟩
          · rw [hgl]; split
            · subst_vars; omega
            · exact Nat.le_refl _
          · rcases hpts with ⟨h5, h6⟩ | ⟨p, h5, h6, h7, h8, h9⟩
            · exact .inl ⟨h5, by rw [hold s i hi2, h6]⟩
            · exact .inr ⟨p, hn, h5, h6, Nat.lt_of_lt_of_le h7 (Nat.le_trans (by rw [hgl, if_pos rfl]; omega) (hgr.seg sg)), by rw [hold s i hi2, h8], by rw [hold sg p h7, h9]⟩
          · have := hgr.seg sg
            rw [hgl, if_pos rfl] at this
            omega
          · rw [hkeep2 sg (at_ + j) (by rw [hgl, if_pos rfl]; omega) (by rintro ⟨-, h5, h6⟩; omega), hwg, if_pos ⟨rfl, by omega⟩, hco, if_neg (by omega)]
            congr 1
            omega
theorem Nd.lays_rep (size : Int) : ∀ (ts : List Nd) (S : Lay) (s i : Nat), (∀ t ∈ ts, t.fine) → 1 ≤ S.A.length → s < S.A.length → i + ts.length ≤ len2 S.A s → (∀ j, j < ts.length → w2 S.A s (i + j) = 0) → (Nd.lays size ts S s i).full = false → ∀ (B : Nat → Nat), (∀ q, B q ≤ len2 S.A q) → B s ≤ i →
    (∀ q j, j < len2 S.A q → ¬ (q = s ∧ i ≤ j ∧ j < i + ts.length) → w2 (Nd.lays size ts S s i).A q j = w2 S.A q j) ∧ Reps (Nd.lays size ts S s i).A B ts s i
  | [], S, s, i, _, _, _, _, _, _, _, _, _ => ⟨fun _ _ _ _ => rfl, trivial⟩
  | t :: ts, S, s, i, hf, h1, hs, hi, hz, hfull, B, hB, hBs => by
    simp only [List.length_cons] at hi hz
    simp only [Nd.lays] at hfull ⊢
    have hf1 := qX3 hfull
    obtain ⟨k1, r1⟩ := Nd.lay_rep size t S s i (hf t (by simp)) h1 hs (by omega) (by simpa using hz 0 (by omega)) hf1
    have g1 := (Nd.lay_ok size t S s i h1).grew
    obtain ⟨k2, r2⟩ := Nd.lays_rep size ts (t.lay size S s i) s (i + 1) (fun u hu => hf u (by simp [hu])) (Nat.le_trans h1 g1.len) (Nat.lt_of_lt_of_le hs g1.len) (by have := g1.seg s; omega)
      (fun j hj => by rw [k1 s (i + 1 + j) (by omega) (by omega)]; have := hz (j + 1) (by omega); rw [← this]; congr 1; omega) hfull B (fun q => Nat.le_trans (hB q) (g1.seg q)) (by omega)
    have g2 := (Nd.lays_ok size ts (t.lay size S s i) s (i + 1) (Nat.le_trans h1 g1.len)).grew
    refine ⟨fun q j hj hn => ?_, ?_⟩
    · simp only [List.length_cons] at hn
      rw [k2 q j (Nat.lt_of_lt_of_le hj (g1.seg q)) (by omega), k1 q j hj (by omega)]
    · rw [Reps]
      refine ⟨⟨hBs, Rep.keep ⟨g2.len, g2.seg, fun q j h5 h6 => k2 q j h6 ?_⟩ hB t s i (hf t (by simp)) ?_ r1⟩, r2⟩
      · rintro ⟨rfl, h7, h8⟩; omega
      · exact k2 s i (Nat.lt_of_lt_of_le (by omega) (g1.seg s)) (by omega)
end
/-! ### decoding it -/
mutual
def Nd.cst : Nd → Int
  | .mk k z w b ks => 1 + (Nd.mk k z w b ks).need + Nd.cstL ks
def Nd.cstL : List Nd → Int
  | [] => 0
  | t :: ts => t.cst + Nd.cstL ts
end
mutual
theorem Nd.cst_pos : ∀ (t : Nd), 1 ≤ t.cst
  | .mk k z w b ks => by have := Nd.need_nn (.mk k z w b ks); have := Nd.cstL_nn ks; rw [Nd.cst]; omega
theorem Nd.cstL_nn : ∀ (ts : List Nd), 0 ≤ Nd.cstL ts
  | [] => by rw [Nd.cstL]; exact Int.le_refl _
  | t :: ts => by have := Nd.cst_pos t; have := Nd.cstL_nn ts; rw [Nd.cstL]; omega
end
theorem qG2 {f : Int → Int → Int × Nd × Int} {a p r : Int} {n : Nat} {ks : List Nd} (h : zI6 f a p n = (r, ks, 0)) : zI6 f a p (n + 1) = ((f (a + (n : Int)) r).1, ks ++ [(f (a + (n : Int)) r).2.1], (f (a + (n : Int)) r).2.2) := by
  rw [zI6, h, if_neg (by simp)]
theorem qO7 {f : Int → Int → Int × Nd × Int} {a p p1 : Int} {t : Nd} (h : f a p = (p1, t, 0)) : ∀ (n : Nat) (p2 : Int) (ts : List Nd), zI6 f (a + 1) p1 n = (p2, ts, 0) → zI6 f a p (n + 1) = (p2, t :: ts, 0)
  | 0, p2, ts, hk => by
    simp only [zI6, Prod.mk.injEq] at hk
    obtain ⟨rfl, rfl, -⟩ := hk
    rw [qG2 (show zI6 f a p 0 = (p, [], 0) from rfl), show a + ((0 : Nat) : Int) = a from by omega, h]
    rfl
  | n + 1, p2, ts, hk => by
    by_cases h0 : (zI6 f (a + 1) p1 n).2.2 ≠ 0
    · rw [zI6, if_pos h0] at hk; rw [hk] at h0; exact absurd rfl h0
    · have hr : zI6 f (a + 1) p1 n = ((zI6 f (a + 1) p1 n).1, (zI6 f (a + 1) p1 n).2.1, 0) := Prod.ext rfl (Prod.ext rfl (by simpa using h0))
      rw [qG2 hr] at hk
      have ih := qO7 h n _ _ hr
      rw [qG2 ih, show a + ((n + 1 : Nat) : Int) = a + 1 + (n : Int) from by omega]
      simp only [Prod.mk.injEq] at hk
      obtain ⟨h4, h5, h6⟩ := hk
      rw [h4, h6, ← h5]
      rfl
theorem yB5 {s : Src} {seg a x : Int} {p : Pt} (hx : Says x p) (h0 : s.word seg a = (x, 0)) (hn : zK1 p = true) (he : zI4 (objP p seg (a + 1 + p.off)).pt = 0) (hw : zG9 s.sizes seg (a + 1 + p.off) (zH4 (objP p seg (a + 1 + p.off)).pt) = true) : zA0 s seg a = (objP p seg (a + 1 + p.off), 0) := by
  have hp := qL1 hx h0
  have e1 : (ptrS s seg a).1 = p := by rw [hp]
  have e2 : (ptrS s seg a).2 = 0 := by rw [hp]
  unfold zA0
  rw [e1, e2]
  refine (if_neg ?_).trans ((if_pos hn).trans ?_)
  · have : p.kind = 1 ∨ p.kind = 2 := by simpa [zK1] using hn
    omega
  · unfold zB5
    rw [he, hw]
    rfl
theorem yB6 {s : Src} {seg a x y q pd : Int} {p : Pt} (hy : Says y ⟨3, pd, 0, 0, 0, 0, q, false⟩) (h0 : s.word seg a = (y, 0)) (hx : Says x p) (h1 : s.word q pd = (x, 0)) (hn : zK1 p = true) (he : zI4 (objP p q (pd + 1 + p.off)).pt = 0) (hw : zG9 s.sizes q (pd + 1 + p.off) (zH4 (objP p q (pd + 1 + p.off)).pt) = true) : zA0 s seg a = (objP p q (pd + 1 + p.off), 0) := by
  have hp := qL1 hy h0
  have hq := qL1 hx h1
  have e1 : (ptrS s seg a).1 = ⟨3, pd, 0, 0, 0, 0, q, false⟩ := by rw [hp]
  have e2 : (ptrS s seg a).2 = 0 := by rw [hp]
  have f1 : (ptrS s q pd).1 = p := by rw [hq]
  have f2 : (ptrS s q pd).2 = 0 := by rw [hq]
  unfold zA0
  rw [e1, e2]
  refine (if_neg (by simp)).trans ((if_neg (by simp [zK1])).trans ((if_neg (by simp)).trans ?_))
  unfold zD6
  show (if (ptrS s q pd).2 ≠ 0 then _ else if zK1 (ptrS s q pd).1 = false then _ else _) = _
  rw [f1, f2]
  refine (if_neg (by decide)).trans ((if_neg (by rw [hn]; decide)).trans ?_)
  unfold zB5
  show (if zI4 (objP p q (pd + 1 + p.off)).pt ≠ 0 then _ else if zG9 s.sizes q (pd + 1 + p.off) _ = false then _ else _) = _
  rw [he, hw]
  rfl
theorem qS5 (t : Nd) (off q a : Int) : objP (t.ptr off) q a = objP (t.ptr 0) q a := by
  cases t with
  | mk k z w b ks =>
    simp only [Nd.ptr]
    split
    · rfl
    · split <;> rfl
theorem qO8 {k z : Int} {w b : List Int} {ks : List Nd} {q a : Int} (h : Own2 k z w b ks q a) : zI4 (objP ((Nd.mk k z w b ks).ptr 0) q a).pt = 0 ∧ zH4 (objP ((Nd.mk k z w b ks).ptr 0) q a).pt = (Nd.mk k z w b ks).need ∧ zD8 (objP ((Nd.mk k z w b ks).ptr 0) q a) = (Nd.mk k z w b ks).need ∧
    kidN (objP ((Nd.mk k z w b ks).ptr 0) q a) = ks.length ∧ (ks = [] ∨ kidA (objP ((Nd.mk k z w b ks).ptr 0) q a) = a + ((w ++ zF3 b).length : Nat)) := by
  have key : ∀ (o : Ob) (n : Int), o.kind ≠ 3 → zI4 o.pt = 0 → zH4 o.pt = n → zI4 o.pt = 0 ∧ zH4 o.pt = n ∧ zD8 o = n := by
    intro o n h3 h1 h2
    exact ⟨h1, h2, by unfold zD8; rw [if_neg h3, h2]⟩
  cases h with
  | st h1 h2 h3 h4 h5 h6 =>
    rw [h4, h5]
    have := key ⟨1, q, a, w.length, ks.length, 0, 0⟩ ((w.length : Int) + ks.length) (by simp) (by rw [qE0, zX3]; rfl) (by rw [qD9, zT9, if_neg (by simp), if_pos rfl, zJ6 (by simp only [inR]; omega)])
    refine ⟨this.1, this.2.1, this.2.2, rfl, ?_⟩
    subst h3
    exact .inr (by simp [kidA, zF3])
  | bt h1 h2 h3 h4 h5 h6 h7 =>
    rw [h5, h6]
    have := key ⟨2, q, a, 0, 0, 2, b.length⟩ (((b.length : Int) + 7) / 8) (by simp) (by rw [qE0, zX3]; rfl) (by
      rw [qD9, zT9, if_neg (by simp), if_neg (by simp), if_neg (by simp), if_pos rfl, if_pos rfl, zJ6 (by simp only [inR]; omega : inR .i64 ((b.length : Int) + 8)), zJ6 (by simp only [inR]; omega : inR .i64 ((b.length : Int) + 8 - 1)), Int.tdiv_eq_ediv_of_nonneg (by omega), zJ6 (by simp only [inR]; omega : inR .i64 (((b.length : Int) + 8 - 1) / 8))]
      congr 1
      omega)
    subst h3; subst h4
    exact ⟨this.1, this.2.1, this.2.2, rfl, .inl rfl⟩
  | wd h1 h2 h3 h4 h5 h6 h7 =>
    rw [h5, h6]
    have := key ⟨2, q, a, 0, 0, 5, w.length⟩ (w.length : Int) (by simp) (by rw [qE0, zX3]; rfl) (by rw [qD9, zT9]; rfl)
    subst h3; subst h4
    exact ⟨this.1, this.2.1, this.2.2, rfl, .inl rfl⟩
  | pt h1 h2 h3 h4 h5 h6 h7 =>
    rw [h5, h6]
    have := key ⟨2, q, a, 0, 0, 6, ks.length⟩ (ks.length : Int) (by simp) (by rw [qE0, zX3]; rfl) (by rw [qD9, zT9]; rfl)
    subst h3; subst h4
    exact ⟨this.1, this.2.1, this.2.2, rfl, .inr (by simp [kidA, zF3])⟩
/-! ### words and bytes as they lie -/
mutual
def Nd.u8 : Nd → Prop
  | .mk _ _ _ b ks => (∀ x ∈ b, inR .u8 x) ∧ Nd.u8L ks
def Nd.u8L : List Nd → Prop
  | [] => True
  | t :: ts => t.u8 ∧ Nd.u8L ts
end
mutual
theorem NodeR.u8 {w : World} : ∀ {c : List Value} {t : Nd}, NodeR w c t → t.u8
  | _, _, .mk h1 h2 h3 h4 h5 h6 h7 h8 => ⟨h6, KidsR.u8 h8⟩
theorem KidsR.u8 {w : World} : ∀ {c : List Value} {t : List Nd}, KidsR w c t → Nd.u8L t
  | _, _, .nil => trivial
  | _, _, .cons h1 h2 => ⟨NodeR.u8 h1, KidsR.u8 h2⟩
end
theorem yP3 {A : List (List Int)} {q a : Nat} {l : List Int} (hq : q < A.length) (hl : a + l.length ≤ len2 A q) (h : ∀ j, j < l.length → w2 A q (a + j) = l.getD j 0) : zP7 (zC4 A) (q : Int) (a : Int) l.length = l := by
  refine List.ext_getElem (zK4 _ _ _ _) fun j h1 h2 => ?_
  have hw : zI3 A (q : Int) (((a + j : Nat)) : Int) = (w2 A q (a + j), 0) := qL2 hq (by omega)
  simp only [zP7, List.getElem_map, List.getElem_range]
  have e : ((a : Int) + (j : Int)) = ((a + j : Nat) : Int) := by omega
  show (zI3 A q ((a : Int) + (j : Int))).1 = _
  rw [e, hw, h j h2, zF5 h2]
theorem yF4 : ∀ (l : List Int) (i : Nat), i < 8 * l.length → (l.flatMap byt8).getD i 0 = byt1 (l.getD (i / 8) 0) (i % 8)
  | [], i, h => by simp at h
  | x :: l, i, h => by
    rw [List.flatMap_cons, qS3, qR3]
    simp only [List.length_cons] at h
    by_cases hi : 8 ≤ i
    · rw [if_pos hi, yF4 l (i - 8) (by omega), show i / 8 = (i - 8) / 8 + 1 from by omega, List.getD_cons_succ, show (i - 8) % 8 = i % 8 from by omega]
    · rw [if_neg hi, show i / 8 = 0 from by omega, List.getD_cons_zero, show i % 8 = i from by omega]
      have hl : i < (byt8 x).length := by rw [qR3]; omega
      rw [zF5 hl]
      simp [byt8]
theorem zZ1 (b : List Int) : (zF3 b).length = (b.length + 7) / 8 := by simp [zF3]
theorem qX4 {b : List Int} (hb : isU8 b) : ((zF3 b).flatMap byt8).take b.length = b := by
  have hl : ((zF3 b).flatMap byt8).length = 8 * ((b.length + 7) / 8) := by rw [qK5, zZ1]
  refine List.ext_getElem (by rw [List.length_take, hl]; omega) fun i h1 h2 => ?_
  have h3 : i < ((zF3 b).flatMap byt8).length := by rw [hl]; omega
  rw [List.getElem_take, ← zF5 h3, yF4 _ _ (by rw [zZ1]; omega), ← zF5 h2, ← yB3 hb h2]
  have h4 : i / 8 < (zF3 b).length := by rw [zZ1]; omega
  rw [zF5 h4]
  simp only [zF3, List.getElem_map, List.getElem_range, byt1]
  rw [show (2 : Int) ^ (8 * (i % 8)) = 256 ^ (i % 8) from by rw [← jD5, Nat.mul_comm]]
theorem yP4 {A : List (List Int)} {k z : Int} {w b : List Int} {ks : List Nd} {q a : Nat} (h : Own2 k z w b ks q a) (hb : isU8 b) (hq : q < A.length) (hl : a + (w ++ zF3 b).length ≤ len2 A q) (hw : ∀ j, j < (w ++ zF3 b).length → w2 A q (a + j) = (w ++ zF3 b).getD j 0) :
    nodL (zC4 A) (objP ((Nd.mk k z w b ks).ptr 0) q a) = w ∧ nodB (zC4 A) (objP ((Nd.mk k z w b ks).ptr 0) q a) = b ∧ (objP ((Nd.mk k z w b ks).ptr 0) q a).kind = k ∧ (objP ((Nd.mk k z w b ks).ptr 0) q a).size = z := by
  have all := yP3 hq hl hw
  cases h with
  | st h1 h2 h3 h4 h5 h6 =>
    subst h3
    rw [h4]
    simp only [zF3, List.length_nil, Nat.zero_add, Nat.reduceDiv, List.range_zero, List.map_nil, List.append_nil] at all
    exact ⟨all, rfl, h1.symm, h2.symm⟩
  | bt h1 h2 h3 h4 h5 h6 h7 =>
    subst h3
    rw [h5]
    simp only [List.nil_append] at all
    rw [zZ1] at all
    refine ⟨rfl, ?_, h1.symm, h2.symm⟩
    show qK4 (zC4 A) q a ((b.length : Int)).toNat = b
    rw [Int.toNat_natCast, qK4, all, qX4 hb]
  | wd h1 h2 h3 h4 h5 h6 h7 =>
    subst h3
    rw [h5]
    simp only [zF3, List.length_nil, Nat.zero_add, Nat.reduceDiv, List.range_zero, List.map_nil, List.append_nil] at all
    exact ⟨all, rfl, h1.symm, h2.symm⟩
  | pt h1 h2 h3 h4 h5 h6 h7 =>
    subst h3; subst h4
    rw [h5]
    exact ⟨rfl, rfl, h1.symm, h2.symm⟩
theorem yP5 (t : Nd) (off : Int) : (t.ptr off).off = off := by
  cases t with
  | mk k z w b ks =>
    simp only [Nd.ptr]
    split
    · rfl
    · split <;> rfl
theorem yF5 {k z : Int} {w b : List Int} {ks : List Nd} {q a : Int} (h : Own2 k z w b ks q a) (off : Int) : zK1 ((Nd.mk k z w b ks).ptr off) = true := by
  have hk : k = 1 ∨ k = 2 := by cases h <;> simp [*]
  have : ((Nd.mk k z w b ks).ptr off).kind = k := by
    simp only [Nd.ptr]
    split
    · rfl
    · split <;> rfl
  simp [zK1, this, hk]
theorem yW4 {k z : Int} {w b : List Int} {ks : List Nd} {q a : Int} (h : Own2 k z w b ks q a) {off : Int} (h0 : -5000 ≤ off) (h1 : off ≤ 5000) (hz : (Nd.mk k z w b ks).need = 0 → k = 1 → off ≠ 0) : okP ((Nd.mk k z w b ks).ptr off) := by
  cases h with
  | st h2 h3 h4 h5 h6 h7 =>
    have hp : (Nd.mk k z w b ks).ptr off = ⟨1, off, w.length, ks.length, 0, 0, 0, false⟩ := by simp [Nd.ptr, h2]
    rw [hp]
    exact .inl ⟨rfl, by simp only []; omega, by simp only []; omega, by simp only []; omega, by simp only []; omega, by simp only []; omega, by simp only []; omega, by
      rintro ⟨g1, g2, g3⟩
      simp only [] at g1 g2 g3
      exact hz (by omega) h2 g1⟩
  | bt h2 h3 h4 h5 h6 h7 h8 =>
    have hp : (Nd.mk k z w b ks).ptr off = ⟨2, off, 0, 0, 2, b.length, 0, false⟩ := by simp [Nd.ptr, h2, h3, h4, h5]
    rw [hp]
    exact .inr (.inl ⟨rfl, by simp only []; omega, by simp only []; omega, by simp, by simp, by simp only []; omega, by simp only []; omega⟩)
  | wd h2 h3 h4 h5 h6 h7 h8 =>
    have hp : (Nd.mk k z w b ks).ptr off = ⟨2, off, 0, 0, 5, w.length, 0, false⟩ := by simp [Nd.ptr, h2, h3, h4, h5]
    rw [hp]
    exact .inr (.inl ⟨rfl, by simp only []; omega, by simp only []; omega, by simp, by simp, by simp only []; omega, by simp only []; omega⟩)
  | pt h2 h3 h4 h5 h6 h7 h8 =>
    have hp : (Nd.mk k z w b ks).ptr off = ⟨2, off, 0, 0, 6, ks.length, 0, false⟩ := by simp [Nd.ptr, h2, h3, h4, h5]
    rw [hp]
    exact .inr (.inl ⟨rfl, by simp only []; omega, by simp only []; omega, by simp, by simp, by simp only []; omega, by simp only []; omega⟩)
theorem yJ6 {A : List (List Int)} {B : Nat → Nat} (hA : A.length ≤ 16) (hl : ∀ q, len2 A q ≤ 4096) {k z : Int} {w b : List Int} {ks : List Nd} (ho : (Nd.mk k z w b ks).own = true) (hk : ¬ k = 0) {s i q a : Nat} (hs : s < A.length) (hi : i < len2 A s) (hp : Pts A B (.mk k z w b ks) s i q a) (hq : q < A.length)
    (hz : (Nd.mk k z w b ks).need = 0 → k = 1 → q = s ∧ a = i) (hlen : a + (Nd.mk k z w b ks).need.toNat ≤ len2 A q) : zA0 (zC4 A) (s : Int) (i : Int) = (objP ((Nd.mk k z w b ks).ptr 0) q a, 0) := by
  obtain ⟨hkd, hlw, hlb, hlk, hnn, hnm, hkn, hb1⟩ := Nd.own_b ho
  have h2 := own2 ho hk (q : Int) (a : Int)
  obtain ⟨e1, e2, e3, e4, e5⟩ := qO8 h2
  have hlq := hl q
  have hls := hl s
  have hwi : zG9 (zC4 A).sizes (q : Int) (a : Int) (Nd.mk k z w b ks).need = true := by
    have hg : (zC4 A).sizes.getD q 0 = (len2 A q : Int) := by
      rw [zF5 (by simpa [zC4] using hq)]
      simp only [zC4, List.getElem_map, len2]
      rw [zF5 hq]
    unfold zG9 zL3
    rw [Int.toNat_natCast, hg]
    simp only [Bool.and_eq_true, decide_eq_true_eq, zC4, List.length_map]
    omega
  rcases hp with ⟨rfl, hw⟩ | ⟨p, hne0, hpa, hBp, hpl, hw, hw2⟩
  · have hword : (zC4 A).word (q : Int) (i : Int) = (encR ((Nd.mk k z w b ks).ptr ((a : Int) - i - 1)), 0) := by
      have := qL2 hs hi
      show zI3 A _ _ = _
      rw [this]
      exact congrArg (fun x => (x, (0 : Int))) hw
    have hsay := qS0 (yW4 h2 (off := (a : Int) - i - 1) (by omega) (by omega) (fun g1 g2 => by have := (hz g1 g2).2; omega))
    have hat : (i : Int) + 1 + ((Nd.mk k z w b ks).ptr ((a : Int) - i - 1)).off = (a : Int) := by rw [yP5]; omega
    have := yB5 hsay hword (yF5 h2 _) (by rw [hat, qS5, e1]) (by rw [hat, qS5, e2]; exact hwi)
    rw [this, hat, qS5]
  · have hword : (zC4 A).word (s : Int) (i : Int) = (encR ⟨3, (p : Int), 0, 0, 0, 0, (q : Int), false⟩, 0) := by
      have := qL2 hs hi
      show zI3 A _ _ = _
      rw [this]
      exact congrArg (fun x => (x, (0 : Int))) hw
    have hword2 : (zC4 A).word (q : Int) (p : Int) = (encR ((Nd.mk k z w b ks).ptr 0), 0) := by
      have := qL2 hq hpl
      show zI3 A _ _ = _
      rw [this]
      exact congrArg (fun x => (x, (0 : Int))) hw2
    have hsay := qS0 (yW4 h2 (off := 0) (by omega) (by omega) (fun g1 _ => absurd g1 hne0))
    have hfar : Says (encR ⟨3, (p : Int), 0, 0, 0, 0, (q : Int), false⟩) ⟨3, (p : Int), 0, 0, 0, 0, (q : Int), false⟩ := qS0 (.inr (.inr (.inl ⟨rfl, by simp only []; omega, by simp only []; omega, by simp only []; omega, by simp only []; omega⟩)))
    have hat : (p : Int) + 1 + ((Nd.mk k z w b ks).ptr 0).off = (a : Int) := by rw [yP5]; omega
    have := yB6 hfar hword hsay hword2 (yF5 h2 _) (by rw [hat, e1]) (by rw [hat, e2]; exact hwi)
    rw [this, hat]
mutual
/-- What lies as it should is decoded as it is. -/
theorem yP6 {A : List (List Int)} {B : Nat → Nat} (hA : A.length ≤ 16) (hl : ∀ q, len2 A q ≤ 4096) : ∀ (t : Nd) (s i d : Nat) (p : Int), t.right d = true → t.u8 → Rep A B t s i → 0 ≤ p → p + t.cst ≤ 8192 → zK2 (zC4 A) d (s : Int) (i : Int) p = (p + t.cst, t, 0)
  | .mk k z w b ks, s, i, d, p, hr, hu, h, h0, h1 => by
    have hfine : (Nd.mk k z w b ks).fine := ⟨d, hr⟩
    have ho := Nd.fine_own hfine
    rw [Rep] at h
    obtain ⟨hi, hs, h⟩ := h
    rw [Nd.cst] at h1 ⊢
    have hcl := Nd.cstL_nn ks
    have hnn := Nd.need_nn (.mk k z w b ks)
    simp only [Nd.right, Bool.and_eq_true, Bool.not_eq_true', Bool.and_eq_false_iff, decide_eq_false_iff_not] at hr
    obtain ⟨⟨-, hr2⟩, hr3⟩ := hr
    rw [qR4]
    by_cases hk : k = 0
    · rw [if_pos hk] at h
      have hks : ks = [] := qI2 ho (by omega)
      have hf : zA0 (zC4 A) (s : Int) (i : Int) = (Ob0, 0) := by
        have hw := qL2 hs hi
        have hw' : zI3 A (s : Int) (i : Int) = (0, 0) := by rw [hw]; exact congrArg (fun x => (x, (0 : Int))) h
        have hp : ptrS (zC4 A) (s : Int) (i : Int) = (Pt0, 0) := by
          unfold ptrS
          show (if (zI3 A (s : Int) (i : Int)).2 ≠ 0 then _ else (decP (zI3 A (s : Int) (i : Int)).1, decE (zI3 A (s : Int) (i : Int)).1)) = _
          rw [hw']
          rfl
        unfold zA0
        rw [hp]
        exact if_pos (.inr rfl)
      simp only [Nd.own, if_pos hk, Bool.and_eq_true, decide_eq_true_eq] at ho
      have hw0 : w = [] := List.eq_nil_of_length_eq_zero (by omega)
      have hb0 : b = [] := List.eq_nil_of_length_eq_zero (by omega)
      have hz0 : z = 0 := ho.1
      subst hw0; subst hb0; subst hz0; subst hk; subst hks
      have hn0 : (Nd.mk 0 0 [] [] []).need = 0 := rfl
      have hc0 : Nd.cstL [] = 0 := by rw [Nd.cstL]
      rw [hn0, hc0] at h1 ⊢
      unfold qK6
      rw [hf]
      have hw1 : zD8 Ob0 = 0 := rfl
      rw [if_neg (by simp), if_neg (by simp [Ob0]), hw1, if_neg (by omega)]
      rfl
    · rw [if_neg hk] at h
      obtain ⟨q, a, hp, hq, -, hz, hlen, hwd, hreps⟩ := h
      have hbl := qS4 ho hk
      have hf := yJ6 hA hl ho hk hs hi hp hq hz hlen
      have h2 := own2 ho hk (q : Int) (a : Int)
      obtain ⟨e1, e2, e3, e4, e5⟩ := qO8 h2
      rw [Nd.u8] at hu
      obtain ⟨f1, f2, f3, f4⟩ := yP4 h2 hu.1 hq (by omega) hwd
      obtain ⟨d1, rfl⟩ : ∃ e, d = e + 1 := ⟨d - 1, by rcases hr2 with h | h <;> omega⟩
      have hkids : zI6 (fun x y => zK2 (zC4 A) d1 (q : Int) x y) (kidA (objP ((Nd.mk k z w b ks).ptr 0) (q : Int) (a : Int))) (p + (1 + (Nd.mk k z w b ks).need)) ks.length = (p + (1 + (Nd.mk k z w b ks).need) + Nd.cstL ks, ks, 0) := by
        rcases e5 with e5 | e5
        · subst e5
          have hc0 : Nd.cstL [] = 0 := by rw [Nd.cstL]
          rw [hc0]
          simp [zI6]
        · rw [e5, show ((a : Int) + (((w ++ zF3 b).length : Nat) : Int)) = ((a + (w ++ zF3 b).length : Nat) : Int) from by omega]
          exact yF6 hA hl ks q _ d1 _ hr3 hu.2 hreps (by omega) (by omega)
      unfold qK6
      rw [hf]
      simp only [] at *
      rw [if_neg (by simp), if_neg (by simp), e3, if_neg (by omega), e4, Int.toNat_natCast]
      have hseg : (objP ((Nd.mk k z w b ks).ptr 0) (q : Int) (a : Int)).seg = q := rfl
      rw [hseg]
      have hF : qM2 (zC4 A) (d1 + 1) (q : Int) = fun x y => zK2 (zC4 A) d1 (q : Int) x y := rfl
      rw [hF, hkids, if_neg (by simp), f1, f2, f3, f4]
      exact Prod.ext (by simp only []; omega) rfl
theorem yF6 {A : List (List Int)} {B : Nat → Nat} (hA : A.length ≤ 16) (hl : ∀ q, len2 A q ≤ 4096) : ∀ (ts : List Nd) (q j d : Nat) (p : Int), Nd.rights ts d = true → Nd.u8L ts → Reps A B ts q j → 0 ≤ p → p + Nd.cstL ts ≤ 8192 → zI6 (fun x y => zK2 (zC4 A) d (q : Int) x y) (j : Int) p ts.length = (p + Nd.cstL ts, ts, 0)
  | [], q, j, d, p, _, _, _, _, _ => by rw [Nd.cstL, Int.add_zero]; rfl
  | t :: ts, q, j, d, p, hr, hu, h, h0, h1 => by
    rw [Nd.cstL] at h1 ⊢
    have hc := Nd.cst_pos t
    have hcl := Nd.cstL_nn ts
    rw [Reps] at h
    simp only [Nd.rights, Bool.and_eq_true] at hr
    rw [Nd.u8L] at hu
    have h2 := yP6 hA hl t q j d p hr.1 hu.1 h.1.2 h0 (by omega)
    have h3 := yF6 hA hl ts q (j + 1) d (p + t.cst) hr.2 hu.2 h.2 (by omega) (by omega)
    rw [List.length_cons, ← Int.add_assoc]
    exact qO7 (f := fun x y => zK2 (zC4 A) d (q : Int) x y) h2 ts.length _ ts h3
end
mutual
theorem Nd.cst_needs : ∀ (t : Nd) (l : Nat), t.right l = true → t.cst ≤ 1 + 2 * t.needs
  | .mk k z w b ks, l, h => by
    simp only [Nd.right, Bool.and_eq_true] at h
    obtain ⟨hkd, hlw, hlb, hlk, hnn, hnm, hkn, hb1⟩ := Nd.own_b h.1.1
    have hk := Nd.cstL_needs ks _ h.2
    have h0 : (ks.length : Int) ≤ (Nd.mk k z w b ks).need := by
      by_cases hk0 : k = 0
      · have hks : ks = [] := qI2 h.1.1 (by omega)
        subst hks; simpa using hnn
      · exact hkn hk0
    rw [Nd.cst, Nd.needs]
    omega
theorem Nd.cstL_needs : ∀ (ts : List Nd) (l : Nat), Nd.rights ts l = true → Nd.cstL ts ≤ ts.length + 2 * Nd.needsL ts
  | [], _, _ => by simp [Nd.cstL, Nd.needsL]
  | t :: ts, l, h => by
    simp only [Nd.rights, Bool.and_eq_true] at h
    have h1 := Nd.cst_needs t l h.1
    have h2 := Nd.cstL_needs ts l h.2
    rw [Nd.cstL, Nd.needsL, List.length_cons]
    omega
end
theorem yU1 {t : Nd} {size : Int} (hu : t.u8) (hn : t.needs ≤ 4000) (h : (t.build size).2 = 0) : zK2 (zC4 (t.build size).1) 32 0 0 0 = (t.cst, t, 0) := by
  have hfit := Nd.build_fit h
  unfold Nd.build at h hfit ⊢
  by_cases h1 : size < 1 ∨ size > 4096 ∨ t.right 32 = false
  · rw [if_pos h1] at h; exact absurd h (by decide)
  · rw [if_neg h1] at h hfit ⊢
    have hr : t.right 32 = true := by
      cases hc : t.right 32 with
      | true => rfl
      | false => exact absurd (.inr (.inr hc)) h1
    by_cases h2 : (t.lay size ⟨[[0]], false⟩ 0 0).full = true
    · rw [if_pos h2] at h; exact absurd h (by decide)
    · rw [if_neg h2] at h hfit ⊢
      obtain ⟨-, hrep⟩ := Nd.lay_rep size t ⟨[[0]], false⟩ 0 0 ⟨32, hr⟩ (by simp) (by simp) (by simp [len2]) (by simp [w2]) (by simpa using h2)
      have hc := Nd.cst_needs t 32 hr
      have hs4 : size ≤ 4096 := by omega
      replace hfit : Fit size (t.lay size ⟨[[0]], false⟩ 0 0).A := hfit
      have := yP6 (A := (t.lay size ⟨[[0]], false⟩ 0 0).A) hfit.most (fun q => by have := hfit.seg q; omega) t 0 0 32 0 hr hu hrep (by omega) (by omega)
      rw [Int.zero_add] at this
      exact this
/-! ### what is built are words -/
def AllU (A : List (List Int)) : Prop := ∀ q ∈ A, ∀ x ∈ q, inR .u64 x
mutual
def Nd.u64 : Nd → Prop
  | .mk _ _ w _ ks => (∀ x ∈ w, inR .u64 x) ∧ Nd.u64L ks
def Nd.u64L : List Nd → Prop
  | [] => True
  | t :: ts => t.u64 ∧ Nd.u64L ts
end
mutual
theorem NodeR.u64 {w : World} : ∀ {c : List Value} {t : Nd}, NodeR w c t → t.u64
  | _, _, .mk h1 h2 h3 h4 h5 h6 h7 h8 => ⟨h4, KidsR.u64 h8⟩
theorem KidsR.u64 {w : World} : ∀ {c : List Value} {t : List Nd}, KidsR w c t → Nd.u64L t
  | _, _, .nil => trivial
  | _, _, .cons h1 h2 => ⟨NodeR.u64 h1, KidsR.u64 h2⟩
end
theorem AllU.getD {A : List (List Int)} (h : AllU A) (s : Nat) : ∀ x ∈ A.getD s [], inR .u64 x := by
  by_cases hs : s < A.length
  · rw [zF5 hs]; exact h _ (List.getElem_mem hs)
  · rw [List.getD_eq_getElem?_getD, List.getElem?_eq_none (by omega)]; intro x hx; simp at hx
theorem AllU.set {A : List (List Int)} (h : AllU A) (s i : Nat) {x : Int} (hx : inR .u64 x) : AllU (setP A s i x) := by
  intro q hq y hy
  rcases List.mem_or_eq_of_mem_set hq with hq | rfl
  · exact h q hq y hy
  · rcases List.mem_or_eq_of_mem_set hy with hy | rfl
    · exact h.getD s y hy
    · exact hx
theorem AllU.growB {A : List (List Int)} (h : AllU A) (q : Nat) : AllU (growB A q) := by
  unfold K.growB
  split
  · intro p hp y hy
    rcases List.mem_append.1 hp with hp | hp
    · exact h p hp y hy
    · simp only [List.mem_singleton] at hp; subst hp; simp at hy
  · exact h
theorem AllU.grow {A : List (List Int)} (h : AllU A) (q : Nat) {l : List Int} (hl : ∀ x ∈ l, inR .u64 x) : AllU (zI9 A q l) := by
  intro p hp y hy
  unfold zI9 at hp
  rcases List.mem_or_eq_of_mem_set hp with hp | rfl
  · exact (h.growB q) p hp y hy
  · rcases List.mem_append.1 hy with hy | hy
    · exact (h.growB q).getD q y hy
    · exact hl y hy
theorem yB7 {k z : Int} {w b : List Int} {ks : List Nd} (hw : ∀ x ∈ w, inR .u64 x) (hb : isU8 b) : ∀ x ∈ (Nd.mk k z w b ks).content, inR .u64 x := by
  intro x hx
  simp only [Nd.content, List.mem_append, zF3, List.mem_map, List.mem_replicate] at hx
  rcases hx with (hx | ⟨j, -, rfl⟩) | ⟨-, rfl⟩
  · exact hw x hx
  · have := qX0 hb j
    simp only [inR]; omega
  · simp [inR]
theorem yP7 (size : Int) (t : Nd) (S : Lay) (s i : Nat) (h : AllU S.A) : AllU (zC6 size t S s i).S.A := by
  have h1 : ∀ x ∈ [t.near 0], inR .u64 x := fun x hx => by simp only [List.mem_singleton] at hx; subst hx; exact qD7 _
  unfold zC6
  split
  · exact h.set _ _ (qD7 _)
  · split
    · exact (h.set _ _ (qD7 _)).grow _ h1
    · exact (h.set _ _ (qD7 _)).grow _ h1
mutual
theorem yP8 (size : Int) : ∀ (t : Nd) (S : Lay) (s i : Nat), t.u64 → t.u8 → AllU S.A → AllU (t.lay size S s i).A
  | .mk k z w b ks, S, s, i, hw, hb, h => by
    rw [Nd.u64] at hw
    rw [Nd.u8] at hb
    simp only [Nd.lay]
    split
    · exact h
    · split
      · exact h.set _ _ (qD7 _)
      · exact yF7 size ks _ _ _ hw.2 hb.2 ((yP7 size _ S s i h).grow _ (yB7 hw.1 hb.1))
theorem yF7 (size : Int) : ∀ (ts : List Nd) (S : Lay) (s i : Nat), Nd.u64L ts → Nd.u8L ts → AllU S.A → AllU (Nd.lays size ts S s i).A
  | [], S, s, i, _, _, h => h
  | t :: ts, S, s, i, hw, hb, h => by
    rw [Nd.u64L] at hw
    rw [Nd.u8L] at hb
    simp only [Nd.lays]
    exact yF7 size ts _ _ _ hw.2 hb.2 (yP8 size t S s i hw.1 hb.1 h)
end
theorem qL4 {t : Nd} (size : Int) (hw : t.u64) (hb : t.u8) : ∀ q ∈ (t.build size).1, ∀ x ∈ q, inR .u64 x := by
  unfold Nd.build
  split
  · intro q hq; simp at hq
  · split
    · intro q hq; simp at hq
    · refine yP8 size t _ 0 0 hw hb ?_
      intro q hq x hx
      simp only [List.mem_singleton] at hq
      subst hq
      simp only [List.mem_singleton] at hx
      subst hx
      simp [inR]
theorem yB8 {t : Nd} {size : Int} (h : (t.build size).2 = 0) : zG0 (t.build size).1 = true := by
  have hf := Nd.build_fit h
  have h0 : 1 ≤ len2 (t.build size).1 0 := by
    unfold Nd.build at h ⊢
    by_cases h1 : size < 1 ∨ size > 4096 ∨ t.right 32 = false
    · rw [if_pos h1] at h; exact absurd h (by decide)
    · rw [if_neg h1] at h ⊢
      by_cases h2 : (t.lay size ⟨[[0]], false⟩ 0 0).full = true
      · rw [if_pos h2] at h; exact absurd h (by decide)
      · rw [if_neg h2]
        exact Nat.le_trans (by decide : 1 ≤ len2 [[0]] 0) ((Nd.lay_ok size t ⟨[[0]], false⟩ 0 0 (by simp)).grew.seg 0)
  unfold zG0
  exact decide_eq_true ⟨hf.one, hf.most, h0, hf.all⟩
theorem yP9 {t : Nd} {size : Int} (hu : t.u8) (hn : t.needs ≤ 4000) (h : (t.build size).2 = 0) : decT (t.build size).1 = (t, 0) := by
  unfold decT
  rw [yB8 h, if_neg (by simp), yU1 hu hn h]
/-! ### chunks of an arena, as words -/
theorem yF8 : ∀ (A : List (List Int)), ((A.flatten.length : Nat) : Int) = zB9 A
  | [] => rfl
  | s :: A => by have := yF8 A; rw [List.flatten_cons, List.length_append]; simp only [zB9]; omega
theorem yB9 {A : List (List Int)} (h : zG0 A = true) : qD8 (zC9 A) = A.flatten.length ∧ 1 ≤ yP2 (zC9 A) := by
  have hf : zN6 (zC9 A) = true := by rw [qG1]; exact h
  have h1 := qO6 hf
  rw [zZ0] at h1
  have h2 := yF8 A
  have hc : yP2 (zC9 A) = (qD8 (zC9 A) + 7) / 8 := rfl
  omega
/-! ### the chapter's example -/
/-! ### what law12.Arena makes of choices -/
section
variable {s s' : Src}
end
/-! ### the words of an arena, one behind the other -/
theorem yF9 : ∀ (A : List (List Int)) (i j : Nat), i < A.length → j < len2 A i → (A.flatten).getD (j + (zB9 (A.take i)).toNat) 0 = (A.getD i []).getD j 0
  | [], i, j, h, _ => by simp at h
  | s :: A, 0, j, _, hj => by
    simp only [len2, List.getD_cons_zero] at hj
    simp only [List.take_zero, zB9, Int.toNat_zero, Nat.add_zero, List.flatten_cons, List.getD_cons_zero]
    rw [List.getD_eq_getElem?_getD, List.getD_eq_getElem?_getD, List.getElem?_append_left hj]
  | s :: A, i + 1, j, h, hj => by
    have hj' : j < len2 A i := by simpa [len2] using hj
    have ih := yF9 A i j (by simpa using h) hj'
    have hn := zK5 (A.take i)
    simp only [List.take_succ_cons, zB9, List.flatten_cons, List.getD_cons_succ]
    rw [← ih, List.getD_eq_getElem?_getD, List.getD_eq_getElem?_getD, List.getElem?_append_right (by omega), show j + ((s.length : Int) + zB9 (A.take i)).toNat - s.length = j + (zB9 (A.take i)).toNat from by omega]
theorem yC0 {A : List (List Int)} (h : zG0 A = true) (seg a : Int) : (zH9 (zC9 A) seg a < 0 ∧ zI3 A seg a = (0, 20)) ∨ ∃ k : Nat, zH9 (zC9 A) seg a = (k : Int) ∧ k < A.flatten.length ∧ zI3 A seg a = (A.flatten.getD k 0, 0) := by
  have hf : zN6 (zC9 A) = true := by rw [qG1]; exact h
  have hsl := zM8 A
  have hg := zR1 A seg.toNat
  by_cases hc : 0 ≤ seg ∧ seg < A.length ∧ 0 ≤ a ∧ a < len2 A seg.toNat
  · right
    have hp : zH9 (zC9 A) seg a = a + sumL ((zC9 A).take seg.toNat) := by unfold zH9; rw [if_pos ⟨hf, by omega, by omega, by omega, by omega⟩]
    have hst : sumL ((zC9 A).take seg.toNat) = zB9 (A.take seg.toNat) := by
      rw [← zZ0]; unfold zC9; rw [List.map_take]
    have hn := zK5 (A.take seg.toNat)
    have hfg := yF9 A seg.toNat a.toNat (by omega) (by omega)
    have hl := (qX1 (sz := zC9 A) (seg := seg) (a := a) (by omega)).2.2.2.2.2.2
    have hw := (yB9 h).1
    refine ⟨a.toNat + (zB9 (A.take seg.toNat)).toNat, by omega, by omega, ?_⟩
    unfold zI3
    rw [if_pos hc, hfg]
  · left
    refine ⟨?_, by unfold zI3; rw [if_neg hc]⟩
    unfold zH9
    rw [if_neg (by omega)]
    decide
abbrev Spn := Int × Int
def encS (s : Spn) : List Value := [.int .i64 s.1, .int .i64 s.2]
def encL (L : List Spn) : List Value := L.flatMap encS
theorem zL1 (L : List Spn) : (encL L).length = L.length * 2 := by
  induction L with
  | nil => rfl
  | cons s L ih => simp only [encL, List.flatMap_cons, List.length_append, List.length_cons] at ih ⊢; rw [ih]; simp [encS]; omega
theorem zM2 (A B : List Spn) : encL (A ++ B) = encL A ++ encL B := by simp [encL]
theorem yC1 : ∀ {L : List Spn} {i : Nat} (h : i < L.length), ((encL L).drop (i * 2)).take 2 = encS L[i]
  | [], i, h => by simp at h
  | s :: L, 0, _ => by simp [encL, encS]
  | s :: L, i + 1, h => by
    have := yC1 (L := L) (i := i) (by simpa using h)
    rw [show (i + 1) * 2 = i * 2 + 1 + 1 from by omega]
    simpa [encL, encS] using this
theorem yU2 {L : List Spn} : ∀ q ∈ encL L, q.oneCell' = true := by
  intro q hq
  obtain ⟨s, -, h⟩ := List.mem_flatMap.1 hq
  simp only [encS, List.mem_cons, List.not_mem_nil, or_false] at h
  rcases h with rfl | rfl <;> rfl
def zV6 (s : Spn) : Bool := decide (s.2 ≤ s.1)
def inS (L : List Spn) (n : Int) : Prop := ∃ s ∈ L, s.1 ≤ n ∧ n < s.2
theorem yC2 (n : Int) : ¬ inS [] n := fun ⟨_, h, _⟩ => by simp at h
theorem zL9 (s : Spn) (L : List Spn) (n : Int) : inS (s :: L) n ↔ (s.1 ≤ n ∧ n < s.2) ∨ inS L n := by simp [inS]
theorem qO9 (A B : List Spn) (n : Int) : inS (A ++ B) n ↔ inS A n ∨ inS B n := by
  unfold inS
  constructor
  · rintro ⟨s, h, h2⟩
    rcases List.mem_append.1 h with h | h
    · exact .inl ⟨s, h, h2⟩
    · exact .inr ⟨s, h, h2⟩
  · rintro (⟨s, h, h2⟩ | ⟨s, h, h2⟩)
    · exact ⟨s, List.mem_append_left _ h, h2⟩
    · exact ⟨s, List.mem_append_right _ h, h2⟩
theorem yG0 {A B : List Spn} (h : A.Perm B) (n : Int) : inS A n ↔ inS B n := by
  unfold inS
  constructor
  · rintro ⟨s, hs, h2⟩; exact ⟨s, h.mem_iff.1 hs, h2⟩
  · rintro ⟨s, hs, h2⟩; exact ⟨s, h.mem_iff.2 hs, h2⟩
theorem yJ7 (L : List Spn) (n : Int) : inS (L.filter fun s => !zV6 s) n ↔ inS L n := by
  unfold inS
  constructor
  · rintro ⟨s, hs, h2⟩; exact ⟨s, (List.mem_filter.1 hs).1, h2⟩
  · rintro ⟨s, hs, h2⟩
    exact ⟨s, List.mem_filter.2 ⟨hs, by simp only [zV6, Bool.not_eq_true', decide_eq_false_iff_not]; omega⟩, h2⟩
def zS4 : List Spn → Prop
  | [] => True
  | s :: L => s.1 < s.2 ∧ (∀ t ∈ L, s.2 < t.1) ∧ zS4 L
theorem zS4.lo : ∀ {L : List Spn} {s : Spn}, zS4 (s :: L) → ∀ n, inS (s :: L) n → s.1 ≤ n
  | L, s, ⟨h1, h2, h3⟩, n, h => by
    rcases (zL9 s L n).1 h with h | ⟨t, ht, h4, h5⟩
    · exact h.1
    · have := h2 t ht; omega
theorem qP0 : ∀ (A B : List Spn), zS4 A → zS4 B → (∀ n, inS A n ↔ inS B n) → A = B
  | [], [], _, _, _ => rfl
  | [], t :: B, _, hB, h => absurd ((h t.1).2 ⟨t, by simp, Int.le_refl _, hB.1⟩) (yC2 _)
  | s :: A, [], hA, _, h => absurd ((h s.1).1 ⟨s, by simp, Int.le_refl _, hA.1⟩) (yC2 _)
  | s :: A, t :: B, hA, hB, h => by
    have h1 : s.1 = t.1 := by
      have g1 := hB.lo s.1 ((h s.1).1 ⟨s, by simp, Int.le_refl _, hA.1⟩)
      have g2 := hA.lo t.1 ((h t.1).2 ⟨t, by simp, Int.le_refl _, hB.1⟩)
      omega
    have key : ∀ {s t : Spn} {A B : List Spn}, zS4 (s :: A) → zS4 (t :: B) → (∀ n, inS (s :: A) n ↔ inS (t :: B) n) → s.1 = t.1 → t.2 ≤ s.2 := by
      intro s t A B hA hB h h1
      by_cases hlt : s.2 < t.2
      · exfalso
        have g := (h s.2).2 ⟨t, by simp, by have := hA.1; omega, hlt⟩
        rcases (zL9 s A s.2).1 g with g | ⟨u, hu, g1, g2⟩
        · omega
        · have := hA.2.1 u hu; omega
      · omega
    have h2 : s.2 = t.2 := by
      have g1 := key hA hB h h1
      have g2 := key hB hA (fun n => (h n).symm) h1.symm
      omega
    have h3 : s = t := Prod.ext h1 h2
    subst h3
    congr 1
    refine qP0 A B hA.2.2 hB.2.2 fun n => ?_
    have g := h n
    rw [zL9, zL9] at g
    constructor
    · intro hn
      obtain ⟨u, hu, g1, g2⟩ := hn
      have g3 := hA.2.1 u hu
      rcases g.1 (.inr ⟨u, hu, g1, g2⟩) with g4 | g4
      · omega
      · exact g4
    · intro hn
      obtain ⟨u, hu, g1, g2⟩ := hn
      have g3 := hB.2.1 u hu
      rcases g.2 (.inr ⟨u, hu, g1, g2⟩) with g4 | g4
      · omega
      · exact g4
/-! ### Norm: what is sorted is joined; the last one is at the list's head here -/
def zP6 (out : List Spn) (s : Spn) : List Spn := match out with
  | [] => [s]
  | t :: r => if s.1 ≤ t.2 then (t.1, max t.2 s.2) :: r else s :: t :: r
def yQ0 (L : List Spn) : List Spn := L.foldl zP6 []
def RevR : List Spn → Prop
  | [] => True
  | s :: L => s.1 < s.2 ∧ (∀ t ∈ L, t.2 < s.1) ∧ RevR L
theorem qP1 : ∀ {L : List Spn}, RevR L → ∀ {R : List Spn}, zS4 R → (∀ t ∈ L, ∀ u ∈ R, t.2 < u.1) → zS4 (L.reverse ++ R)
  | [], _, R, hR, _ => by simpa using hR
  | s :: L, h, R, hR, hs => by
    rw [List.reverse_cons, List.append_assoc]
    refine qP1 h.2.2 ⟨h.1, fun t ht => hs s (by simp) t ht, hR⟩ ?_
    intro t ht u hu
    rcases List.mem_cons.1 hu with rfl | hu
    · exact h.2.1 t ht
    · exact hs t (by simp [ht]) u hu
theorem yZ3 {out : List Spn} {s : Spn} (h : RevR out) (hs : s.1 < s.2) (hle : ∀ t ∈ out, t.1 ≤ s.1) : RevR (zP6 out s) ∧ (∀ t ∈ zP6 out s, t.1 ≤ s.1) ∧ ∀ n, inS (zP6 out s) n ↔ inS out n ∨ (s.1 ≤ n ∧ n < s.2) := by
  cases out with
  | nil => exact ⟨⟨hs, fun t ht => by simp at ht, trivial⟩, fun t ht => by simp [zP6] at ht; subst ht; exact Int.le_refl _, fun n => by simp [zP6, inS]⟩
  | cons t r =>
    obtain ⟨h1, h2, h3⟩ := h
    have h4 := hle t (by simp)
    unfold zP6
    by_cases hc : s.1 ≤ t.2
    · simp only [if_pos hc]
      refine ⟨⟨by simp only []; omega, h2, h3⟩, fun u hu => ?_, fun n => ?_⟩
      · rcases List.mem_cons.1 hu with rfl | hu
        · exact h4
        · exact hle u (by simp [hu])
      · rw [zL9, zL9]
        simp only []
        constructor
        · rintro (g | g)
          · by_cases hn : n < t.2
            · exact .inl (.inl ⟨g.1, hn⟩)
            · exact .inr ⟨by omega, by omega⟩
          · exact .inl (.inr g)
        · rintro ((g | g) | g)
          · exact .inl ⟨g.1, by omega⟩
          · exact .inr g
          · exact .inl ⟨by omega, by omega⟩
    · simp only [if_neg hc]
      refine ⟨⟨hs, fun u hu => ?_, h1, h2, h3⟩, fun u hu => ?_, fun n => ?_⟩
      · rcases List.mem_cons.1 hu with rfl | hu
        · omega
        · have := h2 u hu; omega
      · rcases List.mem_cons.1 hu with rfl | hu
        · exact Int.le_refl _
        · exact hle u hu
      · rw [zL9 s]; exact or_comm
theorem yQ1 : ∀ (L out : List Spn), RevR out → (∀ s ∈ L, s.1 < s.2) → (∀ t ∈ out, ∀ s ∈ L, t.1 ≤ s.1) → L.Pairwise (fun a b => a.1 ≤ b.1) → RevR (L.foldl zP6 out) ∧ ∀ n, inS (L.foldl zP6 out) n ↔ inS out n ∨ inS L n
  | [], out, h, _, _, _ => ⟨h, fun n => by simp [inS]⟩
  | s :: L, out, h, hs, hle, hp => by
    obtain ⟨g1, g2, g3⟩ := yZ3 h (hs s (by simp)) (fun t ht => hle t ht s (by simp))
    obtain ⟨hp1, hp2⟩ := List.pairwise_cons.1 hp
    obtain ⟨k1, k2⟩ := yQ1 L (zP6 out s) g1 (fun t ht => hs t (by simp [ht])) (fun t ht u hu => Int.le_trans (g2 t ht) (hp1 u hu)) hp2
    refine ⟨k1, fun n => ?_⟩
    show inS (L.foldl zP6 (zP6 out s)) n ↔ _
    rw [k2, g3, zL9]
    exact or_assoc
def yC3 (L : List Spn) : List Spn := (yQ0 L).reverse
theorem yU3 {L : List Spn} (hs : ∀ s ∈ L, s.1 < s.2) (hp : L.Pairwise (fun a b => a.1 ≤ b.1)) : zS4 (yC3 L) ∧ ∀ n, inS (yC3 L) n ↔ inS L n := by
  obtain ⟨h1, h2⟩ := yQ1 L [] trivial hs (fun t ht => by simp at ht) hp
  refine ⟨by have := qP1 h1 (R := []) trivial (fun t _ u hu => by simp at hu); simpa [yC3, yQ0] using this, fun n => ?_⟩
  rw [yC3, yG0 (List.reverse_perm _), yQ0, h2]
  exact ⟨fun h => h.resolve_left (yC2 n), .inr⟩
structure NormOf (L N : List Spn) : Prop where
  right : zS4 N
  pts : ∀ n, inS N n ↔ inS L n
theorem NormOf.same {L M A B : List Spn} (h : NormOf L A) (k : NormOf M B) (hp : ∀ n, inS L n ↔ inS M n) : A = B := qP0 A B h.right k.right fun n => by rw [h.pts, k.pts, hp]
theorem yQ2 {L d : List Spn} (hperm : d.Perm (L.filter fun s => !zV6 s)) (hp : d.Pairwise (fun a b => a.1 ≤ b.1)) : NormOf L (yC3 d) := by
  have hs : ∀ s ∈ d, s.1 < s.2 := fun s hs => by
    have := (List.mem_filter.1 (hperm.mem_iff.1 hs)).2
    simp only [zV6, Bool.not_eq_true', decide_eq_false_iff_not] at this
    omega
  obtain ⟨h1, h2⟩ := yU3 hs hp
  exact ⟨h1, fun n => by rw [h2, yG0 hperm, yJ7]⟩
/-! ### holes -/
def putS (f t : Int) : List Spn := if f < t then [(f, t)] else []
def yW5 : List Spn → Int → Int → List Spn
  | [], f, t => putS f t
  | a :: N, f, t => putS f (min a.1 t) ++ yW5 N (max f a.2) t
theorem yG1 {L : List Spn} {i c : Nat} (hi : i < L.length) (hc : c < 2) : (encL L)[i * 2 + c]? = (encS L[i])[c]? := by
  have := congrArg (fun l : List Value => l[c]?) (yC1 hi)
  simp only [List.getElem?_take, hc, if_true, List.getElem?_drop] at this
  exact this
theorem qE1 {w : World} {base n m c sz : Nat} {T : TypeId} {ad : Option Addr} {xs : List Value} (h : w.ownsRow base T sz (.slice ad n c) m xs) : n = m := by
  rcases h.2 with ⟨hv, hm⟩ | ⟨q, cap, cur, hv, _⟩
  · simp only [Value.slice.injEq] at hv
    omega
  · simp only [Value.slice.injEq] at hv
    exact hv.2.1
abbrev gS (L : List Spn) (i : Nat) : Spn := L.getD i (0, 0)
theorem qH5 {L : List Spn} {i : Nat} (h : i < L.length) : gS L i = L[i] := by simp [gS, List.getD_eq_getElem?_getD, h]
theorem yW6 {w : World} {ad : Option Addr} {n i : Nat} {L : List Spn} (R : RowAt w 2 ad n (encL L)) (h : i < n) : ((encL L).drop (i * 2)).take 2 = [.int .i64 (gS L i).1, .int .i64 (gS L i).2] := by
  have hl := R.len
  rw [zL1] at hl
  rw [yC1 (show i < L.length by omega), qH5 (show i < L.length by omega)]; rfl
theorem yG2 {w : World} {ad : Option Addr} {n : Nat} {L : List Spn} (R : RowAt w 2 ad n (encL L)) : L.length = n := by
  have hl := R.len
  rw [zL1] at hl
  omega
def addG : List Spn → Spn → Bool → List Spn
  | [], s, laid => if laid then [] else [s]
  | t :: r, s, laid => if t.2 < s.1 then t :: addG r s laid else if t.1 > s.2 then (if laid then t :: addG r s laid else s :: t :: addG r s true) else addG r (min s.1 t.1, max s.2 t.2) laid
def addS (L : List Spn) (s : Spn) : List Spn := if zV6 s then L else addG L s false
theorem qX5 : ∀ {L : List Spn} {s : Spn}, zS4 L → s.1 < s.2 → (∀ t ∈ L, s.2 < t.1) → addG L s true = L
  | [], _, _, _, _ => rfl
  | t :: r, s, h, hs, hl => by
    have h1 := hl t (by simp)
    have h2 := h.1
    rw [addG, if_neg (by omega), if_pos h1, if_pos rfl, qX5 h.2.2 hs (fun u hu => hl u (by simp [hu]))]
theorem yC4 : ∀ {L : List Spn} {s : Spn}, zS4 L → s.1 < s.2 → zS4 (addG L s false) ∧ (∀ n, inS (addG L s false) n ↔ inS L n ∨ (s.1 ≤ n ∧ n < s.2)) ∧ ∀ b, (b < s.1 ∧ ∀ t ∈ L, b < t.1) → ∀ t ∈ addG L s false, b < t.1
  | [], s, h, hs => by
    simp only [addG, Bool.false_eq_true, if_false]
    exact ⟨⟨hs, fun t ht => by simp at ht, trivial⟩, fun n => by simp [inS], fun b hb t ht => by simp at ht; subst ht; exact hb.1⟩
  | t :: r, s, h, hs => by
    obtain ⟨h1, h2, h3⟩ := h
    rw [addG]
    by_cases c1 : t.2 < s.1
    · rw [if_pos c1]
      obtain ⟨g1, g2, g3⟩ := yC4 h3 hs
      refine ⟨⟨h1, g3 t.2 ⟨c1, h2⟩, g1⟩, fun n => ?_, fun b hb u hu => ?_⟩
      · rw [zL9, g2, zL9, or_assoc]
      · rcases List.mem_cons.1 hu with rfl | hu
        · exact hb.2 u (by simp)
        · exact g3 b ⟨hb.1, fun v hv => hb.2 v (by simp [hv])⟩ u hu
    · rw [if_neg c1]
      by_cases c2 : t.1 > s.2
      · rw [if_pos c2, if_neg (by simp), qX5 h3 hs (fun u hu => by have := h2 u hu; omega)]
        refine ⟨⟨hs, fun u hu => ?_, h1, h2, h3⟩, fun n => ?_, fun b hb u hu => ?_⟩
        · rcases List.mem_cons.1 hu with rfl | hu
          · exact c2
          · have := h2 u hu; omega
        · rw [zL9 s]; exact or_comm
        · rcases List.mem_cons.1 hu with rfl | hu
          · exact hb.1
          · exact hb.2 u hu
      · rw [if_neg c2]
        obtain ⟨g1, g2, g3⟩ := yC4 (s := (min s.1 t.1, max s.2 t.2)) h3 (by simp only []; omega)
        refine ⟨g1, fun n => ?_, fun b hb u hu => ?_⟩
        · rw [g2, zL9]
          simp only []
          constructor
          · rintro (g | g)
            · exact .inl (.inr g)
            · by_cases hn : t.1 ≤ n ∧ n < t.2
              · exact .inl (.inl hn)
              · exact .inr (by omega)
          · rintro ((g | g) | g)
            · exact .inr (by omega)
            · exact .inl g
            · exact .inr (by omega)
        · have hbt := hb.2 t (by simp)
          exact g3 b ⟨by simp only []; omega, fun v hv => hb.2 v (by simp [hv])⟩ u hu
theorem yZ4 {L O : List Spn} {s : Spn} (h : NormOf L O) : NormOf (L ++ [s]) (addS O s) := by
  unfold addS zV6
  by_cases hs : s.2 ≤ s.1
  · rw [if_pos (by simpa using hs)]
    refine ⟨h.right, fun n => ?_⟩
    rw [h.pts, qO9]
    exact ⟨.inl, fun g => g.elim id fun ⟨u, hu, g1, g2⟩ => by simp at hu; subst hu; omega⟩
  · rw [if_neg (by simpa using hs)]
    obtain ⟨g1, g2, -⟩ := yC4 h.right (show s.1 < s.2 by omega)
    refine ⟨g1, fun n => ?_⟩
    rw [g2, h.pts, qO9]
    simp [inS]
theorem yU4 : NormOf [] [] := ⟨trivial, fun _ => Iff.rfl⟩
theorem yG3 : ∀ (L : List Spn) (s : Spn) (b : Bool), (addG L s b).length ≤ L.length + 1
  | [], s, b => by unfold addG; cases b <;> simp
  | t :: r, s, b => by
    have h1 := fun s b => yG3 r s b
    unfold addG
    split
    · simp only [List.length_cons]; have := h1 s b; omega
    · split
      · split
        · simp only [List.length_cons]; have := h1 s b; omega
        · rename_i h2 h3
          simp only [List.length_cons]
          have hl : ∀ (r : List Spn) (s : Spn), (addG r s true).length ≤ r.length := by
            intro r
            induction r with
            | nil => intro s; simp [addG]
            | cons u r ih =>
              intro s
              unfold addG
              split
              · simp only [List.length_cons]; have := ih s; omega
              · split
                · simp only [if_true, List.length_cons]; have := ih s; omega
                · have := ih (min s.1 u.1, max s.2 u.2); simp only [List.length_cons]; omega
          have := hl r s
          omega
      · have := h1 (min s.1 t.1, max s.2 t.2) b; simp only [List.length_cons]; omega
theorem yU5 (L : List Spn) (s : Spn) : (addS L s).length ≤ L.length + 1 := by
  unfold addS
  split
  · omega
  · exact yG3 _ _ _
theorem yU6 {w : World} {base : Nat} {T : TypeId} {v : Value} {O : List Spn} {s : Spn} (h : w.ownsRow base T 2 v (O.length + 1) (encL O ++ [.int .i64 s.1, .int .i64 s.2])) : w.ownsRow base T 2 v (O ++ [s]).length (encL (O ++ [s])) := by
  rw [List.length_append, zM2]
  exact h
def nrm (L : List Spn) : List Spn := L.foldl addS []
theorem yU7 (L : List Spn) (s : Spn) : nrm (L ++ [s]) = addS (nrm L) s := by unfold nrm; rw [List.foldl_append]; rfl
theorem yU8 {L : List Spn} {k : Nat} (h : k < L.length) : addS (nrm (L.take k)) (gS L k) = nrm (L.take (k + 1)) := by
  rw [List.take_succ_eq_append_getElem h, yU7, qH5 h]
theorem qS6 : ∀ (L : List Spn) (k : Nat), k ≤ L.length → NormOf (L.take k) (nrm (L.take k)) ∧ (nrm (L.take k)).length ≤ k
  | L, 0, _ => by rw [List.take_zero]; exact ⟨yU4, Nat.le_refl _⟩
  | L, k + 1, h => by
    obtain ⟨h1, h2⟩ := qS6 L k (by omega)
    have h3 := yU5 (nrm (L.take k)) (gS L k)
    rw [← yU8 (show k < L.length by omega)]
    refine ⟨?_, by omega⟩
    rw [List.take_succ_eq_append_getElem (show k < L.length by omega), ← qH5]
    exact yZ4 h1
theorem jC4 (L : List Spn) : NormOf L (nrm L) := by have := (qS6 L L.length (Nat.le_refl _)).1; rwa [List.take_length] at this
theorem yZ5 (L : List Spn) : (nrm L).length ≤ L.length := by have := (qS6 L L.length (Nat.le_refl _)).2; rwa [List.take_length] at this
def pwT (A : List (List Int)) (seg a : Int) : Pt := decP (zI3 A seg a).1
def zN2 (A : List (List Int)) (l : List Spn) (seg a : Int) : List Spn := if zH9 (zC9 A) seg a < 0 then l else l ++ [(zH9 (zC9 A) seg a, zH9 (zC9 A) seg a + 1)]
def zI2 (A : List (List Int)) (l : List Spn) (seg a : Int) : List Spn :=
  if (pwT A seg a).kind ≠ 3 then zN2 A l seg a
  else if (pwT A seg a).dbl = true then zN2 A (zN2 A (zN2 A l seg a) (pwT A seg a).seg (pwT A seg a).off) (pwT A seg a).seg ((pwT A seg a).off + 1)
  else zN2 A (zN2 A l seg a) (pwT A seg a).seg (pwT A seg a).off
def atT (o : Ob) (k : Int) : Int := if o.kind = 1 then o.at_ + k + o.data else o.at_ + k
def goT (A : List (List Int)) : List Int → List Spn → Ob → List Spn × Ob
  | [], l, o => (l, o)
  | k :: ks, l, o => if o.kind = 0 ∨ (o.kind = 1 ∧ k ≥ o.ptrs) then goT A ks l Ob0 else goT A ks (zI2 A l o.seg (atT o k)) (zA0 (zC4 A) o.seg (atT o k)).1
def endT (A : List (List Int)) (l : List Spn) (o : Ob) (k : Int) : List Spn :=
  if k < 0 ∨ o.kind = 0 ∨ (o.kind = 1 ∧ k ≥ o.data) then l else zN2 A l o.seg (o.at_ + if o.kind = 2 ∧ o.size = 2 then k / 8 else k)
def zZ6 (A : List (List Int)) (ks : List Int) (a : Int) : List Spn :=
  endT A (goT A ks (zI2 A [] 0 0) (zA0 (zC4 A) 0 0).1).1 (goT A ks (zI2 A [] 0 0) (zA0 (zC4 A) 0 0).1).2 a
/-! ### each span is one word of the arena -/
def oneW (A : List (List Int)) (l : List Spn) : Prop := ∀ s ∈ l, ∃ k : Nat, s = ((k : Int), (k : Int) + 1) ∧ k < A.flatten.length
theorem oneW.note {A : List (List Int)} (h : zG0 A = true) {l : List Spn} (hl : oneW A l) (seg a : Int) : oneW A (zN2 A l seg a) ∧ (zN2 A l seg a).length ≤ l.length + 1 := by
  unfold zN2
  rcases yC0 h seg a with ⟨h1, h2⟩ | ⟨k, h1, h2, h3⟩
  · rw [if_pos h1]; exact ⟨hl, by omega⟩
  · have hn : ¬ zH9 (zC9 A) seg a < 0 := by omega
    rw [if_neg hn, h1]
    refine ⟨fun s hs => ?_, by simp⟩
    rcases List.mem_append.1 hs with hs | hs
    · exact hl s hs
    · simp only [List.mem_singleton] at hs; exact ⟨k, hs, h2⟩
theorem oneW.follow {A : List (List Int)} (h : zG0 A = true) {l : List Spn} (hl : oneW A l) (seg a : Int) : oneW A (zI2 A l seg a) ∧ (zI2 A l seg a).length ≤ l.length + 3 := by
  unfold zI2
  obtain ⟨h1, h2⟩ := hl.note h seg a
  obtain ⟨h3, h4⟩ := h1.note h (pwT A seg a).seg (pwT A seg a).off
  obtain ⟨h5, h6⟩ := h3.note h (pwT A seg a).seg ((pwT A seg a).off + 1)
  split
  · exact ⟨h1, by omega⟩
  · split
    · exact ⟨h5, by omega⟩
    · exact ⟨h3, by omega⟩
theorem oneW.go {A : List (List Int)} (h : zG0 A = true) : ∀ (ks : List Int) {l : List Spn} (o : Ob), oneW A l → oneW A (goT A ks l o).1 ∧ (goT A ks l o).1.length ≤ l.length + 3 * ks.length
  | [], l, o, hl => ⟨hl, by simp [goT]⟩
  | k :: ks, l, o, hl => by
    rw [goT]
    split
    · obtain ⟨h1, h2⟩ := oneW.go h ks Ob0 hl; exact ⟨h1, by simp only [List.length_cons]; omega⟩
    · obtain ⟨h1, h2⟩ := hl.follow h o.seg (atT o k)
      obtain ⟨h3, h4⟩ := oneW.go h ks (zA0 (zC4 A) o.seg (atT o k)).1 h1
      exact ⟨h3, by simp only [List.length_cons]; omega⟩
theorem oneW.end_ {A : List (List Int)} (h : zG0 A = true) {l : List Spn} (hl : oneW A l) (o : Ob) (k : Int) : oneW A (endT A l o k) ∧ (endT A l o k).length ≤ l.length + 1 := by
  unfold endT
  split
  · exact ⟨hl, by omega⟩
  · exact hl.note h _ _
theorem yQ3 {A : List (List Int)} (h : zG0 A = true) (ks : List Int) (a : Int) : oneW A (zZ6 A ks a) ∧ (zZ6 A ks a).length ≤ 3 * ks.length + 4 := by
  unfold zZ6
  obtain ⟨h1, h2⟩ := oneW.follow h (l := []) (fun s hs => by simp at hs) 0 0
  obtain ⟨h3, h4⟩ := oneW.go h ks (zA0 (zC4 A) 0 0).1 h1
  obtain ⟨h5, h6⟩ := h3.end_ h (goT A ks (zI2 A [] 0 0) (zA0 (zC4 A) 0 0).1).2 a
  simp only [List.length_nil] at h2
  exact ⟨h5, by omega⟩
/-! ### where the touched words are there, the answer is the whole's -/
section
variable {A : List (List Int)} {wl kb : List Int}
end
/-! ### the chunks of the spans -/
theorem jD6 {s : Src} {ks : List Int} {a c : Int} (h : (zL4 s ks a c).2 = 0) : (∀ k ∈ ks, 0 ≤ k) ∧ ks.length ≤ 32 ∧ ∃ left, (qR1 s a ks (zA0 s 0 0).1 left).2 = 0 := by
  unfold zL4 at h
  by_cases h1 : ∃ k ∈ ks, k < 0
  · rw [if_pos h1] at h; simp at h
  · rw [if_neg h1] at h
    by_cases h2 : (ks.length : Int) > 32
    · rw [if_pos h2] at h; simp at h
    · rw [if_neg h2] at h
      by_cases h3 : (zA0 s 0 0).2 ≠ 0
      · rw [if_pos h3] at h; exact absurd h h3
      · rw [if_neg h3] at h
        by_cases h4 : max c (-1) - (1 + zD8 (zA0 s 0 0).1) < 0
        · rw [if_pos h4] at h; simp at h
        · rw [if_neg h4] at h
          exact ⟨fun k hk => by by_cases g : k < 0; exact absurd ⟨k, hk, g⟩ h1; omega, by omega, _, h⟩
theorem zU4 (A : List (List Int)) (l : List Spn) (seg a : Int) : (zN2 A l seg a).length ≤ l.length + 1 := by unfold zN2; split <;> simp
/-! ### a step, and what is there -/
/-! ### a path -/
theorem yZ6 (s : Src) {o : Ob} (hk : ObK o) (k : Int) : ObK (zJ9 s o k).1 := by
  unfold zJ9
  (repeat' split) <;> first | exact .inl rfl | exact hk | exact zX4 _ _ _
theorem yZ7 {s : Src} (hf : ∀ seg a, ObR (zA0 s seg a).1) {o : Ob} (ho : ObR o) (k : Int) : ObR (zJ9 s o k).1 := by
  unfold zJ9
  (repeat' split) <;> first | exact zF9 | exact ho | exact hf _ _
/-! ### what a path costs -/
/-! ### an arena as a source -/
theorem qX6 {A : List (List Int)} {seg a n : Int} (h : zG9 (zC4 A).sizes seg a n = true) : 0 ≤ seg ∧ seg < A.length ∧ 0 ≤ a ∧ 0 ≤ n ∧ a + n ≤ len2 A seg.toNat := by
  unfold zG9 zL3 at h
  simp only [Bool.and_eq_true, decide_eq_true_eq] at h
  obtain ⟨⟨h3, h4⟩, h5, h6, h7, h8⟩ := h
  have hl : (zC4 A).sizes.length = A.length := by simp [zC4]
  have hz : (zC4 A).sizes.getD seg.toNat 0 = (len2 A seg.toNat : Int) := zR1 A seg.toNat
  rw [hl] at h4
  rw [hz] at h7 h8
  omega
/-! ### small things -/
theorem qB6 {A : List (List Int)} (hA : A.length ≤ 16) (hl : ∀ q, len2 A q ≤ 4096) {p : Pt} (hp : PtR p) (hn : zK1 p = true) (seg a : Int) : ObR (zB5 (zC4 A) p seg a).1 := by
  unfold zB5
  split
  · exact zF9
  · split
    · exact zF9
    · rename_i hw
      obtain ⟨h1, h2, h3, h4, h5⟩ := qX6 (by simpa using hw)
      have h6 := hl seg.toNat
      have hk : p.kind = 1 ∨ p.kind = 2 := by simpa [zK1] using hn
      exact ⟨by show 0 ≤ p.kind ∧ p.kind ≤ 2; omega, by show 0 ≤ seg ∧ seg ≤ _; omega, by show 0 ≤ a ∧ a ≤ _; omega, hp.data, hp.ptrs, hp.size, hp.count⟩
theorem yQ4 {A : List (List Int)} (hA : A.length ≤ 16) (hl : ∀ q, len2 A q ≤ 4096) (hx : ∀ q ∈ A, ∀ x ∈ q, inR .u64 x) (seg a : Int) : ObR (zA0 (zC4 A) seg a).1 := by
  have hp : ∀ seg a, PtR (ptrS (zC4 A) seg a).1 := fun seg a => by
    obtain ⟨h1, h2, -, -⟩ := qD4 hx seg a
    unfold ptrS
    split
    · exact qK0
    · exact zK8 _ h1 h2
  unfold zA0
  split
  · exact zF9
  · split
    · rename_i h; exact qB6 hA hl (hp _ _) h _ _
    · split
      · unfold zD9
        split
        · exact zF9
        · split
          · exact zF9
          · split
            · exact zF9
            · split
              · exact zF9
              · split
                · exact zF9
                · rename_i h
                  obtain ⟨n1, n2, -, -⟩ := qD4 hx (ptrS (zC4 A) seg a).1.seg ((ptrS (zC4 A) seg a).1.off + 1)
                  refine qB6 hA hl (zK8 _ n1 n2) ?_ _ _
                  cases hq : zK1 (decP (zI3 A (ptrS (zC4 A) seg a).1.seg ((ptrS (zC4 A) seg a).1.off + 1)).1) with
                  | true => rfl
                  | false => exact absurd (.inr (.inr (.inl hq))) h
      · unfold zD6
        split
        · exact zF9
        · split
          · exact zF9
          · rename_i h
            exact qB6 hA hl (hp _ _) (by simpa using h) _ _
theorem zQ3 {A : List (List Int)} (h : zG0 A = true) : A.length ≤ 16 ∧ ∀ q, len2 A q ≤ 4096 := by
  unfold zG0 at h
  obtain ⟨-, h2, -, h4⟩ := qT h
  exact ⟨h2, fun q => by have := zS3 A q; omega⟩
def decV (A : List (List Int)) : Nd × Int := if (decT A).2 ≠ 0 then (.nil, (decT A).2) else if (decT A).1.right 32 = false then (.nil, 23) else ((decT A).1, 0)
def canT (A : List (List Int)) : List (List Int) × Int := if (decV A).2 ≠ 0 then ([], (decV A).2) else (decV A).1.build 4096
def eqT (A B : List (List Int)) : Bool := decide ((decV A).2 = 0) && (decide ((decV B).2 = 0) && (decV A).1.beq (decV B).1)
theorem yC5 : decT zT8 = (qL3, 0) := by
  unfold decT
  rw [if_neg (by decide), yB4]
theorem qL5 : decV zT8 = (qL3, 0) := by
  unfold decV
  rw [yC5, if_neg (by decide), if_neg (by decide +kernel)]
theorem yU9 : decV [] = (.nil, 1) := rfl
theorem yJ8 : eqT zT8 zT8 = true := by unfold eqT; rw [qL5]; simp [qS1]
theorem qX7 : nrm (zZ6 zT8 [] 0) = [(0, 2)] := by decide +kernel
theorem qL6 : (zL4 (zC4 zT8) [] 0 8192).2 = 0 := by decide +kernel
theorem qX8 : zG0 zT8 = true := by decide
theorem qI5 : AllU zT8 := by
  intro q hq x hx
  simp only [zT8, List.mem_singleton] at hq
  subst hq
  simp only [List.mem_cons, List.not_mem_nil, or_false] at hx
  rcases hx with rfl | rfl <;> simp [inR]
theorem qG3 {t : Nd} {n : Int} (hR : t.right 32 = true) (hu : t.u8) (hn : t.needs ≤ 4000) (h : (t.build n).2 = 0) : decV (t.build n).1 = (t, 0) ∧ canT (t.build n).1 = t.build 4096 := by
  have hd : decV (t.build n).1 = (t, 0) := by
    unfold decV
    rw [yP9 hu hn h, if_neg (by simp), hR, if_neg (by simp)]
  exact ⟨hd, by unfold canT; rw [hd, if_neg (by simp)]⟩
end Go.Proofs.YtkkbbhpbcfcplaaGreat.K
namespace Go.Proofs.YtkkbbhpbcfcplaaGreat.K
open Go Go.RowKit Go.Proofs
attribute [local irreducible] Run1 OpG WL W AO zC5
theorem zQ2 (w : World) {u : Value} {A : List (List Int)} (hA : zG1 w u A) (hn : A.length ≤ 8796093022208) (hx : ∀ q ∈ A, ∀ x ∈ q, inR .u64 x) : Calls Tryz.prog 36 #[u] w (Ret fun v w' => ∃ cells, v = .tuple #[.agg cells.toArray, .int .u16 (decV A).2] ∧ NodeR (hide w.heap.size w') cells (decV A).1 ∧ Grow w w') := by
 have G := Grow.rfl' w
 refine zC0 Tryz.func36 Tryz.ntmps36 Tryz.results36 rfl rfl ?_
 refine qZ 2 ?_
 refine stp (zB2 ?_)
 intro b1 w2 hb3 hc4 g5
 refine qZ 2 ?_
 have hge6 := Nat.le_trans G.size hb3
 replace G := G.tr g5
 clear g5 hb3
 refine qZ 2 ?_
 refine stp (zD0 (v := u) rfl ?_)
 refine stp ?_
 obtain ⟨B, hB⟩ : ∃ B, B = w2.heap.size := ⟨_, rfl⟩
 have hwB : w.heap.size ≤ B := by rw [hB]; exact G.size
 have hlt_b1 : b1 < B := by rw [hB]; exact zC1 hc4
 refine zC8 rfl (qR8 _ (hA.grow G) hn hx) ?_
 rintro v_ w7 ⟨cells_, rfl, hU_, g_⟩
 rw [← hB] at hU_
 have hU := hU_
 clear hU_
 replace hc4 := g_.heap hc4
 replace G := G.tr g_
 clear g_
 obtain ⟨y08, y19, ya10, yn11, yc12, za13, zn14, zc15, ua16, un17, uc18, rfl⟩ := hU.cells
 refine qZ 3 ?_
 refine stp (zB2 ?_)
 intro b19 w20 hb21 hc22 g23
 refine stn (qS hc22 ?_)
 intro w24 hc25 u26
 have g27 := g23.upd u26 hb21
 have hge28 := Nat.le_trans G.size hb21
 have ne29 := qN hc4 hb21
 replace hc4 := g27.heap hc4
 replace hU := hU.sees (Sees.grow g27)
 replace G := G.tr g27
 clear u26 g23 hb21 hc22
 refine qZ 7 ?_
 refine stp (zI5 rfl rfl ?_)
 refine qZ 2 ?_
 refine zA3 (b := (decide (((decT A).2) ≠ 0))) rfl (fun h1 => ?_) (fun h1 => ?_)
 ·
  replace h1 := qT h1
  refine qZ 2 ?_
  refine stp (zA7 (v := .agg #[.int .i64 0, .int .i64 0, .slice none 0 0, .slice none 0 0, .slice none 0 0]) (fun w => by kernel_rfl) ?_)
  refine qZ 1 ?_
  refine stn (qS hc4 ?_)
  intro w30 hc31 u32
  replace hU := hU.sees (Sees.upd u32 (fun h_ => by omega))
  replace hc25 := u32.heap hc25 ne29.symm
  replace G := G.upd u32 hge6
  clear u32 hc4
  refine qZ 3 ?_
  have h9 : decV A = (.nil, (decT A).2) := by unfold decV; rw [if_pos h1]
  rw [h9]
  refine ret2 (zB0 rfl hc31 (by rfl)) (zA1 (v := .int .u16 ((decT A).2)) rfl) ⟨[_, _, _, _, _], rfl, NodeR.zero _, G⟩
 ·
  replace h1 := qF h1
  refine qZ 3 ?_
  refine stp (zA2 (v := .bool ((decT A).1.right 32)) rfl (qK8 _ (hU.sees (Sees.seen _ _))) ?_)
  intro w33 g34
  replace hc4 := g34.heap hc4
  replace hU := hU.sees (Sees.grow g34)
  replace hc25 := g34.heap hc25
  replace G := G.tr g34
  clear g34
  refine stp (zM1 rfl ?_)
  refine qZ 2 ?_
  refine zA3 (b := (!((decT A).1.right 32))) rfl (fun h2 => ?_) (fun h2 => ?_)
  ·
   simp only [sb] at h2
   refine qZ 2 ?_
   refine stp (zA7 (v := .agg #[.int .i64 0, .int .i64 0, .slice none 0 0, .slice none 0 0, .slice none 0 0]) (fun w => by kernel_rfl) ?_)
   refine stn (qS hc4 ?_)
   intro w35 hc36 u37
   replace hU := hU.sees (Sees.upd u37 (fun h_ => by omega))
   replace hc25 := u37.heap hc25 ne29.symm
   replace G := G.upd u37 hge6
   clear u37 hc4
   refine qZ 3 ?_
   have h9 : decV A = (.nil, 23) := by unfold decV; rw [if_neg h1, if_pos (by simpa using h2)]
   rw [h9]
   refine ret2 (zB0 rfl hc36 (by rfl)) (zA1 (v := .int .u16 23) rfl) ⟨[_, _, _, _, _], rfl, NodeR.zero _, G⟩
  ·
   simp only [sb] at h2
   refine qZ 4 ?_
   refine stn (qS hc4 ?_)
   intro w38 hc39 u40
   replace hU := hU.sees (Sees.upd u40 (fun h_ => by omega))
   replace hc25 := u40.heap hc25 ne29.symm
   replace G := G.upd u40 hge6
   clear u40 hc4
   refine qZ 3 ?_
   have h9 : decV A = ((decT A).1, 0) := by unfold decV; rw [if_neg h1, if_neg (by simpa using h2)]
   rw [h9]
   refine ret2 (zB0 rfl hc39 (by rfl)) (zA1 (v := .int .u16 0) rfl) ⟨[_, _, _, _, _], rfl, hU.sees (Sees.low hwB _), G⟩
theorem qL7 (w : World) {u : Value} {A : List (List Int)} (hA : zG1 w u A) (hn : A.length ≤ 8796093022208) (hx : ∀ q ∈ A, ∀ x ∈ q, inR .u64 x) : zC5 Tryz.prog 16 #[u] w (.int .u16 ((decV A).2)) := by
 have G := Grow.rfl' w
 refine zB1 Tryz.func16 Tryz.ntmps16 Tryz.results16 rfl rfl ?_
 refine qZ 6 ?_
 refine stp (zD0 (v := u) rfl ?_)
 refine stp ?_
 refine zC8 rfl (zQ2 _ (hA.grow G) hn hx) ?_
 rintro v_ w1 ⟨cells_, rfl, hU_, g_⟩
 have hU := hU_.sees (Sees.seen _ _)
 clear hU_
 replace G := G.tr g_
 clear g_
 obtain ⟨y02, y13, ya4, yn5, yc6, za7, zn8, zc9, ua10, un11, uc12, rfl⟩ := hU.cells
 refine qZ 3 ?_
 refine stp (zB2 ?_)
 intro b13 w14 hb15 hc16 g17
 refine stn (qS hc16 ?_)
 intro w18 hc19 u20
 have g21 := g17.upd u20 hb15
 have hge22 := Nat.le_trans G.size hb15
 replace hU := hU.grow g21
 replace G := G.tr g21
 clear u20 g17 hb15 hc16
 refine qZ 8 ?_
 refine ret1 (zA1 (v := .int .u16 ((decV A).2)) rfl) ⟨?_, G⟩
 rfl
theorem qB7 (w : World) {u : Value} {A : List (List Int)} (hA : zG1 w u A) (hn : A.length ≤ 8796093022208) (hx : ∀ q ∈ A, ∀ x ∈ q, inR .u64 x) : Calls Tryz.prog 26 #[u] w (Ret fun v w' => ∃ so, v = .tuple #[so, .int .u16 (canT A).2] ∧ zG1 w' so (canT A).1 ∧ Grow w w') := by
 have G := Grow.rfl' w
 refine zC0 Tryz.func26 Tryz.ntmps26 Tryz.results26 rfl rfl ?_
 refine qZ 7 ?_
 refine stp (zD0 (v := u) rfl ?_)
 refine stp ?_
 refine zC8 rfl (zQ2 _ (hA.grow G) hn hx) ?_
 rintro v_ w1 ⟨cells_, rfl, hU_, g_⟩
 have hU := hU_.sees (Sees.seen _ _)
 clear hU_
 replace G := G.tr g_
 clear g_
 obtain ⟨y02, y13, ya4, yn5, yc6, za7, zn8, zc9, ua10, un11, uc12, rfl⟩ := hU.cells
 refine qZ 3 ?_
 refine stp (zB2 ?_)
 intro b13 w14 hb15 hc16 g17
 refine stn (qS hc16 ?_)
 intro w18 hc19 u20
 have g21 := g17.upd u20 hb15
 have hge22 := Nat.le_trans G.size hb15
 replace hU := hU.grow g21
 replace G := G.tr g21
 clear u20 g17 hb15 hc16
 refine qZ 6 ?_
 refine stp (zI5 rfl rfl ?_)
 refine zA6 ?_
 refine zA3 (b := (decide (((decV A).2) ≠ 0))) rfl (fun h1 => ?_) (fun h1 => ?_)
 ·
  replace h1 := qT h1
  refine qZ 7 ?_
  have h9 : canT A = ([], (decV A).2) := by unfold canT; rw [if_pos h1]
  rw [h9]
  refine ret2 (zA1 (v := .slice none 0 0) rfl) (zA1 (v := .int .u16 ((decV A).2)) rfl) ⟨_, rfl, ⟨[], ⟨none, 0, rfl, by simp, by simp [maxLen], RowAt.empty _ _ _⟩, fun i s h => by simp at h⟩, G⟩
 ·
  replace h1 := qF h1
  refine qZ 4 ?_
  refine stp ?_
  refine zC8 rfl (yB2 _ hU 4096) ?_
  rintro v_ w23 ⟨so9, segs9, rfl, hO9, g_⟩
  replace hU := hU.grow g_
  replace hc19 := g_.heap hc19
  replace G := G.tr g_
  clear g_
  have hsm9 := Nd.build_sml (decV A).1 4096
  have hC := hO9.arena (by have := hsm9.len; omega) hsm9.all
  clear hO9
  refine stp (zB3 (v := so9) rfl rfl ?_)
  refine qZ 1 ?_
  refine stp (zE7 (v := so9) rfl ?_)
  refine qZ 3 ?_
  have h9 : canT A = (decV A).1.build 4096 := by unfold canT; rw [if_neg h1]
  rw [h9]
  refine ret2 (zA1 (v := so9) rfl) (zA1 (v := .int .u16 (((decV A).1.build 4096).2)) rfl) ⟨_, rfl, hC, G⟩
theorem qB8 (w : World) {u : Value} {A : List (List Int)} (hA : zG1 w u A) (hn : A.length ≤ 8796093022208) (hx : ∀ q ∈ A, ∀ x ∈ q, inR .u64 x) {v : Value} {B : List (List Int)} (hB : zG1 w v B) (hnB : B.length ≤ 8796093022208) (hxB : ∀ q ∈ B, ∀ x ∈ q, inR .u64 x) : zC5 Tryz.prog 27 #[u, v] w (.bool (eqT A B)) := by
 have G := Grow.rfl' w
 refine zB1 Tryz.func27 Tryz.ntmps27 Tryz.results27 rfl rfl ?_
 refine qZ 6 ?_
 refine stp (zD0 (v := u) rfl ?_)
 refine stp ?_
 refine zC8 rfl (zQ2 _ (hA.grow G) hn hx) ?_
 rintro v_ w1 ⟨cells_, rfl, hU_, g_⟩
 have hU := hU_.sees (Sees.seen _ _)
 clear hU_
 replace G := G.tr g_
 clear g_
 obtain ⟨y02, y13, ya4, yn5, yc6, za7, zn8, zc9, ua10, un11, uc12, rfl⟩ := hU.cells
 refine qZ 3 ?_
 refine stp (zB2 ?_)
 intro b13 w14 hb15 hc16 g17
 refine stn (qS hc16 ?_)
 intro w18 hc19 u20
 have g21 := g17.upd u20 hb15
 have hge22 := Nat.le_trans G.size hb15
 replace hU := hU.grow g21
 replace G := G.tr g21
 clear u20 g17 hb15 hc16
 refine qZ 4 ?_
 refine stp (zD0 (v := v) rfl ?_)
 refine stp ?_
 refine zC8 rfl (zQ2 _ (hB.grow G) hnB hxB) ?_
 rintro v_ w23 ⟨cells_, rfl, hU_, g_⟩
 have hV := hU_.sees (Sees.seen _ _)
 clear hU_
 replace hU := hU.grow g_
 replace hc19 := g_.heap hc19
 replace G := G.tr g_
 clear g_
 obtain ⟨y024, y125, ya26, yn27, yc28, za29, zn30, zc31, ua32, un33, uc34, rfl⟩ := hV.cells
 refine qZ 3 ?_
 refine stp (zB2 ?_)
 intro b35 w36 hb37 hc38 g39
 refine stn (qS hc38 ?_)
 intro w40 hc41 u42
 have g43 := g39.upd u42 hb37
 have hge44 := Nat.le_trans G.size hb37
 have ne45 := qN hc19 hb37
 replace hU := hU.grow g43
 replace hc19 := g43.heap hc19
 replace hV := hV.grow g43
 replace G := G.tr g43
 clear u42 g39 hb37 hc38
 refine qZ 5 ?_
 refine stp (zE2 rfl rfl ?_)
 refine qZ 1 ?_
 refine qG 1 ?_
 refine zA4 (zB7 (s := .bool _) (v := .bool (decide (((decV B).2) = 0))) rfl (zG3 _) (fun hc47 => ?_) ?_)
 ·
  have hc47_ := qT hc47
  refine zE2 (gvt hc47) rfl ?_
  exact ⟨rfl, rfl⟩
 refine stp (zI8 rfl rfl rfl ?_)
 refine qZ 1 ?_
 refine zA4 (zB7 (s := .bool _) (v := .agg #[.int .i64 y02, .int .i64 y13, .slice ya4 yn5 yc6, .slice za7 zn8 zc9, .slice ua10 un11 uc12]) rfl (zG3 _) (fun hc48 => ?_) ?_)
 ·
  obtain ⟨hc48a, hc48b⟩ := and_t hc48
  have hc48a_ := qT hc48a
  have hc48b_ := qT hc48b
  refine zC7 rfl hc19 (by rfl) ?_
  exact ⟨rfl, rfl⟩
 refine zA4 (zB7 (s := .bool _) (v := .agg #[.int .i64 y024, .int .i64 y125, .slice ya26 yn27 yc28, .slice za29 zn30 zc31, .slice ua32 un33 uc34]) rfl (zG3 _) (fun hc49 => ?_) ?_)
 ·
  obtain ⟨hc49a, hc49b⟩ := and_t hc49
  have hc49a_ := qT hc49a
  have hc49b_ := qT hc49b
  refine zC7 rfl hc41 (by rfl) ?_
  exact ⟨rfl, rfl⟩
 refine zA4 (zZ5 (s := .bool ((decide (((decV A).2) = 0)) && (decide (((decV B).2) = 0)))) (b := true) (v := .bool ((decV A).1.beq (decV B).1)) rfl (zG3 _) (fun hc50 => ?_) ?_)
 ·
  obtain ⟨hc50a, hc50b⟩ := and_t hc50
  have hc50a_ := qT hc50a
  have hc50b_ := qT hc50b
  exact zO6 (l := ([.agg #[.int .i64 y02, .int .i64 y13, .slice ya4 yn5 yc6, .slice za7 zn8 zc9, .slice ua10 un11 uc12], .agg #[.int .i64 y024, .int .i64 y125, .slice ya26 yn27 yc28, .slice za29 zn30 zc31, .slice ua32 un33 uc34]] : List Value)) rfl (by show ([gv ((decide (((decV A).2) = 0)) && (decide (((decV B).2) = 0))) (.agg #[.int .i64 y02, .int .i64 y13, .slice ya4 yn5 yc6, .slice za7 zn8 zc9, .slice ua10 un11 uc12]), gv ((decide (((decV A).2) = 0)) && (decide (((decV B).2) = 0))) (.agg #[.int .i64 y024, .int .i64 y125, .slice ya26 yn27 yc28, .slice za29 zn30 zc31, .slice ua32 un33 uc34])] : List Value) = _; rw [gvt hc50, gvt hc50]) (yJ2 _ _ hU hV (Nat.le_refl _)) (fun w2_ g2_ => ⟨rfl, g2_⟩)
 intro w51 g52
 replace hU := hU.grow g52
 replace hc19 := g52.heap hc19
 replace hV := hV.grow g52
 replace hc41 := g52.heap hc41
 replace G := G.tr g52
 clear g52
 refine stp (zI8 rfl rfl rfl ?_)
 refine qZ 3 ?_
 refine ret1 (zA1 (v := .bool (((decide (((decV A).2) = 0)) && (decide (((decV B).2) = 0))) && ((decV A).1.beq (decV B).1))) rfl) ⟨?_, G⟩
 unfold eqT; rw [Bool.and_assoc]
end Go.Proofs.YtkkbbhpbcfcplaaGreat.K
namespace Go.Proofs.YtkkbbhpbcfcplaaGreat.K
open Go Go.RowKit
def viaS (P : Program) (t : TypeId) (name : String) : Option (TypeId × Nat) :=
  match P.info? t with
  | some i => (match i.methods.find? (·.name == name) with
    | some m => (match m.path.toList, m.func with
      | [s], none => if s.deref then some (s.struct, s.index) else none
      | _, _ => none)
    | none => none)
  | none => none
class ViaI (P : Program) (t : TypeId) (name : String) (S : outParam TypeId) (j : outParam Nat) : Prop where
  h : viaS P t name = some (S, j)
class MethN (P : Program) (t : TypeId) (name : String) (f : FuncId) : Prop where
  m : ∀ (v : Value) (w : World), (method (P.types.size + 99) t v name).run P w = .ok (f, v) w
  c : ∀ (args : Array Value) (w : World), (callFunc f args).run P w = .ok (.enter f args) w
theorem yZ8 {P : Program} {w : World} {t t' S ft : TypeId} {name : String} {j off n b o : Nat} {f : FuncId} {cs : Array Value} {T : TypeId} {fr : Nat × Nat} {v' : Value} {args : Array Value}
    [hv : ViaI P t name S j] [hfi : FldI P S j off] [hft : FtI P S j ft] [hti : TyI P ft n false] (hm : MethN P t' name f)
    (hb : w.heap[b]? = some (.cells cs T fr)) (hc : cs[o + off]? = some (.iface t' v')) :
    (callMethod (.iface t (.pointer (some ⟨b, o, none⟩))) name args).run P w = .ok (.enter f (#[v'] ++ args)) w := by
  have hl : (loadVar ft ⟨b, o + off, none⟩).run P w = .ok (.iface t' v') w := by
    have ht := hti.h
    unfold tyS at ht
    split at ht
    · rename_i i dd hi hu
      simp only [Option.some.injEq, Prod.mk.injEq] at ht
      have hagg : (isAgg ft).run P w = .ok false w := by
        simp only [isAgg, underlying, program, Sem.run_bind, Sem.run, hu, Result.andThen_ok]
        cases dd <;> first | rfl | simp at ht
      simp only [loadVar, Sem.run_bind, hagg, Result.andThen_ok]
      simp [zW5 hb, hc]
    · cases ht
  have hs := hv.h
  unfold viaS at hs
  split at hs
  · rename_i i hi
    split at hs
    · rename_i m hmt
      split at hs
      · rename_i s hp hf
        split at hs
        · rename_i hd
          simp only [Option.some.injEq, Prod.mk.injEq] at hs
          obtain ⟨rfl, rfl⟩ := hs
          have hff := hfi.h
          have hft2 := hft.h
          unfold fldS at hff
          unfold ftS at hft2
          have hfol : (follow m.path.toList t (.val (.pointer (some ⟨b, o, none⟩)))).run P w = .ok (ft, .var ⟨b, o + off, none⟩) w := by
            rw [hp]
            split at hff
            · rename_i fs hu
              split at hff
              · rename_i fl hfl
                split at hff
                · rename_i i2 hi2
                  split at hff
                  · cases hff
                  · rename_i hz
                    simp only [Option.some.injEq] at hff
                    simp only [hu, hfl, Option.map_some, Option.some.injEq] at hft2
                    subst hff
                    have h1 : (underlying s.struct).run P w = .ok (.struct fs) w := by simp only [underlying, program, Sem.run_bind, Sem.run, hu, Result.andThen_ok, Sem.run_pure]
                    have h2 : (fieldPlace ⟨b, o, none⟩ fl).run P w = .ok ⟨b, o + fl.offset, none⟩ w := by
                      simp only [fieldPlace, sizeOf, typeInfo, program, Sem.run_bind, Sem.run, hi2, Result.andThen_ok, Sem.run_pure, hz, if_false, add_lit]
                    simp only [follow, hd, if_true, Place.get, asAddr, Sem.run_bind, Sem.run_pure, Result.andThen_ok, h1, hfl, h2, hft2]
                · cases hff
              · cases hff
            · cases hff
          have hin : (typeInfo t).run P w = .ok i w := by simp only [typeInfo, program, Sem.run_bind, Sem.run, hi, Result.andThen_ok, Sem.run_pure]
          have hme : (method (P.types.size + 99 + 1) t (.pointer (some ⟨b, o, none⟩)) name).run P w = .ok (f, v') w := by
            have hm' := hm.m v' w
            generalize P.types.size + 99 = k at hm' ⊢
            simp only [method, Sem.run_bind, hin, Result.andThen_ok, hmt, hfol, hf, Place.get, hl]
            exact hm'
          show ((method (P.types.size + 99 + 1) t (.pointer (some ⟨b, o, none⟩)) name >>= fun x => callFunc x.1 (#[x.2] ++ args)) : Sem Next).run P w = _
          rw [Sem.run_bind, hme, Result.andThen_ok]
          exact hm.c _ w
        · cases hs
      · cases hs
    · cases hs
  · cases hs
structure NkP (F : List Nat) (T : TypeId) (base : Nat) (w w' : World) : Prop where
  os : w'.os = w.os
  tape : w'.tape = w.tape
  output : w'.output = w.output
  size : w.heap.size ≤ w'.heap.size
  old : ∀ k : Nat, k < w.heap.size → k ∉ F → (k < base ∨ ¬ ∃ cs, w.heap[k]? = some (.cells cs T (0, 0))) → w'.heap[k]? = w.heap[k]?
section
variable {F : List Nat} {T : TypeId} {base : Nat} {a b c w w' w0 : World}
theorem NkP.refl (F : List Nat) (T : TypeId) (base : Nat) (w : World) : NkP F T base w w := ⟨rfl, rfl, rfl, Nat.le_refl _, fun _ _ _ _ => rfl⟩
theorem NkP.tr (h : NkP F T base a b) (k : NkP F T base b c) : NkP F T base a c :=
  ⟨k.os.trans h.os, k.tape.trans h.tape, k.output.trans h.output, Nat.le_trans h.size k.size, fun i hi hF hc => by
    have h1 := h.old i hi hF hc
    rw [k.old i (Nat.lt_of_lt_of_le hi h.size) hF (by rw [h1]; exact hc), h1]⟩
theorem NkP.of_grow (g : Grow a b) : NkP F T base a b := ⟨g.os, g.tape, g.output, g.size, fun k hk _ _ => g.block k hk⟩
theorem NkP.mono {F2 : List Nat} (h : NkP F T base a b) (hs : ∀ x ∈ F, x ∈ F2) : NkP F2 T base a b := ⟨h.os, h.tape, h.output, h.size, fun k hk hF hc => h.old k hk (fun hm => hF (hs k hm)) hc⟩
theorem NkP.of_upd {b : Nat} (u : Upd b w w') (hb : b ∈ F) : NkP F T base w w' := ⟨u.os, u.tape, u.output, by rw [u.size]; exact Nat.le_refl _, fun k hk hF _ => u.other k (fun he => hF (he ▸ hb))⟩
theorem NkP.upd_new {b : Nat} (h : NkP F T base a w) (u : Upd b w w') (hb : a.heap.size ≤ b) : NkP F T base a w' :=
  ⟨u.os.trans h.os, u.tape.trans h.tape, u.output.trans h.output, by rw [u.size]; exact h.size, fun k hk hF hc => by rw [u.other k (fun he => by omega), h.old k hk hF hc]⟩
theorem NkP.new_kp {G : List Nat} (h : NkP F T base a w) (u : Kp G w w') (hb : ∀ x ∈ G, a.heap.size ≤ x ∨ x ∈ F) : NkP F T base a w' :=
  ⟨u.os.trans h.os, u.tape.trans h.tape, u.output.trans h.output, Nat.le_trans h.size u.size, fun k hk hF hc => by
    rw [u.block k (Nat.lt_of_lt_of_le hk h.size) (fun hm => by rcases hb k hm with h1 | h1; omega; exact hF h1), h.old k hk hF hc]⟩
theorem NkP.new_nk {G : List Nat} (h : NkP F T base a w) (u : NkP G T base w w') (hb : ∀ x ∈ G, a.heap.size ≤ x ∨ x ∈ F) : NkP F T base a w' :=
  ⟨u.os.trans h.os, u.tape.trans h.tape, u.output.trans h.output, Nat.le_trans h.size u.size, fun k hk hF hc => by
    have h1 := h.old k hk hF hc
    rw [u.old k (Nat.lt_of_lt_of_le hk h.size) (fun hm => by rcases hb k hm with h2 | h2; omega; exact hF h2) (by rw [h1]; exact hc), h1]⟩
theorem NkP.heap {k : Nat} {cs : Array Value} {T2 : TypeId} {fr : Nat × Nat} (h : NkP F T base w w') (hk : w.heap[k]? = some (.cells cs T2 fr)) (hF : k ∉ F) (hT : T2 ≠ T) : w'.heap[k]? = some (.cells cs T2 fr) := by
  rw [h.old k (zC1 hk) hF (.inr fun ⟨cs2, h2⟩ => by rw [hk] at h2; simp only [Option.some.injEq, Obj.cells.injEq] at h2; exact hT h2.2.1)]
  exact hk
theorem NkP.to_grow (k : NkP F T base w w') (g : Grow w0 w) (hF : ∀ x ∈ F, w0.heap.size ≤ x) (hb : w0.heap.size ≤ base) : Grow w0 w' :=
  ⟨k.os.trans g.os, k.tape.trans g.tape, k.output.trans g.output, Nat.le_trans g.size k.size, fun i hi => by
    rw [k.old i (Nat.lt_of_lt_of_le hi g.size) (fun hm => by have := hF i hm; omega) (.inl (by omega)), g.block i hi]⟩
theorem NkP.of_grown {sz n : Nat} {v : Value} {xs : List Value} (own : w.ownsRow base T sz v n xs) (gr : w.grownBy w' v.ownBlock) : NkP F T base w w' :=
  ⟨gr.os, gr.tape, gr.output, gr.size, fun k hk _ hc => gr.block k hk (fun he => by
    rcases own.2 with ⟨rfl, _⟩ | ⟨q, cap, cur, rfl, hq, hg, _⟩
    · simp [Value.ownBlock] at he
    · simp only [Value.ownBlock, Option.some.injEq] at he
      subst he
      rcases hc with hc | hc
      · omega
      · exact hc ⟨cur, hg⟩)⟩
end
def nkR (F : List Nat) (T : TypeId) (base : Nat) : KpR := ⟨NkP F T base, NkP.refl F T base, NkP.tr, NkP.of_grow⟩
theorem zR5 {w : World} {k b : Nat} {cs cs2 : Array Value} {T T2 : TypeId} {fr fr2 : Nat × Nat} (h : w.heap[k]? = some (.cells cs T fr)) (h2 : w.heap[b]? = some (.cells cs2 T2 fr2)) (hT : T ≠ T2) : k ≠ b := by
  intro he; subst he; rw [h] at h2; simp only [Option.some.injEq, Obj.cells.injEq] at h2; exact hT h2.2.1
def NtS (TS TN TE : TypeId) (base : Nat) (w : World) (u : Value) (bn : Nat) (L : List Spn) : Prop :=
  ∃ ad c, w.heap[bn]? = some (.cells #[.iface TS (.agg #[u]), .slice ad L.length c] TN (0, 0)) ∧ w.ownsRow base TE 2 (.slice ad L.length c) L.length (encL L)
section
variable {TS TN TE : TypeId} {base : Nat} {w w' : World} {u : Value} {bn : Nat} {L : List Spn}
theorem NtS.grow (h : NtS TS TN TE base w u bn L) (g : Grow w w') : NtS TS TN TE base w' u bn L := by
  obtain ⟨ad, c, h1, h2⟩ := h
  exact ⟨ad, c, g.heap h1, zB8 h2 g⟩
theorem NtS.upd {b : Nat} {cs : Array Value} {T : TypeId} {fr : Nat × Nat} (h : NtS TS TN TE base w u bn L) (up : Upd b w w') (hb : w.heap[b]? = some (.cells cs T fr)) (h1 : T ≠ TN) (h2 : T ≠ TE) : NtS TS TN TE base w' u bn L := by
  obtain ⟨ad, c, g1, g2⟩ := h
  exact ⟨ad, c, up.heap g1 (zR5 g1 hb (Ne.symm h1)), zF1 g2 up (zD3 g2 hb (Ne.symm h2))⟩
theorem yZ9 {b sz n : Nat} {T : TypeId} {cs : Array Value} {T2 : TypeId} {fr : Nat × Nat} {v : Value} {xs : List Value} (h : w.ownsRow base T sz v n xs) (k : Kp [b] w w') (hb : w.heap[b]? = some (.cells cs T2 fr)) (hT : T2 ≠ T) : w'.ownsRow base T sz v n xs := by
  refine ⟨h.1, ?_⟩
  have hne := zD3 h hb (Ne.symm hT)
  rcases h.2 with hn | ⟨q, cap, cur, rfl, hq, hg, rest⟩
  · exact .inl hn
  · exact .inr ⟨q, cap, cur, rfl, hq, k.heap hg (fun hm => hne (by simp only [List.mem_singleton] at hm; rw [hm]; rfl)), rest⟩
theorem NtS.kp {b : Nat} {cs : Array Value} {T : TypeId} {fr : Nat × Nat} (h : NtS TS TN TE base w u bn L) (k : Kp [b] w w') (hb : w.heap[b]? = some (.cells cs T fr)) (h1 : T ≠ TN) (h2 : T ≠ TE) : NtS TS TN TE base w' u bn L := by
  obtain ⟨ad, c, g1, g2⟩ := h
  exact ⟨ad, c, k.heap g1 (fun hm => by simp only [List.mem_singleton] at hm; exact zR5 g1 hb (Ne.symm h1) hm), yZ9 g2 k hb h2⟩
theorem NkP.hpN {k : Nat} {cs : Array Value} {T : TypeId} {fr : Nat × Nat} (r : NkP [bn] TE base w w') (st : NtS TS TN TE base w u bn L) (h : w.heap[k]? = some (.cells cs T fr)) (h1 : T ≠ TN) (h2 : T ≠ TE) : w'.heap[k]? = some (.cells cs T fr) := by
  obtain ⟨ad, c, g1, -⟩ := st
  exact r.heap h (fun hm => by simp only [List.mem_singleton] at hm; exact zR5 h g1 h1 hm) h2
theorem NkP.hpN2 {k b : Nat} {cs cb : Array Value} {T TB : TypeId} {fr fb : Nat × Nat} (r : NkP [bn, b] TE base w w') (st : NtS TS TN TE base w u bn L) (hb : w.heap[b]? = some (.cells cb TB fb)) (h : w.heap[k]? = some (.cells cs T fr)) (h1 : T ≠ TN) (h2 : T ≠ TE) (h3 : T ≠ TB) : w'.heap[k]? = some (.cells cs T fr) := by
  obtain ⟨ad, c, g1, -⟩ := st
  exact r.heap h (fun hm => by
    simp only [List.mem_cons, List.not_mem_nil, or_false] at hm
    rcases hm with hm | hm
    · exact zR5 h g1 h1 hm
    · exact zR5 h hb h3 hm) h2
end
section
variable {P : Program} {ops : Array Oper} {e : Env} {w : World} {K : Value → World → Prop} {d : Option Nat} {ty : TypeId} {pos : String} {af : Array Edge} {g : Option (Nat × Bool)} {x : Operand}
theorem jD7 {name : String} {args : Array Operand} {at_ : Array TypeId} {f : FuncId} {v' : Value} {F : Value → World → Prop} {t t' S ft : TypeId} {j off n b : Nat} {cs : Array Value} {T : TypeId} {fr : Nat × Nat}
    [hv : ViaI P t name S j] [hfi : FldI P S j off] [hft : FtI P S j ft] [hti : TyI P ft n false] (hm : MethN P t' name f) (hx : ev e x = .iface t (.pointer (some ⟨b, 0, none⟩)))
    (hb : w.heap[b]? = some (.cells cs T fr)) (hc0 : cs[off]? = some (.iface t' v'))
    (hc : Calls P f (v' :: args.toList.map (ev e)).toArray w (Ret F)) (h : ∀ v w', F v w' → K v w') : Run1 P ⟨d, .call ⟨.invoke x name, args, at_⟩, ty, pos, af, g⟩ e w K := by
  have ha : ((#[ev e x] ++ args.map (ev e)).extract 1 (#[ev e x] ++ args.map (ev e)).size) = args.map (ev e) := by
    apply Array.ext'
    simp
    exact List.take_of_length_le (by simp)
  have h0 : (#[ev e x] ++ args.map (ev e))[0]? = some (.iface t (.pointer (some ⟨b, 0, none⟩))) := by rw [hx, Array.getElem?_append_left (by simp)]; rfl
  have hbb : #[v'] ++ args.map (ev e) = (v' :: args.toList.map (ev e)).toArray := by
    apply Array.ext'
    simp
  have hr : (execOp (ev e) ⟨d, .call ⟨.invoke x name, args, at_⟩, ty, pos, af, g⟩).run P w = .ok (.enter f (v' :: args.toList.map (ev e)).toArray) w := by
    simp only [execOp, resolve, Sem.run_bind, Sem.run_pure, Result.andThen_ok, invoke, h0, ha]
    rw [yZ8 (o := 0) hm hb (by rw [Nat.zero_add]; exact hc0), hbb]
  unfold Run1
  rw [hr]
  exact hc.mono fun r w' ⟨v, hv, hF⟩ => ⟨v, hv, h v w' hF⟩
variable {y z : Operand}
theorem zC5.c {f : FuncId} {a : Array Value} {v : Value} (h : zC5 P f a w v) : Calls P f a w (Ret fun r w' => r = v ∧ Grow w w') := h
theorem zP4 {name : String} {at_ : Array TypeId} {f : FuncId} {v a b : Value} {F : Value → World → Prop} {T : TypeId} (hm : MethI P T name f) (hx : ev e x = .iface T v) (hy : ev e y = a) (hz : ev e z = b)
    (hc : Calls P f #[v, a, b] w (Ret F)) (h : ∀ v w', F v w' → K v w') : Run1 P ⟨d, .call ⟨.invoke x name, #[y, z], at_⟩, ty, pos, af, g⟩ e w K := by
  refine qI4 hm hx ?_ h
  rw [show ((v :: (#[y, z] : Array Operand).toList.map (ev e)).toArray) = #[v, a, b] from by simp [hy, hz]]
  exact hc
theorem jC5 {name : String} {at_ : Array TypeId} {f : FuncId} {v' : Value} {F : Value → World → Prop} {t t' S ft : TypeId} {j off n b : Nat} {cs : Array Value} {T : TypeId} {fr : Nat × Nat}
    [hv : ViaI P t name S j] [hfi : FldI P S j off] [hft : FtI P S j ft] [hti : TyI P ft n false] (hm : MethN P t' name f) (hx : ev e x = .iface t (.pointer (some ⟨b, 0, none⟩)))
    (hb : w.heap[b]? = some (.cells cs T fr)) (hc0 : cs[off]? = some (.iface t' v'))
    (hc : Calls P f #[v'] w (Ret F)) (h : ∀ v w', F v w' → K v w') : Run1 P ⟨d, .call ⟨.invoke x name, #[], at_⟩, ty, pos, af, g⟩ e w K :=
  jD7 hm hx hb hc0 hc h
end
/-! ### an arena as the source -/
section
variable {A : List (List Int)} {s : Src}
theorem num9 (hs : s = zC4 A) (hx : AllU A) (seg a : Int) : 0 ≤ (s.word seg a).1 ∧ (s.word seg a).1 ≤ 18446744073709551615 ∧ 0 ≤ (s.word seg a).2 ∧ (s.word seg a).2 ≤ 65535 := by subst hs; exact qD4 hx seg a
theorem ptr9 (hs : s = zC4 A) (hx : AllU A) (seg a : Int) : PtR (ptrS s seg a).1 := by
  obtain ⟨h1, h2, -, -⟩ := num9 hs hx seg a
  unfold ptrS
  split
  · exact qK0
  · exact zK8 _ h1 h2
theorem fol9 (hs : s = zC4 A) (hr : zG0 A = true) (hx : AllU A) (seg a : Int) : ObR (zA0 s seg a).1 := by
  obtain ⟨h1, h2⟩ := zQ3 hr
  subst hs; exact yQ4 h1 h2 hx seg a
theorem jD8 (hs : s = zC4 A) (hr : zG0 A = true) : ∀ i, i < s.sizes.length → 0 ≤ s.sizes.getD i 0 ∧ s.sizes.getD i 0 ≤ 140737488355328 := by
  obtain ⟨-, h2⟩ := zQ3 hr
  subst hs
  intro i _
  have h3 : (zC4 A).sizes.getD i 0 = (len2 A i : Int) := zR1 A i
  have := h2 i
  omega
theorem yW7 (hs : s = zC4 A) : s.sizes = zC9 A := by subst hs; rfl
theorem jC6 (hs : s = zC4 A) (hr : zG0 A = true) {seg a : Int} (h : (ptrS s seg a).2 = 0) : 0 ≤ seg ∧ seg ≤ 16 ∧ 0 ≤ a ∧ a ≤ 4096 := by
  obtain ⟨h1, h2⟩ := zQ3 hr
  subst hs
  have h3 : ((zC4 A).word seg a).2 = 0 := by
    unfold ptrS at h
    by_cases h0 : ((zC4 A).word seg a).2 ≠ 0
    · rw [if_pos h0] at h; exact absurd h h0
    · simpa using h0
  have h4 : (zI3 A seg a).2 = 0 := h3
  unfold zI3 at h4
  split at h4
  · rename_i hc; have := h2 seg.toNat; omega
  · exact absurd h4 (by decide)
theorem pw9 (hs : s = zC4 A) {seg a : Int} (h : (ptrS s seg a).2 = 0) : (ptrS s seg a).1 = pwT A seg a := by
  subst hs
  unfold ptrS at h ⊢
  by_cases h0 : ((zC4 A).word seg a).2 ≠ 0
  · rw [if_pos h0] at h; exact absurd h h0
  · rw [if_neg h0]; rfl
theorem yQ5 (hs : s = zC4 A) {seg a : Int} (h : (ptrS s seg a).2 = 0) (hk : (ptrS s seg a).1.kind ≠ 3) (L : List Spn) : zI2 A L seg a = zN2 A L seg a := by
  unfold zI2; rw [← pw9 hs h, if_pos hk]
theorem jA0 (hs : s = zC4 A) {seg a : Int} (h : (ptrS s seg a).2 = 0) (hk : (ptrS s seg a).1.kind = 3) (hd : (ptrS s seg a).1.dbl = true) (L : List Spn) : zI2 A L seg a = zN2 A (zN2 A (zN2 A L seg a) (ptrS s seg a).1.seg (ptrS s seg a).1.off) (ptrS s seg a).1.seg ((ptrS s seg a).1.off + 1) := by
  unfold zI2; rw [← pw9 hs h, if_neg (by omega), if_pos hd]
theorem yV0 (hs : s = zC4 A) {seg a : Int} (h : (ptrS s seg a).2 = 0) (hk : (ptrS s seg a).1.kind = 3) (hd : ¬ (ptrS s seg a).1.dbl = true) (L : List Spn) : zI2 A L seg a = zN2 A (zN2 A L seg a) (ptrS s seg a).1.seg (ptrS s seg a).1.off := by
  unfold zI2; rw [← pw9 hs h, if_neg (by omega), if_neg hd]
def yJ9 (A : List (List Int)) (L : List Spn) (o : Ob) (k : Int) : List Spn := if o.kind = 0 ∨ (o.kind = 1 ∧ k ≥ o.ptrs) then L else zI2 A L o.seg (atT o k)
theorem yV1 (hs : s = zC4 A) {o : Ob} {k : Int} (h : (zJ9 s o k).2 = 0) (ks : List Int) (L : List Spn) : goT A (k :: ks) L o = goT A ks (yJ9 A L o k) (zJ9 s o k).1 := by
  subst hs
  rw [goT]
  unfold yJ9
  by_cases h1 : o.kind = 0 ∨ (o.kind = 1 ∧ k ≥ o.ptrs)
  · rw [if_pos h1, if_pos h1]
    unfold zJ9; rw [if_pos h1]
  · rw [if_neg h1, if_neg h1]
    unfold zJ9 at h ⊢
    rw [if_neg h1] at h ⊢
    by_cases h2 : o.kind = 1
    · rw [if_pos h2] at h ⊢
      unfold atT; rw [if_pos h2]
    · rw [if_neg h2] at h ⊢
      by_cases h3 : o.size ≠ 6
      · rw [if_pos h3] at h; simp at h
      · rw [if_neg h3] at h ⊢
        by_cases h4 : k ≥ o.count
        · rw [if_pos h4] at h; simp at h
        · rw [if_neg h4]; unfold atT; rw [if_neg h2]
end
end Go.Proofs.YtkkbbhpbcfcplaaGreat.K
namespace Go.Proofs.YtkkbbhpbcfcplaaGreat.K
open Go Go.RowKit Go.Proofs
attribute [local irreducible] Run1 OpG WL W AO zC5
theorem yC6 (w : World) {ad : Option Addr} {c : Nat} {sz : List Int} (R : RowAt w 1 ad sz.length (sz.map (.int .i64))) (hr : ∀ x ∈ sz, inR .i64 x) : zC5 Tryz.prog 50 #[.slice ad sz.length c] w (.bool (zN6 sz)) := by
 have lR := R.lim
 have hg : ∀ i, inR .i64 (sz.getD i 0) := fun i => by rw [List.getD_eq_getElem?_getD]; cases hi_ : sz[i]? with | none => simp [inR] | some x_ => exact hr x_ (List.mem_of_getElem? hi_)
 have hg0 := hg 0
 simp only [inR] at hg0
 have G := Grow.rfl' w
 refine zB1 Tryz.func50 Tryz.ntmps50 Tryz.results50 rfl rfl ?_
 refine qZ 9 ?_
 refine stp (zI1 rfl rfl ?_)
 refine qZ 1 ?_
 refine qG 2 ?_
 refine zA4 (zB7 (s := .bool _) (v := .bool (decide ((sz.length : Int) > 16))) rfl (zF0 _) (fun hc3 => ?_) ?_)
 ·
  have hc3_ := hc3
  try simp only [sb] at hc3_
  refine zQ7 (gvt hc3) rfl ?_
  exact ⟨rfl, rfl⟩
 refine stp (zJ3 rfl rfl rfl ?_)
 refine qZ 1 ?_
 refine qG 1 ?_
 refine zA4 (zB7 (s := .bool _) (v := .pointer (some (eadr ad ((0 : Int).toNat * 1)))) rfl (zF0 _) (fun hc5 => ?_) ?_)
 ·
  have hc5_ := hc5
  try simp only [sb] at hc5_
  refine zL7 (R.grow G) (gvt hc5) rfl ?_ ?_ ?_; omega; omega
  exact ⟨rfl, rfl⟩
 refine zA4 (zB7 (s := .bool _) (v := .int .i64 (sz.getD 0 0)) rfl (zF0 _) (fun hc6 => ?_) ?_)
 ·
  have hc6_ := hc6
  try simp only [sb] at hc6_
  refine zF2 (v := .int .i64 (sz.getD 0 0)) (m := 0) (R.grow G) (gvt hc6) (show _ from zL8 (j := 0) 0 (by omega)) ?_
  exact ⟨rfl, rfl⟩
 refine zA4 (zB7 (s := .bool _) (v := .bool (decide ((sz.getD 0 0) < 1))) rfl (zF0 _) (fun hc7 => ?_) ?_)
 ·
  have hc7_ := hc7
  try simp only [sb] at hc7_
  refine zI1 (gvt hc7) rfl ?_
  exact ⟨rfl, rfl⟩
 refine stp (zJ3 rfl rfl rfl ?_)
 refine zA6 ?_
 refine zA3 (b := (((decide ((sz.length : Int) < 1)) || (decide ((sz.length : Int) > 16))) || (decide ((sz.getD 0 0) < 1)))) rfl (fun h1 => ?_) (fun h1 => ?_)
 ·
  simp only [sb] at h1
  refine qZ 5 ?_
  have h9 : zN6 sz = false := yP0 (by omega)
  refine ret1 (zA1 (v := .bool false) rfl) ⟨?_, G⟩
  rw [h9]
 ·
  simp only [sb] at h1
  have h1' : 1 ≤ sz.length ∧ sz.length ≤ 16 ∧ 1 ≤ sz.getD 0 0 := by omega
  clear h1
  refine qZ 13 ?_
  refine zG4 (fun m_ e_ w_ => ∃ (k : Nat), m_ = sz.length - k ∧ Fr [(22, .slice ad sz.length c), (23, .int .i64 (sz.length : Int)), (3, .int .i64 (sumL (sz.take k))), (24, .int .i64 (k : Int))] e_ ∧ (k ≤ sz.length) ∧ (0 ≤ sumL (sz.take k) ∧ sumL (sz.take k) ≤ 4096) ∧ (∀ j, j < k → 0 ≤ sz.getD j 0) ∧ Grow w w_) _ ⟨0, rfl, zD2 ⟨rfl, rfl, rfl, rfl, trivial⟩, by omega, by simp [sumL], fun j hj => by omega, G⟩ ?_
  clear G
  rintro m_ e_ w8 ⟨k, rfl, ⟨e9, rfl⟩, hk, htk, hnn, G⟩
  have hgk := hg k
  simp only [inR] at hgk
  refine qZ 2 ?_
  refine stp (zI1 rfl rfl ?_)
  refine qZ 2 ?_
  refine zA3 (b := (decide ((k : Int) < (sz.length : Int)))) rfl (fun hlt => ?_) (fun hlt => ?_)
  ·
   replace hlt := qT hlt
   have hi : k < sz.length := by omega
   have ht := zU2 hi
   have hadd : zL3 (sumL (sz.take k)) (sz.getD k 0) 4096 = decide (0 ≤ sz.getD k 0 ∧ sumL (sz.take k) + sz.getD k 0 ≤ 4096) := by unfold zL3; exact decide_eq_decide.2 (by omega)
   refine qZ 5 ?_
   refine stp (zD7 (R.grow G) rfl rfl ?_ ?_); omega
   refine stp (zF2 (v := .int .i64 (sz.getD k 0)) (m := 0) (R.grow G) rfl (zL8 0 (by omega)) ?_)
   refine qZ 6 ?_
   refine stp (zA2 (v := .tuple #[.int .i64 (if zL3 (sumL (sz.take k)) (sz.getD k 0) 4096 then sumL (sz.take k) + sz.getD k 0 else 0), .bool (zL3 (sumL (sz.take k)) (sz.getD k 0) 4096)]) rfl (qG0 _ (a := sumL (sz.take k)) (b := sz.getD k 0) (m := 4096) (by simp only [inR]; omega) (hg k) (by simp only [inR]; omega)) ?_)
   intro w10 g11
   replace G := G.tr g11
   clear g11
   refine qZ 10 ?_
   refine stp (zM1 rfl ?_)
   refine zA6 ?_
   refine zA3 (b := (!(zL3 (sumL (sz.take k)) (sz.getD k 0) 4096))) rfl (fun h3 => ?_) (fun h3 => ?_)
   ·
    simp only [sb] at h3
    rw [hadd] at h3
    refine qZ 5 ?_
    have h9 : zN6 sz = false := yZ0 hi (by simpa using h3)
    refine ret1 (zA1 (v := .bool false) rfl) ⟨?_, G⟩
    rw [h9]
   ·
    simp only [sb] at h3
    rw [hadd] at h3
    have h3' : 0 ≤ sz.getD k 0 ∧ sumL (sz.take k) + sz.getD k 0 ≤ 4096 := by simpa using h3
    refine qZ 6 ?_
    refine stp (zC3 rfl rfl ?_ ?_); constructor <;> omega
    refine qZ 2 ?_
    refine ⟨_, ?_, k + 1, rfl, zD2 ⟨rfl, rfl, congrArg (Value.int .i64) (by rw [hadd, decide_eq_true h3', if_pos rfl]; omega), rfl, trivial⟩, by omega, by omega, fun j hj => by rcases Nat.lt_succ_iff_lt_or_eq.1 hj with h_ | h_; exact hnn j h_; (subst h_; exact h3'.1), G⟩
    omega
  ·
   replace hlt := qF hlt
   have hk2 : k = sz.length := by omega
   subst hk2
   refine qZ 6 ?_
   have h9 : zN6 sz = true := yT9 h1'.1 h1'.2.1 h1'.2.2 hnn htk.2
   refine ret1 (zA1 (v := .bool true) rfl) ⟨?_, G⟩
   rw [h9]
theorem yK0 (w : World) {a m : Int} (hm : 0 ≤ m ∧ m ≤ 140737488355328) : zC5 Tryz.prog 87 #[.int .i64 a, .int .i64 1, .int .i64 m] w (.tuple #[.int .i64 (if zL3 a 1 m then a + 1 else 0), .bool (zL3 a 1 m)]) := by
 have G := Grow.rfl' w
 refine zB1 Tryz.func87 Tryz.ntmps87 Tryz.results87 rfl rfl ?_
 refine qZ 10 ?_
 refine stp (qA2 rfl rfl rfl ?_)
 refine stp (zI1 rfl rfl ?_)
 refine qZ 1 ?_
 refine qG 2 ?_
 refine zA4 (zB7 (s := .bool _) (v := .bool (decide (a > m))) rfl (zF0 _) (fun hc3 => ?_) ?_)
 ·
  have hc3_ := hc3
  try simp only [sb] at hc3_
  refine zQ7 (gvt hc3) (gvt hc3) ?_
  exact ⟨rfl, rfl⟩
 refine stp (zJ3 rfl rfl rfl ?_)
 refine qZ 1 ?_
 refine qG 3 ?_
 refine zA4 (zB7 (s := .bool _) (v := .int .i64 (m - a)) rfl (zF0 _) (fun hc7 => ?_) ?_)
 ·
  have hc7_ := hc7
  try simp only [sb] at hc7_
  refine zL2 (gvt hc7) (gvt hc7) ?_ ?_; constructor <;> omega
  exact ⟨rfl, rfl⟩
 refine zA4 (zB7 (s := .bool _) (v := .bool (decide (1 > (m - a)))) rfl (zF0 _) (fun hc8 => ?_) ?_)
 ·
  have hc8_ := hc8
  try simp only [sb] at hc8_
  refine zQ7 (gvt hc8) (gvt hc8) ?_
  exact ⟨rfl, rfl⟩
 refine stp (zJ3 rfl rfl rfl ?_)
 refine zA6 ?_
 refine zA3 (b := (((decide ((if 1 < a then 1 else a) < 0)) || (decide (a > m))) || (decide (1 > (m - a))))) rfl (fun h1 => ?_) (fun h1 => ?_)
 ·
  simp only [sb] at h1
  refine qZ 6 ?_
  refine ret2 (zA1 (v := .int .i64 0) rfl) (zA1 (v := .bool false) rfl) ⟨?_, G⟩
  have h9 : zL3 a 1 m = false := by simp only [zL3]; exact decide_eq_false (by omega)
  rw [h9]; rfl
 ·
  simp only [sb] at h1
  have h9 : zL3 a 1 m = true := by simp only [zL3]; exact decide_eq_true (by omega)
  refine qZ 5 ?_
  refine stp (zC3 rfl rfl ?_ ?_); constructor <;> omega
  refine qZ 4 ?_
  refine ret2 (zA1 (v := .int .i64 (a + 1)) rfl) (zA1 (v := .bool true) rfl) ⟨?_, G⟩
  rw [h9]; rfl
theorem qS7 (w : World) {ad : Option Addr} {c : Nat} {sz : List Int} {seg a : Int} (R : RowAt w 1 ad sz.length (sz.map (.int .i64))) (hs : ∀ i, i < sz.length → 0 ≤ sz.getD i 0 ∧ sz.getD i 0 ≤ 140737488355328) : zC5 Tryz.prog 119 #[.slice ad sz.length c, .int .i64 seg, .int .i64 a, .int .i64 1] w (.bool (zG9 sz seg a 1)) := by
 have ll := R.lim
 have G := Grow.rfl' w
 refine zB1 Tryz.func119 Tryz.ntmps119 Tryz.results119 rfl rfl ?_
 refine qZ 8 ?_
 refine stp (zI1 rfl rfl ?_)
 refine qZ 1 ?_
 refine qG 3 ?_
 refine zA4 (zB7 (s := .bool _) (v := .bool (decide (seg ≥ (sz.length : Int)))) rfl (zF0 _) (fun hc4 => ?_) ?_)
 ·
  have hc4_ := hc4
  try simp only [sb] at hc4_
  refine qE5 (gvt hc4) (gvt hc4) ?_
  exact ⟨rfl, rfl⟩
 refine stp (zJ3 rfl rfl rfl ?_)
 refine zA6 ?_
 refine zA3 (b := ((decide (seg < 0)) || (decide (seg ≥ (sz.length : Int))))) rfl (fun h1 => ?_) (fun h1 => ?_)
 ·
  simp only [sb] at h1
  refine qZ 5 ?_
  refine ret1 (zA1 (v := .bool false) rfl) ⟨?_, G⟩
  have h9 : zG9 sz seg a 1 = false := by unfold zG9; rw [decide_eq_false (by omega), Bool.false_and]
  rw [h9]
 ·
  simp only [sb] at h1
  have h9 := hs seg.toNat (by omega)
  refine qZ 7 ?_
  refine stp (zL7 (R.grow G) rfl rfl ?_ ?_ ?_); omega; omega
  refine stp (zF2 (v := .int .i64 (sz.getD seg.toNat 0)) (m := 0) (R.grow G) rfl (by rw [Nat.mul_one]; exact qQ3 0 (by omega)) ?_)
  refine stp (zA2 (v := .tuple #[.int .i64 (if zL3 a 1 (sz.getD seg.toNat 0) then a + 1 else 0), .bool (zL3 a 1 (sz.getD seg.toNat 0))]) rfl (yK0 _ (m := sz.getD seg.toNat 0) h9) ?_)
  intro w5 g6
  replace G := G.tr g6
  clear g6
  refine qZ 12 ?_
  refine ret1 (zA1 (v := .bool (zL3 a 1 (sz.getD seg.toNat 0))) rfl) ⟨?_, G⟩
  unfold zG9; rw [decide_eq_true (by omega), Bool.true_and]
theorem qX9 (w : World) {ad : Option Addr} {c : Nat} {sz : List Int} (R : RowAt w 1 ad sz.length (sz.map (.int .i64))) (hr : ∀ x ∈ sz, inR .i64 x) {seg a : Int} (hc : sz.length ≤ c) : zC5 Tryz.prog 181 #[.slice ad sz.length c, .int .i64 seg, .int .i64 a] w (.int .i64 (zH9 sz seg a)) := by
 have lR := R.lim
 have G := Grow.rfl' w
 refine zB1 Tryz.func181 Tryz.ntmps181 Tryz.results181 rfl rfl ?_
 refine qZ 8 ?_
 refine stp (zA2 (v := .bool (zN6 sz)) rfl (yC6 _ (R.grow G) hr) ?_)
 intro w1 g2
 replace G := G.tr g2
 clear g2
 refine stp (zM1 rfl ?_)
 refine qZ 1 ?_
 refine qG 3 ?_
 refine zA4 (zZ5 (s := .bool (!(zN6 sz))) (b := false) (v := .bool (decide (0 ≤ seg ∧ seg < sz.length ∧ 0 ≤ a ∧ a < sz.getD seg.toNat 0))) rfl (zF0 _) (fun hc6 => ?_) ?_)
 ·
  have hc6_ := hc6
  try simp only [sb] at hc6_
  exact zO6 (l := ([.slice ad sz.length c, .int .i64 seg, .int .i64 a, .int .i64 1] : List Value)) rfl (by show ([gv (!(!(zN6 sz))) (.slice ad sz.length c), gv (!(!(zN6 sz))) (.int .i64 seg), gv (!(!(zN6 sz))) (.int .i64 a), .int .i64 1] : List Value) = _; rw [gvt hc6, gvt hc6, gvt hc6]) ((by have hf_ : zN6 sz = true := (by simpa using hc6); exact zK6 (qS7 _ (R.grow G) (fun i _ => by have := zU3 hf_ i; omega)) (y := .bool (decide (0 ≤ seg ∧ seg < sz.length ∧ 0 ≤ a ∧ a < sz.getD seg.toNat 0))) (by rw [yJ4 hf_]))) (fun w2_ g2_ => ⟨rfl, g2_⟩)
 intro w7 g8
 replace G := G.tr g8
 clear g8
 refine zA4 (zB7 (s := .bool _) (v := .bool (!(decide (0 ≤ seg ∧ seg < sz.length ∧ 0 ≤ a ∧ a < sz.getD seg.toNat 0)))) rfl (zF0 _) (fun hc9 => ?_) ?_)
 ·
  have hc9_ := hc9
  try simp only [sb] at hc9_
  refine zM1 (gvt hc9) ?_
  exact ⟨rfl, rfl⟩
 refine stp (zJ3 rfl rfl rfl ?_)
 refine zA6 ?_
 refine zA3 (b := ((!(zN6 sz)) || (!(decide (0 ≤ seg ∧ seg < sz.length ∧ 0 ≤ a ∧ a < sz.getD seg.toNat 0))))) rfl (fun h1 => ?_) (fun h1 => ?_)
 ·
  simp only [sb] at h1
  refine qZ 5 ?_
  have h9 : zH9 sz seg a = -1 := by unfold zH9; rw [if_neg]; rintro ⟨x1, x2⟩; rcases h1 with h_ | h_; (rw [x1] at h_; cases h_); exact absurd x2 h_
  refine ret1 (zA1 (v := .int .i64 (-1)) rfl) ⟨?_, G⟩
  rw [h9]
 ·
  simp only [sb] at h1
  obtain ⟨hf, hw⟩ := h1
  have hw' := hw
  obtain ⟨n, hn⟩ : ∃ n : Nat, seg = (n : Int) := ⟨seg.toNat, by omega⟩
  have h9 : zH9 sz seg a = a + sumL (sz.take n) := by unfold zH9; rw [if_pos ⟨hf, hw'⟩, hn, Int.toNat_natCast]
  obtain ⟨f1, f2, f3, f4, f5⟩ := zY9 hf
  have hsz := zU3 hf
  have hsg := hsz seg.toNat
  refine qZ 6 ?_
  refine stp (qH9 rfl rfl (by omega) (by omega) ?_)
  have R2 := R.sliceH (m := n) hc (by omega) (by decide)
  rw [show seg.toNat = n from by omega]
  generalize (if c = 0 then ad else ad.map (·.add (0 * 1))) = ad2 at R2 ⊢
  refine qZ 4 ?_
  refine zG4 (fun m_ e_ w_ => ∃ (k : Nat), m_ = n - k ∧ Fr [(6, .int .i64 0), (21, .slice ad2 n c), (22, .int .i64 (n : Int)), (2, .int .i64 (a + sumL (sz.take k))), (23, .int .i64 (k : Int))] e_ ∧ (k ≤ n) ∧ Grow w w_) _ ⟨0, rfl, zD2 ⟨rfl, rfl, rfl, congrArg (Value.int .i64) (by simp [sumL]), rfl, trivial⟩, by omega, G⟩ ?_
  clear G
  rintro m_ e_ w10 ⟨k, rfl, ⟨e11, rfl⟩, hk, G⟩
  have hkz := hsz k
  have htk := zN1 f4 k
  refine qZ 2 ?_
  refine stp (zI1 rfl rfl ?_)
  refine qZ 2 ?_
  refine zA3 (b := (decide ((k : Int) < (n : Int)))) rfl (fun hlt => ?_) (fun hlt => ?_)
  ·
   replace hlt := qT hlt
   have hi : k < sz.length := by omega
   have ht := zU2 hi
   refine qZ 5 ?_
   refine stp (zD7 (R2.grow G) rfl rfl ?_ ?_); omega
   refine stp (zF2 (v := .int .i64 (sz.getD k 0)) (m := 0) (R2.grow G) rfl (show _ from yT8 (by omega) (by omega)) ?_)
   refine qZ 5 ?_
   refine stp (zC3 rfl rfl ?_ ?_); constructor <;> omega
   refine qZ 3 ?_
   refine stp (zC3 rfl rfl ?_ ?_); constructor <;> omega
   refine qZ 2 ?_
   refine ⟨_, ?_, k + 1, rfl, zD2 ⟨rfl, rfl, rfl, congrArg (Value.int .i64) (by omega), congrArg (Value.int .i64) (by omega), trivial⟩, by omega, G⟩
   omega
  ·
   replace hlt := qF hlt
   have hkn : k = n := by omega
   refine qZ 7 ?_
   refine ret1 (zA1 (v := .int .i64 (a + sumL (sz.take k))) rfl) ⟨?_, G⟩
   rw [h9, hkn]
instance : ViaI Tryz.prog 74 "Sizes" 79 0 := ⟨by kernel_rfl⟩
theorem yC7 : MethN Tryz.prog 110 "Sizes" 182 := ⟨fun v w => by kernel_rfl, fun args w => by kernel_rfl⟩
theorem zQ4 : MethI Tryz.prog 74 "Word" 180 := ⟨fun v args w => by kernel_rfl⟩
theorem qH6 (w : World) {u : Value} {A : List (List Int)} (hA : zG1 w u A) (hl : A.length ≤ 1000) : Calls Tryz.prog 182 #[.agg #[u]] w (Ret fun r w2 => ∃ ad c, r = .slice ad (zC9 A).length c ∧ (zC9 A).length ≤ c ∧ RowAt w2 1 ad (zC9 A).length ((zC9 A).map (.int .i64)) ∧ Grow w w2) := by
 obtain ⟨segs_, ⟨ada, ca, rfl, hc1_, hc2_, RA⟩, hrows⟩ := hA
 have G := Grow.rfl' w
 refine zC0 Tryz.func182 Tryz.ntmps182 Tryz.results182 rfl rfl ?_
 refine qZ 2 ?_
 refine stp ?_
 refine qC ?_
 intro b1 w2 hb3 hc4 g5
 have hge6 := Nat.le_trans G.size hb3
 replace G := G.tr g5
 clear g5 hb3
 refine qZ 6 ?_
 refine stp ?_
 refine zC8 rfl (qB1 _ (RA.grow G) rfl (fun i q hq => by obtain ⟨v, h1, h2⟩ := hrows i q hq; exact ⟨v, h1, h2.grow G⟩) (by omega)) ?_
 rintro v_ w7 ⟨own, g_⟩
 replace hc4 := g_.heap hc4
 replace G := G.tr g_
 clear g_
 obtain ⟨ad5, c5, rfl, hc5, hc6, RS⟩ := zH3 own (by omega)
 refine qZ 3 ?_
 rw [show (A.map fun s => Value.int .i64 (s.length : Int)) = (zC9 A).map (.int .i64) from by simp [zC9, Function.comp_def], ← zM8 A] at RS
 rw [← zM8 A] at hc5
 refine ret1 (zA1 (v := .slice ad5 A.length c5) rfl) ⟨_, _, by rw [zM8], hc5, RS, G⟩
theorem zO3 (w : World) {w0 : World} {u : Value} {A : List (List Int)} (hA : zG1 w0 u A) (hr : zG0 A = true) (hx : AllU A) {s : Src} (hs : s = zC4 A) (g0 : Grow w0 w) {bn : Nat} (hbn : w0.heap.size ≤ bn) {L : List Spn} (st : NtS 110 79 61 w0.heap.size w u bn L) (hL : L.length ≤ 200000) (seg a : Int) : Calls Tryz.prog 180 #[.pointer (some ⟨bn, 0, none⟩), .int .i64 seg, .int .i64 a] w (Ret fun v w' => v = .tuple #[.int .u64 (s.word seg a).1, .int .u16 (s.word seg a).2] ∧ NtS 110 79 61 w0.heap.size w' u bn (zN2 A L seg a) ∧ NkP [bn] 61 w0.heap.size w w') := by
 have K := NkP.refl [bn] 61 w0.heap.size w
 have g0w := g0.size
 obtain ⟨ad0, c0, hn0, oL⟩ := st
 obtain ⟨hlen16, hl4096⟩ := zQ3 hr
 have hfit : zN6 (zC9 A) = true := by rw [qG1]; exact hr
 have hrz : ∀ x ∈ zC9 A, inR .i64 x := yU0 hfit
 have hlE := zL1 L
 have hbnw := zC1 hn0
 refine zC0 Tryz.func180 Tryz.ntmps180 Tryz.results180 rfl rfl ?_
 have hpl : zH9 (zC9 A) seg a < 0 ∨ (zH9 (zC9 A) seg a < 4096) := by by_cases h_ : zH9 (zC9 A) seg a < 0; exact .inl h_; (have h2_ := (qX1 (sz := zC9 A) (seg := seg) (a := a) (by omega)).2.2.2.2.2.2; have := yP1 (zC9 A); omega)
 refine qZ 12 ?_
 refine stp (qI4 zX8 rfl (qH6 _ (hA.grow g0) (by omega)) ?_)
 rintro v_ w1 ⟨adz, cz, rfl, hcz, RZ, g_⟩
 replace K := K.tr (NkP.of_grow g_)
 replace g0 := g0.tr g_
 replace hn0 := g_.heap hn0
 replace oL := zB8 oL g_
 clear g_
 refine qZ 2 ?_
 refine stp (zA2 (v := .int .i64 (zH9 (zC9 A) seg a)) rfl (qX9 _ RZ hrz hcz) ?_)
 intro w2 g3
 replace K := K.tr (NkP.of_grow g3)
 replace g0 := g0.tr g3
 replace hn0 := g3.heap hn0
 replace oL := zB8 oL g3
 replace RZ := RZ.grow g3
 clear g3
 refine qZ 5 ?_
 refine stp (qE5 rfl rfl ?_)
 refine zA6 ?_
 refine zA3 (b := (decide ((zH9 (zC9 A) seg a) ≥ 0))) rfl (fun h1 => ?_) (fun h1 => ?_)
 ·
  replace h1 := qT h1
  have h9 : (zN2 A L seg a) = L ++ [(zH9 (zC9 A) seg a, zH9 (zC9 A) seg a + 1)] := if_neg (by omega)
  refine qZ 8 ?_
  refine stp (zC3 rfl rfl ?_ ?_); constructor <;> omega
  refine stp (zA7 (v := .agg #[.int .i64 (zH9 (zC9 A) seg a), .int .i64 ((zH9 (zC9 A) seg a) + 1)]) (fun w => by kernel_rfl) ?_)
  refine stp (zB4 (cs := #[.int .i64 (zH9 (zC9 A) seg a), .int .i64 ((zH9 (zC9 A) seg a) + 1)]) (el := 61) (fun w => by kernel_rfl) ?_)
  intro bs4 w5 hb6 hc7 g8
  have hge9 := Nat.le_trans K.size hb6
  replace K := K.tr (NkP.of_grow g8)
  replace g0 := g0.tr g8
  replace hn0 := g8.heap hn0
  replace oL := zB8 oL g8
  clear g8
  refine stp (zH1 rfl rfl rfl rfl oL (Row.of_block (n := 1) hc7 rfl rfl (by omega)) (fun q_ hq_ => by simp at hq_; rcases hq_ with rfl | rfl <;> rfl) (by simp only [maxLen]; omega) (by omega) g0.size ?_)
  intro v7 w7 own2 gr7
  replace K := K.tr (NkP.of_grown oL gr7)
  replace g0 := g0.grown gr7 (zJ7 oL)
  replace hn0 := zG7 gr7 hn0 (zD3 oL hn0 (by decide))
  have own3 := yU6 (s := (zH9 (zC9 A) seg a, zH9 (zC9 A) seg a + 1)) own2
  clear own2 gr7 oL
  obtain ⟨ad2, n2, c2, rfl⟩ := zE6 own3
  have hn3 := qE1 own3
  subst hn3
  refine qZ 2 ?_
  refine stn (zC2 (v := .slice ad2 ((L ++ [(zH9 (zC9 A) seg a, zH9 (zC9 A) seg a + 1)]).length) c2) rfl rfl (by rfl) hn0 (by rfl) (by rfl) ?_)
  intro w10 hc11 u12
  replace K := (by first | exact K.upd_new u12 (by assumption) | exact K.tr (NkP.of_upd u12 (by simp)))
  replace g0 := (by first | exact Grow.upd g0 u12 (Nat.le_trans g0w (by assumption)) | exact Grow.upd g0 u12 hbn | exact Grow.upd g0 u12 hb0)
  replace own3 := zF1 own3 u12 (zD3 own3 hn0 (by decide))
  clear u12 hn0
  refine qZ 9 ?_
  refine stp (zP4 (F := fun v_ w_ => v_ = .tuple #[.int .u64 (zI3 A seg a).1, .int .u16 (zI3 A seg a).2] ∧ Grow w10 w_) (a := .int .i64 seg) (b := .int .i64 a) zS9 rfl rfl rfl (zR4 _ (hA.grow g0) seg a).c ?_)
  rintro v_ w13 ⟨rfl, g_⟩
  replace K := K.tr (NkP.of_grow g_)
  replace g0 := g0.tr g_
  replace own3 := zB8 own3 g_
  replace hc11 := g_.heap hc11
  clear g_
  refine qZ 6 ?_
  subst hs
  rw [h9]
  refine ret2 (zA1 (v := .int .u64 ((zI3 A seg a).1)) rfl) (zA1 (v := .int .u16 ((zI3 A seg a).2)) rfl) ⟨rfl, ⟨ad2, c2, hc11, own3⟩, K⟩
 ·
  replace h1 := qF h1
  have h9 : (zN2 A L seg a) = L := if_pos (by omega)
  refine qZ 9 ?_
  refine stp (zP4 (F := fun v_ w_ => v_ = .tuple #[.int .u64 (zI3 A seg a).1, .int .u16 (zI3 A seg a).2] ∧ Grow w2 w_) (a := .int .i64 seg) (b := .int .i64 a) zS9 rfl rfl rfl (zR4 _ (hA.grow g0) seg a).c ?_)
  rintro v_ w14 ⟨rfl, g_⟩
  replace K := K.tr (NkP.of_grow g_)
  replace g0 := g0.tr g_
  replace hn0 := g_.heap hn0
  replace oL := zB8 oL g_
  replace RZ := RZ.grow g_
  clear g_
  refine qZ 6 ?_
  subst hs
  rw [h9]
  refine ret2 (zA1 (v := .int .u64 ((zI3 A seg a).1)) rfl) (zA1 (v := .int .u16 ((zI3 A seg a).2)) rfl) ⟨rfl, ⟨ad0, c0, hn0, oL⟩, K⟩
end Go.Proofs.YtkkbbhpbcfcplaaGreat.K
