/- Contracts of chapter 08's functions (printed by c08.py). -/
import Derived.Test.YthbcgfmoakokiaaT
import Derived.Test.YthbcgfmoakokiaaM08
import Derived.Test.YthbcgfmoakokiaaB08
import Derived.Test.YthbcgfmoakokiaaO08
import Derived.Test.YthbcgfmoakokiaaPtr
import Derived.Test.YthbcgfmoakokiaaBA
import Derived.Test.YthbcgfmoakokiaaBB
import Derived.Test.YthbcgfmoakokiaaBC
import Derived.Test.YthbcgfmoakokiaaBD
set_option linter.unusedVariables false
set_option linter.unusedSimpArgs false
namespace Go.Proofs.Ythbcgfmoakokiaa.K
open Go Go.RowKit Go.Proofs
attribute [local irreducible] Run1 OpG WL W AO Gives
set_option maxRecDepth 100000 in
theorem bplace_calls (w : World) {w0 : World} {bB : Nat} {so : Value} {segs : List Value} {A : List (List Int)} {lim : Int} {c : List Value} {t : Nd} {s i : Nat} (h : BldAt 54 22 44 w bB (so) segs (A) lim (totalP (A))) (T : NodeR w0 c t) (g0 : Grow w0 w) (hb : ∀ k ∈ blks bB so segs, w0.heap.size ≤ k) (F : Fit lim A) (hsA : s < A.length) (hiA : i < len2 A s) (hl1 : 1 ≤ lim) (hl2 : lim ≤ 4096) (hn0 : 0 ≤ t.need) (hn1 : t.need ≤ 100000) : Calls Try.prog 30 #[.pointer (some ⟨bB, 0, none⟩), .agg c.toArray, .int .i64 (s : Int), .int .i64 (i : Int)] w (Ret fun v w' => v = .tuple #[.int .i64 ((placeP lim t ⟨A, false⟩ s i).seg : Int), .int .i64 ((placeP lim t ⟨A, false⟩ s i).at_ : Int), .bool (!(placeP lim t ⟨A, false⟩ s i).S.full)] ∧ ∃ so' segs', BldAt 54 22 44 w' bB (so') segs' ((placeP lim t ⟨A, false⟩ s i).S.A) lim (totalP ((placeP lim t ⟨A, false⟩ s i).S.A)) ∧ Kp (blks bB so segs) w w' ∧ (∀ k ∈ blks bB so' segs', k ∈ blks bB so segs ∨ w.heap.size ≤ k)) := by
 have FS := F.small hl2
 obtain ⟨ado, co, sa, sc, rfl, hco, RO, hsf⟩ := h.fn FS.1
 have hbox := h.box
 have K := Kp.refl (blks bB (.slice ado A.length co) segs) w
 have h5 := T.len
 obtain ⟨x0, x1, x2, x3, x4, rfl⟩ := five h5
 obtain ⟨hlast, hlastE⟩ := lastP_lt F.one
 have hlt0 := h.lt
 have hsz0 := g0.size
 have hA16 := F.most
 have htot := F.all
 have htn := totalP_nn A
 have hlseg := F.seg (lastP A)
 refine calls_ret Try.func30 Try.ntmps30 Try.results30 rfl rfl ?_
 refine W_seq (W_region rfl ?_)
 refine WL_some (og rfl ?_)
 (first | refine r_box_agg rfl ?_ | refine r_box_int rfl ?_ | refine r_box_slice rfl ?_ | refine r_box rfl rfl ?_)
 intro b1 w2 hb3 hc4 g5
 have hge6 := Nat.le_trans K.size hb3
 replace hbox := g5.heap hbox
 replace h := h.grow g5
 replace K := K.tr g5.kp
 replace g0 := g0.tr g5
 replace RO := RO.grow g5
 clear g5 hb3
 refine stp (r_assign_int rfl ?_)
 refine stp (r_assign_int rfl ?_)
 refine stp (r_assign (v := .bool false) rfl ?_)
 refine WL_nil ?_
 refine W_seq (W_region rfl ?_)
 refine stp (r_move_ptr rfl ?_)
 refine stp (r_nilCheck rfl ?_)
 refine stp (r_fieldAddr rfl ?_)
 refine stp (r_load (v := .slice ado A.length co) rfl hbox rfl ?_)
 refine stp (r_len rfl rfl rfl ?_)
 refine WL_some (og rfl ?_)
 refine r_sub rfl rfl ?_ ?_; constructor <;> omega
 rw [hlastE]
 refine stp (r_assign_int rfl ?_)
 refine WL_nil ?_
 refine W_seq ?_
 refine W_any 12 [[], [0], [1, 0], [2, 1, 0], [], [4, 3, 2, 1, 0], [5, 4, 3, 2, 1, 0], [6, 5, 4, 3, 2, 1, 0], [], [0], [9, 8, 7, 6, 5, 4, 3, 2, 1, 0], [10, 9, 8, 7, 6, 5, 4, 3, 2, 1, 0]] mixed (by kernel_rfl) (by kernel_rfl) (by kernel_rfl) ?_
 intro w7 g8
 replace hbox := g8.heap hbox
 replace h := h.grow g8
 replace K := K.tr g8.kp
 replace g0 := g0.tr g8
 replace RO := RO.grow g8
 replace hc4 := g8.heap hc4
 clear g8
 apply AO_ex
 ·intro w_ g_; refine og rfl ?_; refine r_move_ptr rfl ?_; exact ⟨Grow.rfl' _, rfl⟩
 apply AO_ex
 ·intro w_ g_; refine og rfl ?_; refine r_nilCheck rfl ?_; exact ⟨Grow.rfl' _, rfl⟩
 apply AO_ex
 ·intro w_ g_; refine og rfl ?_; refine r_fieldAddr rfl ?_; exact ⟨Grow.rfl' _, rfl⟩
 apply AO_ex
 ·intro w_ g_; refine og rfl ?_; refine r_load (v := .slice ado A.length co) rfl (g_.heap hbox) rfl ?_; exact ⟨Grow.rfl' _, rfl⟩
 apply AO_ex
 ·intro w_ g_; refine og rfl ?_; refine r_move_int rfl ?_; exact ⟨Grow.rfl' _, rfl⟩
 apply AO_ex
 ·intro w_ g_; refine og rfl ?_; refine r_indexN (RO.grow g_) rfl rfl ?_ ?_; omega; exact ⟨Grow.rfl' _, rfl⟩
 apply AO_ex
 ·intro w_ g_; refine og rfl ?_; refine r_loadR (v := .slice (sa (lastP A)) (len2 A (lastP A)) (sc (lastP A))) (m := 0) (RO.grow g_) rfl (by rw [Nat.mul_one]; exact hsf _ (by assumption)) ?_; exact ⟨Grow.rfl' _, rfl⟩
 apply AO_ex
 ·intro w_ g_; refine og rfl ?_; refine r_len rfl rfl rfl ?_; exact ⟨Grow.rfl' _, rfl⟩
 apply AO_ex
 ·intro w_ g_; refine og rfl ?_; refine r_loadAll rfl (g_.heap hc4) (by rfl) ?_; exact ⟨Grow.rfl' _, rfl⟩
 apply AO_ex
 ·intro w_ g_; refine og rfl ?_; exact r_gives (v := .int .i64 t.need) rfl (need_calls _ (T.grow (g0.tr g_))) (fun w2_ g2_ => ⟨g2_, rfl⟩)
 apply AO_ex
 ·intro w_ g_; refine og rfl ?_; refine r_assign_int rfl ?_; exact ⟨Grow.rfl' _, rfl⟩
 apply AO_ex
 ·intro w_ g_; refine og rfl ?_; refine r_assign_int rfl ?_; exact ⟨Grow.rfl' _, rfl⟩
 refine AO_nil ?_
 intro w9 g10
 replace hbox := g10.heap hbox
 replace h := h.grow g10
 replace K := K.tr g10.kp
 replace g0 := g0.tr g10
 replace RO := RO.grow g10
 replace hc4 := g10.heap hc4
 clear g10
 refine WL_nil ?_
 refine W_seq ?_
 refine W_seq (W_region rfl ?_)
 refine stp (r_move_int rfl ?_)
 refine stp (r_move_int rfl ?_)
 refine stp (r_eql rfl rfl ?_)
 refine stp (r_move_bool rfl ?_)
 refine WL_some (og_if (s := .bool (decide ((s : Int) = (lastP A : Int)))) (b := true) (v := .int .i64 ((len2 A (lastP A)) : Int)) rfl (wgb_t _) (fun hc11 => ?_) ?_)
 ·
  have hc11_ := of_decide_eq_true hc11
  refine r_move_int rfl ?_
  exact ⟨rfl, rfl⟩
 refine WL_some (og_if (s := .bool (decide ((s : Int) = (lastP A : Int)))) (b := true) (v := .int .i64 t.need) rfl (wgb_t _) (fun hc12 => ?_) ?_)
 ·
  have hc12_ := of_decide_eq_true hc12
  refine r_move_int rfl ?_
  exact ⟨rfl, rfl⟩
 refine WL_some (og_if (s := .bool (decide ((s : Int) = (lastP A : Int)))) (b := true) (v := .int .i64 (((len2 A (lastP A)) : Int) + t.need)) rfl (wgb_t _) (fun hc13 => ?_) ?_)
 ·
  have hc13_ := of_decide_eq_true hc13
  refine r_add (gvt hc13) (gvt hc13) ?_ ?_; constructor <;> omega
  exact ⟨rfl, rfl⟩
 refine WL_some (og_if (s := .bool (decide ((s : Int) = (lastP A : Int)))) (b := true) (v := .pointer (some ⟨bB, 0, none⟩)) rfl (wgb_t _) (fun hc14 => ?_) ?_)
 ·
  have hc14_ := of_decide_eq_true hc14
  refine r_move_ptr rfl ?_
  exact ⟨rfl, rfl⟩
 refine WL_some (og_if (s := .bool (decide ((s : Int) = (lastP A : Int)))) (b := true) (v := .pointer (some ⟨bB, 0, none⟩)) rfl (wgb_t _) (fun hc15 => ?_) ?_)
 ·
  have hc15_ := of_decide_eq_true hc15
  refine r_nilCheck (gvt hc15) ?_
  exact ⟨rfl, rfl⟩
 refine WL_some (og_if (s := .bool (decide ((s : Int) = (lastP A : Int)))) (b := true) (v := .pointer (some ⟨bB, 1, none⟩)) rfl (wgb_t _) (fun hc16 => ?_) ?_)
 ·
  have hc16_ := of_decide_eq_true hc16
  refine r_fieldAddr (gvt hc16) ?_
  exact ⟨rfl, rfl⟩
 refine WL_some (og_if (s := .bool (decide ((s : Int) = (lastP A : Int)))) (b := true) (v := .int .i64 lim) rfl (wgb_t _) (fun hc17 => ?_) ?_)
 ·
  have hc17_ := of_decide_eq_true hc17
  refine r_load (v := .int .i64 lim) (gvt hc17) hbox rfl ?_
  exact ⟨rfl, rfl⟩
 refine WL_some (og_if (s := .bool (decide ((s : Int) = (lastP A : Int)))) (b := true) (v := .bool (decide ((((len2 A (lastP A)) : Int) + t.need) ≤ lim))) rfl (wgb_t _) (fun hc18 => ?_) ?_)
 ·
  have hc18_ := of_decide_eq_true hc18
  refine r_leq (gvt hc18) (gvt hc18) ?_
  exact ⟨rfl, rfl⟩
 refine stp (r_and2 rfl rfl rfl ?_)
 refine WL_nil ?_
 refine W_cond2 (b := ((decide ((s : Int) = (lastP A : Int))) && (decide ((((len2 A (lastP A)) : Int) + t.need) ≤ lim)))) rfl (fun h1 => ?_) (fun h1 => ?_)
 ·-- true
  simp only [Bool.and_eq_true, Bool.or_eq_true, Bool.not_eq_true', Bool.and_eq_false_iff, Bool.or_eq_false_iff, Bool.not_eq_false', decide_eq_true_eq, decide_eq_false_iff_not, Bool.not_true, Bool.not_false, Bool.not_eq_eq_eq_not, Bool.or_false, Bool.and_true, Bool.or_true, Bool.and_false, Bool.false_or, Bool.true_and, Bool.true_or, Bool.false_and, Bool.false_eq_true, Bool.true_eq_false] at h1
  have hsl : s = lastP A := by omega
  have hi2 := hiA
  rw [hsl] at hi2
  have hp : placeP lim t ⟨A, false⟩ s i = ⟨⟨setP A s i (t.near ((len2 A (lastP A) : Int) - i - 1)), false⟩, lastP A, len2 A (lastP A)⟩ := by unfold placeP; dsimp only; rw [if_pos ⟨by omega, h1.2⟩]
  refine W_seq ?_
  obtain ⟨gq, cap, cur, hsg, hcur, hci, hgb, hgO, hgB, hput⟩ := h.put (s := s) (i := i) (by decide) (by decide) hsA hiA
  have hsa := slice_inj ((hsf s hsA).symm.trans hsg)
  have kb_hbox : ∀ w_, Kp [gq] w9 w_ → w_.heap[bB]? = some (.cells #[.slice ado A.length co, .int .i64 lim, .int .i64 (totalP A)] 54 (0, 0)) := fun w_ k_ => k_.heap hbox (by simpa using hgB)
  have kb_RO : ∀ w_, Kp [gq] w9 w_ → RowAt w_ 1 ado A.length segs := fun w_ k_ => RO.keep1 k_ (fun b_ o_ he_ hb_ => hgO (by rw [he_, hb_]; rfl))
  have kb_g0 : ∀ w_, Kp [gq] w9 w_ → Grow w0 w_ := fun w_ k_ => g0.kp1 k_ (hb _ hgb)
  have kb_K : ∀ w_, Kp [gq] w9 w_ → Kp (blks bB (.slice ado A.length co) segs) w w_ := fun w_ k_ => K.trans k_ (fun x_ hx_ => .inl (by simp only [List.mem_singleton] at hx_; subst hx_; exact hgb))
  have kb_hc4 : ∀ w_, Kp [gq] w9 w_ → w_.heap[b1]? = some (.cells #[x0, x1, x2, x3, x4] 26 (0, 0)) := fun w_ k_ => k_.heap hc4 (fun hm_ => by simp only [List.mem_singleton] at hm_; have := hlt0 _ hgb; have := hge6; omega)
  refine W_anyM 16 [[], [0], [1, 0], [2, 1, 0], [], [4, 3, 2, 1, 0], [5, 4, 3, 2, 1, 0], [], [], [], [], [1, 0], [2, 1, 0], [4, 3, 2, 1, 0], [13, 12, 11, 10, 9, 8, 7, 6, 5, 4, 3, 2, 1, 0], [14, 13, 12, 11, 10, 9, 8, 7, 6, 5, 4, 3, 2, 1, 0]] [15] [gq] (fun k_ w_ => match k_ with | 0 => w_.heap[gq]? = some (.cells cur 44 (0, 0)) | _ => w_.heap[gq]? = some (.cells (cur.toList.set i (.int .u64 (t.near ((len2 A (lastP A) : Int) - i - 1)))).toArray 44 (0, 0))) mixed (by kernel_rfl) (by kernel_rfl) (by kernel_rfl) (by kernel_rfl) (fun k_ w_ w2_ g_ h_ => match k_, h_ with | 0, h_ => g_.heap h_ | n_ + 1, h_ => g_.heap h_) (fun w_ g_ => g_.heap hcur) ?_
  intro w19 g20
  replace kb_hbox : ∀ w_, Kp [gq] w19 w_ → w_.heap[bB]? = some (.cells #[.slice ado A.length co, .int .i64 lim, .int .i64 (totalP A)] 54 (0, 0)) := fun w_ k_ => kb_hbox w_ (g20.kp.tr k_)
  replace kb_RO : ∀ w_, Kp [gq] w19 w_ → RowAt w_ 1 ado A.length segs := fun w_ k_ => kb_RO w_ (g20.kp.tr k_)
  replace kb_g0 : ∀ w_, Kp [gq] w19 w_ → Grow w0 w_ := fun w_ k_ => kb_g0 w_ (g20.kp.tr k_)
  replace kb_K : ∀ w_, Kp [gq] w19 w_ → Kp (blks bB (.slice ado A.length co) segs) w w_ := fun w_ k_ => kb_K w_ (g20.kp.tr k_)
  replace kb_hc4 : ∀ w_, Kp [gq] w19 w_ → w_.heap[b1]? = some (.cells #[x0, x1, x2, x3, x4] 26 (0, 0)) := fun w_ k_ => kb_hc4 w_ (g20.kp.tr k_)
  have k0_ : Kp [gq] w9 w19 := g20.kp
  apply AOM_ex (hm := by rfl)
  ·intro w_ g_; refine og rfl ?_; refine r_move_ptr rfl ?_; exact ⟨Grow.rfl' _, rfl⟩
  apply AOM_ex (hm := by rfl)
  ·intro w_ g_; refine og rfl ?_; refine r_nilCheck rfl ?_; exact ⟨Grow.rfl' _, rfl⟩
  apply AOM_ex (hm := by rfl)
  ·intro w_ g_; refine og rfl ?_; refine r_fieldAddr rfl ?_; exact ⟨Grow.rfl' _, rfl⟩
  apply AOM_ex (hm := by rfl)
  ·intro w_ g_; refine og rfl ?_; refine r_load (v := .slice ado A.length co) rfl (kb_hbox _ g_) rfl ?_; exact ⟨Grow.rfl' _, rfl⟩
  apply AOM_ex (hm := by rfl)
  ·intro w_ g_; refine og rfl ?_; refine r_move_int rfl ?_; exact ⟨Grow.rfl' _, rfl⟩
  apply AOM_ex (hm := by rfl)
  ·intro w_ g_; refine og rfl ?_; refine r_indexN (kb_RO _ g_) rfl rfl ?_ ?_; omega; exact ⟨Grow.rfl' _, rfl⟩
  apply AOM_ex (hm := by rfl)
  ·intro w_ g_; refine og rfl ?_; refine r_loadR (v := .slice (sa s) (len2 A s) (sc s)) (m := 0) (kb_RO _ g_) rfl (by rw [Nat.mul_one]; exact hsf _ (by assumption)) ?_; exact ⟨Grow.rfl' _, rfl⟩
  apply AOM_ex (hm := by rfl)
  ·intro w_ g_; refine og rfl ?_; refine r_move_int rfl ?_; exact ⟨Grow.rfl' _, rfl⟩
  apply AOM_ex (hm := by rfl)
  ·intro w_ g_; refine og rfl ?_; refine r_loadAll rfl (kb_hc4 _ g_) (by rfl) ?_; exact ⟨Grow.rfl' _, rfl⟩
  apply AOM_ex (hm := by rfl)
  ·intro w_ g_; refine og rfl ?_; refine r_move_int rfl ?_; exact ⟨Grow.rfl' _, rfl⟩
  apply AOM_ex (hm := by rfl)
  ·intro w_ g_; refine og rfl ?_; refine r_move_int rfl ?_; exact ⟨Grow.rfl' _, rfl⟩
  apply AOM_ex (hm := by rfl)
  ·intro w_ g_; refine og rfl ?_; refine r_sub rfl rfl ?_ ?_; constructor <;> omega; exact ⟨Grow.rfl' _, rfl⟩
  apply AOM_ex (hm := by rfl)
  ·intro w_ g_; refine og rfl ?_; refine r_sub rfl rfl ?_ ?_; constructor <;> omega; exact ⟨Grow.rfl' _, rfl⟩
  apply AOM_ex (hm := by rfl)
  ·intro w_ g_; refine og rfl ?_; exact r_gives (v := .int .u64 (t.near ((((len2 A (lastP A)) : Int) - (i : Int)) - 1))) rfl (near_calls _ (T.grow (kb_g0 _ g_)) ((((len2 A (lastP A)) : Int) - (i : Int)) - 1)) (fun w2_ g2_ => ⟨g2_, rfl⟩)
  apply AOM_ex (hm := by rfl)
  ·intro w_ g_; refine og rfl ?_; refine r_indexAddr (b := gq) (o := 0) (by show Value.slice (sa s) _ _ = _; rw [hsa]) rfl (by omega) (by omega) ?_; rw [Int.toNat_natCast, Nat.zero_add, Nat.mul_one]; exact ⟨Grow.rfl' _, rfl⟩
  apply AOM_mut 0 (hm := by rfl)
  ·intro w_ g_ s_
   refine og rfl ?_
   refine r_store1 (v := .int .u64 (t.near ((len2 A (lastP A) : Int) - i - 1))) rfl rfl rfl s_ (Nat.ble_eq_true_of_le (by omega)) rfl ?_
   intro w2_ s2_ u_
   exact ⟨Kp.of_upd u_ (by simp), s2_, rfl⟩
  refine AOM_nil ?_
  intro w21 g22 S_
  replace k0_ := k0_.tr g22
  replace h := hput _ _ (t.near ((len2 A (lastP A) : Int) - i - 1)) S_ (by simp) k0_
  rw [← totalP_setP A s i (t.near ((len2 A (lastP A) : Int) - i - 1))] at h
  clear hput S_ k0_ hcur
  replace hbox := kb_hbox _ g22
  clear kb_hbox
  replace RO := kb_RO _ g22
  clear kb_RO
  replace g0 := kb_g0 _ g22
  clear kb_g0
  replace K := kb_K _ g22
  clear kb_K
  replace hc4 := kb_hc4 _ g22
  clear kb_hc4
  refine WL_nil ?_
  refine W_seq (W_region rfl ?_)
  refine stp (r_move_int rfl ?_)
  refine stp (r_move_int rfl ?_)
  refine stp (r_assign_int rfl ?_)
  refine stp (r_assign_int rfl ?_)
  refine stp (r_assign (v := .bool true) rfl ?_)
  refine WL_nil ?_
  refine W_ret ?_
  rw [hp]
  refine ret3 (res_tmp (v := .int .i64 (lastP A : Int)) rfl) (res_tmp (v := .int .i64 ((len2 A (lastP A)) : Int)) rfl) (res_tmp (v := .bool true) rfl) ⟨rfl, _, _, h, K, fun k hk => .inl hk⟩
 ·-- false
  simp only [Bool.and_eq_true, Bool.or_eq_true, Bool.not_eq_true', Bool.and_eq_false_iff, Bool.or_eq_false_iff, Bool.not_eq_false', decide_eq_true_eq, decide_eq_false_iff_not, Bool.not_true, Bool.not_false, Bool.not_eq_eq_eq_not, Bool.or_false, Bool.and_true, Bool.or_true, Bool.and_false, Bool.false_or, Bool.true_and, Bool.true_or, Bool.false_and, Bool.false_eq_true, Bool.true_eq_false] at h1
  refine W_skip ?_
  refine W_seq ?_
  refine W_seq (W_region rfl ?_)
  refine stp (r_move_int rfl ?_)
  refine stp (r_move_int rfl ?_)
  refine stp (r_eql rfl rfl ?_)
  refine stp (r_move_bool rfl ?_)
  refine WL_some (og_if (s := .bool (decide ((s : Int) = (lastP A : Int)))) (b := false) (v := .int .i64 ((len2 A (lastP A)) : Int)) rfl (wgb_f _) (fun hc23 => ?_) ?_)
  ·
   have hc23_ := hc23
   try simp only [Bool.and_eq_true, Bool.or_eq_true, Bool.not_eq_true', Bool.and_eq_false_iff, Bool.or_eq_false_iff, Bool.not_eq_false', decide_eq_true_eq, decide_eq_false_iff_not, Bool.not_true, Bool.not_false, Bool.not_eq_eq_eq_not, Bool.or_false, Bool.and_true, Bool.or_true, Bool.and_false, Bool.false_or, Bool.true_and, Bool.true_or, Bool.false_and, Bool.false_eq_true, Bool.true_eq_false] at hc23_
   refine r_move_int rfl ?_
   exact ⟨rfl, rfl⟩
  refine WL_some (og_if (s := .bool (decide ((s : Int) = (lastP A : Int)))) (b := false) (v := .int .i64 t.need) rfl (wgb_f _) (fun hc24 => ?_) ?_)
  ·
   have hc24_ := hc24
   try simp only [Bool.and_eq_true, Bool.or_eq_true, Bool.not_eq_true', Bool.and_eq_false_iff, Bool.or_eq_false_iff, Bool.not_eq_false', decide_eq_true_eq, decide_eq_false_iff_not, Bool.not_true, Bool.not_false, Bool.not_eq_eq_eq_not, Bool.or_false, Bool.and_true, Bool.or_true, Bool.and_false, Bool.false_or, Bool.true_and, Bool.true_or, Bool.false_and, Bool.false_eq_true, Bool.true_eq_false] at hc24_
   refine r_move_int rfl ?_
   exact ⟨rfl, rfl⟩
  refine WL_some (og_if (s := .bool (decide ((s : Int) = (lastP A : Int)))) (b := false) (v := .int .i64 (((len2 A (lastP A)) : Int) + t.need)) rfl (wgb_f _) (fun hc25 => ?_) ?_)
  ·
   have hc25_ := hc25
   try simp only [Bool.and_eq_true, Bool.or_eq_true, Bool.not_eq_true', Bool.and_eq_false_iff, Bool.or_eq_false_iff, Bool.not_eq_false', decide_eq_true_eq, decide_eq_false_iff_not, Bool.not_true, Bool.not_false, Bool.not_eq_eq_eq_not, Bool.or_false, Bool.and_true, Bool.or_true, Bool.and_false, Bool.false_or, Bool.true_and, Bool.true_or, Bool.false_and, Bool.false_eq_true, Bool.true_eq_false] at hc25_
   refine r_add (gvt hc25) (gvt hc25) ?_ ?_; constructor <;> omega
   exact ⟨rfl, rfl⟩
  refine WL_some (og_if (s := .bool (decide ((s : Int) = (lastP A : Int)))) (b := false) (v := .int .i64 ((((len2 A (lastP A)) : Int) + t.need) + 1)) rfl (wgb_f _) (fun hc26 => ?_) ?_)
  ·
   have hc26_ := hc26
   try simp only [Bool.and_eq_true, Bool.or_eq_true, Bool.not_eq_true', Bool.and_eq_false_iff, Bool.or_eq_false_iff, Bool.not_eq_false', decide_eq_true_eq, decide_eq_false_iff_not, Bool.not_true, Bool.not_false, Bool.not_eq_eq_eq_not, Bool.or_false, Bool.and_true, Bool.or_true, Bool.and_false, Bool.false_or, Bool.true_and, Bool.true_or, Bool.false_and, Bool.false_eq_true, Bool.true_eq_false] at hc26_
   refine r_add (gvt hc26) rfl ?_ ?_; constructor <;> omega
   exact ⟨rfl, rfl⟩
  refine WL_some (og_if (s := .bool (decide ((s : Int) = (lastP A : Int)))) (b := false) (v := .pointer (some ⟨bB, 0, none⟩)) rfl (wgb_f _) (fun hc27 => ?_) ?_)
  ·
   have hc27_ := hc27
   try simp only [Bool.and_eq_true, Bool.or_eq_true, Bool.not_eq_true', Bool.and_eq_false_iff, Bool.or_eq_false_iff, Bool.not_eq_false', decide_eq_true_eq, decide_eq_false_iff_not, Bool.not_true, Bool.not_false, Bool.not_eq_eq_eq_not, Bool.or_false, Bool.and_true, Bool.or_true, Bool.and_false, Bool.false_or, Bool.true_and, Bool.true_or, Bool.false_and, Bool.false_eq_true, Bool.true_eq_false] at hc27_
   refine r_move_ptr rfl ?_
   exact ⟨rfl, rfl⟩
  refine WL_some (og_if (s := .bool (decide ((s : Int) = (lastP A : Int)))) (b := false) (v := .pointer (some ⟨bB, 0, none⟩)) rfl (wgb_f _) (fun hc28 => ?_) ?_)
  ·
   have hc28_ := hc28
   try simp only [Bool.and_eq_true, Bool.or_eq_true, Bool.not_eq_true', Bool.and_eq_false_iff, Bool.or_eq_false_iff, Bool.not_eq_false', decide_eq_true_eq, decide_eq_false_iff_not, Bool.not_true, Bool.not_false, Bool.not_eq_eq_eq_not, Bool.or_false, Bool.and_true, Bool.or_true, Bool.and_false, Bool.false_or, Bool.true_and, Bool.true_or, Bool.false_and, Bool.false_eq_true, Bool.true_eq_false] at hc28_
   refine r_nilCheck (gvt hc28) ?_
   exact ⟨rfl, rfl⟩
  refine WL_some (og_if (s := .bool (decide ((s : Int) = (lastP A : Int)))) (b := false) (v := .pointer (some ⟨bB, 1, none⟩)) rfl (wgb_f _) (fun hc29 => ?_) ?_)
  ·
   have hc29_ := hc29
   try simp only [Bool.and_eq_true, Bool.or_eq_true, Bool.not_eq_true', Bool.and_eq_false_iff, Bool.or_eq_false_iff, Bool.not_eq_false', decide_eq_true_eq, decide_eq_false_iff_not, Bool.not_true, Bool.not_false, Bool.not_eq_eq_eq_not, Bool.or_false, Bool.and_true, Bool.or_true, Bool.and_false, Bool.false_or, Bool.true_and, Bool.true_or, Bool.false_and, Bool.false_eq_true, Bool.true_eq_false] at hc29_
   refine r_fieldAddr (gvt hc29) ?_
   exact ⟨rfl, rfl⟩
  refine WL_some (og_if (s := .bool (decide ((s : Int) = (lastP A : Int)))) (b := false) (v := .int .i64 lim) rfl (wgb_f _) (fun hc30 => ?_) ?_)
  ·
   have hc30_ := hc30
   try simp only [Bool.and_eq_true, Bool.or_eq_true, Bool.not_eq_true', Bool.and_eq_false_iff, Bool.or_eq_false_iff, Bool.not_eq_false', decide_eq_true_eq, decide_eq_false_iff_not, Bool.not_true, Bool.not_false, Bool.not_eq_eq_eq_not, Bool.or_false, Bool.and_true, Bool.or_true, Bool.and_false, Bool.false_or, Bool.true_and, Bool.true_or, Bool.false_and, Bool.false_eq_true, Bool.true_eq_false] at hc30_
   refine r_load (v := .int .i64 lim) (gvt hc30) hbox rfl ?_
   exact ⟨rfl, rfl⟩
  refine WL_some (og_if (s := .bool (decide ((s : Int) = (lastP A : Int)))) (b := false) (v := .bool (decide (((((len2 A (lastP A)) : Int) + t.need) + 1) > lim))) rfl (wgb_f _) (fun hc31 => ?_) ?_)
  ·
   have hc31_ := hc31
   try simp only [Bool.and_eq_true, Bool.or_eq_true, Bool.not_eq_true', Bool.and_eq_false_iff, Bool.or_eq_false_iff, Bool.not_eq_false', decide_eq_true_eq, decide_eq_false_iff_not, Bool.not_true, Bool.not_false, Bool.not_eq_eq_eq_not, Bool.or_false, Bool.and_true, Bool.or_true, Bool.and_false, Bool.false_or, Bool.true_and, Bool.true_or, Bool.false_and, Bool.false_eq_true, Bool.true_eq_false] at hc31_
   refine r_gtr (gvt hc31) (gvt hc31) ?_
   exact ⟨rfl, rfl⟩
  refine stp (r_or2 rfl rfl rfl ?_)
  refine WL_nil ?_
  refine W_cond2 (b := ((decide ((s : Int) = (lastP A : Int))) || (decide (((((len2 A (lastP A)) : Int) + t.need) + 1) > lim)))) rfl (fun h2 => ?_) (fun h2 => ?_)
  ·-- true
   simp only [Bool.and_eq_true, Bool.or_eq_true, Bool.not_eq_true', Bool.and_eq_false_iff, Bool.or_eq_false_iff, Bool.not_eq_false', decide_eq_true_eq, decide_eq_false_iff_not, Bool.not_true, Bool.not_false, Bool.not_eq_eq_eq_not, Bool.or_false, Bool.and_true, Bool.or_true, Bool.and_false, Bool.false_or, Bool.true_and, Bool.true_or, Bool.false_and, Bool.false_eq_true, Bool.true_eq_false] at h2
   have hp : placeP lim t ⟨A, false⟩ s i = ⟨moreP lim ⟨setP A s i (farP ((lastP A : Int) + 1) 0), false⟩ (lastP A + 1) [t.near 0], lastP A + 1, 1⟩ := by unfold placeP; dsimp only; rw [if_neg (by omega), if_pos (by simp only [newSeg, Bool.or_eq_true, decide_eq_true_eq]; omega)]
   refine W_region rfl ?_
   refine stp (r_move_int rfl ?_)
   refine stp (r_add rfl rfl ?_ ?_); constructor <;> omega
   refine stp (r_assign_int rfl ?_)
   refine stp (r_assign_int rfl ?_)
   refine WL_nil ?_
   refine W_seq ?_
   obtain ⟨gq, cap, cur, hsg, hcur, hci, hgb, hgO, hgB, hput⟩ := h.put (s := s) (i := i) (by decide) (by decide) hsA hiA
   have hsa := slice_inj ((hsf s hsA).symm.trans hsg)
   have kb_hbox : ∀ w_, Kp [gq] w9 w_ → w_.heap[bB]? = some (.cells #[.slice ado A.length co, .int .i64 lim, .int .i64 (totalP A)] 54 (0, 0)) := fun w_ k_ => k_.heap hbox (by simpa using hgB)
   have kb_RO : ∀ w_, Kp [gq] w9 w_ → RowAt w_ 1 ado A.length segs := fun w_ k_ => RO.keep1 k_ (fun b_ o_ he_ hb_ => hgO (by rw [he_, hb_]; rfl))
   have kb_g0 : ∀ w_, Kp [gq] w9 w_ → Grow w0 w_ := fun w_ k_ => g0.kp1 k_ (hb _ hgb)
   have kb_K : ∀ w_, Kp [gq] w9 w_ → Kp (blks bB (.slice ado A.length co) segs) w w_ := fun w_ k_ => K.trans k_ (fun x_ hx_ => .inl (by simp only [List.mem_singleton] at hx_; subst hx_; exact hgb))
   have kb_hc4 : ∀ w_, Kp [gq] w9 w_ → w_.heap[b1]? = some (.cells #[x0, x1, x2, x3, x4] 26 (0, 0)) := fun w_ k_ => k_.heap hc4 (fun hm_ => by simp only [List.mem_singleton] at hm_; have := hlt0 _ hgb; have := hge6; omega)
   refine W_anyM 17 [[], [0], [1, 0], [2, 1, 0], [], [4, 3, 2, 1, 0], [5, 4, 3, 2, 1, 0], [], [], [], [1, 0], [2, 1, 0], [3, 2, 1, 0], [4, 3, 2, 1, 0], [5, 4, 3, 2, 1], [14, 13, 12, 11, 10, 9, 8, 7, 6, 5, 4, 3, 2, 1], [15, 14, 13, 12, 11, 10, 9, 8, 7, 6, 5, 4, 3, 2, 0]] [16] [gq] (fun k_ w_ => match k_ with | 0 => w_.heap[gq]? = some (.cells cur 44 (0, 0)) | _ => w_.heap[gq]? = some (.cells (cur.toList.set i (.int .u64 (farP ((lastP A : Int) + 1) 0))).toArray 44 (0, 0))) mixed (by kernel_rfl) (by kernel_rfl) (by kernel_rfl) (by kernel_rfl) (fun k_ w_ w2_ g_ h_ => match k_, h_ with | 0, h_ => g_.heap h_ | n_ + 1, h_ => g_.heap h_) (fun w_ g_ => g_.heap hcur) ?_
   intro w32 g33
   replace kb_hbox : ∀ w_, Kp [gq] w32 w_ → w_.heap[bB]? = some (.cells #[.slice ado A.length co, .int .i64 lim, .int .i64 (totalP A)] 54 (0, 0)) := fun w_ k_ => kb_hbox w_ (g33.kp.tr k_)
   replace kb_RO : ∀ w_, Kp [gq] w32 w_ → RowAt w_ 1 ado A.length segs := fun w_ k_ => kb_RO w_ (g33.kp.tr k_)
   replace kb_g0 : ∀ w_, Kp [gq] w32 w_ → Grow w0 w_ := fun w_ k_ => kb_g0 w_ (g33.kp.tr k_)
   replace kb_K : ∀ w_, Kp [gq] w32 w_ → Kp (blks bB (.slice ado A.length co) segs) w w_ := fun w_ k_ => kb_K w_ (g33.kp.tr k_)
   replace kb_hc4 : ∀ w_, Kp [gq] w32 w_ → w_.heap[b1]? = some (.cells #[x0, x1, x2, x3, x4] 26 (0, 0)) := fun w_ k_ => kb_hc4 w_ (g33.kp.tr k_)
   have k0_ : Kp [gq] w9 w32 := g33.kp
   apply AOM_ex (hm := by rfl)
   ·intro w_ g_; refine og rfl ?_; refine r_move_ptr rfl ?_; exact ⟨Grow.rfl' _, rfl⟩
   apply AOM_ex (hm := by rfl)
   ·intro w_ g_; refine og rfl ?_; refine r_nilCheck rfl ?_; exact ⟨Grow.rfl' _, rfl⟩
   apply AOM_ex (hm := by rfl)
   ·intro w_ g_; refine og rfl ?_; refine r_fieldAddr rfl ?_; exact ⟨Grow.rfl' _, rfl⟩
   apply AOM_ex (hm := by rfl)
   ·intro w_ g_; refine og rfl ?_; refine r_load (v := .slice ado A.length co) rfl (kb_hbox _ g_) rfl ?_; exact ⟨Grow.rfl' _, rfl⟩
   apply AOM_ex (hm := by rfl)
   ·intro w_ g_; refine og rfl ?_; refine r_move_int rfl ?_; exact ⟨Grow.rfl' _, rfl⟩
   apply AOM_ex (hm := by rfl)
   ·intro w_ g_; refine og rfl ?_; refine r_indexN (kb_RO _ g_) rfl rfl ?_ ?_; omega; exact ⟨Grow.rfl' _, rfl⟩
   apply AOM_ex (hm := by rfl)
   ·intro w_ g_; refine og rfl ?_; refine r_loadR (v := .slice (sa s) (len2 A s) (sc s)) (m := 0) (kb_RO _ g_) rfl (by rw [Nat.mul_one]; exact hsf _ (by assumption)) ?_; exact ⟨Grow.rfl' _, rfl⟩
   apply AOM_ex (hm := by rfl)
   ·intro w_ g_; refine og rfl ?_; refine r_move_int rfl ?_; exact ⟨Grow.rfl' _, rfl⟩
   apply AOM_ex (hm := by rfl)
   ·intro w_ g_; refine og rfl ?_; refine r_move_int rfl ?_; exact ⟨Grow.rfl' _, rfl⟩
   apply AOM_ex (hm := by rfl)
   ·intro w_ g_; refine og rfl ?_; refine r_move_int rfl ?_; exact ⟨Grow.rfl' _, rfl⟩
   apply AOM_ex (hm := by rfl)
   ·intro w_ g_; refine og rfl ?_; refine r_build (v := .agg #[.int .i64 3, .int .i64 0, .int .i64 0, .int .i64 0, .int .i64 0, .int .i64 0, .int .i64 ((lastP A : Int) + 1), .bool false]) (fun w => by kernel_rfl) ?_; exact ⟨Grow.rfl' _, rfl⟩
   apply AOM_ex (hm := by rfl)
   ·intro w_ g_; refine og rfl ?_; exact r_gives (v := .tuple #[.int .u64 (farP ((lastP A : Int) + 1) 0), .int .u16 (encE ⟨3, 0, 0, 0, 0, 0, (lastP A : Int) + 1, false⟩)]) rfl (encode_calls _ ⟨3, 0, 0, 0, 0, 0, (lastP A : Int) + 1, false⟩) (fun w2_ g2_ => ⟨g2_, rfl⟩)
   apply AOM_ex (hm := by rfl)
   ·intro w_ g_; refine og rfl ?_; refine r_move (v := .tuple #[.int .u64 (farP ((lastP A : Int) + 1) 0), .int .u16 (encE ⟨3, 0, 0, 0, 0, 0, (lastP A : Int) + 1, false⟩)]) rfl ?_; exact ⟨Grow.rfl' _, rfl⟩
   apply AOM_ex (hm := by rfl)
   ·intro w_ g_; refine og rfl ?_; refine r_extract (v := .int .u64 (farP ((lastP A : Int) + 1) 0)) rfl rfl ?_; exact ⟨Grow.rfl' _, rfl⟩
   apply AOM_ex (hm := by rfl)
   ·intro w_ g_; refine og rfl ?_; refine r_extract (v := .int .u16 (encE ⟨3, 0, 0, 0, 0, 0, (lastP A : Int) + 1, false⟩)) rfl rfl ?_; exact ⟨Grow.rfl' _, rfl⟩
   apply AOM_ex (hm := by rfl)
   ·intro w_ g_; refine og rfl ?_; refine r_indexAddr (b := gq) (o := 0) (by show Value.slice (sa s) _ _ = _; rw [hsa]) rfl (by omega) (by omega) ?_; rw [Int.toNat_natCast, Nat.zero_add, Nat.mul_one]; exact ⟨Grow.rfl' _, rfl⟩
   apply AOM_mut 0 (hm := by rfl)
   ·intro w_ g_ s_
    refine og rfl ?_
    refine r_store1 (v := .int .u64 (farP ((lastP A : Int) + 1) 0)) rfl rfl rfl s_ (Nat.ble_eq_true_of_le (by omega)) rfl ?_
    intro w2_ s2_ u_
    exact ⟨Kp.of_upd u_ (by simp), s2_, rfl⟩
   refine AOM_nil ?_
   intro w34 g35 S_
   replace k0_ := k0_.tr g35
   replace h := hput _ _ (farP ((lastP A : Int) + 1) 0) S_ (by simp) k0_
   rw [← totalP_setP A s i (farP ((lastP A : Int) + 1) 0)] at h
   clear hput S_ k0_ hcur
   replace hbox := kb_hbox _ g35
   clear kb_hbox
   replace RO := kb_RO _ g35
   clear kb_RO
   replace g0 := kb_g0 _ g35
   clear kb_g0
   replace K := kb_K _ g35
   clear kb_K
   replace hc4 := kb_hc4 _ g35
   clear kb_hc4
   refine WL_nil ?_
   refine W_seq (W_region rfl ?_)
   refine stp (r_move_int rfl ?_)
   refine stp (r_move_int rfl ?_)
   refine stp (r_add rfl rfl ?_ ?_); constructor <;> omega
   refine stp (r_move_ptr rfl ?_)
   refine stp (r_move_int rfl ?_)
   refine stp (r_loadAll rfl hc4 (by rfl) ?_)
   refine stp (r_gives (v := .int .u64 (t.near 0)) rfl (near_calls _ (T.grow g0) (0)) ?_)
   intro w36 g37
   replace hbox := g37.heap hbox
   replace K := K.tr g37.kp
   replace g0 := g0.tr g37
   replace RO := RO.grow g37
   replace hc4 := g37.heap hc4
   replace h := h.grow g37
   clear g37
   refine WL_some (og rfl ?_)
   have hlt := h.lt
   refine r_buildSlice (cs := #[.int .u64 (t.near 0)]) (el := 44) (fun w => by kernel_rfl) ?_
   intro bs38 w39 hb40 hc41 g42
   have hge43 := Nat.le_trans K.size hb40
   replace hbox := g42.heap hbox
   replace K := K.tr g42.kp
   replace g0 := g0.tr g42
   replace RO := RO.grow g42
   replace hc4 := g42.heap hc4
   replace h := h.grow g42
   clear g42
   refine WL_some (og rfl ?_)
   have ol := own_lit (base := w36.heap.size) (sz := 1) (n := 1) hc41 hb40 rfl (by decide)
   have hq : lastP A + 1 ≤ (setP A s i (farP ((lastP A : Int) + 1) 0)).length := by rw [setP_length]; omega
   have FA := (F.set s i (farP ((lastP A : Int) + 1) 0)).small hl2
   have hqc : ((lastP A + 1 : Nat) : Int) = (lastP A : Int) + 1 := by omega
   have hcal := grow_calls _ (q := lastP A + 1) (l := [t.near 0]) h hq ol (fun k hk => hlt k hk) (Nat.le_of_lt (Nat.lt_of_le_of_lt hb40 (lt_of_heap hc41))) FA.1 FA.2 (by simp) (by rw [totalP_setP]; omega) (by rw [totalP_setP]; omega)
   rw [hqc] at hcal
   refine r_call rfl hcal ?_
   rintro v_ w44 ⟨rfl, so9, segs9, h9, K9, nb9⟩
   refine stp (r_assign_int rfl ?_)
   refine stp (r_assign_int rfl ?_)
   refine stp (r_assign_bool rfl ?_)
   refine WL_nil ?_
   refine W_ret ?_
   rw [hp]
   refine ret3 (res_tmp (v := .int .i64 ((lastP A : Int) + 1)) rfl) (res_tmp (v := .int .i64 (0 + 1)) rfl) (res_tmp (v := .bool (decide (((growA (setP A s i (farP ((lastP A : Int) + 1) 0)) (lastP A + 1) [t.near 0]).length : Int) ≤ 16) && (decide ((((growA (setP A s i (farP ((lastP A : Int) + 1) 0)) (lastP A + 1) [t.near 0]).getD (lastP A + 1) []).length : Int) ≤ lim) && decide (totalP (setP A s i (farP ((lastP A : Int) + 1) 0)) + (([t.near 0] : List Int).length : Int) ≤ 4096)))) rfl) ⟨?_, so9, segs9, ?_, K.trans K9 (fun x hx => .inl hx), fun k hk => (nb9 k hk).imp id (fun h_ => Nat.le_trans K.size h_)⟩
   ·rw [full_more hq]; simp only [Value.tuple.injEq]; try simp
   ·rw [← totalP_growA _ _ _ hq] at h9; exact h9
  ·-- false
   simp only [Bool.and_eq_true, Bool.or_eq_true, Bool.not_eq_true', Bool.and_eq_false_iff, Bool.or_eq_false_iff, Bool.not_eq_false', decide_eq_true_eq, decide_eq_false_iff_not, Bool.not_true, Bool.not_false, Bool.not_eq_eq_eq_not, Bool.or_false, Bool.and_true, Bool.or_true, Bool.and_false, Bool.false_or, Bool.true_and, Bool.true_or, Bool.false_and, Bool.false_eq_true, Bool.true_eq_false] at h2
   have hp : placeP lim t ⟨A, false⟩ s i = ⟨moreP lim ⟨setP A s i (farP (lastP A) (len2 A (lastP A))), false⟩ (lastP A) [t.near 0], lastP A, len2 A (lastP A) + 1⟩ := by unfold placeP; dsimp only; rw [if_neg (by omega), if_neg (by simp only [newSeg, Bool.or_eq_true, decide_eq_true_eq]; omega)]
   refine W_skip ?_
   refine W_seq ?_
   obtain ⟨gq, cap, cur, hsg, hcur, hci, hgb, hgO, hgB, hput⟩ := h.put (s := s) (i := i) (by decide) (by decide) hsA hiA
   have hsa := slice_inj ((hsf s hsA).symm.trans hsg)
   have kb_hbox : ∀ w_, Kp [gq] w9 w_ → w_.heap[bB]? = some (.cells #[.slice ado A.length co, .int .i64 lim, .int .i64 (totalP A)] 54 (0, 0)) := fun w_ k_ => k_.heap hbox (by simpa using hgB)
   have kb_RO : ∀ w_, Kp [gq] w9 w_ → RowAt w_ 1 ado A.length segs := fun w_ k_ => RO.keep1 k_ (fun b_ o_ he_ hb_ => hgO (by rw [he_, hb_]; rfl))
   have kb_g0 : ∀ w_, Kp [gq] w9 w_ → Grow w0 w_ := fun w_ k_ => g0.kp1 k_ (hb _ hgb)
   have kb_K : ∀ w_, Kp [gq] w9 w_ → Kp (blks bB (.slice ado A.length co) segs) w w_ := fun w_ k_ => K.trans k_ (fun x_ hx_ => .inl (by simp only [List.mem_singleton] at hx_; subst hx_; exact hgb))
   have kb_hc4 : ∀ w_, Kp [gq] w9 w_ → w_.heap[b1]? = some (.cells #[x0, x1, x2, x3, x4] 26 (0, 0)) := fun w_ k_ => k_.heap hc4 (fun hm_ => by simp only [List.mem_singleton] at hm_; have := hlt0 _ hgb; have := hge6; omega)
   refine W_anyM 17 [[], [0], [1, 0], [2, 1, 0], [], [4, 3, 2, 1, 0], [5, 4, 3, 2, 1, 0], [], [], [], [1, 0], [2, 1, 0], [3, 2, 1, 0], [4, 3, 2, 1, 0], [5, 4, 3, 2, 1], [14, 13, 12, 11, 10, 9, 8, 7, 6, 5, 4, 3, 2, 1], [15, 14, 13, 12, 11, 10, 9, 8, 7, 6, 5, 4, 3, 2, 0]] [16] [gq] (fun k_ w_ => match k_ with | 0 => w_.heap[gq]? = some (.cells cur 44 (0, 0)) | _ => w_.heap[gq]? = some (.cells (cur.toList.set i (.int .u64 (farP (lastP A : Int) (len2 A (lastP A) : Int)))).toArray 44 (0, 0))) mixed (by kernel_rfl) (by kernel_rfl) (by kernel_rfl) (by kernel_rfl) (fun k_ w_ w2_ g_ h_ => match k_, h_ with | 0, h_ => g_.heap h_ | n_ + 1, h_ => g_.heap h_) (fun w_ g_ => g_.heap hcur) ?_
   intro w45 g46
   replace kb_hbox : ∀ w_, Kp [gq] w45 w_ → w_.heap[bB]? = some (.cells #[.slice ado A.length co, .int .i64 lim, .int .i64 (totalP A)] 54 (0, 0)) := fun w_ k_ => kb_hbox w_ (g46.kp.tr k_)
   replace kb_RO : ∀ w_, Kp [gq] w45 w_ → RowAt w_ 1 ado A.length segs := fun w_ k_ => kb_RO w_ (g46.kp.tr k_)
   replace kb_g0 : ∀ w_, Kp [gq] w45 w_ → Grow w0 w_ := fun w_ k_ => kb_g0 w_ (g46.kp.tr k_)
   replace kb_K : ∀ w_, Kp [gq] w45 w_ → Kp (blks bB (.slice ado A.length co) segs) w w_ := fun w_ k_ => kb_K w_ (g46.kp.tr k_)
   replace kb_hc4 : ∀ w_, Kp [gq] w45 w_ → w_.heap[b1]? = some (.cells #[x0, x1, x2, x3, x4] 26 (0, 0)) := fun w_ k_ => kb_hc4 w_ (g46.kp.tr k_)
   have k0_ : Kp [gq] w9 w45 := g46.kp
   apply AOM_ex (hm := by rfl)
   ·intro w_ g_; refine og rfl ?_; refine r_move_ptr rfl ?_; exact ⟨Grow.rfl' _, rfl⟩
   apply AOM_ex (hm := by rfl)
   ·intro w_ g_; refine og rfl ?_; refine r_nilCheck rfl ?_; exact ⟨Grow.rfl' _, rfl⟩
   apply AOM_ex (hm := by rfl)
   ·intro w_ g_; refine og rfl ?_; refine r_fieldAddr rfl ?_; exact ⟨Grow.rfl' _, rfl⟩
   apply AOM_ex (hm := by rfl)
   ·intro w_ g_; refine og rfl ?_; refine r_load (v := .slice ado A.length co) rfl (kb_hbox _ g_) rfl ?_; exact ⟨Grow.rfl' _, rfl⟩
   apply AOM_ex (hm := by rfl)
   ·intro w_ g_; refine og rfl ?_; refine r_move_int rfl ?_; exact ⟨Grow.rfl' _, rfl⟩
   apply AOM_ex (hm := by rfl)
   ·intro w_ g_; refine og rfl ?_; refine r_indexN (kb_RO _ g_) rfl rfl ?_ ?_; omega; exact ⟨Grow.rfl' _, rfl⟩
   apply AOM_ex (hm := by rfl)
   ·intro w_ g_; refine og rfl ?_; refine r_loadR (v := .slice (sa s) (len2 A s) (sc s)) (m := 0) (kb_RO _ g_) rfl (by rw [Nat.mul_one]; exact hsf _ (by assumption)) ?_; exact ⟨Grow.rfl' _, rfl⟩
   apply AOM_ex (hm := by rfl)
   ·intro w_ g_; refine og rfl ?_; refine r_move_int rfl ?_; exact ⟨Grow.rfl' _, rfl⟩
   apply AOM_ex (hm := by rfl)
   ·intro w_ g_; refine og rfl ?_; refine r_move_int rfl ?_; exact ⟨Grow.rfl' _, rfl⟩
   apply AOM_ex (hm := by rfl)
   ·intro w_ g_; refine og rfl ?_; refine r_move_int rfl ?_; exact ⟨Grow.rfl' _, rfl⟩
   apply AOM_ex (hm := by rfl)
   ·intro w_ g_; refine og rfl ?_; refine r_build (v := .agg #[.int .i64 3, .int .i64 ((len2 A (lastP A)) : Int), .int .i64 0, .int .i64 0, .int .i64 0, .int .i64 0, .int .i64 (lastP A : Int), .bool false]) (fun w => by kernel_rfl) ?_; exact ⟨Grow.rfl' _, rfl⟩
   apply AOM_ex (hm := by rfl)
   ·intro w_ g_; refine og rfl ?_; exact r_gives (v := .tuple #[.int .u64 (farP (lastP A : Int) (len2 A (lastP A) : Int)), .int .u16 (encE ⟨3, (len2 A (lastP A) : Int), 0, 0, 0, 0, (lastP A : Int), false⟩)]) rfl (encode_calls _ ⟨3, (len2 A (lastP A) : Int), 0, 0, 0, 0, (lastP A : Int), false⟩) (fun w2_ g2_ => ⟨g2_, rfl⟩)
   apply AOM_ex (hm := by rfl)
   ·intro w_ g_; refine og rfl ?_; refine r_move (v := .tuple #[.int .u64 (farP (lastP A : Int) (len2 A (lastP A) : Int)), .int .u16 (encE ⟨3, (len2 A (lastP A) : Int), 0, 0, 0, 0, (lastP A : Int), false⟩)]) rfl ?_; exact ⟨Grow.rfl' _, rfl⟩
   apply AOM_ex (hm := by rfl)
   ·intro w_ g_; refine og rfl ?_; refine r_extract (v := .int .u64 (farP (lastP A : Int) (len2 A (lastP A) : Int))) rfl rfl ?_; exact ⟨Grow.rfl' _, rfl⟩
   apply AOM_ex (hm := by rfl)
   ·intro w_ g_; refine og rfl ?_; refine r_extract (v := .int .u16 (encE ⟨3, (len2 A (lastP A) : Int), 0, 0, 0, 0, (lastP A : Int), false⟩)) rfl rfl ?_; exact ⟨Grow.rfl' _, rfl⟩
   apply AOM_ex (hm := by rfl)
   ·intro w_ g_; refine og rfl ?_; refine r_indexAddr (b := gq) (o := 0) (by show Value.slice (sa s) _ _ = _; rw [hsa]) rfl (by omega) (by omega) ?_; rw [Int.toNat_natCast, Nat.zero_add, Nat.mul_one]; exact ⟨Grow.rfl' _, rfl⟩
   apply AOM_mut 0 (hm := by rfl)
   ·intro w_ g_ s_
    refine og rfl ?_
    refine r_store1 (v := .int .u64 (farP (lastP A : Int) (len2 A (lastP A) : Int))) rfl rfl rfl s_ (Nat.ble_eq_true_of_le (by omega)) rfl ?_
    intro w2_ s2_ u_
    exact ⟨Kp.of_upd u_ (by simp), s2_, rfl⟩
   refine AOM_nil ?_
   intro w47 g48 S_
   replace k0_ := k0_.tr g48
   replace h := hput _ _ (farP (lastP A : Int) (len2 A (lastP A) : Int)) S_ (by simp) k0_
   rw [← totalP_setP A s i (farP (lastP A : Int) (len2 A (lastP A) : Int))] at h
   clear hput S_ k0_ hcur
   replace hbox := kb_hbox _ g48
   clear kb_hbox
   replace RO := kb_RO _ g48
   clear kb_RO
   replace g0 := kb_g0 _ g48
   clear kb_g0
   replace K := kb_K _ g48
   clear kb_K
   replace hc4 := kb_hc4 _ g48
   clear kb_hc4
   refine WL_nil ?_
   refine W_seq (W_region rfl ?_)
   refine stp (r_move_int rfl ?_)
   refine stp (r_move_int rfl ?_)
   refine stp (r_add rfl rfl ?_ ?_); constructor <;> omega
   refine stp (r_move_ptr rfl ?_)
   refine stp (r_move_int rfl ?_)
   refine stp (r_loadAll rfl hc4 (by rfl) ?_)
   refine stp (r_gives (v := .int .u64 (t.near 0)) rfl (near_calls _ (T.grow g0) (0)) ?_)
   intro w49 g50
   replace hbox := g50.heap hbox
   replace K := K.tr g50.kp
   replace g0 := g0.tr g50
   replace RO := RO.grow g50
   replace hc4 := g50.heap hc4
   replace h := h.grow g50
   clear g50
   refine WL_some (og rfl ?_)
   have hlt := h.lt
   refine r_buildSlice (cs := #[.int .u64 (t.near 0)]) (el := 44) (fun w => by kernel_rfl) ?_
   intro bs51 w52 hb53 hc54 g55
   have hge56 := Nat.le_trans K.size hb53
   replace hbox := g55.heap hbox
   replace K := K.tr g55.kp
   replace g0 := g0.tr g55
   replace RO := RO.grow g55
   replace hc4 := g55.heap hc4
   replace h := h.grow g55
   clear g55
   refine WL_some (og rfl ?_)
   have ol := own_lit (base := w49.heap.size) (sz := 1) (n := 1) hc54 hb53 rfl (by decide)
   have hq : lastP A ≤ (setP A s i (farP (lastP A : Int) (len2 A (lastP A) : Int))).length := by rw [setP_length]; omega
   have FA := (F.set s i (farP (lastP A : Int) (len2 A (lastP A) : Int))).small hl2
   have hqc : ((lastP A : Nat) : Int) = (lastP A : Int) := by omega
   have hcal := grow_calls _ (q := lastP A) (l := [t.near 0]) h hq ol (fun k hk => hlt k hk) (Nat.le_of_lt (Nat.lt_of_le_of_lt hb53 (lt_of_heap hc54))) FA.1 FA.2 (by simp) (by rw [totalP_setP]; omega) (by rw [totalP_setP]; omega)
   rw [hqc] at hcal
   refine r_call rfl hcal ?_
   rintro v_ w57 ⟨rfl, so9, segs9, h9, K9, nb9⟩
   refine stp (r_assign_int rfl ?_)
   refine stp (r_assign_int rfl ?_)
   refine stp (r_assign_bool rfl ?_)
   refine WL_nil ?_
   refine W_ret ?_
   rw [hp]
   refine ret3 (res_tmp (v := .int .i64 (lastP A : Int)) rfl) (res_tmp (v := .int .i64 (((len2 A (lastP A)) : Int) + 1)) rfl) (res_tmp (v := .bool (decide (((growA (setP A s i (farP (lastP A : Int) (len2 A (lastP A) : Int))) (lastP A) [t.near 0]).length : Int) ≤ 16) && (decide ((((growA (setP A s i (farP (lastP A : Int) (len2 A (lastP A) : Int))) (lastP A) [t.near 0]).getD (lastP A) []).length : Int) ≤ lim) && decide (totalP (setP A s i (farP (lastP A : Int) (len2 A (lastP A) : Int))) + (([t.near 0] : List Int).length : Int) ≤ 4096)))) rfl) ⟨?_, so9, segs9, ?_, K.trans K9 (fun x hx => .inl hx), fun k hk => (nb9 k hk).imp id (fun h_ => Nat.le_trans K.size h_)⟩
   ·rw [full_more hq]; simp only [Value.tuple.injEq]; try simp
   ·rw [← totalP_growA _ _ _ hq] at h9; exact h9

set_option maxRecDepth 100000 in
theorem lay_calls : ∀ (n_ : Nat) (w : World) {w0 : World} {bB : Nat} {so : Value} {segs : List Value} {A : List (List Int)} {lim : Int} {c : List Value} {t : Nd} {s i : Nat} (h : BldAt 54 22 44 w bB (so) segs (A) lim (totalP (A))) (T : NodeR w0 c t) (g0 : Grow w0 w) (hb : ∀ k ∈ blks bB so segs, w0.heap.size ≤ k) (F : Fit lim A) (hsA : s < A.length) (hiA : i < len2 A s) (hl1 : 1 ≤ lim) (hl2 : lim ≤ 4096) (hR : t.fine), t.sz ≤ n_ → Calls Try.prog 20 #[.pointer (some ⟨bB, 0, none⟩), .agg c.toArray, .int .i64 (s : Int), .int .i64 (i : Int)] w (Ret fun v w' => v = .bool (!(t.lay lim ⟨A, false⟩ s i).full) ∧ Kp (blks bB so segs) w w' ∧ ((t.lay lim ⟨A, false⟩ s i).full = false → ∃ so' segs', BldAt 54 22 44 w' bB (so') segs' ((t.lay lim ⟨A, false⟩ s i).A) lim (totalP ((t.lay lim ⟨A, false⟩ s i).A)) ∧ (∀ k ∈ blks bB so' segs', k ∈ blks bB so segs ∨ w.heap.size ≤ k))) := by
 intro n_
 induction n_ with
 | zero => intro w w0 bB so segs A lim c t s i h T g0 hb F hsA hiA hl1 hl2 hR hm_; exact absurd hm_ (by have := t.sz_pos; omega)
 | succ n_ ih_ =>
 intro w w0 bB so segs A lim c t s i h T g0 hb F hsA hiA hl1 hl2 hR hm_
 have Tk := T
 have FS := F.small hl2
 obtain ⟨ado, co, sa, sc, rfl, hco, RO, hsf⟩ := h.fn FS.1
 have hbox := h.box
 have K := Kp.refl (blks bB (.slice ado A.length co) segs) w
 obtain ⟨hlast, hlastE⟩ := lastP_lt F.one
 have hlt0 := h.lt
 have hsz0 := g0.size
 have hA16 := F.most
 have htot := F.all
 have htn := totalP_nn A
 have hlseg := F.seg (lastP A)
 obtain @⟨kind, size, words, bytes, kids, ws, bs, ks, kc, hk, hs, hW, hwr, hB, hbr, hK, hKs⟩ := T
 obtain ⟨aw, cw, rfl, hcw, hcw2, RW⟩ := hW
 obtain ⟨ab, cb, rfl, hcb, hcb2, RB⟩ := hB
 obtain ⟨ak, ck, rfl, hck, hck2, RK⟩ := hK
 have lw := RW.lim
 have lb := RB.lim
 have lk := RK.lim
 simp only [inR] at hk hs
 have T0 := Tk
 have hB_ := Nd.own_b (Nd.fine_own hR)
 obtain ⟨hkd, hlw, hlb, hlk, hnn, hnm, hkn, hb1⟩ := hB_
 refine calls_ret Try.func20 Try.ntmps20 Try.results20 rfl rfl ?_
 refine W_seq (W_region rfl ?_)
 refine WL_some (og rfl ?_)
 (first | refine r_box_agg rfl ?_ | refine r_box_int rfl ?_ | refine r_box_slice rfl ?_ | refine r_box rfl rfl ?_)
 intro b1 w2 hb3 hc4 g5
 have hge6 := Nat.le_trans K.size hb3
 replace hbox := g5.heap hbox
 replace h := h.grow g5
 replace K := K.tr g5.kp
 replace g0 := g0.tr g5
 replace RO := RO.grow g5
 clear g5 hb3
 refine stp (r_assign (v := .bool false) rfl ?_)
 refine WL_nil ?_
 refine W_seq ?_
 refine W_block ?_
 refine W_seq (W_region rfl ?_)
 refine stp (r_fieldAddr rfl ?_)
 refine stp (r_load (v := .int .i64 kind) rfl hc4 rfl ?_)
 refine stp (r_eql rfl rfl ?_)
 refine stp (r_assign_bool rfl ?_)
 refine WL_nil ?_
 refine W_cond2 (b := (decide (kind = 0))) rfl (fun h1 => ?_) (fun h1 => ?_)
 ·-- true
  replace h1 := of_decide_eq_true h1
  have hl : (Nd.mk kind size words bytes kids).lay lim ⟨A, false⟩ s i = ⟨A, false⟩ := by simp only [Nd.lay]; rw [if_pos (.inl h1)]
  refine W_seq (W_region rfl ?_)
  refine stp (r_assign (v := .bool true) rfl ?_)
  refine WL_nil ?_
  refine W_ret ?_
  rw [hl]
  refine ret1 (res_tmp (v := .bool true) rfl) ⟨rfl, K, fun _ => ⟨_, _, h, fun k hk => .inl hk⟩⟩
 ·-- false
  replace h1 := of_decide_eq_false h1
  refine W_seq (W_region rfl ?_)
  refine stp (r_loadAll rfl hc4 (by rfl) ?_)
  refine stp (r_gives (v := .int .i64 ((Nd.mk kind size words bytes kids).need)) rfl (need_calls _ (T0.grow g0)) ?_)
  intro w7 g8
  replace hbox := g8.heap hbox
  replace h := h.grow g8
  replace K := K.tr g8.kp
  replace g0 := g0.tr g8
  replace RO := RO.grow g8
  replace hc4 := g8.heap hc4
  clear g8
  refine stp (r_eql rfl rfl ?_)
  refine stp (r_move_bool rfl ?_)
  refine WL_some (og_if (s := .bool (decide (((Nd.mk kind size words bytes kids).need) = 0))) (b := true) (v := .pointer (some ⟨b1, 0, none⟩)) rfl (wgb_t _) (fun hc9 => ?_) ?_)
  ·
   have hc9_ := of_decide_eq_true hc9
   refine r_fieldAddr rfl ?_
   exact ⟨rfl, rfl⟩
  refine WL_some (og_if (s := .bool (decide (((Nd.mk kind size words bytes kids).need) = 0))) (b := true) (v := .int .i64 kind) rfl (wgb_t _) (fun hc10 => ?_) ?_)
  ·
   have hc10_ := of_decide_eq_true hc10
   refine r_load (v := .int .i64 kind) (gvt hc10) hc4 rfl ?_
   exact ⟨rfl, rfl⟩
  refine WL_some (og_if (s := .bool (decide (((Nd.mk kind size words bytes kids).need) = 0))) (b := true) (v := .bool (decide (kind = 1))) rfl (wgb_t _) (fun hc11 => ?_) ?_)
  ·
   have hc11_ := of_decide_eq_true hc11
   refine r_eql (gvt hc11) rfl ?_
   exact ⟨rfl, rfl⟩
  refine stp (r_and2 rfl rfl rfl ?_)
  refine stp (r_assign_bool rfl ?_)
  refine WL_nil ?_
  refine W_cond2 (b := ((decide (((Nd.mk kind size words bytes kids).need) = 0)) && (decide (kind = 1)))) rfl (fun h2 => ?_) (fun h2 => ?_)
  ·-- true
   simp only [Bool.and_eq_true, Bool.or_eq_true, Bool.not_eq_true', Bool.and_eq_false_iff, Bool.or_eq_false_iff, Bool.not_eq_false', decide_eq_true_eq, decide_eq_false_iff_not, Bool.not_true, Bool.not_false, Bool.not_eq_eq_eq_not, Bool.or_false, Bool.and_true, Bool.or_true, Bool.and_false, Bool.false_or, Bool.true_and, Bool.true_or, Bool.false_and, Bool.false_eq_true, Bool.true_eq_false] at h2
   have hl : (Nd.mk kind size words bytes kids).lay lim ⟨A, false⟩ s i = ⟨setP A s i ((Nd.mk kind size words bytes kids).near (-1)), false⟩ := by simp only [Nd.lay]; rw [if_neg (by simp [h1]), if_pos h2.1, if_pos h2.2]
   refine W_seq ?_
   obtain ⟨gq, cap, cur, hsg, hcur, hci, hgb, hgO, hgB, hput⟩ := h.put (s := s) (i := i) (by decide) (by decide) hsA hiA
   have hsa := slice_inj ((hsf s hsA).symm.trans hsg)
   have kb_hbox : ∀ w_, Kp [gq] w7 w_ → w_.heap[bB]? = some (.cells #[.slice ado A.length co, .int .i64 lim, .int .i64 (totalP A)] 54 (0, 0)) := fun w_ k_ => k_.heap hbox (by simpa using hgB)
   have kb_RO : ∀ w_, Kp [gq] w7 w_ → RowAt w_ 1 ado A.length segs := fun w_ k_ => RO.keep1 k_ (fun b_ o_ he_ hb_ => hgO (by rw [he_, hb_]; rfl))
   have kb_g0 : ∀ w_, Kp [gq] w7 w_ → Grow w0 w_ := fun w_ k_ => g0.kp1 k_ (hb _ hgb)
   have kb_K : ∀ w_, Kp [gq] w7 w_ → Kp (blks bB (.slice ado A.length co) segs) w w_ := fun w_ k_ => K.trans k_ (fun x_ hx_ => .inl (by simp only [List.mem_singleton] at hx_; subst hx_; exact hgb))
   have kb_hc4 : ∀ w_, Kp [gq] w7 w_ → w_.heap[b1]? = some (.cells #[.int .i64 kind, .int .i64 size, .slice aw words.length cw, .slice ab bytes.length cb, .slice ak kids.length ck] 26 (0, 0)) := fun w_ k_ => k_.heap hc4 (fun hm_ => by simp only [List.mem_singleton] at hm_; have := hlt0 _ hgb; have := hge6; omega)
   refine W_anyM 12 [[], [0], [1, 0], [2, 1, 0], [], [4, 3, 2, 1, 0], [5, 4, 3, 2, 1, 0], [], [], [0], [9, 8, 7, 6, 5, 4, 3, 2, 1, 0], [10, 9, 8, 7, 6, 5, 4, 3, 2, 1, 0]] [11] [gq] (fun k_ w_ => match k_ with | 0 => w_.heap[gq]? = some (.cells cur 44 (0, 0)) | _ => w_.heap[gq]? = some (.cells (cur.toList.set i (.int .u64 ((Nd.mk kind size words bytes kids).near (-1)))).toArray 44 (0, 0))) mixed (by kernel_rfl) (by kernel_rfl) (by kernel_rfl) (by kernel_rfl) (fun k_ w_ w2_ g_ h_ => match k_, h_ with | 0, h_ => g_.heap h_ | n_ + 1, h_ => g_.heap h_) (fun w_ g_ => g_.heap hcur) ?_
   intro w12 g13
   replace kb_hbox : ∀ w_, Kp [gq] w12 w_ → w_.heap[bB]? = some (.cells #[.slice ado A.length co, .int .i64 lim, .int .i64 (totalP A)] 54 (0, 0)) := fun w_ k_ => kb_hbox w_ (g13.kp.tr k_)
   replace kb_RO : ∀ w_, Kp [gq] w12 w_ → RowAt w_ 1 ado A.length segs := fun w_ k_ => kb_RO w_ (g13.kp.tr k_)
   replace kb_g0 : ∀ w_, Kp [gq] w12 w_ → Grow w0 w_ := fun w_ k_ => kb_g0 w_ (g13.kp.tr k_)
   replace kb_K : ∀ w_, Kp [gq] w12 w_ → Kp (blks bB (.slice ado A.length co) segs) w w_ := fun w_ k_ => kb_K w_ (g13.kp.tr k_)
   replace kb_hc4 : ∀ w_, Kp [gq] w12 w_ → w_.heap[b1]? = some (.cells #[.int .i64 kind, .int .i64 size, .slice aw words.length cw, .slice ab bytes.length cb, .slice ak kids.length ck] 26 (0, 0)) := fun w_ k_ => kb_hc4 w_ (g13.kp.tr k_)
   have k0_ : Kp [gq] w7 w12 := g13.kp
   apply AOM_ex (hm := by rfl)
   ·intro w_ g_; refine og rfl ?_; refine r_move_ptr rfl ?_; exact ⟨Grow.rfl' _, rfl⟩
   apply AOM_ex (hm := by rfl)
   ·intro w_ g_; refine og rfl ?_; refine r_nilCheck rfl ?_; exact ⟨Grow.rfl' _, rfl⟩
   apply AOM_ex (hm := by rfl)
   ·intro w_ g_; refine og rfl ?_; refine r_fieldAddr rfl ?_; exact ⟨Grow.rfl' _, rfl⟩
   apply AOM_ex (hm := by rfl)
   ·intro w_ g_; refine og rfl ?_; refine r_load (v := .slice ado A.length co) rfl (kb_hbox _ g_) rfl ?_; exact ⟨Grow.rfl' _, rfl⟩
   apply AOM_ex (hm := by rfl)
   ·intro w_ g_; refine og rfl ?_; refine r_move_int rfl ?_; exact ⟨Grow.rfl' _, rfl⟩
   apply AOM_ex (hm := by rfl)
   ·intro w_ g_; refine og rfl ?_; refine r_indexN (kb_RO _ g_) rfl rfl ?_ ?_; omega; exact ⟨Grow.rfl' _, rfl⟩
   apply AOM_ex (hm := by rfl)
   ·intro w_ g_; refine og rfl ?_; refine r_loadR (v := .slice (sa s) (len2 A s) (sc s)) (m := 0) (kb_RO _ g_) rfl (by rw [Nat.mul_one]; exact hsf _ (by assumption)) ?_; exact ⟨Grow.rfl' _, rfl⟩
   apply AOM_ex (hm := by rfl)
   ·intro w_ g_; refine og rfl ?_; refine r_move_int rfl ?_; exact ⟨Grow.rfl' _, rfl⟩
   apply AOM_ex (hm := by rfl)
   ·intro w_ g_; refine og rfl ?_; refine r_loadAll rfl (kb_hc4 _ g_) (by rfl) ?_; exact ⟨Grow.rfl' _, rfl⟩
   apply AOM_ex (hm := by rfl)
   ·intro w_ g_; refine og rfl ?_; exact r_gives (v := .int .u64 ((Nd.mk kind size words bytes kids).near (-1))) rfl (near_calls _ (T0.grow (kb_g0 _ g_)) (-1)) (fun w2_ g2_ => ⟨g2_, rfl⟩)
   apply AOM_ex (hm := by rfl)
   ·intro w_ g_; refine og rfl ?_; refine r_indexAddr (b := gq) (o := 0) (by show Value.slice (sa s) _ _ = _; rw [hsa]) rfl (by omega) (by omega) ?_; rw [Int.toNat_natCast, Nat.zero_add, Nat.mul_one]; exact ⟨Grow.rfl' _, rfl⟩
   apply AOM_mut 0 (hm := by rfl)
   ·intro w_ g_ s_
    refine og rfl ?_
    refine r_store1 (v := .int .u64 ((Nd.mk kind size words bytes kids).near (-1))) rfl rfl rfl s_ (Nat.ble_eq_true_of_le (by omega)) rfl ?_
    intro w2_ s2_ u_
    exact ⟨Kp.of_upd u_ (by simp), s2_, rfl⟩
   refine AOM_nil ?_
   intro w14 g15 S_
   replace k0_ := k0_.tr g15
   replace h := hput _ _ ((Nd.mk kind size words bytes kids).near (-1)) S_ (by simp) k0_
   rw [← totalP_setP A s i ((Nd.mk kind size words bytes kids).near (-1))] at h
   clear hput S_ k0_ hcur
   replace hbox := kb_hbox _ g15
   clear kb_hbox
   replace RO := kb_RO _ g15
   clear kb_RO
   replace g0 := kb_g0 _ g15
   clear kb_g0
   replace K := kb_K _ g15
   clear kb_K
   replace hc4 := kb_hc4 _ g15
   clear kb_hc4
   refine WL_nil ?_
   refine W_seq (W_region rfl ?_)
   refine stp (r_assign (v := .bool true) rfl ?_)
   refine WL_nil ?_
   refine W_ret ?_
   rw [hl]
   refine ret1 (res_tmp (v := .bool true) rfl) ⟨rfl, K, fun _ => ⟨_, _, h, fun k hk => .inl hk⟩⟩
  ·-- false
   simp only [Bool.and_eq_true, Bool.or_eq_true, Bool.not_eq_true', Bool.and_eq_false_iff, Bool.or_eq_false_iff, Bool.not_eq_false', decide_eq_true_eq, decide_eq_false_iff_not, Bool.not_true, Bool.not_false, Bool.not_eq_eq_eq_not, Bool.or_false, Bool.and_true, Bool.or_true, Bool.and_false, Bool.false_or, Bool.true_and, Bool.true_or, Bool.false_and, Bool.false_eq_true, Bool.true_eq_false] at h2
   refine W_seq (W_region rfl ?_)
   refine stp (r_loadAll rfl hc4 (by rfl) ?_)
   refine stp (r_gives (v := .int .i64 ((Nd.mk kind size words bytes kids).need)) rfl (need_calls _ (T0.grow g0)) ?_)
   intro w16 g17
   replace hbox := g17.heap hbox
   replace h := h.grow g17
   replace K := K.tr g17.kp
   replace g0 := g0.tr g17
   replace RO := RO.grow g17
   replace hc4 := g17.heap hc4
   clear g17
   refine stp (r_eql rfl rfl ?_)
   refine stp (r_assign_bool rfl ?_)
   refine WL_nil ?_
   refine W_cond2 (b := (decide (((Nd.mk kind size words bytes kids).need) = 0))) rfl (fun h3 => ?_) (fun h3 => ?_)
   ·-- true
    replace h3 := of_decide_eq_true h3
    have hl : (Nd.mk kind size words bytes kids).lay lim ⟨A, false⟩ s i = ⟨setP A s i ((Nd.mk kind size words bytes kids).near (0)), false⟩ := by simp only [Nd.lay]; rw [if_neg (by simp [h1]), if_pos h3, if_neg (fun hk1 => h2.elim (fun h => h h3) (fun h => h hk1))]
    refine W_seq ?_
    obtain ⟨gq, cap, cur, hsg, hcur, hci, hgb, hgO, hgB, hput⟩ := h.put (s := s) (i := i) (by decide) (by decide) hsA hiA
    have hsa := slice_inj ((hsf s hsA).symm.trans hsg)
    have kb_hbox : ∀ w_, Kp [gq] w16 w_ → w_.heap[bB]? = some (.cells #[.slice ado A.length co, .int .i64 lim, .int .i64 (totalP A)] 54 (0, 0)) := fun w_ k_ => k_.heap hbox (by simpa using hgB)
    have kb_RO : ∀ w_, Kp [gq] w16 w_ → RowAt w_ 1 ado A.length segs := fun w_ k_ => RO.keep1 k_ (fun b_ o_ he_ hb_ => hgO (by rw [he_, hb_]; rfl))
    have kb_g0 : ∀ w_, Kp [gq] w16 w_ → Grow w0 w_ := fun w_ k_ => g0.kp1 k_ (hb _ hgb)
    have kb_K : ∀ w_, Kp [gq] w16 w_ → Kp (blks bB (.slice ado A.length co) segs) w w_ := fun w_ k_ => K.trans k_ (fun x_ hx_ => .inl (by simp only [List.mem_singleton] at hx_; subst hx_; exact hgb))
    have kb_hc4 : ∀ w_, Kp [gq] w16 w_ → w_.heap[b1]? = some (.cells #[.int .i64 kind, .int .i64 size, .slice aw words.length cw, .slice ab bytes.length cb, .slice ak kids.length ck] 26 (0, 0)) := fun w_ k_ => k_.heap hc4 (fun hm_ => by simp only [List.mem_singleton] at hm_; have := hlt0 _ hgb; have := hge6; omega)
    refine W_anyM 12 [[], [0], [1, 0], [2, 1, 0], [], [4, 3, 2, 1, 0], [5, 4, 3, 2, 1, 0], [], [], [0], [9, 8, 7, 6, 5, 4, 3, 2, 1, 0], [10, 9, 8, 7, 6, 5, 4, 3, 2, 1, 0]] [11] [gq] (fun k_ w_ => match k_ with | 0 => w_.heap[gq]? = some (.cells cur 44 (0, 0)) | _ => w_.heap[gq]? = some (.cells (cur.toList.set i (.int .u64 ((Nd.mk kind size words bytes kids).near 0))).toArray 44 (0, 0))) mixed (by kernel_rfl) (by kernel_rfl) (by kernel_rfl) (by kernel_rfl) (fun k_ w_ w2_ g_ h_ => match k_, h_ with | 0, h_ => g_.heap h_ | n_ + 1, h_ => g_.heap h_) (fun w_ g_ => g_.heap hcur) ?_
    intro w18 g19
    replace kb_hbox : ∀ w_, Kp [gq] w18 w_ → w_.heap[bB]? = some (.cells #[.slice ado A.length co, .int .i64 lim, .int .i64 (totalP A)] 54 (0, 0)) := fun w_ k_ => kb_hbox w_ (g19.kp.tr k_)
    replace kb_RO : ∀ w_, Kp [gq] w18 w_ → RowAt w_ 1 ado A.length segs := fun w_ k_ => kb_RO w_ (g19.kp.tr k_)
    replace kb_g0 : ∀ w_, Kp [gq] w18 w_ → Grow w0 w_ := fun w_ k_ => kb_g0 w_ (g19.kp.tr k_)
    replace kb_K : ∀ w_, Kp [gq] w18 w_ → Kp (blks bB (.slice ado A.length co) segs) w w_ := fun w_ k_ => kb_K w_ (g19.kp.tr k_)
    replace kb_hc4 : ∀ w_, Kp [gq] w18 w_ → w_.heap[b1]? = some (.cells #[.int .i64 kind, .int .i64 size, .slice aw words.length cw, .slice ab bytes.length cb, .slice ak kids.length ck] 26 (0, 0)) := fun w_ k_ => kb_hc4 w_ (g19.kp.tr k_)
    have k0_ : Kp [gq] w16 w18 := g19.kp
    apply AOM_ex (hm := by rfl)
    ·intro w_ g_; refine og rfl ?_; refine r_move_ptr rfl ?_; exact ⟨Grow.rfl' _, rfl⟩
    apply AOM_ex (hm := by rfl)
    ·intro w_ g_; refine og rfl ?_; refine r_nilCheck rfl ?_; exact ⟨Grow.rfl' _, rfl⟩
    apply AOM_ex (hm := by rfl)
    ·intro w_ g_; refine og rfl ?_; refine r_fieldAddr rfl ?_; exact ⟨Grow.rfl' _, rfl⟩
    apply AOM_ex (hm := by rfl)
    ·intro w_ g_; refine og rfl ?_; refine r_load (v := .slice ado A.length co) rfl (kb_hbox _ g_) rfl ?_; exact ⟨Grow.rfl' _, rfl⟩
    apply AOM_ex (hm := by rfl)
    ·intro w_ g_; refine og rfl ?_; refine r_move_int rfl ?_; exact ⟨Grow.rfl' _, rfl⟩
    apply AOM_ex (hm := by rfl)
    ·intro w_ g_; refine og rfl ?_; refine r_indexN (kb_RO _ g_) rfl rfl ?_ ?_; omega; exact ⟨Grow.rfl' _, rfl⟩
    apply AOM_ex (hm := by rfl)
    ·intro w_ g_; refine og rfl ?_; refine r_loadR (v := .slice (sa s) (len2 A s) (sc s)) (m := 0) (kb_RO _ g_) rfl (by rw [Nat.mul_one]; exact hsf _ (by assumption)) ?_; exact ⟨Grow.rfl' _, rfl⟩
    apply AOM_ex (hm := by rfl)
    ·intro w_ g_; refine og rfl ?_; refine r_move_int rfl ?_; exact ⟨Grow.rfl' _, rfl⟩
    apply AOM_ex (hm := by rfl)
    ·intro w_ g_; refine og rfl ?_; refine r_loadAll rfl (kb_hc4 _ g_) (by rfl) ?_; exact ⟨Grow.rfl' _, rfl⟩
    apply AOM_ex (hm := by rfl)
    ·intro w_ g_; refine og rfl ?_; exact r_gives (v := .int .u64 ((Nd.mk kind size words bytes kids).near 0)) rfl (near_calls _ (T0.grow (kb_g0 _ g_)) (0)) (fun w2_ g2_ => ⟨g2_, rfl⟩)
    apply AOM_ex (hm := by rfl)
    ·intro w_ g_; refine og rfl ?_; refine r_indexAddr (b := gq) (o := 0) (by show Value.slice (sa s) _ _ = _; rw [hsa]) rfl (by omega) (by omega) ?_; rw [Int.toNat_natCast, Nat.zero_add, Nat.mul_one]; exact ⟨Grow.rfl' _, rfl⟩
    apply AOM_mut 0 (hm := by rfl)
    ·intro w_ g_ s_
     refine og rfl ?_
     refine r_store1 (v := .int .u64 ((Nd.mk kind size words bytes kids).near 0)) rfl rfl rfl s_ (Nat.ble_eq_true_of_le (by omega)) rfl ?_
     intro w2_ s2_ u_
     exact ⟨Kp.of_upd u_ (by simp), s2_, rfl⟩
    refine AOM_nil ?_
    intro w20 g21 S_
    replace k0_ := k0_.tr g21
    replace h := hput _ _ ((Nd.mk kind size words bytes kids).near 0) S_ (by simp) k0_
    rw [← totalP_setP A s i ((Nd.mk kind size words bytes kids).near 0)] at h
    clear hput S_ k0_ hcur
    replace hbox := kb_hbox _ g21
    clear kb_hbox
    replace RO := kb_RO _ g21
    clear kb_RO
    replace g0 := kb_g0 _ g21
    clear kb_g0
    replace K := kb_K _ g21
    clear kb_K
    replace hc4 := kb_hc4 _ g21
    clear kb_hc4
    refine WL_nil ?_
    refine W_seq (W_region rfl ?_)
    refine stp (r_assign (v := .bool true) rfl ?_)
    refine WL_nil ?_
    refine W_ret ?_
    rw [hl]
    refine ret1 (res_tmp (v := .bool true) rfl) ⟨rfl, K, fun _ => ⟨_, _, h, fun k hk => .inl hk⟩⟩
   ·-- false
    replace h3 := of_decide_eq_false h3
    have hp0 := placeP_ok lim (Nd.mk kind size words bytes kids) ⟨A, false⟩ s i F.one
    have hl : (Nd.mk kind size words bytes kids).lay lim ⟨A, false⟩ s i = Nd.lays lim kids (moreP lim (placeP lim (Nd.mk kind size words bytes kids) ⟨A, false⟩ s i).S (placeP lim (Nd.mk kind size words bytes kids) ⟨A, false⟩ s i).seg (Nd.mk kind size words bytes kids).content) (placeP lim (Nd.mk kind size words bytes kids) ⟨A, false⟩ s i).seg ((placeP lim (Nd.mk kind size words bytes kids) ⟨A, false⟩ s i).at_ + ((Nd.mk kind size words bytes kids).need.toNat - kids.length)) := by simp only [Nd.lay]; rw [if_neg (by simp [h1]), if_neg h3]
    rw [hl]
    refine W_skip ?_
    refine W_seq (W_region rfl ?_)
    refine stp (r_move_ptr rfl ?_)
    refine stp (r_loadAll rfl hc4 (by rfl) ?_)
    refine stp (r_move_int rfl ?_)
    refine stp (r_move_int rfl ?_)
    refine WL_some (og rfl ?_)
    refine r_call rfl (bplace_calls _ h T0 g0 hb F hsA hiA hl1 hl2 hnn (by omega)) ?_
    rintro v_ w22 ⟨rfl, so1, segs1, h1_, K1, nb1⟩
    obtain ⟨p, hp⟩ : ∃ p, p = placeP lim (Nd.mk kind size words bytes kids) ⟨A, false⟩ s i := ⟨_, rfl⟩
    simp only [← hp] at hp0 h1_ nb1 ⊢
    clear hl
    obtain ⟨hpG, hpS, hpA, hpF, -⟩ := hp0
    simp only [← hp] at hpG hpS hpA hpF
    clear hp
    have nb5 : b1 ∉ blks bB so1 segs1 := fun hm => by rcases nb1 _ hm with h_ | h_; (have := hlt0 _ h_; have := hge6; omega); (have := lt_of_heap hc4; omega)
    replace g0 := g0.trK K1 hb
    have hc4' := K1.heap hc4 (fun hm => by have := hlt0 _ hm; have := hge6; omega)
    clear hc4
    have hc4 := hc4'
    clear hc4'
    replace nb1 : ∀ k ∈ blks bB so1 segs1, k ∈ blks bB (.slice ado A.length co) segs ∨ w.heap.size ≤ k := fun k hk => (nb1 k hk).imp id (fun h_ => Nat.le_trans K.size h_)
    replace K := K.tr K1
    clear K1 hbox h RO
    have h := h1_
    clear h1_
    refine stp (r_move (v := .tuple #[.int .i64 (p.seg : Int), .int .i64 (p.at_ : Int), .bool (!p.S.full)]) rfl ?_)
    refine stp (r_extract (v := .int .i64 (p.seg : Int)) rfl rfl ?_)
    refine stp (r_extract (v := .int .i64 (p.at_ : Int)) rfl rfl ?_)
    refine stp (r_extract (v := .bool (!p.S.full)) rfl rfl ?_)
    refine stp (r_assign_int rfl ?_)
    refine stp (r_assign_int rfl ?_)
    refine stp (r_assign_bool rfl ?_)
    refine WL_nil ?_
    rcases bool_ft (p.S.full) with hf | hf
    ·
     have FP := hpF F hf
     have hpb := FP.seg p.seg
     rw [← hpA] at hpb
     have FPs := FP.small hl2
     have hco : ((Nd.mk kind size words bytes kids).content.length : Int) = (Nd.mk kind size words bytes kids).need := Nd.content_length _ (by simp only [Nd.kind]; omega) (by simpa only [Nd.kind, Nd.bytes] using hb1)
     refine W_seq ?_
     refine W_seq (W_region rfl ?_)
     refine stp (r_move (v := .bool (!p.S.full)) rfl ?_)
     refine stp (r_not (p := !p.S.full) rfl ?_)
     refine WL_some (og rfl ?_)
     refine r_move (v := .bool (!(!p.S.full))) rfl ?_
     rw [show (!(!p.S.full)) = false from by rw [hf]; rfl]
     refine stp (r_move_ptr rfl ?_)
     refine stp (r_move_int rfl ?_)
     refine stp (r_loadAll rfl hc4 (by rfl) ?_)
     refine WL_some (og rfl ?_)
     have hlt1 := h.lt
     refine r_call rfl (content_calls _ (T0.grow g0) hlw hlb hlk) ?_
     rintro lv w23 ⟨ol, gc⟩
     replace K := K.tr gc.kp
     replace g0 := g0.tr gc
     replace hc4 := gc.heap hc4
     replace h := h.grow gc
     refine WL_some (og rfl ?_)
     have hpt := FP.all
     have hpt0 := totalP_nn p.S.A
     refine r_call rfl (grow_calls _ (q := p.seg) (l := (Nd.mk kind size words bytes kids).content) h (Nat.le_of_lt hpS) ol (fun k hk => hlt1 k hk) gc.size FPs.1 FPs.2 (by omega) (by omega) (by omega)) ?_
     rintro v_ w24 ⟨rfl, so2, segs2, h2_, K2, nb2⟩
     have hS2 : moreP lim p.S p.seg (Nd.mk kind size words bytes kids).content = ⟨growA p.S.A p.seg (Nd.mk kind size words bytes kids).content, fullP lim (growA p.S.A p.seg (Nd.mk kind size words bytes kids).content) p.seg⟩ := by simp only [moreP, hf, Bool.false_or]
     rw [← totalP_growA _ _ _ (Nat.le_of_lt hpS)] at h2_
     rw [full_more (Nat.le_of_lt hpS)]
     have hm0 : moreP lim ⟨p.S.A, false⟩ p.seg (Nd.mk kind size words bytes kids).content = moreP lim p.S p.seg (Nd.mk kind size words bytes kids).content := by rw [show p.S = ⟨p.S.A, false⟩ from by rw [← hf]]
     rw [hm0]
     have hok := LayOk.more lim p.S p.seg (Nd.mk kind size words bytes kids).content (Nat.le_of_lt hpS)
     have nb6 : b1 ∉ blks bB so2 segs2 := fun hm => by rcases nb2 _ hm with h_ | h_; (exact nb5 h_); (have := lt_of_heap hc4; omega)
     replace g0 := g0.trK K2 (fun k hk => (nb1 k hk).elim (hb k) (fun h_ => Nat.le_trans hsz0 h_))
     have hc4' := K2.heap hc4 nb5
     clear hc4
     have hc4 := hc4'
     clear hc4'
     replace nb2 : ∀ k ∈ blks bB so2 segs2, k ∈ blks bB (.slice ado A.length co) segs ∨ w.heap.size ≤ k := fun k hk => (nb2 k hk).elim (nb1 k) (fun h_ => .inr (Nat.le_trans K.size h_))
     replace K := K.trans K2 nb1
     clear K2 h nb1 nb5 ol
     have h : BldAt 54 22 44 w24 bB (so2) segs2 ((moreP lim p.S p.seg (Nd.mk kind size words bytes kids).content).A) lim (totalP ((moreP lim p.S p.seg (Nd.mk kind size words bytes kids).content).A)) := h2_
     clear h2_
     have hge2 : p.at_ + (Nd.mk kind size words bytes kids).content.length ≤ len2 (moreP lim p.S p.seg (Nd.mk kind size words bytes kids).content).A p.seg := by rw [hpA, show (moreP lim p.S p.seg (Nd.mk kind size words bytes kids).content).A = growA p.S.A p.seg (Nd.mk kind size words bytes kids).content from rfl]; simp only [len2]; rw [growA_getD _ _ _ _ (Nat.le_of_lt hpS), if_pos rfl, List.length_append]; exact Nat.le_refl _
     have hS2s : p.seg < (moreP lim p.S p.seg (Nd.mk kind size words bytes kids).content).A.length := Nat.lt_of_lt_of_le hpS hok.grew.len
     have hS21 : 1 ≤ (moreP lim p.S p.seg (Nd.mk kind size words bytes kids).content).A.length := by omega
     have hF2 : (moreP lim p.S p.seg (Nd.mk kind size words bytes kids).content).full = false → Fit lim (moreP lim p.S p.seg (Nd.mk kind size words bytes kids).content).A := hok.fit FP
     obtain ⟨Q, hQ⟩ : ∃ Q, Q = moreP lim p.S p.seg (Nd.mk kind size words bytes kids).content := ⟨_, rfl⟩
     simp only [← hQ] at h hge2 hS2s hS21 hF2 hok ⊢
     clear hS2 hm0 hQ hok
     refine stp (r_not rfl ?_)
     refine stp (r_pick_f (v := .bool (!(!Q.full))) rfl rfl rfl ?_)
     refine WL_nil ?_
     rcases bool_ft (Q.full) with hf2 | hf2
     ·
      have FQ := hF2 hf2
      refine W_false (show _ = Value.bool false from congrArg Value.bool (by rw [hf2]; rfl)) ?_
      refine W_skip ?_
      refine W_seq (W_region rfl ?_)
      refine stp (r_move_ptr rfl ?_)
      refine stp (r_makeFunc (vs := [.pointer (some ⟨bB, 0, none⟩)]) (us := []) rfl rfl ?_)
      refine stp (r_assign_func rfl ?_)
      refine WL_nil ?_
      refine W_seq ?_
      refine W_seq (W_region rfl ?_)
      refine stp (r_fieldAddr rfl ?_)
      refine stp (r_load (v := .slice ak kids.length ck) rfl hc4 rfl ?_)
      refine stp (r_len rfl rfl rfl ?_)
      refine stp (r_move_int rfl ?_)
      refine WL_nil ?_
      refine W_block ?_
      refine W_loop (fun m_ e_ w_ => ∃ (k : Nat) (so4 : Value) (segs4 : List Value), m_ = kids.length - k ∧ Fr [(5, .pointer (some ⟨b1, 0, none⟩)), (9, .int .i64 (p.seg : Int)), (10, .int .i64 (p.at_ : Int)), (12, .func (.func 20) #[.pointer (some ⟨bB, 0, none⟩)] #[]), (76, .slice ak kids.length ck), (77, .int .i64 (kids.length : Int)), (78, .int .i64 (k : Int))] e_ ∧ (k ≤ kids.length) ∧ ((Nd.lays lim (kids.take k) Q p.seg (p.at_ + ((Nd.mk kind size words bytes kids).need.toNat - kids.length))).full = false) ∧ (b1 ∉ blks bB so4 segs4) ∧ (∀ k ∈ blks bB so4 segs4, k ∈ blks bB (.slice ado A.length co) segs ∨ w.heap.size ≤ k) ∧ (Kp (blks bB (.slice ado A.length co) segs) w w_) ∧ (Grow w0 w_) ∧ (w_.heap[b1]? = some (.cells #[.int .i64 kind, .int .i64 size, .slice aw words.length cw, .slice ab bytes.length cb, .slice ak kids.length ck] 26 (0, 0))) ∧ (BldAt 54 22 44 w_ bB (so4) segs4 ((Nd.lays lim (kids.take k) Q p.seg (p.at_ + ((Nd.mk kind size words bytes kids).need.toNat - kids.length))).A) lim (totalP ((Nd.lays lim (kids.take k) Q p.seg (p.at_ + ((Nd.mk kind size words bytes kids).need.toNat - kids.length))).A)))) _ ⟨0, so2, segs2, rfl, fr_of ⟨rfl, rfl, rfl, rfl, rfl, rfl, rfl, trivial⟩, by omega, hf2, nb6, nb2, K, g0, hc4, h⟩ ?_
      clear K g0 hc4 h
      rintro m_ e_ w25 ⟨k, so4, segs4, rfl, ⟨e26, rfl⟩, hk2, hfk0, nb7, nb4, K, g0, hc4, h⟩
      refine W_seq (W_region rfl ?_)
      refine stp (r_lss rfl rfl ?_)
      refine WL_nil ?_
      refine W_seq ?_
      refine W_cond2 (b := (decide ((k : Int) < (kids.length : Int)))) rfl (fun hlt => ?_) (fun hlt => ?_)
      ·-- true
       replace hlt := of_decide_eq_true hlt
       have hk3 : k < kids.length := by omega
       have hat := KidsR.at_ k kids[k] hKs (by simp [hk3])
       obtain ⟨y0, y1, ya, yn, yc, za, zn, zc, ua, un, uc, hy⟩ := hat.cells
       rw [hy] at hat
       have hsz := Nd.szs_at kids k kids[k] (by simp [hk3])
       have hfk := Nd.fine_kid hR hk3
       have hkn2 := hkn h1
       have hlk_ := Nd.lays_ok lim (kids.take k) Q p.seg (p.at_ + ((Nd.mk kind size words bytes kids).need.toNat - kids.length)) hS21
       have FS_ := hlk_.fit FQ hfk0
       have hss : p.seg < (Nd.lays lim (kids.take k) Q p.seg (p.at_ + ((Nd.mk kind size words bytes kids).need.toNat - kids.length))).A.length := Nat.lt_of_lt_of_le hS2s hlk_.grew.len
       have hii : p.at_ + ((Nd.mk kind size words bytes kids).need.toNat - kids.length) + k < len2 (Nd.lays lim (kids.take k) Q p.seg (p.at_ + ((Nd.mk kind size words bytes kids).need.toNat - kids.length))).A p.seg := by have := hlk_.grew.seg p.seg; omega
       refine W_skip ?_
       refine W_seq ?_
       refine W_block ?_
       refine W_seq (W_region rfl ?_)
       refine stp (r_move_int rfl ?_)
       refine stp (r_indexN (RK.grow g0) rfl rfl ?_ ?_); omega
       refine stp (r_loadNR (RK.grow g0) rfl (by decide) (by rw [RK.len]; omega) hy ?_)
       refine stp (r_alloc ?_)
       intro b27 w28 hb29 hc30 g31
       refine stp (r_assign_int rfl ?_)
       refine stn (r_storeAll rfl rfl hc30 (by rfl) (by rfl) (by rfl) ?_)
       intro w32 hc33 u34
       have g35 := g31.upd u34 hb29
       have hge36 := Nat.le_trans K.size hb29
       replace K := K.tr g35.kp
       replace g0 := g0.tr g35
       replace hc4 := g35.heap hc4
       replace h := h.grow g35
       clear u34 g31 hb29 hc30
       refine WL_nil ?_
       refine W_seq ?_
       refine W_any 13 [[], [], [], [], [], [0], [2, 1, 0], [], [0], [1, 0], [6, 5, 4, 3, 2, 1, 0], [], [8, 7, 6, 5, 4, 3, 2, 1, 0]] mixed (by kernel_rfl) (by kernel_rfl) (by kernel_rfl) ?_
       intro w37 g38
       replace K := K.tr g38.kp
       replace g0 := g0.tr g38
       replace hc4 := g38.heap hc4
       replace h := h.grow g38
       replace hc33 := g38.heap hc33
       clear g38
       apply AO_ex
       ·intro w_ g_; refine og rfl ?_; refine r_move_func rfl ?_; exact ⟨Grow.rfl' _, rfl⟩
       apply AO_ex
       ·intro w_ g_; refine og rfl ?_; refine r_loadAll rfl (g_.heap hc33) (by rfl) ?_; exact ⟨Grow.rfl' _, rfl⟩
       apply AO_ex
       ·intro w_ g_; refine og rfl ?_; refine r_move_int rfl ?_; exact ⟨Grow.rfl' _, rfl⟩
       apply AO_ex
       ·intro w_ g_; refine og rfl ?_; refine r_move_int rfl ?_; exact ⟨Grow.rfl' _, rfl⟩
       apply AO_ex
       ·intro w_ g_; refine og rfl ?_; refine r_loadAll rfl (g_.heap hc4) (by rfl) ?_; exact ⟨Grow.rfl' _, rfl⟩
       apply AO_ex
       ·intro w_ g_; refine og rfl ?_; exact r_gives (v := .int .i64 ((Nd.mk kind size words bytes kids).need)) rfl (need_calls _ (T0.grow (g0.tr g_))) (fun w2_ g2_ => ⟨g2_, rfl⟩)
       apply AO_ex
       ·intro w_ g_; refine og rfl ?_; refine r_add rfl rfl ?_ ?_; constructor <;> omega; exact ⟨Grow.rfl' _, rfl⟩
       apply AO_ex
       ·intro w_ g_; refine og rfl ?_; refine r_fieldAddr rfl ?_; exact ⟨Grow.rfl' _, rfl⟩
       apply AO_ex
       ·intro w_ g_; refine og rfl ?_; refine r_load (v := .slice ak kids.length ck) rfl (g_.heap hc4) rfl ?_; exact ⟨Grow.rfl' _, rfl⟩
       apply AO_ex
       ·intro w_ g_; refine og rfl ?_; refine r_len rfl rfl rfl ?_; exact ⟨Grow.rfl' _, rfl⟩
       apply AO_ex
       ·intro w_ g_; refine og rfl ?_; refine r_sub rfl rfl ?_ ?_; constructor <;> omega; exact ⟨Grow.rfl' _, rfl⟩
       apply AO_ex
       ·intro w_ g_; refine og rfl ?_; refine r_move_int rfl ?_; exact ⟨Grow.rfl' _, rfl⟩
       apply AO_ex
       ·intro w_ g_; refine og rfl ?_; refine r_add rfl rfl ?_ ?_; constructor <;> omega; exact ⟨Grow.rfl' _, rfl⟩
       refine AO_nil ?_
       intro w39 g40
       replace K := K.tr g40.kp
       replace g0 := g0.tr g40
       replace hc4 := g40.heap hc4
       replace h := h.grow g40
       replace hc33 := g40.heap hc33
       clear g40
       refine WL_some (og rfl ?_)
       have hbk : ∀ k ∈ blks bB so4 segs4, w0.heap.size ≤ k := fun k hk => (nb4 k hk).elim (hb k) (fun h_ => Nat.le_trans hsz0 h_)
       have hcal := ih_ _ h hat g0 hbk FS_ hss hii hl1 hl2 hfk (by simp only [Nd.sz] at hm_; omega)
       rw [show ((p.at_ + ((Nd.mk kind size words bytes kids).need.toNat - kids.length) + k : Nat) : Int) = (p.at_ : Int) + (Nd.mk kind size words bytes kids).need - kids.length + k from by omega] at hcal
       rw [Lay.eta hfk0, ← Nd.lays_take hk3] at hcal
       refine r_call rfl hcal ?_
       rintro v_ w41 ⟨rfl, K4, ho4⟩
       replace g0 := g0.trK K4 hbk
       have hc4' := K4.heap hc4 nb7
       have hsz4 := lt_of_heap hc4
       clear hc4
       have hc4 := hc4'
       clear hc4'
       have K0_ := K
       replace K := K.trans K4 nb4
       clear h K4
       refine stp (r_not rfl ?_)
       refine WL_nil ?_
       rcases bool_ft ((Nd.lays lim (kids.take (k + 1)) Q p.seg (p.at_ + ((Nd.mk kind size words bytes kids).need.toNat - kids.length))).full) with hf4 | hf4
       ·
        refine W_false (show _ = Value.bool false from congrArg Value.bool (by rw [hf4]; rfl)) ?_
        obtain ⟨so5, segs5, h, nb5⟩ := ho4 hf4
        have nb8 : b1 ∉ blks bB so5 segs5 := fun hm => by rcases nb5 _ hm with h_ | h_; (exact nb7 h_); omega
        have nb9 : ∀ k ∈ blks bB so5 segs5, k ∈ blks bB (.slice ado A.length co) segs ∨ w.heap.size ≤ k := fun k hk => (nb5 k hk).elim (nb4 k) (fun h_ => .inr (Nat.le_trans K0_.size h_))
        refine W_skip ?_
        refine W_region rfl ?_
        refine stp (r_add rfl rfl ?_ ?_); constructor <;> omega
        refine stp (r_move_int rfl ?_)
        refine WL_nil ?_
        refine ⟨_, ?_, k + 1, so5, segs5, rfl, fr_of ⟨rfl, rfl, rfl, rfl, rfl, rfl, congrArg (Value.int .i64) (by omega), trivial⟩, by omega, hf4, nb8, nb9, K, g0, hc4, h⟩
        omega
       ·
        refine W_true (show _ = Value.bool true from congrArg Value.bool (by rw [hf4]; rfl)) ?_
        refine W_seq (W_region rfl ?_)
        refine stp (r_assign (v := .bool false) rfl ?_)
        refine WL_nil ?_
        refine W_ret ?_
        have hff := Nd.lays_full_take hf4
        refine ret1 (res_tmp (v := .bool false) rfl) ⟨by rw [hff]; rfl, K, fun hx => by rw [hff] at hx; cases hx⟩
      ·-- false
       replace hlt := of_decide_eq_false hlt
       have hk3 : k = kids.length := by omega
       rw [hk3, List.take_length] at h hfk0
       refine W_exit ?_
       refine W_seq (W_region rfl ?_)
       refine stp (r_assign (v := .bool true) rfl ?_)
       refine WL_nil ?_
       refine W_ret ?_
       refine ret1 (res_tmp (v := .bool true) rfl) ⟨by rw [hfk0]; rfl, K, fun _ => ⟨so4, segs4, h, nb4⟩⟩
     ·
      refine W_true (show _ = Value.bool true from congrArg Value.bool (by rw [hf2]; rfl)) ?_
      refine W_seq (W_region rfl ?_)
      refine stp (r_assign (v := .bool false) rfl ?_)
      refine WL_nil ?_
      refine W_ret ?_
      have hff : (Nd.lays lim kids Q p.seg (p.at_ + ((Nd.mk kind size words bytes kids).need.toNat - kids.length))).full = true := by rw [Nd.lays_full hf2]; exact hf2
      refine ret1 (res_tmp (v := .bool false) rfl) ⟨by rw [hff]; rfl, K, fun hx => by rw [hff] at hx; cases hx⟩
    ·
     refine W_seq ?_
     refine W_seq (W_region rfl ?_)
     refine WL_some (og rfl ?_)
     refine r_move (v := .bool (!p.S.full)) rfl ?_
     rw [show (!p.S.full) = false from by rw [hf]; rfl]
     refine stp (r_not_t rfl rfl ?_)
     refine stp (r_move (v := .bool true) rfl ?_)
     refine WL_some (og_no rfl ?_)
     refine WL_some (og_no rfl ?_)
     refine WL_some (og_no rfl ?_)
     refine WL_some (og_no rfl ?_)
     refine WL_some (og_no rfl ?_)
     refine WL_some (og_no rfl ?_)
     refine stp (r_pick_t (v := .bool true) rfl rfl rfl ?_)
     refine WL_nil ?_
     refine W_true rfl ?_
     refine W_seq (W_region rfl ?_)
     refine stp (r_assign (v := .bool false) rfl ?_)
     refine WL_nil ?_
     refine W_ret ?_
     have h_ : (moreP lim p.S p.seg (Nd.mk kind size words bytes kids).content).full = true := by simp [moreP, hf]
     have hff : (Nd.lays lim kids (moreP lim p.S p.seg (Nd.mk kind size words bytes kids).content) p.seg (p.at_ + ((Nd.mk kind size words bytes kids).need.toNat - kids.length))).full = true := by rw [Nd.lays_full h_]; exact h_
     refine ret1 (res_tmp (v := .bool false) rfl) ⟨by rw [hff]; rfl, K, fun hx => by rw [hff] at hx; cases hx⟩

set_option maxRecDepth 100000 in
theorem Build_calls (w : World) {c : List Value} {t : Nd} (T : NodeR w c t) (n : Int) : Calls Try.prog 13 #[.agg c.toArray, .int .i64 n] w (Ret fun v w' => ∃ so segs, v = .tuple #[so, .int .u16 (t.build n).2] ∧ OwnA 22 44 w' w.heap.size so segs (t.build n).1 ∧ Grow w w') := by
 obtain ⟨y0, y1, ya, yn, yc, za, zn, zc, ua, un, uc, rfl⟩ := T.cells
 have G := Grow.rfl' w
 refine calls_ret Try.func13 Try.ntmps13 Try.results13 rfl rfl ?_
 refine W_seq (W_region rfl ?_)
 refine WL_some (og rfl ?_)
 (first | refine r_box_agg rfl ?_ | refine r_box_int rfl ?_ | refine r_box_slice rfl ?_ | refine r_box rfl rfl ?_)
 intro b1 w2 hb3 hc4 g5
 have hge6 := Nat.le_trans G.size hb3
 replace G := G.tr g5
 clear g5 hb3
 refine stp (r_assign_slice rfl ?_)
 refine stp (r_assign_int rfl ?_)
 refine WL_nil ?_
 refine W_seq ?_
 refine W_seq (W_region rfl ?_)
 refine stp (r_move_int rfl ?_)
 refine stp (r_lss rfl rfl ?_)
 refine stp (r_move_bool rfl ?_)
 refine WL_some (og_if (s := .bool (decide (n < 1))) (b := false) (v := .int .i64 n) rfl (wgb_f _) (fun hc7 => ?_) ?_)
 ·
  have hc7_ := hc7
  try simp only [Bool.and_eq_true, Bool.or_eq_true, Bool.not_eq_true', Bool.and_eq_false_iff, Bool.or_eq_false_iff, Bool.not_eq_false', decide_eq_true_eq, decide_eq_false_iff_not, Bool.not_true, Bool.not_false, Bool.not_eq_eq_eq_not, Bool.or_false, Bool.and_true, Bool.or_true, Bool.and_false, Bool.false_or, Bool.true_and, Bool.true_or, Bool.false_and, Bool.false_eq_true, Bool.true_eq_false] at hc7_
  refine r_move_int rfl ?_
  exact ⟨rfl, rfl⟩
 refine WL_some (og_if (s := .bool (decide (n < 1))) (b := false) (v := .bool (decide (n > 4096))) rfl (wgb_f _) (fun hc8 => ?_) ?_)
 ·
  have hc8_ := hc8
  try simp only [Bool.and_eq_true, Bool.or_eq_true, Bool.not_eq_true', Bool.and_eq_false_iff, Bool.or_eq_false_iff, Bool.not_eq_false', decide_eq_true_eq, decide_eq_false_iff_not, Bool.not_true, Bool.not_false, Bool.not_eq_eq_eq_not, Bool.or_false, Bool.and_true, Bool.or_true, Bool.and_false, Bool.false_or, Bool.true_and, Bool.true_or, Bool.false_and, Bool.false_eq_true, Bool.true_eq_false] at hc8_
  refine r_gtr (gvt hc8) rfl ?_
  exact ⟨rfl, rfl⟩
 refine stp (r_or2 rfl rfl rfl ?_)
 refine stp (r_move_bool rfl ?_)
 refine WL_some (og_if (s := .bool ((decide (n < 1)) || (decide (n > 4096)))) (b := false) (v := .agg #[.int .i64 y0, .int .i64 y1, .slice ya yn yc, .slice za zn zc, .slice ua un uc]) rfl (wgb_f _) (fun hc9 => ?_) ?_)
 ·
  have hc9_ := hc9
  try simp only [Bool.and_eq_true, Bool.or_eq_true, Bool.not_eq_true', Bool.and_eq_false_iff, Bool.or_eq_false_iff, Bool.not_eq_false', decide_eq_true_eq, decide_eq_false_iff_not, Bool.not_true, Bool.not_false, Bool.not_eq_eq_eq_not, Bool.or_false, Bool.and_true, Bool.or_true, Bool.and_false, Bool.false_or, Bool.true_and, Bool.true_or, Bool.false_and, Bool.false_eq_true, Bool.true_eq_false] at hc9_
  refine r_loadAll rfl hc4 (by rfl) ?_
  exact ⟨rfl, rfl⟩
 refine WL_some (og_ifg (s := .bool ((decide (n < 1)) || (decide (n > 4096)))) (b := false) (v := .bool (t.right 32)) rfl (wgb_f _) (fun hc10 => ?_) ?_)
 ·
  have hc10_ := hc10
  try simp only [Bool.and_eq_true, Bool.or_eq_true, Bool.not_eq_true', Bool.and_eq_false_iff, Bool.or_eq_false_iff, Bool.not_eq_false', decide_eq_true_eq, decide_eq_false_iff_not, Bool.not_true, Bool.not_false, Bool.not_eq_eq_eq_not, Bool.or_false, Bool.and_true, Bool.or_true, Bool.and_false, Bool.false_or, Bool.true_and, Bool.true_or, Bool.false_and, Bool.false_eq_true, Bool.true_eq_false] at hc10_
  exact r_givesA (l := ([.agg #[.int .i64 y0, .int .i64 y1, .slice ya yn yc, .slice za zn zc, .slice ua un uc]] : List Value)) rfl (by show ([gv (!((decide (n < 1)) || (decide (n > 4096)))) (.agg #[.int .i64 y0, .int .i64 y1, .slice ya yn yc, .slice za zn zc, .slice ua un uc])] : List Value) = _; rw [gvt hc10]) (Right_calls _ (T.grow G)) (fun w2_ g2_ => ⟨rfl, g2_⟩)
 intro w11 g12
 replace hc4 := g12.heap hc4
 replace G := G.tr g12
 clear g12
 refine WL_some (og_if (s := .bool ((decide (n < 1)) || (decide (n > 4096)))) (b := false) (v := .bool (!(t.right 32))) rfl (wgb_f _) (fun hc13 => ?_) ?_)
 ·
  have hc13_ := hc13
  try simp only [Bool.and_eq_true, Bool.or_eq_true, Bool.not_eq_true', Bool.and_eq_false_iff, Bool.or_eq_false_iff, Bool.not_eq_false', decide_eq_true_eq, decide_eq_false_iff_not, Bool.not_true, Bool.not_false, Bool.not_eq_eq_eq_not, Bool.or_false, Bool.and_true, Bool.or_true, Bool.and_false, Bool.false_or, Bool.true_and, Bool.true_or, Bool.false_and, Bool.false_eq_true, Bool.true_eq_false] at hc13_
  refine r_not (gvt hc13) ?_
  exact ⟨rfl, rfl⟩
 refine stp (r_or2 rfl rfl rfl ?_)
 refine WL_nil ?_
 refine W_cond2 (b := (((decide (n < 1)) || (decide (n > 4096))) || (!(t.right 32)))) rfl (fun h1 => ?_) (fun h1 => ?_)
 ·-- true
  simp only [Bool.and_eq_true, Bool.or_eq_true, Bool.not_eq_true', Bool.and_eq_false_iff, Bool.or_eq_false_iff, Bool.not_eq_false', decide_eq_true_eq, decide_eq_false_iff_not, Bool.not_true, Bool.not_false, Bool.not_eq_eq_eq_not, Bool.or_false, Bool.and_true, Bool.or_true, Bool.and_false, Bool.false_or, Bool.true_and, Bool.true_or, Bool.false_and, Bool.false_eq_true, Bool.true_eq_false] at h1
  have hb : t.build n = ([], 1) := by unfold Nd.build; rw [if_pos]; rcases h1 with (h | h) | h; exact .inl h; exact .inr (.inl h); exact .inr (.inr h)
  refine W_seq (W_region rfl ?_)
  refine stp (r_assign_slice rfl ?_)
  refine stp (r_assign_int rfl ?_)
  refine WL_nil ?_
  refine W_ret ?_
  rw [hb]
  refine ret2 (res_tmp (v := .slice none 0 0) rfl) (res_tmp (v := .int .u16 1) rfl) ⟨_, _, rfl, OwnA.nil _ _ _ _, G⟩
 ·-- false
  simp only [Bool.and_eq_true, Bool.or_eq_true, Bool.not_eq_true', Bool.and_eq_false_iff, Bool.or_eq_false_iff, Bool.not_eq_false', decide_eq_true_eq, decide_eq_false_iff_not, Bool.not_true, Bool.not_false, Bool.not_eq_eq_eq_not, Bool.or_false, Bool.and_true, Bool.or_true, Bool.and_false, Bool.false_or, Bool.true_and, Bool.true_or, Bool.false_and, Bool.false_eq_true, Bool.true_eq_false] at h1
  obtain ⟨⟨h1a, h1b⟩, h1c⟩ := h1
  have hlb1 : 1 ≤ n := by omega
  have hlb2 : n ≤ 4096 := by omega
  have hnb : ¬ (n < 1 ∨ n > 4096 ∨ t.right 32 = false) := by rw [h1c]; simp; omega
  refine W_skip ?_
  refine W_seq (W_region rfl ?_)
  refine stp (r_buildSlice (cs := #[.int .u64 0]) (el := 44) (fun w => by kernel_rfl) ?_)
  intro bs14 w15 hb16 hc17 g18
  have hge19 := Nat.le_trans G.size hb16
  replace hc4 := g18.heap hc4
  replace G := G.tr g18
  clear g18
  refine stp (r_buildSlice (cs := #[.slice (some ⟨bs14, 0, none⟩) 1 1]) (el := 22) (fun w => by kernel_rfl) ?_)
  intro bs20 w21 hb22 hc23 g24
  have hge25 := Nat.le_trans G.size hb22
  replace hc4 := g24.heap hc4
  replace hc17 := g24.heap hc17
  replace G := G.tr g24
  clear g24
  refine stp (r_move_int rfl ?_)
  refine stp (r_build (v := .agg #[.slice (some ⟨bs20, 0, none⟩) 1 1, .int .i64 n, .int .i64 1]) (fun w => by kernel_rfl) ?_)
  refine WL_some (og rfl ?_)
  (first | refine r_box_agg rfl ?_ | refine r_box_int rfl ?_ | refine r_box_slice rfl ?_ | refine r_box rfl rfl ?_)
  intro b26 w27 hb28 hc29 g30
  have hge31 := Nat.le_trans G.size hb28
  replace hc4 := g30.heap hc4
  replace hc17 := g30.heap hc17
  replace hc23 := g30.heap hc23
  replace G := G.tr g30
  clear g30 hb28
  refine stp (r_assign_ptr rfl ?_)
  refine WL_nil ?_
  rcases bool_ft (t.lay n ⟨[[0]], false⟩ 0 0).full with hf | hf
  ·
   refine W_seq ?_
   refine W_seq (W_region rfl ?_)
   refine stp (r_move_ptr rfl ?_)
   refine stp (r_loadAll rfl hc4 (by rfl) ?_)
   refine WL_some (og rfl ?_)
   have h := BldAt.init hc29 hc23 hc17
   have hbk : ∀ k ∈ blks b26 (.slice (some ⟨bs20, 0, none⟩) 1 1) [.slice (some ⟨bs14, 0, none⟩) 1 1], w.heap.size ≤ k := by
    intro k hk
    rcases mem_blks.1 hk with rfl | hk | ⟨i, v, hv, hk⟩
    ·exact hge31
    ·simp only [Value.ownBlock, Option.some.injEq] at hk; subst hk; exact hge25
    ·have hm_ := List.mem_of_getElem? hv; simp only [List.mem_singleton] at hm_; subst hm_; simp only [Value.ownBlock, Option.some.injEq] at hk; subst hk; exact hge19
   have hszl := G.size
   refine r_call rfl (lay_calls _ _ (s := 0) (i := 0) h T G hbk (Fit.init hlb1) (by simp) (by simp [len2]) hlb1 hlb2 ⟨32, h1c⟩ (Nat.le_refl _)) ?_
   rintro v_ w32 ⟨rfl, K, hlay⟩
   replace G := G.trK K hbk
   clear h hc4 hc17 hc23 hc29
   refine WL_some (og rfl ?_)
   refine r_not (p := !(t.lay n ⟨[[0]], false⟩ 0 0).full) rfl ?_
   rw [hf]
   refine stp (r_move (v := .bool false) rfl ?_)
   refine WL_some (og rfl ?_)
   obtain ⟨so, segs, h, hnb2⟩ := hlay hf
   have hok := Nd.lay_ok n t ⟨[[0]], false⟩ 0 0 (by simp)
   have FA := hok.fit (Fit.init hlb1) hf
   have FAs := FA.small hlb2
   obtain ⟨ado, co, sa, sc, rfl, hco, RO, hsf⟩ := h.fn FAs.1
   have hbox := h.box
   have hrows := h.rows FAs.2
   have hl00 : 1 ≤ ((t.lay n ⟨[[0]], false⟩ 0 0).A.getD 0 []).length := by have := hok.grew.seg 0; simpa [len2] using this
   have hown := h.owns (fun k hk => (hnb2 k hk).elim (hbk k) (fun h_ => Nat.le_trans hszl h_))
   refine r_move (v := .pointer (some ⟨b26, 0, none⟩)) rfl ?_
   refine stp (r_nilCheck rfl ?_)
   refine stp (r_fieldAddr rfl ?_)
   refine stp (r_load (v := .slice ado ((t.lay n ⟨[[0]], false⟩ 0 0).A.length) co) rfl hbox rfl ?_)
   refine stp (r_gives (v := .bool true) rfl (aright_calls _ RO rfl hrows FA.one FA.most hl00 FA.all) ?_)
   intro w33 g34
   replace hbox := g34.heap hbox
   replace hown := hown.grow g34
   replace G := G.tr g34
   clear g34
   refine stp (r_not_f rfl rfl ?_)
   refine stp (r_pick_f (v := .bool false) rfl rfl rfl ?_)
   refine WL_nil ?_
   refine W_false rfl ?_
   refine W_skip ?_
   refine W_seq (W_region rfl ?_)
   refine stp (r_move_ptr rfl ?_)
   refine stp (r_nilCheck rfl ?_)
   refine stp (r_fieldAddr rfl ?_)
   refine stp (r_load (v := .slice ado ((t.lay n ⟨[[0]], false⟩ 0 0).A.length) co) rfl hbox rfl ?_)
   refine stp (r_assign_slice rfl ?_)
   refine stp (r_assign_int rfl ?_)
   refine WL_nil ?_
   refine W_ret ?_
   have hb : t.build n = ((t.lay n ⟨[[0]], false⟩ 0 0).A, 0) := by unfold Nd.build; rw [if_neg hnb, if_neg (by rw [hf]; simp)]
   rw [hb]
   refine ret2 (res_tmp (v := .slice ado ((t.lay n ⟨[[0]], false⟩ 0 0).A.length) co) rfl) (res_tmp (v := .int .u16 0) rfl) ⟨_, _, rfl, hown, G⟩
  ·
   refine W_seq ?_
   refine W_seq (W_region rfl ?_)
   refine stp (r_move_ptr rfl ?_)
   refine stp (r_loadAll rfl hc4 (by rfl) ?_)
   refine WL_some (og rfl ?_)
   have h := BldAt.init hc29 hc23 hc17
   have hbk : ∀ k ∈ blks b26 (.slice (some ⟨bs20, 0, none⟩) 1 1) [.slice (some ⟨bs14, 0, none⟩) 1 1], w.heap.size ≤ k := by
    intro k hk
    rcases mem_blks.1 hk with rfl | hk | ⟨i, v, hv, hk⟩
    ·exact hge31
    ·simp only [Value.ownBlock, Option.some.injEq] at hk; subst hk; exact hge25
    ·have hm_ := List.mem_of_getElem? hv; simp only [List.mem_singleton] at hm_; subst hm_; simp only [Value.ownBlock, Option.some.injEq] at hk; subst hk; exact hge19
   have hszl := G.size
   refine r_call rfl (lay_calls _ _ (s := 0) (i := 0) h T G hbk (Fit.init hlb1) (by simp) (by simp [len2]) hlb1 hlb2 ⟨32, h1c⟩ (Nat.le_refl _)) ?_
   rintro v_ w35 ⟨rfl, K, hlay⟩
   replace G := G.trK K hbk
   clear h hc4 hc17 hc23 hc29
   refine WL_some (og rfl ?_)
   refine r_not (p := !(t.lay n ⟨[[0]], false⟩ 0 0).full) rfl ?_
   rw [hf]
   refine stp (r_move (v := .bool true) rfl ?_)
   refine WL_some (og_no rfl ?_)
   refine WL_some (og_no rfl ?_)
   refine WL_some (og_no rfl ?_)
   refine WL_some (og_no rfl ?_)
   refine WL_some (og_no rfl ?_)
   refine WL_some (og_no rfl ?_)
   refine stp (r_pick_t (v := .bool true) rfl rfl rfl ?_)
   refine WL_nil ?_
   refine W_true rfl ?_
   refine W_seq (W_region rfl ?_)
   refine stp (r_assign_slice rfl ?_)
   refine stp (r_assign_int rfl ?_)
   refine WL_nil ?_
   refine W_ret ?_
   have hb : t.build n = ([], 24) := by unfold Nd.build; rw [if_neg hnb, if_pos hf]
   rw [hb]
   refine ret2 (res_tmp (v := .slice none 0 0) rfl) (res_tmp (v := .int .u16 24) rfl) ⟨_, _, rfl, OwnA.nil _ _ _ _, G⟩
end Go.Proofs.Ythbcgfmoakokiaa.K
