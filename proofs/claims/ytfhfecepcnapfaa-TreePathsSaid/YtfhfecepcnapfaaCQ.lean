/- slices.Clone, tree.each, tree.Paths in general (printed by q10.py). -/
import Derived.Test.YtfhfecepcnapfaaT
import Derived.Test.YtfhfecepcnapfaaJ15
import Derived.Test.YtfhfecepcnapfaaP10
import Derived.Test.YtfhfecepcnapfaaP08
import Derived.Test.YtfhfecepcnapfaaPtr
import Derived.Test.YtfhfecepcnapfaaCD
set_option linter.unusedVariables false
set_option linter.unusedSimpArgs false
namespace Go.Proofs.Ytfhfecepcnapfaa.K
open Go Go.RowKit Go.Proofs
attribute [local irreducible] Run1 OpG WL W AO Gives
set_option maxRecDepth 100000 in
theorem cloneI_calls (w : World) {b : Addr} {n c : Nat} {xs : List Int} (hc : n ≤ c) (hc2 : c ≤ maxLen) (R : RowAt w 1 (some b) n (xs.map (.int .i64))) (hb : n ≤ 17592186044416) : Calls Try.prog 68 #[.slice (some b) n c] w (Ret fun v w' => w'.ownsRow w.heap.size 3 1 v n (xs.map (.int .i64)) ∧ Grow w w') := by
 have G := Grow.rfl' w
 refine calls_ret Try.func68 Try.ntmps68 Try.results68 rfl rfl ?_
 refine W_seq (W_region rfl ?_)
 refine stp (r_assign_slice rfl ?_)
 refine WL_nil ?_
 refine W_seq ?_
 refine W_seq (W_region rfl ?_)
 refine stp (r_move_slice rfl ?_)
 refine stp (r_eqlNil rfl rfl ?_)
 refine WL_nil ?_
 refine W_false rfl ?_
 refine W_skip ?_
 refine W_seq (W_region rfl ?_)
 refine stp (r_buildSlice (cs := #[]) (el := 3) (fun w => by kernel_rfl) ?_)
 intro bs_ w5_ hbs_ hcs_ g5_
 replace G := G.tr g5_
 clear g5_
 have own0 := own_lit0 (base := w.heap.size) (sz := 1) hcs_ (by have := G.size; omega)
 refine stp (r_move_slice rfl ?_)
 refine stp (r_append rfl rfl rfl rfl own0 ⟨_, c, rfl, hc, hc2, R.grow G⟩ (fun q_ hq_ => by obtain ⟨z_, -, rfl⟩ := List.mem_map.1 hq_; rfl) (by simp only [maxLen]; omega) (by omega) G.size ?_)
 intro v6 w6 own6 gr6
 have G6 := G.grown gr6 (own_ge own0)
 rw [Nat.zero_add, List.nil_append] at own6
 refine stp (r_assign (v := v6) rfl ?_)
 refine WL_nil ?_
 refine W_ret ?_
 exact ret1 (res_tmp rfl) ⟨own6, G6⟩

set_option maxRecDepth 100000 in
theorem each1_calls : ∀ (n_ : Nat) (w : World) {q1 q2 l N : Nat} {y0 y1 : Int} {ya za ua ad : Option Addr} {yn yc zn zc un uc pcap : Nat} {t : Nd} {pre : List Int} {w0 : World} (hT0 : NodeR w0 [.int .i64 y0, .int .i64 y1, .slice ya yn yc, .slice za zn zc, .slice ua un uc] t) (hpe : (pre = [] → ad = none) ∧ (ad = none → pcap = 0)) (hpc : pre.length ≤ pcap) (hpc2 : pcap ≤ maxLen) (hdp : pre.length + t.dep ≤ 1000) (I : Nat → World → Prop) (Z : World → Prop) (hN : N ≤ w.heap.size) (hI : ∀ i w', I i w' → w'.heap[q1]? = some (.cells #[.int .i64 y0, .int .i64 y1, .slice ya yn yc, .slice za zn zc, .slice ua un uc] 37 (0, 0)) ∧ w'.heap[q2]? = some (.cells #[.slice ad pre.length pcap] 31 (0, 0)) ∧ Sees w0 w' ∧ RowAt w' 1 ad pre.length ((pre).map (.int .i64))) (hgr : ∀ i w' w'', Grow w' w'' → I i w' → I i w'') (hup : ∀ i w' w'' b o, I i w' → N ≤ b → w'.heap[b]? = some o → NotC o → Upd b w' w'' → I i w'') (hzp : ∀ w' w'' b o, Z w' → N ≤ b → w'.heap[b]? = some o → NotC o → Upd b w' w'' → Z w'') (hy : ∀ i p w', (t.paths pre)[i]? = some p → I i w' → ∀ ad2 c2, RowAt (seeT 3 w') 1 ad2 p.1.length (p.1.map (.int .i64)) → p.1.length ≤ c2 → c2 ≤ maxLen → Yields Try.prog l #[.agg #[.slice ad2 p.1.length c2, .int .i64 p.2]] w' (fun v w'' => Keeps 33 N w' w'' ∧ ∃ b, v = .bool b ∧ (b = true → I (i + 1) w'') ∧ (b = false → Z w''))) (h0 : I 0 w), t.sz ≤ n_ → Calls Try.prog 67 #[.func (.yield l) #[] #[], .pointer (some ⟨q1, 0, none⟩), .pointer (some ⟨q2, 0, none⟩)] w (Ret fun v w' => I (t.paths pre).length w' ∨ Z w') := by
 intro n_
 induction n_ with
 | zero => intro w q1 q2 l N y0 y1 ya za ua ad yn yc zn zc un uc pcap t pre w0 hT0 hpe hpc hpc2 hdp I Z hN hI hgr hup hzp hy h0 hm_; exact absurd hm_ (by have := t.sz_pos; omega)
 | succ n_ ih_ =>
 intro w q1 q2 l N y0 y1 ya za ua ad yn yc zn zc un uc pcap t pre w0 hT0 hpe hpc hpc2 hdp I Z hN hI hgr hup hzp hy h0 hm_
 obtain ⟨kind, size, words, bytes, kids⟩ := t
 obtain ⟨-, -, hl3, hl4, hl5, hl6, hl7, hl8⟩ := hT0.lens
 simp only [Nd.words, Nd.bytes, Nd.kids] at hl3 hl4 hl5
 obtain ⟨kc, RK0, hKs⟩ := hT0.kidsrow
 have hown : own1 words bytes ≤ 281474976710657 := by unfold own1; omega
 refine calls_ret Try.func67 Try.ntmps67 Try.results67 rfl rfl ?_
 have HI := h0
 have hwN := hN
 refine W_seq (W_region rfl ?_)
 refine WL_some (og rfl ?_)
 (first | refine r_box_agg rfl ?_ | refine r_box_int rfl ?_ | refine r_box_slice rfl ?_ | refine r_box rfl rfl ?_)
 intro b1 w2 hb3 hc4 g5
 have hN_b1 := Nat.le_trans hwN hb3
 replace HI := hgr _ _ _ g5 HI
 replace hwN := Nat.le_trans hwN g5.size
 clear g5 hb3
 refine WL_nil ?_
 obtain ⟨hb6, hb7, hS_, hP_⟩ := hI _ _ HI
 refine W_seq ?_
 refine W_seq (W_region rfl ?_)
 refine stp (r_fieldAddr rfl ?_)
 refine stp (r_load (v := .slice ya yn yc) rfl hb6 rfl ?_)
 refine stp (r_len rfl rfl rfl ?_)
 refine stp (r_add rfl rfl ?_ ?_); constructor <;> omega
 refine stp (r_fieldAddr rfl ?_)
 refine stp (r_load (v := .slice za zn zc) rfl hb6 rfl ?_)
 refine stp (r_len rfl rfl rfl ?_)
 refine WL_some (og rfl ?_)
 refine r_add rfl rfl ?_ ?_; constructor <;> omega
 rw [show 1 + (yn : Int) + (zn : Int) = ((own1 words bytes : Nat) : Int) from by unfold own1; omega]
 refine stp (r_move_int rfl ?_)
 refine WL_nil ?_
 refine W_block ?_
 refine W_loop (fun m_ e_ w_ => ∃ (k : Nat), m_ = own1 words bytes - k ∧ Fr [(1, .pointer (some ⟨q1, 0, none⟩)), (2, .pointer (some ⟨q2, 0, none⟩)), (3, .pointer (some ⟨b1, 0, none⟩)), (15, .int .i64 ((own1 words bytes : Nat) : Int)), (16, .int .i64 (k : Int))] e_ ∧ (k ≤ own1 words bytes) ∧ (N ≤ w_.heap.size) ∧ (w_.heap[b1]? = some (.cells #[.func (.yield l) #[] #[]] 126 (0, 0))) ∧ (I k w_)) _ ⟨0, rfl, fr_of ⟨rfl, rfl, rfl, rfl, rfl, trivial⟩, by omega, hwN, hc4, HI⟩ ?_
 clear HI hwN hc4 hb6 hb7 hP_ hS_
 rintro m_ e_ w8 ⟨k, rfl, ⟨e9, rfl⟩, hk, hwN, hc4, HI⟩
 obtain ⟨hb10, hb11, hS_, hP_⟩ := hI k _ HI
 refine W_seq (W_region rfl ?_)
 refine stp (r_lss rfl rfl ?_)
 refine WL_nil ?_
 refine W_seq ?_
 refine W_cond2 (b := (decide ((k : Int) < ((own1 words bytes : Nat) : Int)))) rfl (fun hlt => ?_) (fun hlt => ?_)
 ·-- true
  replace hlt := of_decide_eq_true hlt
  have hk3 : k < own1 words bytes := by omega
  refine W_skip ?_
  refine W_seq ?_
  refine W_block ?_
  refine W_seq (W_region rfl ?_)
  refine stp (r_move_int rfl ?_)
  refine stp (r_assign_int rfl ?_)
  refine WL_nil ?_
  refine W_seq ?_
  refine W_any 6 [[], [], [0], [], [0], [3, 2, 1, 0]] mixed (by kernel_rfl) (by kernel_rfl) (by kernel_rfl) ?_
  intro w12 g13
  replace hwN := Nat.le_trans hwN g13.size
  replace hc4 := g13.heap hc4
  replace HI := hgr _ _ _ g13 HI
  replace hb10 := g13.heap hb10
  replace hb11 := g13.heap hb11
  replace hP_ := hP_.grow g13
  replace hS_ := hS_.trans (Sees.of_grow g13)
  clear g13
  apply AO_ex
  ·intro w_ g_; refine og rfl ?_; refine r_load (v := .func (.yield l) #[] #[]) rfl (g_.heap hc4) rfl ?_; exact ⟨Grow.rfl' _, rfl⟩
  apply AO_ex
  ·intro w_ g_; refine og rfl ?_; refine r_load (v := .slice ad pre.length pcap) rfl (g_.heap hb11) rfl ?_; exact ⟨Grow.rfl' _, rfl⟩
  refine AO_so (fun w_ v_ => ∃ ad2 c2, v_ = .slice ad2 pre.length c2 ∧ pre.length ≤ c2 ∧ c2 ≤ maxLen ∧ RowAt (seeT 3 w_) 1 ad2 pre.length ((pre).map (.int .i64))) (fun _ _ _ g_ ⟨a_, c_, h1_, h2_, h3_, h4_⟩ => ⟨a_, c_, h1_, h2_, h3_, h4_.sees (Sees.typ_grow g_)⟩) ?_ ?_
  ·intro w_ g_
   refine og rfl ?_
   cases ad with
   | none =>
    have hpl := row_none hP_
    have hpn : pre = [] := List.eq_nil_of_length_eq_zero hpl
    have hpc0 := hpe.2 rfl
    subst hpn; subst hpc0
    exact r_gives (v := .slice none 0 0) rfl (cloneNil_calls _) (fun w2_ g2_ => ⟨g2_, _, _, rfl, Nat.le_refl _, Nat.zero_le _, RowAt.empty _ _ _⟩)
   | some bad =>
    refine r_call rfl (cloneI_calls w_ hpc hpc2 (hP_.grow g_) (by omega)) ?_
    rintro v9_ w9_ ⟨own9_, g9_⟩
    obtain ⟨a9_, c9_, rfl, h9a_, h9b_, R9_⟩ := own_typ own9_ (by omega)
    exact ⟨g9_, _, _, rfl, h9a_, h9b_, R9_⟩
  apply AO_ex
  ·intro w_ g_; refine og rfl ?_; refine r_move_int rfl ?_; exact ⟨Grow.rfl' _, rfl⟩
  apply AO_ex
  ·intro w_ g_; refine og rfl ?_; refine r_sub rfl rfl ?_ ?_; constructor <;> omega; exact ⟨Grow.rfl' _, rfl⟩
  refine AO_so (fun w_ v_ => ∃ ad2 c2, v_ = .agg #[.slice ad2 pre.length c2, .int .i64 ((k : Int) - 1)] ∧ pre.length ≤ c2 ∧ c2 ≤ maxLen ∧ RowAt (seeT 3 w_) 1 ad2 pre.length ((pre).map (.int .i64))) (fun _ _ _ g_ ⟨a_, c_, h1_, h2_, h3_, h4_⟩ => ⟨a_, c_, h1_, h2_, h3_, h4_.sees (Sees.typ_grow g_)⟩) ?_ ?_
  ·intro w_ g_
   intro v2_ hv2_; show OpG _ _ _ _ _ _
   refine og rfl ?_
   obtain ⟨a_, c_, rfl, h2_, h3_, h4_⟩ := hv2_
   refine r_build (v := .agg #[.slice a_ pre.length c_, .int .i64 ((k : Int) - 1)]) (fun w => by kernel_rfl) ?_
   exact ⟨Grow.rfl' _, a_, c_, rfl, h2_, h3_, h4_⟩
  refine AO_nil ?_
  intro w14 g15
  replace hwN := Nat.le_trans hwN g15.size
  replace hc4 := g15.heap hc4
  replace HI := hgr _ _ _ g15 HI
  replace hb10 := g15.heap hb10
  replace hb11 := g15.heap hb11
  replace hP_ := hP_.grow g15
  replace hS_ := hS_.trans (Sees.of_grow g15)
  clear g15
  intro v_c hv_c
  intro v_p hv_p
  refine WL_some (og rfl ?_)
  obtain ⟨a8_, c8_, rfl, h8a_, h8b_, R8_⟩ := hv_p
  refine r_yield rfl (Yields.mono ?_ (hy k (pre, (k : Int) - 1) _ (paths_word hk3) HI a8_ c8_ R8_ h8a_ h8b_))
  rintro v_ w16 ⟨HK_, b9, rfl, HT9, HZ9⟩
  have hc4' := HK_ _ _ hN_b1 hc4 (fun _ _ h_ => by simp at h_)
  replace hwN := Nat.le_of_lt (Nat.lt_of_le_of_lt hN_b1 (lt_of_heap hc4'))
  clear HI R8_ HK_
  refine stp (r_not rfl ?_)
  refine WL_nil ?_
  refine W_cond2 (b := (!b9)) rfl (fun h2 => ?_) (fun h2 => ?_)
  ·-- true
   simp only [Bool.and_eq_true, Bool.or_eq_true, Bool.not_eq_true', Bool.and_eq_false_iff, Bool.or_eq_false_iff, Bool.not_eq_false', decide_eq_true_eq, decide_eq_false_iff_not, Bool.not_true, Bool.not_false, Bool.not_eq_eq_eq_not, Bool.or_false, Bool.and_true, Bool.or_true, Bool.and_false, Bool.false_or, Bool.true_and, Bool.true_or, Bool.false_and, Bool.false_eq_true, Bool.true_eq_false] at h2
   have hb9 : b9 = false := by simpa using h2
   refine W_ret ?_
   obtain ⟨w9_, ht_, hJ_⟩ := marks_taken (P := Try.prog) (N := N) Z (fun W_ W2_ b_ o_ hJ_ => hzp W_ W2_ b_ o_ hJ_) [] _ List.nodup_nil (fun m_ hm_ => by simp at hm_) (HZ9 hb9)
   exact retM (vs := []) ht_ trivial (.inr hJ_)
  ·-- false
   simp only [Bool.and_eq_true, Bool.or_eq_true, Bool.not_eq_true', Bool.and_eq_false_iff, Bool.or_eq_false_iff, Bool.not_eq_false', decide_eq_true_eq, decide_eq_false_iff_not, Bool.not_true, Bool.not_false, Bool.not_eq_eq_eq_not, Bool.or_false, Bool.and_true, Bool.or_true, Bool.and_false, Bool.false_or, Bool.true_and, Bool.true_or, Bool.false_and, Bool.false_eq_true, Bool.true_eq_false] at h2
   have hb9 : b9 = true := by simpa using h2
   have HI2 := HT9 hb9
   refine W_skip ?_
   refine W_region rfl ?_
   refine stp (r_add rfl rfl ?_ ?_); constructor <;> omega
   refine stp (r_move_int rfl ?_)
   refine WL_nil ?_
   refine ⟨_, ?_, k + 1, rfl, fr_of ⟨rfl, rfl, rfl, rfl, congrArg (Value.int .i64) (by omega), trivial⟩, by omega, hwN, hc4', HI2⟩
   omega
 ·-- false
  replace hlt := of_decide_eq_false hlt
  have hk9 : k = own1 words bytes := by omega
  rw [hk9] at HI
  obtain ⟨hb17, hb18, hS_, hP_⟩ := hI _ _ HI
  refine W_exit ?_
  refine W_seq (W_region rfl ?_)
  refine stp (r_fieldAddr rfl ?_)
  refine stp (r_load (v := .slice ua un uc) rfl hb17 rfl ?_)
  refine stp (r_len rfl rfl rfl ?_)
  refine stp (r_move_int rfl ?_)
  refine WL_nil ?_
  refine W_block ?_
  refine W_loop (fun m_ e_ w_ => ∃ (j : Nat) (mk : List Nat), m_ = kids.length - j ∧ FrM (mk.map markD) none [(2, .pointer (some ⟨q2, 0, none⟩)), (3, .pointer (some ⟨b1, 0, none⟩)), (29, .slice ua un uc), (30, .int .i64 (un : Int)), (31, .int .i64 (j : Int))] e_ ∧ (j ≤ kids.length) ∧ (mk.Nodup) ∧ (N ≤ w_.heap.size) ∧ (w_.heap[b1]? = some (.cells #[.func (.yield l) #[] #[]] 126 (0, 0))) ∧ (I (own1 words bytes + (Nd.pathsL (kids.take j) pre 0).length) w_) ∧ (∀ m ∈ mk, N ≤ m ∧ w_.heap[m]? = some (.deferred (some [])))) _ ⟨0, [], rfl, fr_of ⟨rfl, rfl, rfl, rfl, rfl, trivial⟩, by omega, List.nodup_nil, hwN, hc4, (by simpa [Nd.pathsL] using HI), (fun m_ hm_ => by simp at hm_)⟩ ?_
  clear hwN hc4 HI hb10 hb11 hb17 hb18 hP_ hS_
  rintro m_ e_ w19 ⟨j, mk, rfl, ⟨e20, rfl⟩, hj2, hnd, hwN, hc4, HI, HM⟩
  obtain ⟨hb21, hb22, hS_, hP_⟩ := hI _ _ HI
  refine W_seq (W_region rfl ?_)
  refine stp (r_lss rfl rfl ?_)
  refine WL_nil ?_
  refine W_seq ?_
  refine W_cond2 (b := (decide ((j : Int) < (un : Int)))) rfl (fun hlt => ?_) (fun hlt => ?_)
  ·-- true
   replace hlt := of_decide_eq_true hlt
   have hj : j < kids.length := by omega
   have RK := RK0.sees hS_
   have hat := KidsR.at_ j kids[j] hKs (by simp [hj])
   obtain ⟨x0, x1, xa, xn, xc, pa, pn, pc, qa, qn, qc, hx⟩ := hat.cells
   rw [hx] at hat
   have hsz := Nd.szs_at kids j kids[j] (by simp [hj])
   simp only [Nd.sz] at hm_
   have hdk := depL_kid (k := kind) (s := size) (w := words) (b := bytes) hj
   refine W_skip ?_
   refine W_seq ?_
   refine W_block ?_
   refine W_seq (W_region rfl ?_)
   refine stp (r_move_int rfl ?_)
   refine stp (r_indexN RK rfl rfl ?_ ?_); omega
   refine stp (r_loadNR RK rfl (by decide) (by rw [RK.len]; omega) hx ?_)
   refine stp (r_alloc ?_)
   intro b23 w24 hb25 hc26 g27
   refine stp (r_assign_int rfl ?_)
   refine stn (r_storeAll rfl rfl hc26 (by rfl) (by rfl) (by rfl) ?_)
   intro w28 hc29 u30
   have g31 := g27.upd u30 hb25
   have hN_b23 := Nat.le_trans hwN hb25
   replace hwN := Nat.le_trans hwN g31.size
   replace hc4 := g31.heap hc4
   replace HI := hgr _ _ _ g31 HI
   replace HM := (fun m_ hm_ => And.intro (HM m_ hm_).1 (g31.heap (HM m_ hm_).2))
   replace hb21 := g31.heap hb21
   replace hb22 := g31.heap hb22
   replace hP_ := hP_.grow g31
   replace hS_ := hS_.trans (Sees.of_grow g31)
   replace RK := RK.grow g31
   clear u30 g27 hb25 hc26
   refine WL_nil ?_
   have hN0 := hwN
   clear RK
   have hsz0 : w28.heap.size ≤ w28.heap.size := Nat.le_refl _
   refine W_seq ?_
   have kb_hwN : ∀ w_, (ksR 3 w28.heap.size pre.length).r w28 w_ → N ≤ w_.heap.size := fun w_ k_ => Nat.le_trans hwN (KsP.to_grow k_ (Grow.rfl' _)).size
   have kb_hc4 : ∀ w_, (ksR 3 w28.heap.size pre.length).r w28 w_ → w_.heap[b1]? = some (.cells #[.func (.yield l) #[] #[]] 126 (0, 0)) := fun w_ k_ => (KsP.to_grow k_ (Grow.rfl' _)).heap hc4
   have kb_HI : ∀ w_, (ksR 3 w28.heap.size pre.length).r w28 w_ → I (own1 words bytes + (Nd.pathsL (kids.take j) pre 0).length) w_ := fun w_ k_ => hgr _ _ _ (KsP.to_grow k_ (Grow.rfl' _)) HI
   have kb_HM : ∀ w_, (ksR 3 w28.heap.size pre.length).r w28 w_ → ∀ m ∈ mk, N ≤ m ∧ w_.heap[m]? = some (.deferred (some [])) := fun w_ k_ => (fun m_ hm_ => And.intro (HM m_ hm_).1 ((KsP.to_grow k_ (Grow.rfl' _)).heap (HM m_ hm_).2))
   have kb_hb21 : ∀ w_, (ksR 3 w28.heap.size pre.length).r w28 w_ → w_.heap[q1]? = some (.cells #[.int .i64 y0, .int .i64 y1, .slice ya yn yc, .slice za zn zc, .slice ua un uc] 37 (0, 0)) := fun w_ k_ => (KsP.to_grow k_ (Grow.rfl' _)).heap hb21
   have kb_hb22 : ∀ w_, (ksR 3 w28.heap.size pre.length).r w28 w_ → w_.heap[q2]? = some (.cells #[.slice ad pre.length pcap] 31 (0, 0)) := fun w_ k_ => (KsP.to_grow k_ (Grow.rfl' _)).heap hb22
   have kb_hP_ : ∀ w_, (ksR 3 w28.heap.size pre.length).r w28 w_ → RowAt w_ 1 ad pre.length ((pre).map (.int .i64)) := fun w_ k_ => hP_.grow (KsP.to_grow k_ (Grow.rfl' _))
   have kb_hS_ : ∀ w_, (ksR 3 w28.heap.size pre.length).r w28 w_ → Sees w0 w_ := fun w_ k_ => hS_.trans (Sees.of_grow (KsP.to_grow k_ (Grow.rfl' _)))
   have kb_hc29 : ∀ w_, (ksR 3 w28.heap.size pre.length).r w28 w_ → w_.heap[b23]? = some (.cells #[.int .i64 x0, .int .i64 x1, .slice xa xn xc, .slice pa pn pc, .slice qa qn qc] 37 (0, 0)) := fun w_ k_ => (KsP.to_grow k_ (Grow.rfl' _)).heap hc29
   have kb_hsz0 : ∀ w_, (ksR 3 w28.heap.size pre.length).r w28 w_ → w28.heap.size ≤ w_.heap.size := fun w_ k_ => KsP.size k_
   refine W_anyR 6 [[], [], [0], [], [0], [3, 2, 1, 0]] [5] (ksR 3 w28.heap.size pre.length) (fun k_ w_ => match k_ with | 0 => True | _ => True) mixed (by kernel_rfl) (by kernel_rfl) (by kernel_rfl) (by kernel_rfl) (fun k_ _ _ _ _ => match k_ with | 0 => trivial | _ + 1 => trivial) (fun _ _ => trivial) ?_
   intro w32 g33
   replace kb_hwN : ∀ w_, (ksR 3 w28.heap.size pre.length).r w32 w_ → N ≤ w_.heap.size := fun w_ k_ => kb_hwN w_ ((ksR 3 w28.heap.size pre.length).tr ((ksR 3 w28.heap.size pre.length).grow g33) k_)
   replace kb_hc4 : ∀ w_, (ksR 3 w28.heap.size pre.length).r w32 w_ → w_.heap[b1]? = some (.cells #[.func (.yield l) #[] #[]] 126 (0, 0)) := fun w_ k_ => kb_hc4 w_ ((ksR 3 w28.heap.size pre.length).tr ((ksR 3 w28.heap.size pre.length).grow g33) k_)
   replace kb_HI : ∀ w_, (ksR 3 w28.heap.size pre.length).r w32 w_ → I (own1 words bytes + (Nd.pathsL (kids.take j) pre 0).length) w_ := fun w_ k_ => kb_HI w_ ((ksR 3 w28.heap.size pre.length).tr ((ksR 3 w28.heap.size pre.length).grow g33) k_)
   replace kb_HM : ∀ w_, (ksR 3 w28.heap.size pre.length).r w32 w_ → ∀ m ∈ mk, N ≤ m ∧ w_.heap[m]? = some (.deferred (some [])) := fun w_ k_ => kb_HM w_ ((ksR 3 w28.heap.size pre.length).tr ((ksR 3 w28.heap.size pre.length).grow g33) k_)
   replace kb_hb21 : ∀ w_, (ksR 3 w28.heap.size pre.length).r w32 w_ → w_.heap[q1]? = some (.cells #[.int .i64 y0, .int .i64 y1, .slice ya yn yc, .slice za zn zc, .slice ua un uc] 37 (0, 0)) := fun w_ k_ => kb_hb21 w_ ((ksR 3 w28.heap.size pre.length).tr ((ksR 3 w28.heap.size pre.length).grow g33) k_)
   replace kb_hb22 : ∀ w_, (ksR 3 w28.heap.size pre.length).r w32 w_ → w_.heap[q2]? = some (.cells #[.slice ad pre.length pcap] 31 (0, 0)) := fun w_ k_ => kb_hb22 w_ ((ksR 3 w28.heap.size pre.length).tr ((ksR 3 w28.heap.size pre.length).grow g33) k_)
   replace kb_hP_ : ∀ w_, (ksR 3 w28.heap.size pre.length).r w32 w_ → RowAt w_ 1 ad pre.length ((pre).map (.int .i64)) := fun w_ k_ => kb_hP_ w_ ((ksR 3 w28.heap.size pre.length).tr ((ksR 3 w28.heap.size pre.length).grow g33) k_)
   replace kb_hS_ : ∀ w_, (ksR 3 w28.heap.size pre.length).r w32 w_ → Sees w0 w_ := fun w_ k_ => kb_hS_ w_ ((ksR 3 w28.heap.size pre.length).tr ((ksR 3 w28.heap.size pre.length).grow g33) k_)
   replace kb_hc29 : ∀ w_, (ksR 3 w28.heap.size pre.length).r w32 w_ → w_.heap[b23]? = some (.cells #[.int .i64 x0, .int .i64 x1, .slice xa xn xc, .slice pa pn pc, .slice qa qn qc] 37 (0, 0)) := fun w_ k_ => kb_hc29 w_ ((ksR 3 w28.heap.size pre.length).tr ((ksR 3 w28.heap.size pre.length).grow g33) k_)
   replace kb_hsz0 : ∀ w_, (ksR 3 w28.heap.size pre.length).r w32 w_ → w28.heap.size ≤ w_.heap.size := fun w_ k_ => kb_hsz0 w_ ((ksR 3 w28.heap.size pre.length).tr ((ksR 3 w28.heap.size pre.length).grow g33) k_)
   have k0_ : (ksR 3 w28.heap.size pre.length).r w28 w32 := ((ksR 3 w28.heap.size pre.length).grow g33)
   apply AOR_ex (hm := by rfl)
   ·intro w_ g_; refine og rfl ?_; refine r_loadAll rfl (kb_hc29 _ g_) (by rfl) ?_; exact ⟨Grow.rfl' _, rfl⟩
   apply AOR_ex (hm := by rfl)
   ·intro w_ g_; refine og rfl ?_; refine r_load (v := .slice ad pre.length pcap) rfl (kb_hb22 _ g_) rfl ?_; exact ⟨Grow.rfl' _, rfl⟩
   refine AOR_so (fun w_ v_ => CopyR 3 w28.heap.size pre w_ v_) (fun _ _ _ k_ h_ => CopyR.ks k_ h_) (by rfl) ?_ ?_
   ·intro w_ g_
    refine og rfl ?_
    cases ad with
    | none =>
     have hpl := row_none (kb_hP_ _ g_)
     have hpn : pre = [] := List.eq_nil_of_length_eq_zero hpl
     have hpc0 := hpe.2 rfl
     subst hpn; subst hpc0
     exact r_gives (v := .slice none 0 0) rfl (cloneNil_calls _) (fun w2_ g2_ => ⟨g2_, .inl ⟨rfl, rfl⟩⟩)
    | some bad =>
     refine r_call rfl (cloneI_calls w_ hpc hpc2 (kb_hP_ _ g_) (by omega)) ?_
     rintro v9_ w9_ ⟨own9_, g9_⟩
     exact ⟨g9_, CopyR.of_own own9_ (kb_hsz0 _ g_) (fun he_ => by have := hpe.1 he_; cases this)⟩
   apply AOR_ex (hm := by rfl)
   ·intro w_ g_; refine og rfl ?_; refine r_move_int rfl ?_; exact ⟨Grow.rfl' _, rfl⟩
   refine AOR_so (fun w_ v_ => ∃ b, v_ = .slice (some ⟨b, 0, none⟩) 1 1 ∧ w28.heap.size ≤ b ∧ w_.heap[b]? = some (.cells #[.int .i64 (j : Int)] 3 (0, 0))) (fun _ _ _ k_ ⟨b_, h1_, h2_, h3_⟩ => ⟨b_, h1_, h2_, by obtain ⟨cs_, g1_, -, -, g4_⟩ := k_.new b_ _ h3_; rw [g4_ (.inr (by simp))] at g1_; exact g1_⟩) (by rfl) ?_ ?_
   ·intro w_ g_
    refine og rfl ?_
    refine r_buildSlice (cs := #[.int .i64 (j : Int)]) (el := 3) (fun w => by kernel_rfl) ?_
    intro b_ w2_ hb_ hc_ g2_
    exact ⟨g2_, b_, rfl, Nat.le_trans (kb_hsz0 _ g_) hb_, hc_⟩
   refine AOR_last 0 (fun w_ v_ => CopyR 3 w28.heap.size (pre ++ [(j : Int)]) w_ v_) (fun _ _ _ g_ h_ => h_.grow g_) (by rfl) (by rfl) ?_ ?_
   ·intro w_ g_ s_
    intro v2_ hv2_; intro v4_ hv4_; show OpG _ _ _ _ _ _
    refine og rfl ?_
    have ow_ := CopyR.own hv2_
    obtain ⟨bl_, rfl, hbl1_, hbl2_⟩ := hv4_
    refine r_appendK rfl rfl rfl rfl ow_ (Row.of_block (n := 1) hbl2_ rfl rfl (by omega)) (by decide) (fun q_ hq_ => by simp at hq_; subst hq_; rfl) (by simp only [maxLen]; omega) (by omega) (kb_hsz0 _ g_) ?_
    intro v9_ w9_ own9_ gr9_ hk9_
    exact ⟨CopyR.keeps hv2_ gr9_ hk9_, trivial, CopyR.of_own (base := w28.heap.size) (pre := pre ++ [(j : Int)]) (by rw [List.length_append, List.map_append]; exact own9_) (Nat.le_refl _) (by simp)⟩
   refine AOR_nil ?_
   intro w34 g35 S_
   replace k0_ := ((ksR 3 w28.heap.size pre.length).tr k0_ g35)
   clear S_
   replace hwN := kb_hwN _ g35
   clear kb_hwN
   replace hc4 := kb_hc4 _ g35
   clear kb_hc4
   replace HI := kb_HI _ g35
   clear kb_HI
   replace HM := kb_HM _ g35
   clear kb_HM
   replace hb21 := kb_hb21 _ g35
   clear kb_hb21
   replace hb22 := kb_hb22 _ g35
   clear kb_hb22
   replace hP_ := kb_hP_ _ g35
   clear kb_hP_
   replace hS_ := kb_hS_ _ g35
   clear kb_hS_
   replace hc29 := kb_hc29 _ g35
   clear kb_hc29
   replace hsz0 := kb_hsz0 _ g35
   clear kb_hsz0
   intro v_c hv_c
   intro v_l hv_l
   intro v_5 hv_5
   refine WL_some (og rfl ?_)
   clear hv_c hv_l
   obtain ⟨b5, cs5, rfl, h5b, hb5, h5a, h5m, h5t⟩ := CopyR.blk hv_5 (by simp)
   have lt0_hc4 := lt_of_heap hc4
   have lt0_hb21 := lt_of_heap hb21
   have lt0_hb22 := lt_of_heap hb22
   have lt0_hc29 := lt_of_heap hc29
   have lt0_hb5 := lt_of_heap hb5
   refine r_call rfl (each_calls _) ?_
   rintro v_ w36 ⟨q3, q4, rfl, hq3, hq4, hcq3, hcq4, g_⟩
   have hNq3 := Nat.le_trans hwN hq3
   have hNq4 := Nat.le_trans hwN hq4
   replace hwN := Nat.le_trans hwN g_.size
   replace hc4 := g_.heap hc4
   replace HI := hgr _ _ _ g_ HI
   replace HM := (fun m_ hm_ => And.intro (HM m_ hm_).1 (g_.heap (HM m_ hm_).2))
   replace hb21 := g_.heap hb21
   replace hb22 := g_.heap hb22
   replace hP_ := hP_.grow g_
   replace hS_ := hS_.trans (Sees.of_grow g_)
   replace hc29 := g_.heap hc29
   replace hsz0 := Nat.le_trans hsz0 g_.size
   replace hb5 := g_.heap hb5
   clear g_
   refine WL_nil ?_
   refine W_block ?_
   refine W_rangeC rfl rfl ?_
   intro rc hst hpd hps has hbd hsz9 hge l9 w6 hl9 hlp hmk g6 hw6
   have lt_hc4 := lt_of_heap hc4
   have lt_hb5 := lt_of_heap hb5
   have lt_hcq3 := lt_of_heap hcq3
   have lt_hcq4 := lt_of_heap hcq4
   have ltm : ∀ m ∈ mk, m < w36.heap.size := fun m_ hm_ => lt_of_heap (HM m_ hm_).2
   replace hwN := Nat.le_trans hwN g6.size
   replace hc4 := g6.heap hc4
   replace HI := hgr _ _ _ g6 HI
   replace HM := (fun m_ hm_ => And.intro (HM m_ hm_).1 (g6.heap (HM m_ hm_).2))
   clear hb21
   clear hb22
   clear hP_
   clear hS_
   clear hc29
   replace hb5 := g6.heap hb5
   replace hcq3 := g6.heap hcq3
   replace hcq4 := g6.heap hcq4
   generalize hmm : w36.heap.size = mk9 at *
   have hNm : N ≤ mk9 := by omega
   have hN6 : N ≤ w6.heap.size := hwN
   have hmm9 : ∀ m ∈ mk9 :: mk, N ≤ m ∧ m < w6.heap.size := fun m_ hm_ => by rcases List.mem_cons.1 hm_ with rfl | h_; (exact ⟨hNm, by omega⟩); (exact ⟨(HM m_ h_).1, by have := ltm m_ h_; omega⟩)
   have hmk9 : ∀ m ∈ mk9 :: mk, w6.heap[m]? = some (.deferred (some [])) := fun m_ hm_ => by rcases List.mem_cons.1 hm_ with rfl | h_; (exact hmk); (exact (HM m_ h_).2)
   obtain ⟨I2, hI2⟩ : ∃ I2 : Nat → World → Prop, I2 = fun i W => I ((own1 words bytes + (Nd.pathsL (kids.take j) pre 0).length) + i) W ∧ W.heap[q3]? = some (.cells #[.int .i64 x0, .int .i64 x1, .slice xa xn xc, .slice pa pn pc, .slice qa qn qc] 37 (0, 0)) ∧ W.heap[q4]? = some (.cells #[.slice (some ⟨b5, 0, none⟩) (pre ++ [(j : Int)]).length cs5.size] 31 (0, 0)) ∧ W.heap[b5]? = some (.cells cs5 3 (0, 0)) ∧ W.heap[b1]? = some (.cells #[.func (.yield l) #[] #[]] 126 (0, 0)) ∧ (∀ m ∈ mk9 :: mk, W.heap[m]? = some (.deferred (some []))) ∧ W.heap[l9]? = some (.loop rc) ∧ w6.heap.size ≤ W.heap.size := ⟨_, rfl⟩
   obtain ⟨Z2, hZ2⟩ : ∃ Z2 : World → Prop, Z2 = fun W => Z W ∧ (∀ m ∈ mk9 :: mk, W.heap[m]? = some (.deferred (some []))) ∧ W.heap[l9]? = some (.loop { rc with state := .done, pending := some .ret }) := ⟨_, rfl⟩
   have i0 : I2 0 w6 := by rw [hI2]; exact ⟨HI, hcq3, hcq4, hb5, hc4, hmk9, hlp, Nat.le_refl _⟩
   have iI : ∀ i W, I2 i W → W.heap[q3]? = some (.cells #[.int .i64 x0, .int .i64 x1, .slice xa xn xc, .slice pa pn pc, .slice qa qn qc] 37 (0, 0)) ∧ W.heap[q4]? = some (.cells #[.slice (some ⟨b5, 0, none⟩) (pre ++ [(j : Int)]).length cs5.size] 31 (0, 0)) ∧ Sees w0 W ∧ RowAt W 1 (some ⟨b5, 0, none⟩) (pre ++ [(j : Int)]).length ((pre ++ [(j : Int)]).map (.int .i64)) := by
    rw [hI2]; rintro i W ⟨g0, g1, g2, g3, -⟩
    exact ⟨g1, g2, (hI _ _ g0).2.2.1, ⟨by simp, by rw [List.length_append, List.length_singleton]; omega, fun _ => ⟨b5, 0, cs5, _, _, rfl, g3, by rw [List.drop_zero, Nat.mul_one]; exact h5t⟩⟩⟩
   have igr : ∀ i W W', Grow W W' → I2 i W → I2 i W' := by
    rw [hI2]; rintro i W W' g ⟨g1, g2, g3, g4, g6_, g7, g8, g9⟩
    exact ⟨hgr _ _ _ g g1, g.heap g2, g.heap g3, g.heap g4, g.heap g6_, fun m_ hm_ => g.heap (g7 m_ hm_), g.heap g8, Nat.le_trans g9 g.size⟩
   have iup : ∀ i W W' b o, I2 i W → w6.heap.size ≤ b → W.heap[b]? = some o → NotC o → Upd b W W' → I2 i W' := by
    rw [hI2]; rintro i W W' b o ⟨g1, g2, g3, g4, g6_, g7, g8, g9⟩ hb ho hn u
    have ne_ : ∀ {k : Nat} {cs : Array Value} {T : TypeId} {fr : Nat × Nat}, W.heap[k]? = some (Obj.cells cs T fr) → k ≠ b := fun hk he => by rw [he, ho] at hk; simp only [Option.some.injEq] at hk; exact hn _ _ _ hk
    exact ⟨hup _ _ _ _ _ g1 (Nat.le_trans hN6 hb) ho hn u, u.heap g2 (ne_ g2), u.heap g3 (ne_ g3), u.heap g4 (ne_ g4), u.heap g6_ (ne_ g6_), fun m_ hm_ => u.heap (g7 m_ hm_) (by have := (hmm9 m_ hm_).2; omega), u.heap g8 (by omega), by rw [u.size]; exact g9⟩
   have izp : ∀ W W' b o, Z2 W → w6.heap.size ≤ b → W.heap[b]? = some o → NotC o → Upd b W W' → Z2 W' := by
    rw [hZ2]; rintro W W' b o ⟨g1, g2, g3⟩ hb ho hn u
    exact ⟨hzp _ _ _ _ g1 (Nat.le_trans hN6 hb) ho hn u, fun m_ hm_ => u.heap (g2 m_ hm_) (by have := (hmm9 m_ hm_).2; omega), u.heap g3 (by omega)⟩
   refine Calls.mono (ih_ w6 (q1 := q3) (q2 := q4) (l := l9) (N := w6.heap.size) (t := kids[j]) (pre := pre ++ [(j : Int)]) (w0 := w0) hat ⟨fun h_ => by simp at h_, fun h_ => by cases h_⟩ h5a h5m (by rw [List.length_append, List.length_singleton]; omega) I2 Z2 (Nat.le_refl _) iI igr iup izp ?_ i0 (by omega)) ?_
   ·rintro i p w7 hp hi2 ad2 c2 R2 h2a h2b
    refine yields_of_W (ps := [43]) (vs := [_]) (n := 49) (by rw [hI2] at hi2; exact hi2.2.2.2.2.2.2.1) hps rfl hsz9 (by rfl) hge ?_
    rw [has, hbd]
    have hl7 : w7.heap[l9]? = some (.loop rc) := by rw [hI2] at hi2; exact hi2.2.2.2.2.2.2.1
    have h37 : w7.heap[b1]? = some (.cells #[.func (.yield l) #[] #[]] 126 (0, 0)) := by rw [hI2] at hi2; exact hi2.2.2.2.2.1
    have hi7 := hi2
    have hkk : Keeps 33 w6.heap.size w7 w7 := fun _ _ _ h_ _ => h_
    have hs7 : w6.heap.size ≤ w7.heap.size := by rw [hI2] at hi2; exact hi2.2.2.2.2.2.2.2
    refine W_region rfl ?_
    refine stp (r_alloc ?_)
    intro b37 w38 hb39 hc40 g41
    refine stn (r_storeAll rfl rfl hc40 (by rfl) (by rfl) (by rfl) ?_)
    intro w42 hc43 u44
    have g45 := g41.upd u44 hb39
    have hN_b37 := Nat.le_trans hs7 hb39
    replace hl7 := g45.heap hl7
    replace h37 := g45.heap h37
    replace hi7 := igr _ _ _ g45 hi7
    replace hkk := hkk.trans (Keeps.grow g45)
    replace R2 := R2.sees (Sees.typ_grow g45)
    replace hs7 := Nat.le_trans hs7 g45.size
    clear u44 g41 hb39 hc40
    refine WL_nil ?_
    refine ⟨rc, hl7, hst, ?_⟩
    have u1 := upd_put (o' := .loop { rc with state := .busy }) hl7
    have kl := put_same (o' := .loop { rc with state := .busy }) hl7
    have hlN : l9 < w6.heap.size := by omega
    have k37 := u1.heap h37 (fun he_ => by rw [he_, hl7] at h37; cases h37)
    have k7b := u1.heap hc43 (fun he_ => by rw [he_, hl7] at hc43; cases hc43)
    have kkk := hkk.trans (Keeps.upd u1 hlN)
    have kR2 := R2.sees (Sees.typ_upd u1 (fun _ _ he_ => by rw [hl7] at he_; cases he_))
    have hi8 := hi7
    rw [hI2] at hi8
    obtain ⟨j1, j2, j3, j4, j6, j7, -, j9⟩ := hi8
    have nb_ : ∀ {k : Nat} {cs : Array Value} {T : TypeId} {fr : Nat × Nat}, w42.heap[k]? = some (Obj.cells cs T fr) → k ≠ l9 := fun hk he => by rw [he, hl7] at hk; cases hk
    have m1 := hup _ _ _ _ _ j1 (by omega) hl7 (fun _ _ _ he_ => by cases he_) u1
    have m2 := u1.heap j2 (nb_ j2)
    have m3 := u1.heap j3 (nb_ j3)
    have m4 := u1.heap j4 (nb_ j4)
    have m7 : ∀ m ∈ mk9 :: mk, _ := fun m_ hm_ => u1.heap (j7 m_ hm_) (fun he_ => by have h_ := j7 m_ hm_; rw [he_, hl7] at h_; cases h_)
    have m9 : w6.heap.size ≤ _ := Nat.le_trans j9 (Nat.le_of_eq u1.size.symm)
    generalize w42.putObj l9 (.loop { rc with state := .busy }) = w8 at *
    clear hi7 hi2 j1 j2 j3 j4 j6 j7 j9 nb_ hkk R2 h37 hl7 u1 hc43 hs7
    refine W_block ?_
    refine W_seq (W_region rfl ?_)
    refine stp (r_load (v := .func (.yield l) #[] #[]) rfl k37 rfl ?_)
    refine stp (r_loadAll rfl k7b (by rfl) ?_)
    refine WL_some (og rfl ?_)
    have hilt : i < (kids[j].paths (pre ++ [(j : Int)])).length := (List.getElem?_eq_some_iff.1 hp).1
    refine r_yield rfl (Yields.mono ?_ (hy ((own1 words bytes + (Nd.pathsL (kids.take j) pre 0).length) + i) p _ (by rw [paths_kid hj hilt]; exact hp) m1 ad2 c2 kR2 h2a h2b))
    rintro v_ w46 ⟨HK_, b9, rfl, HT9, HZ9⟩
    have n2 := HK_ _ _ (by omega) m2 (fun _ _ h_ => by simp at h_)
    have n3 := HK_ _ _ (by omega) m3 (fun _ _ h_ => by simp at h_)
    have n4 := HK_ _ _ (by omega) m4 (fun _ _ h_ => by simp at h_)
    have n37 := HK_ _ _ hN_b1 k37 (fun _ _ h_ => by simp at h_)
    have nl := HK_ _ _ (by omega) kl (fun _ _ h_ => by simp at h_)
    have n7 : ∀ m ∈ mk9 :: mk, _ := fun m_ hm_ => HK_ _ _ (hmm9 m_ hm_).1 (m7 m_ hm_) (fun _ _ h_ => by simp at h_)
    have nk := kkk.trans (HK_.mono hN6)
    refine stp (r_not rfl ?_)
    refine WL_nil ?_
    refine W_cond2 (b := (!b9)) rfl (fun h2 => ?_) (fun h2 => ?_)
    ·-- true
     simp only [Bool.and_eq_true, Bool.or_eq_true, Bool.not_eq_true', Bool.and_eq_false_iff, Bool.or_eq_false_iff, Bool.not_eq_false', decide_eq_true_eq, decide_eq_false_iff_not, Bool.not_true, Bool.not_false, Bool.not_eq_eq_eq_not, Bool.or_false, Bool.and_true, Bool.or_true, Bool.and_false, Bool.false_or, Bool.true_and, Bool.true_or, Bool.false_and, Bool.false_eq_true, Bool.true_eq_false] at h2
     have hb9 : b9 = false := by simpa using h2
     refine W_ret ?_
     have u2 := upd_put (o' := .loop { ({ rc with state := .busy } : Loop) with state := .done, pending := some .ret }) nl
     refine ⟨_, nl, nk.trans (Keeps.upd u2 hlN), false, rfl, (fun h_ => by cases h_), fun _ => ?_⟩
     rw [hZ2]
     exact ⟨hzp _ _ _ _ (HZ9 hb9) (by omega) nl (fun _ _ _ he_ => by cases he_) u2, fun m_ hm_ => u2.heap (n7 m_ hm_) (fun he_ => by have h_ := n7 m_ hm_; rw [he_, nl] at h_; cases h_), put_same nl⟩
    ·-- false
     simp only [Bool.and_eq_true, Bool.or_eq_true, Bool.not_eq_true', Bool.and_eq_false_iff, Bool.or_eq_false_iff, Bool.not_eq_false', decide_eq_true_eq, decide_eq_false_iff_not, Bool.not_true, Bool.not_false, Bool.not_eq_eq_eq_not, Bool.or_false, Bool.and_true, Bool.or_true, Bool.and_false, Bool.false_or, Bool.true_and, Bool.true_or, Bool.false_and, Bool.false_eq_true, Bool.true_eq_false] at h2
     have hb9 : b9 = true := by simpa using h2
     refine W_skip ?_
     have u2 := upd_put (o' := .loop rc) nl
     have hs9 := lt_of_heap nl
     refine ⟨_, nl, ?_⟩
     rw [loop_again hst hpd]
     refine ⟨nk.trans (Keeps.upd u2 hlN), true, rfl, fun _ => ?_, (fun h_ => by cases h_)⟩
     rw [hI2]
     exact ⟨hup _ _ _ _ _ (HT9 hb9) (by omega) nl (fun _ _ _ he_ => by cases he_) u2, u2.heap n2 (fun he_ => by rw [he_, nl] at n2; cases n2), u2.heap n3 (fun he_ => by rw [he_, nl] at n3; cases n3), u2.heap n4 (fun he_ => by rw [he_, nl] at n4; cases n4), u2.heap n37 (fun he_ => by rw [he_, nl] at n37; cases n37), fun m_ hm_ => u2.heap (n7 m_ hm_) (fun he_ => by have h_ := n7 m_ hm_; rw [he_, nl] at h_; cases h_), put_same nl, by rw [u2.size]; omega⟩
   ·rintro r_ w7 ⟨v_, rfl, hI9 | hZ9⟩
    ·
     rw [hI2] at hI9
     obtain ⟨g1, -, -, -, g6_, g7, g8, g9⟩ := hI9
     refine ⟨_, rc, rfl, g8, by rw [hst]; simp, ?_⟩
     simp only [hpd]
     generalize hX : w7.putObj l9 _ = w8
     have u1 : Upd l9 w7 w8 := by rw [← hX]; exact upd_put g8
     have HI8 := hup _ _ _ _ _ g1 (by omega) g8 (fun _ _ _ he_ => by cases he_) u1
     have hc4x := u1.heap g6_ (fun he_ => by rw [he_, g8] at g6_; cases g6_)
     have HM8 : ∀ m ∈ mk9 :: mk, N ≤ m ∧ w8.heap[m]? = some (.deferred (some [])) := fun m_ hm_ => ⟨(hmm9 m_ hm_).1, u1.heap (g7 m_ hm_) (fun he_ => by have h_ := g7 m_ hm_; rw [he_, g8] at h_; cases h_)⟩
     have hwN8 : N ≤ w8.heap.size := by rw [u1.size]; omega
     clear hX u1
     refine W_region rfl ?_
     refine stp (r_add rfl rfl ?_ ?_); constructor <;> omega
     refine stp (r_move_int rfl ?_)
     refine WL_nil ?_
     refine ⟨_, ?_, j + 1, mk9 :: mk, rfl, fr_of ⟨rfl, rfl, rfl, rfl, congrArg (Value.int .i64) (by omega), trivial⟩, by omega, List.nodup_cons.2 ⟨fun h_ => Nat.lt_irrefl _ (ltm _ h_), hnd⟩, hwN8, hc4x, (by rw [pathsL_take _ _ _ hj, ← Nat.add_assoc]; exact HI8), HM8⟩
     omega
    ·
     rw [hZ2] at hZ9
     obtain ⟨g1, g2, g3⟩ := hZ9
     refine ⟨_, _, rfl, g3, by simp, ?_⟩
     simp only []
     generalize hX : w7.putObj l9 _ = w8
     have u1 : Upd l9 w7 w8 := by rw [← hX]; exact upd_put g3
     have hz8 := hzp _ _ _ _ g1 (by omega) g3 (fun _ _ _ he_ => by cases he_) u1
     obtain ⟨w9_, ht_, hJ_⟩ := marks_taken (P := Try.prog) (N := N) Z (fun W_ W2_ b_ o_ hJ_ => hzp W_ W2_ b_ o_ hJ_) (mk9 :: mk) w8 (List.nodup_cons.2 ⟨fun h_ => Nat.lt_irrefl _ (ltm _ h_), hnd⟩) (fun m_ hm_ => ⟨(hmm9 m_ hm_).1, u1.heap (g2 m_ hm_) (fun he_ => by have h_ := g2 m_ hm_; rw [he_, g3] at h_; cases h_)⟩) hz8
     exact retM (vs := []) ht_ trivial (.inr hJ_)
  ·-- false
   replace hlt := of_decide_eq_false hlt
   have hj9 : j = kids.length := by omega
   subst hj9
   rw [List.take_length] at HI
   have HI9 : I (((Nd.mk kind size words bytes kids).paths pre)).length w19 := by rw [paths_len]; exact HI
   refine W_exit ?_
   obtain ⟨w9_, ht_, hJ_⟩ := marks_taken (P := Try.prog) (N := N) (I (((Nd.mk kind size words bytes kids).paths pre)).length) (fun W_ W2_ b_ o_ hJ_ => hup _ W_ W2_ b_ o_ hJ_) mk _ hnd HM HI9
   exact retMn (vs := []) ht_ trivial (.inl hJ_)

set_option maxRecDepth 100000 in
theorem paths_calls (w : World) {y0 y1 most : Int} {ya za ua : Option Addr} {yn yc zn zc un uc : Nat} {t : Nd} (hT0 : NodeR w [.int .i64 y0, .int .i64 y1, .slice ya yn yc, .slice za zn zc, .slice ua un uc] t) (hd : t.dep ≤ 1000) (hm : inR .i64 most) : Calls Try.prog 24 #[.agg #[.int .i64 y0, .int .i64 y1, .slice ya yn yc, .slice za zn zc, .slice ua un uc], .int .i64 most] w (Ret fun v w' => ∃ ad c xs, v = .slice ad ((t.paths []).take (min most 10000).toNat).length c ∧ ((t.paths []).take (min most 10000).toNat).length ≤ c ∧ c ≤ maxLen ∧ RowAt w' 2 ad ((t.paths []).take (min most 10000).toNat).length xs ∧ PathsR w' xs ((t.paths []).take (min most 10000).toNat) ∧ Grow w w') := by
 simp only [inR] at hm
 obtain ⟨M, hM⟩ : ∃ M, M = (min most 10000).toNat := ⟨_, rfl⟩
 rw [← hM]
 have hM4 : M ≤ 10000 := by omega
 have G := Grow.rfl' w
 refine calls_ret Try.func24 Try.ntmps24 Try.results24 rfl rfl ?_
 refine W_seq (W_region rfl ?_)
 refine WL_some (og rfl ?_)
 (first | refine r_box_agg rfl ?_ | refine r_box_int rfl ?_ | refine r_box_slice rfl ?_ | refine r_box rfl rfl ?_)
 intro b1 w2 hb3 hc4 g5
 have hge6 := Nat.le_trans G.size hb3
 replace G := G.tr g5
 clear g5 hb3
 refine WL_some (og rfl ?_)
 (first | refine r_box_agg rfl ?_ | refine r_box_int rfl ?_ | refine r_box_slice rfl ?_ | refine r_box rfl rfl ?_)
 intro b7 w8 hb9 hc10 g11
 have hge12 := Nat.le_trans G.size hb9
 replace hc4 := g11.heap hc4
 replace G := G.tr g11
 clear g11 hb9
 refine stp (r_assign_slice rfl ?_)
 refine WL_nil ?_
 refine W_seq (W_region rfl ?_)
 refine stp (r_alloc ?_)
 intro b13 w14 hb15 hc16 g17
 refine WL_nil ?_
 refine W_seq ?_
 refine W_seq (W_region rfl ?_)
 have hge18 := Nat.le_trans G.size hb15
 have ne19 := Nat.ne_of_lt (Nat.lt_of_lt_of_le (lt_of_heap hc4) hb15)
 have ne20 := Nat.ne_of_lt (Nat.lt_of_lt_of_le (lt_of_heap hc10) hb15)
 replace hc4 := g17.heap hc4
 replace hc10 := g17.heap hc10
 replace G := G.tr g17
 clear g17 hb15
 refine stp (r_loadAll rfl hc4 (by rfl) ?_)
 refine WL_some (og rfl ?_)
 have lt0_hc4 := lt_of_heap hc4
 have lt0_hc10 := lt_of_heap hc10
 have lt0_hc16 := lt_of_heap hc16
 refine r_call rfl (each_calls _) ?_
 rintro v_ w21 ⟨q1, q2, rfl, hq1, hq2, hc1, hc2, g_⟩
 replace hc4 := g_.heap hc4
 replace hc10 := g_.heap hc10
 replace hc16 := g_.heap hc16
 replace G := G.tr g_
 clear g_
 refine WL_nil ?_
 refine W_block ?_
 refine W_rangeC rfl rfl ?_
 intro rc hst hpd hps has hbd hsz hge l w6 hl hlp hmk g6 hw6
 have lt_hc4 := lt_of_heap hc4
 have lt_hc10 := lt_of_heap hc10
 have lt_hc16 := lt_of_heap hc16
 have lt_hc1 := lt_of_heap hc1
 have lt_hc2 := lt_of_heap hc2
 replace hc4 := g6.heap hc4
 replace hc10 := g6.heap hc10
 replace hc16 := g6.heap hc16
 replace hc1 := g6.heap hc1
 replace hc2 := g6.heap hc2
 have hGs := G.size
 have hg5 := hge18
 have hg3 := hge12
 replace G := G.tr g6
 generalize hmm : w21.heap.size = mk at *
 obtain ⟨I, hI⟩ : ∃ I : Nat → World → Prop, I = fun j W => j ≤ M ∧ (∃ v xs, W.heap[b13]? = some (.cells #[v] 53 (0, 0)) ∧ W.ownsRow w.heap.size 33 2 v j xs ∧ PathsR (seeT 3 W) xs ((t.paths []).take j)) ∧ W.heap[b7]? = some (.cells #[.int .i64 most] 3 (0, 0)) ∧ W.heap[q1]? = some (.cells #[.int .i64 y0, .int .i64 y1, .slice ya yn yc, .slice za zn zc, .slice ua un uc] 37 (0, 0)) ∧ W.heap[q2]? = some (.cells #[.slice none 0 0] 31 (0, 0)) ∧ W.heap[l]? = some (.loop rc) ∧ W.heap[mk]? = some (.deferred (some [])) ∧ Grow w W := ⟨_, rfl⟩
 obtain ⟨Z, hZ⟩ : ∃ Z : World → Prop, Z = fun W => ((∃ v xs, W.heap[b13]? = some (.cells #[v] 53 (0, 0)) ∧ W.ownsRow w.heap.size 33 2 v M xs ∧ PathsR (seeT 3 W) xs ((t.paths []).take M)) ∧ M ≤ (t.paths []).length) ∧ W.heap[l]? = some (.loop { rc with state := .done, pending := some (.exit 0) }) ∧ W.heap[mk]? = some (.deferred (some [])) ∧ Grow w W := ⟨_, rfl⟩
 have i0 : I 0 w6 := by rw [hI]; exact ⟨Nat.zero_le _, ⟨_, [], hc16, World.ownsRow_nil _ _ _ _, by simpa using PathsR.nil⟩, hc10, hc1, hc2, hlp, hmk, G⟩
 have iI : ∀ i W, I i W → W.heap[q1]? = some (.cells #[.int .i64 y0, .int .i64 y1, .slice ya yn yc, .slice za zn zc, .slice ua un uc] 37 (0, 0)) ∧ W.heap[q2]? = some (.cells #[.slice none ([] : List Int).length 0] 31 (0, 0)) ∧ Sees w W ∧ RowAt W 1 none ([] : List Int).length (([] : List Int).map (.int .i64)) := by rw [hI]; rintro i W ⟨-, -, -, g1, g2, -, -, g3⟩; exact ⟨g1, g2, Sees.of_grow g3, RowAt.empty _ _ _⟩
 have igr : ∀ i W W', Grow W W' → I i W → I i W' := by rw [hI]; rintro i W W' g ⟨g0, ⟨v, xs, g1, g2, g3⟩, g4, g5, g6, g7, g8, g9⟩; exact ⟨g0, ⟨v, xs, g.heap g1, own_grow g2 g, g3.sees (Sees.typ_grow g)⟩, g.heap g4, g.heap g5, g.heap g6, g.heap g7, g.heap g8, g9.tr g⟩
 have iup : ∀ i W W' b o, I i W → w6.heap.size ≤ b → W.heap[b]? = some o → NotC o → Upd b W W' → I i W' := by
  rw [hI]; rintro i W W' b o ⟨g0, ⟨v, xs, g1, g2, g3⟩, g4, g5, g6, g7, g8, g9⟩ hb ho hn u
  have ne_ : ∀ {k : Nat} {cs : Array Value} {T : TypeId} {fr : Nat × Nat}, W.heap[k]? = some (Obj.cells cs T fr) → k ≠ b := fun hk he => by rw [he, ho] at hk; simp only [Option.some.injEq] at hk; exact hn _ _ _ hk
  exact ⟨g0, ⟨v, xs, u.heap g1 (ne_ g1), (own_upd g2 u (own_neC g2 fun cs T fr he => ne_ he rfl)), g3.sees (Sees.typ_upd u (fun cs fr he => ne_ he rfl))⟩, u.heap g4 (ne_ g4), u.heap g5 (ne_ g5), u.heap g6 (ne_ g6), u.heap g7 (by omega), u.heap g8 (by omega), g9.upd u (by omega)⟩
 have izp : ∀ W W' b o, Z W → w6.heap.size ≤ b → W.heap[b]? = some o → NotC o → Upd b W W' → Z W' := by
  rw [hZ]; rintro W W' b o ⟨⟨⟨v, xs, g1, g2, g3⟩, g4⟩, g7, g8, g9⟩ hb ho hn u
  have ne_ : ∀ {k : Nat} {cs : Array Value} {T : TypeId} {fr : Nat × Nat}, W.heap[k]? = some (Obj.cells cs T fr) → k ≠ b := fun hk he => by rw [he, ho] at hk; simp only [Option.some.injEq] at hk; exact hn _ _ _ hk
  exact ⟨⟨⟨v, xs, u.heap g1 (ne_ g1), (own_upd g2 u (own_neC g2 fun cs T fr he => ne_ he rfl)), g3.sees (Sees.typ_upd u (fun cs fr he => ne_ he rfl))⟩, g4⟩, u.heap g7 (by omega), u.heap g8 (by omega), g9.upd u (by omega)⟩
 refine Calls.mono (each1_calls _ w6 (q1 := q1) (q2 := q2) (l := l) (N := w6.heap.size) (t := t) (pre := []) (w0 := w) hT0 ⟨fun _ => rfl, fun _ => rfl⟩ (Nat.le_refl _) (Nat.zero_le _) (by simpa using hd) I Z (Nat.le_refl _) iI igr iup izp ?_ i0 (Nat.le_refl _)) ?_
 ·rintro i p w7 hp hi7 ad2 c2 R2 h2a h2b
  rw [hI] at hi7
  obtain ⟨hiM, ⟨vc2, xs, h1, own2, hPR⟩, h3, h4, h5, h6, h7, G7⟩ := hi7
  refine yields_of_W (ps := [9]) (vs := [_]) (n := 20) h6 hps rfl hsz (by rfl) hge ?_
  rw [has, hbd]
  have hkk : Keeps 33 w6.heap.size w7 w7 := fun _ _ _ h_ _ => h_
  refine W_region rfl ?_
  refine stp (r_alloc ?_)
  intro b22 w23 hb24 hc25 g26
  refine stn (r_storeAll rfl rfl hc25 (by rfl) (by rfl) (by rfl) ?_)
  intro w27 hc28 u29
  have g30 := g26.upd u29 hb24
  replace h1 := g30.heap h1
  replace h3 := g30.heap h3
  replace h4 := g30.heap h4
  replace h5 := g30.heap h5
  replace h6 := g30.heap h6
  replace h7 := g30.heap h7
  replace own2 := own_grow own2 g30
  replace G7 := G7.tr g30
  replace hPR := hPR.sees (Sees.typ_grow g30)
  replace R2 := R2.sees (Sees.typ_grow g30)
  replace hkk := hkk.trans (Keeps.grow g30)
  clear u29 g26 hb24 hc25
  refine WL_nil ?_
  refine ⟨rc, h6, hst, ?_⟩
  have u1 := upd_put (o' := .loop { rc with state := .busy }) h6
  have k6 := put_same (o' := .loop { rc with state := .busy }) h6
  have lt6 := lt_of_heap hc28
  have kb := u1.heap hc28 (fun he_ => by rw [he_, h6] at hc28; cases hc28)
  have k1 := u1.heap h1 (fun he_ => by rw [he_, h6] at h1; cases h1)
  have k3 := u1.heap h3 (fun he_ => by rw [he_, h6] at h3; cases h3)
  have k4 := u1.heap h4 (fun he_ => by rw [he_, h6] at h4; cases h4)
  have k5 := u1.heap h5 (fun he_ => by rw [he_, h6] at h5; cases h5)
  have k2 := own_upd own2 u1 (own_ne_loop own2 h6)
  have k7 := u1.heap h7 (by omega)
  have G8 := G7.upd u1 (by omega)
  have hlN : l < w6.heap.size := by omega
  have kk1 := hkk.trans (Keeps.upd u1 hlN)
  have kP := hPR.sees (Sees.typ_upd u1 (fun _ _ he_ => by rw [h6] at he_; cases he_))
  have kR := R2.sees (Sees.typ_upd u1 (fun _ _ he_ => by rw [h6] at he_; cases he_))
  generalize w27.putObj l (.loop { rc with state := .busy }) = w8 at *
  clear u1 h1 own2 h3 h4 h5 h7 hkk hPR R2 hc28
  obtain ⟨ado, n2, c2o, rfl⟩ := own_slice k2
  have hn2 : n2 = i := own_len k2
  rw [hn2] at k1 k2
  clear hn2
  refine W_block ?_
  refine W_seq ?_
  refine W_seq (W_region rfl ?_)
  refine stp (r_load (v := .slice ado i c2o) rfl k1 rfl ?_)
  refine stp (r_len rfl rfl rfl ?_)
  refine stp (r_load (v := .int .i64 most) rfl k3 rfl ?_)
  refine stp (r_min rfl rfl rfl ?_)
  refine stp (r_geq rfl rfl ?_)
  refine WL_nil ?_
  refine W_cond2 (b := (decide ((i : Int) ≥ (if 10000 < most then 10000 else most)))) rfl (fun h2 => ?_) (fun h2 => ?_)
  ·-- true
   replace h2 := of_decide_eq_true h2
   have hiM2 : i = M := by split at h2 <;> omega
   refine W_exit ?_
   -- exit
   have u2 := upd_put (o' := .loop { ({ rc with state := .busy } : Loop) with state := .done, pending := some (.exit 0) }) k6
   refine ⟨_, k6, kk1.trans (Keeps.upd u2 hlN), false, rfl, (fun h_ => by cases h_), fun _ => ?_⟩
   rw [hZ]
   exact ⟨⟨⟨_, xs, u2.heap k1 (fun he_ => by rw [he_, k6] at k1; cases k1), hiM2 ▸ own_upd k2 u2 (own_ne_loop k2 k6), hiM2 ▸ kP.sees (Sees.typ_upd u2 (fun _ _ he_ => by rw [k6] at he_; cases he_))⟩, by have := (List.getElem?_eq_some_iff.1 hp).1; omega⟩, put_same k6, u2.heap k7 (by omega), G8.upd u2 (by omega)⟩
  ·-- false
   replace h2 := of_decide_eq_false h2
   have hiM2 : i < M := by split at h2 <;> omega
   refine W_skip ?_
   refine W_region rfl ?_
   refine stp (r_load (v := .slice ado i c2o) rfl k1 rfl ?_)
   refine stp (r_loadAll rfl kb (by rfl) ?_)
   refine stp (r_buildSlice (cs := #[.slice ad2 p.1.length c2, .int .i64 p.2]) (el := 33) (fun w => by kernel_rfl) ?_)
   intro bs31 w32 hb33 hc34 g35
   replace k1 := g35.heap k1
   replace k3 := g35.heap k3
   replace k4 := g35.heap k4
   replace k5 := g35.heap k5
   replace k6 := g35.heap k6
   replace k7 := g35.heap k7
   replace kb := g35.heap kb
   replace k2 := own_grow k2 g35
   replace G8 := G8.tr g35
   replace kk1 := kk1.trans (Keeps.grow g35)
   replace kP := kP.sees (Sees.typ_grow g35)
   replace kR := kR.sees (Sees.typ_grow g35)
   clear g35
   refine stp (r_append rfl rfl rfl rfl k2 (Row.of_block (n := 1) hc34 rfl rfl (by omega)) (fun q_ hq_ => by simp at hq_; rcases hq_ with rfl | rfl <;> rfl) (by simp only [maxLen]; omega) (by omega) G8.size ?_)
   intro v9 w9 own9 gr9
   have G9 := G8.grown gr9 (own_ge k2)
   have m1 := gr_heap gr9 k1 (own_ne k2 k1 (by decide))
   have m3 := gr_heap gr9 k3 (own_ne k2 k3 (by decide))
   have m4 := gr_heap gr9 k4 (own_ne k2 k4 (by decide))
   have m5 := gr_heap gr9 k5 (own_ne k2 k5 (by decide))
   have m6 := gr_heap gr9 k6 (own_ne_loop k2 k6)
   have m7 := gr_heap gr9 k7 (own_ne_def k2 k7)
   have mP := kP.sees (Sees.typ_gr gr9 k2 (by decide))
   have mR := kR.sees (Sees.typ_gr gr9 k2 (by decide))
   have mk9 : Keeps 33 w6.heap.size w7 w9 := kk1.trans (Keeps.gr gr9 k2)
   refine stn (r_store1 (v := v9) rfl rfl (own_one own9) m1 (by rfl) (by rfl) ?_)
   intro w10 n1 u10
   refine WL_nil ?_
   have n6 := u10.heap m6 (by omega)
   have u2 := upd_put (o' := .loop rc) n6
   refine ⟨_, n6, ?_⟩
   rw [loop_again hst hpd]
   have own10 := own_upd (own_upd own9 u10 (own_ne own9 m1 (by decide))) u2 (own_ne_loop (own_upd own9 u10 (own_ne own9 m1 (by decide))) n6)
   refine ⟨(mk9.trans (Keeps.upd u10 (by omega))).trans (Keeps.upd u2 hlN), true, rfl, fun _ => ?_, (fun h_ => by cases h_)⟩
   rw [hI]
   exact ⟨hiM2, ⟨_, _, u2.heap n1 (by omega), own10, by rw [List.take_add_one, hp]; exact (PathsR.snoc mR h2a h2b mP).sees (Sees.trans (Sees.typ_upd u10 (fun _ _ he_ => by rw [m1] at he_; simp at he_)) (Sees.typ_upd u2 (fun _ _ he_ => by rw [n6] at he_; cases he_)))⟩, u2.heap (u10.heap m3 (by omega)) (by omega), u2.heap (u10.heap m4 (by omega)) (by omega), u2.heap (u10.heap m5 (by omega)) (by omega), put_same n6, u2.heap (u10.heap m7 (by omega)) (by omega), (G9.upd u10 (by omega)).upd u2 (by omega)⟩
 ·rintro r_ w7 ⟨v_, rfl, hI9 | hZ9⟩
  ·
   rw [hI] at hI9
   obtain ⟨g0, ⟨v, xs, g1, g2, g3⟩, -, -, -, g7, g8, g9⟩ := hI9
   refine ⟨_, rc, rfl, g7, by rw [hst]; simp, ?_⟩
   simp only [hpd]
   rw [List.take_length] at g3
   have hLL : (t.paths []).take M = (t.paths []) := List.take_of_length_le g0
   generalize hX : w7.putObj l _ = w8
   have u1 : Upd l w7 w8 := by rw [← hX]; exact upd_put g7
   have k1 := u1.heap g1 (fun he_ => by rw [he_, g7] at g1; cases g1)
   have k2 := own_upd g2 u1 (own_ne_loop g2 g7)
   have k7 := u1.heap g8 (by omega)
   have kP := g3.sees (Sees.typ_upd u1 (fun _ _ he_ => by rw [g7] at he_; cases he_))
   clear G
   have G := g9.upd u1 (by omega)
   clear u1 hX
   obtain ⟨ado, n2, c2o, rfl⟩ := own_slice k2
   have hn2 := own_len k2
   rw [hn2] at k1 k2
   clear hn2
   refine W_seq (W_region rfl ?_)
   refine stp (r_load (v := .slice ado ((t.paths []).length) c2o) rfl k1 rfl ?_)
   refine stp (r_assign_slice rfl ?_)
   refine WL_nil ?_
   refine W_ret ?_
   have u2 := upd_put (o' := .deferred none) k7
   have own9 := own_upd k2 u2 (own_ne_def k2 k7)
   have hP9 := kP.sees (Sees.trans (Sees.typ_upd u2 (fun _ _ he_ => by rw [k7] at he_; cases he_)) (Sees.typ _ _))
   obtain ⟨ad9, c9, hs9, h9a, h9b, R9⟩ := own_row own9 (by omega)
   simp only [Value.slice.injEq] at hs9
   obtain ⟨rfl, -, rfl⟩ := hs9
   rw [hLL]
   exact retM (vs := [_]) ⟨mk, _, rfl, run_takeDeferred k7, rfl⟩ ⟨rfl, trivial⟩ ⟨_, _, _, rfl, h9a, h9b, R9, hP9, G.upd u2 (by omega)⟩
  ·
   rw [hZ] at hZ9
   obtain ⟨⟨⟨v, xs, g1, g2, g3⟩, g4⟩, g7, g8, g9⟩ := hZ9
   refine ⟨_, _, rfl, g7, by simp, ?_⟩
   simp only []
   generalize hX : w7.putObj l _ = w8
   have u1 : Upd l w7 w8 := by rw [← hX]; exact upd_put g7
   have k1 := u1.heap g1 (fun he_ => by rw [he_, g7] at g1; cases g1)
   have k2 := own_upd g2 u1 (own_ne_loop g2 g7)
   have k7 := u1.heap g8 (by omega)
   have kP := g3.sees (Sees.typ_upd u1 (fun _ _ he_ => by rw [g7] at he_; cases he_))
   clear G
   have G := g9.upd u1 (by omega)
   clear u1 hX
   obtain ⟨ado, n2, c2o, rfl⟩ := own_slice k2
   have hn2 := own_len k2
   rw [hn2] at k1 k2
   clear hn2
   refine W_seq (W_region rfl ?_)
   refine stp (r_load (v := .slice ado M c2o) rfl k1 rfl ?_)
   refine stp (r_assign_slice rfl ?_)
   refine WL_nil ?_
   refine W_ret ?_
   have u2 := upd_put (o' := .deferred none) k7
   have own9 := own_upd k2 u2 (own_ne_def k2 k7)
   have hP9 := kP.sees (Sees.trans (Sees.typ_upd u2 (fun _ _ he_ => by rw [k7] at he_; cases he_)) (Sees.typ _ _))
   obtain ⟨ad9, c9, hs9, h9a, h9b, R9⟩ := own_row own9 (by omega)
   simp only [Value.slice.injEq] at hs9
   obtain ⟨rfl, -, rfl⟩ := hs9
   have hLM : ((t.paths []).take M).length = M := by rw [List.length_take]; omega
   rw [hLM]
   exact retM (vs := [_]) ⟨mk, _, rfl, run_takeDeferred k7, rfl⟩ ⟨rfl, trivial⟩ ⟨_, _, _, rfl, h9a, h9b, R9, hP9, G.upd u2 (by omega)⟩
end Go.Proofs.Ytfhfecepcnapfaa.K
