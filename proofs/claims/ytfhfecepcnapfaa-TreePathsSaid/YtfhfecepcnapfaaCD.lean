/- tree.Paths of things that hold nothing (printed by p10.py). -/
import Derived.Test.YtfhfecepcnapfaaT
import Derived.Test.YtfhfecepcnapfaaJ14
import Derived.Test.YtfhfecepcnapfaaT11
import Derived.Test.YtfhfecepcnapfaaP08
import Derived.Test.YtfhfecepcnapfaaPtr
import Derived.Test.YtfhfecepcnapfaaCA
set_option linter.unusedVariables false
set_option linter.unusedSimpArgs false
namespace Go.Proofs.Ytfhfecepcnapfaa.K
open Go Go.RowKit Go.Proofs
attribute [local irreducible] Run1 OpG WL W AO Gives
set_option maxRecDepth 100000 in
theorem cloneNil_calls (w : World)  : Gives Try.prog 68 #[.slice none 0 0] w (.slice none 0 0) := by
 have G := Grow.rfl' w
 refine gives_of Try.func68 Try.ntmps68 Try.results68 rfl rfl ?_
 refine W_seq (W_region rfl ?_)
 refine stp (r_assign_slice rfl ?_)
 refine WL_nil ?_
 refine W_seq ?_
 refine W_seq (W_region rfl ?_)
 refine stp (r_move_slice rfl ?_)
 refine stp (r_eqlNil rfl rfl ?_)
 refine WL_nil ?_
 refine W_true rfl ?_
 refine W_seq (W_region rfl ?_)
 refine stp (r_assign_slice rfl ?_)
 refine WL_nil ?_
 refine W_ret ?_
 refine ret1 (res_tmp (v := .slice none 0 0) rfl) ⟨?_, G⟩
 rfl

set_option maxRecDepth 100000 in
theorem each_calls (w : World) {y0 y1 : Int} {ya za ua : Option Addr} {yn yc zn zc un uc : Nat} {ad : Option Addr} {n c : Nat} : Calls Try.prog 40 #[.agg #[.int .i64 y0, .int .i64 y1, .slice ya yn yc, .slice za zn zc, .slice ua un uc], .slice ad n c] w (Ret fun v w' => ∃ b1 b2, v = .func (.func 67) #[] #[.pointer (some ⟨b1, 0, none⟩), .pointer (some ⟨b2, 0, none⟩)] ∧ w.heap.size ≤ b1 ∧ w.heap.size ≤ b2 ∧ w'.heap[b1]? = some (.cells #[.int .i64 y0, .int .i64 y1, .slice ya yn yc, .slice za zn zc, .slice ua un uc] 37 (0, 0)) ∧ w'.heap[b2]? = some (.cells #[.slice ad n c] 31 (0, 0)) ∧ Grow w w') := by
 have G := Grow.rfl' w
 refine calls_ret Try.func40 Try.ntmps40 Try.results40 rfl rfl ?_
 refine W_seq (W_region rfl ?_)
 refine WL_some (og rfl ?_)
 (first | refine r_box_agg rfl ?_ | refine r_box_int rfl ?_ | refine r_box_slice rfl ?_ | refine r_box rfl rfl ?_)
 intro b1 w2 hb3 hc4 g5
 have hge6 := Nat.le_trans G.size hb3
 replace G := G.tr g5
 clear g5 hb3
 refine WL_some (og rfl ?_)
 (first | refine r_box_agg rfl ?_ | refine r_box_int rfl ?_ | refine r_box_slice rfl ?_ | refine r_box rfl rfl ?_)
 intro b7 w8 hb9 hc10 g11
 have hge12 := Nat.le_trans G.size hb9
 replace hc4 := g11.heap hc4
 replace G := G.tr g11
 clear g11 hb9
 refine stp (r_assign (v := .nilFunc) rfl ?_)
 refine WL_nil ?_
 refine W_seq (W_region rfl ?_)
 refine stp (r_makeFunc (vs := []) (us := [.pointer (some ⟨b1, 0, none⟩), .pointer (some ⟨b7, 0, none⟩)]) rfl rfl ?_)
 refine stp (r_assign (v := .func (.func 67) #[] #[.pointer (some ⟨b1, 0, none⟩), .pointer (some ⟨b7, 0, none⟩)]) rfl ?_)
 refine WL_nil ?_
 refine W_ret ?_
 refine ret1 (res_tmp (v := .func (.func 67) #[] #[.pointer (some ⟨b1, 0, none⟩), .pointer (some ⟨b7, 0, none⟩)]) rfl) ⟨_, _, rfl, hge6, hge12, hc4, hc10, G⟩

set_option maxRecDepth 100000 in
theorem each0_calls (w : World) {q1 q2 l : Nat} {y0 y1 : Int} {ya za ua : Option Addr} {yn yc zn zc uc : Nat} (hyn : yn ≤ 1000) (hzn : zn ≤ 1000) (I : Nat → World → Prop) (hI : ∀ i w', I i w' → w'.heap[q1]? = some (.cells #[.int .i64 y0, .int .i64 y1, .slice ya yn yc, .slice za zn zc, .slice ua 0 uc] 37 (0, 0)) ∧ w'.heap[q2]? = some (.cells #[.slice none 0 0] 31 (0, 0))) (hgr : ∀ i w' w'', Grow w' w'' → I i w' → I i w'') (hy : ∀ i w', i < (1 + yn + zn) → I i w' → Yields Try.prog l #[.agg #[.slice none 0 0, .int .i64 ((i : Int) - 1)]] w' (fun v w'' => v = .bool true ∧ I (i + 1) w'' ∧ ∀ (b : Nat) (cs : Array Value) (fr : Nat × Nat), w'.heap[b]? = some (Obj.cells cs 126 fr) → w''.heap[b]? = some (Obj.cells cs 126 fr))) (h0 : I 0 w) : Calls Try.prog 67 #[.func (.yield l) #[] #[], .pointer (some ⟨q1, 0, none⟩), .pointer (some ⟨q2, 0, none⟩)] w (Ret fun v w' => I (1 + yn + zn) w') := by
 refine calls_ret Try.func67 Try.ntmps67 Try.results67 rfl rfl ?_
 have HI := h0
 refine W_seq (W_region rfl ?_)
 refine WL_some (og rfl ?_)
 (first | refine r_box_agg rfl ?_ | refine r_box_int rfl ?_ | refine r_box_slice rfl ?_ | refine r_box rfl rfl ?_)
 intro b1 w2 hb3 hc4 g5
 replace HI := hgr _ _ _ g5 HI
 clear g5 hb3
 refine WL_nil ?_
 obtain ⟨hb6, hb7⟩ := hI _ _ HI
 refine W_seq ?_
 refine W_seq (W_region rfl ?_)
 refine stp (r_fieldAddr rfl ?_)
 refine stp (r_load (v := .slice ya yn yc) rfl hb6 rfl ?_)
 refine stp (r_len rfl rfl rfl ?_)
 refine stp (r_add rfl rfl ?_ ?_); constructor <;> omega
 refine stp (r_fieldAddr rfl ?_)
 refine stp (r_load (v := .slice za zn zc) rfl hb6 rfl ?_)
 refine stp (r_len rfl rfl rfl ?_)
 refine WL_some (og rfl ?_)
 refine r_add rfl rfl ?_ ?_; constructor <;> omega
 rw [show 1 + (yn : Int) + (zn : Int) = (((1 + yn + zn) : Nat) : Int) from by omega]
 refine stp (r_move_int rfl ?_)
 refine WL_nil ?_
 refine W_block ?_
 refine W_loop (fun m_ e_ w_ => ∃ (k : Nat), m_ = (1 + yn + zn) - k ∧ Fr [(1, .pointer (some ⟨q1, 0, none⟩)), (2, .pointer (some ⟨q2, 0, none⟩)), (3, .pointer (some ⟨b1, 0, none⟩)), (15, .int .i64 (((1 + yn + zn) : Nat) : Int)), (16, .int .i64 (k : Int))] e_ ∧ (k ≤ (1 + yn + zn)) ∧ (w_.heap[b1]? = some (.cells #[.func (.yield l) #[] #[]] 126 (0, 0))) ∧ (I k w_)) _ ⟨0, rfl, fr_of ⟨rfl, rfl, rfl, rfl, rfl, trivial⟩, by omega, hc4, HI⟩ ?_
 clear HI hc4 hb6 hb7
 rintro m_ e_ w8 ⟨k, rfl, ⟨e9, rfl⟩, hk, hc4, HI⟩
 obtain ⟨hb10, hb11⟩ := hI k _ HI
 refine W_seq (W_region rfl ?_)
 refine stp (r_lss rfl rfl ?_)
 refine WL_nil ?_
 refine W_seq ?_
 refine W_cond2 (b := (decide ((k : Int) < (((1 + yn + zn) : Nat) : Int)))) rfl (fun hlt => ?_) (fun hlt => ?_)
 ·-- true
  replace hlt := of_decide_eq_true hlt
  refine W_skip ?_
  refine W_seq ?_
  refine W_block ?_
  refine W_seq (W_region rfl ?_)
  refine stp (r_move_int rfl ?_)
  refine stp (r_assign_int rfl ?_)
  refine WL_nil ?_
  refine W_seq ?_
  refine W_any 6 [[], [], [0], [], [0], [3, 2, 1, 0]] mixed (by kernel_rfl) (by kernel_rfl) (by kernel_rfl) ?_
  intro w12 g13
  replace hc4 := g13.heap hc4
  replace HI := hgr _ _ _ g13 HI
  replace hb10 := g13.heap hb10
  replace hb11 := g13.heap hb11
  clear g13
  apply AO_ex
  ·intro w_ g_; refine og rfl ?_; refine r_load (v := .func (.yield l) #[] #[]) rfl (g_.heap hc4) rfl ?_; exact ⟨Grow.rfl' _, rfl⟩
  apply AO_ex
  ·intro w_ g_; refine og rfl ?_; refine r_load (v := .slice none 0 0) rfl (g_.heap hb11) rfl ?_; exact ⟨Grow.rfl' _, rfl⟩
  apply AO_ex
  ·intro w_ g_; refine og rfl ?_; exact r_gives (v := .slice none 0 0) rfl (cloneNil_calls _) (fun w2_ g2_ => ⟨g2_, rfl⟩)
  apply AO_ex
  ·intro w_ g_; refine og rfl ?_; refine r_move_int rfl ?_; exact ⟨Grow.rfl' _, rfl⟩
  apply AO_ex
  ·intro w_ g_; refine og rfl ?_; refine r_sub rfl rfl ?_ ?_; constructor <;> omega; exact ⟨Grow.rfl' _, rfl⟩
  apply AO_ex
  ·intro w_ g_; refine og rfl ?_; refine r_build (v := .agg #[.slice none 0 0, .int .i64 ((k : Int) - 1)]) (fun w => by kernel_rfl) ?_; exact ⟨Grow.rfl' _, rfl⟩
  refine AO_nil ?_
  intro w14 g15
  replace hc4 := g15.heap hc4
  replace HI := hgr _ _ _ g15 HI
  replace hb10 := g15.heap hb10
  replace hb11 := g15.heap hb11
  clear g15
  refine stp (r_yield rfl (Yields.mono ?_ (hy k _ (by omega) HI)))
  rintro v_ w16 ⟨rfl, HI2, HF_⟩
  replace hc4 := HF_ _ _ _ hc4
  clear HI
  refine stp (r_not_f rfl rfl ?_)
  refine WL_nil ?_
  refine W_false rfl ?_
  refine W_skip ?_
  refine W_region rfl ?_
  refine stp (r_add rfl rfl ?_ ?_); constructor <;> omega
  refine stp (r_move_int rfl ?_)
  refine WL_nil ?_
  refine ⟨_, ?_, k + 1, rfl, fr_of ⟨rfl, rfl, rfl, rfl, congrArg (Value.int .i64) (by omega), trivial⟩, by omega, hc4, HI2⟩
  omega
 ·-- false
  replace hlt := of_decide_eq_false hlt
  have hk9 : (1 + yn + zn) = k := by omega
  rw [hk9]
  obtain ⟨hb17, hb18⟩ := hI k _ HI
  refine W_exit ?_
  refine W_seq (W_region rfl ?_)
  refine stp (r_fieldAddr rfl ?_)
  refine stp (r_load (v := .slice ua 0 uc) rfl hb17 rfl ?_)
  refine stp (r_len rfl rfl rfl ?_)
  refine stp (r_move_int rfl ?_)
  refine WL_nil ?_
  refine W_block ?_
  refine W_loop (fun m_ e_ w_ => m_ = 0 ∧ Fr [(2, .pointer (some ⟨q2, 0, none⟩)), (3, .pointer (some ⟨b1, 0, none⟩)), (29, .slice ua 0 uc), (30, .int .i64 0), (31, .int .i64 0)] e_ ∧ (w_.heap[b1]? = some (.cells #[.func (.yield l) #[] #[]] 126 (0, 0))) ∧ (I k w_)) _ ⟨rfl, fr_of ⟨rfl, rfl, rfl, rfl, rfl, trivial⟩, hc4, HI⟩ ?_
  clear hc4 HI hb10 hb11 hb17 hb18
  rintro m_ e_ w19 ⟨rfl, ⟨e20, rfl⟩, hc4, HI⟩
  obtain ⟨hb21, hb22⟩ := hI k _ HI
  refine W_seq (W_region rfl ?_)
  refine stp (r_lss_f rfl rfl (by omega) ?_)
  refine WL_nil ?_
  refine W_seq ?_
  refine W_false rfl ?_
  refine W_exit ?_
  exact ret0n HI

set_option maxRecDepth 100000 in
theorem paths0_calls (w : World) {y0 y1 most : Int} {ya za ua : Option Addr} {yn yc zn zc uc : Nat} (hm : (yn : Int) + zn < most) (hm2 : yn + zn ≤ 1000) : Calls Try.prog 24 #[.agg #[.int .i64 y0, .int .i64 y1, .slice ya yn yc, .slice za zn zc, .slice ua 0 uc], .int .i64 most] w (Ret fun v w' => ∃ ad c, v = .slice ad (1 + yn + zn) c ∧ Grow w w') := by
 have G := Grow.rfl' w
 refine calls_ret Try.func24 Try.ntmps24 Try.results24 rfl rfl ?_
 refine W_seq (W_region rfl ?_)
 refine WL_some (og rfl ?_)
 (first | refine r_box_agg rfl ?_ | refine r_box_int rfl ?_ | refine r_box_slice rfl ?_ | refine r_box rfl rfl ?_)
 intro b1 w2 hb3 hc4 g5
 have hge6 := Nat.le_trans G.size hb3
 replace G := G.tr g5
 clear g5 hb3
 refine WL_some (og rfl ?_)
 (first | refine r_box_agg rfl ?_ | refine r_box_int rfl ?_ | refine r_box_slice rfl ?_ | refine r_box rfl rfl ?_)
 intro b7 w8 hb9 hc10 g11
 have hge12 := Nat.le_trans G.size hb9
 replace hc4 := g11.heap hc4
 replace G := G.tr g11
 clear g11 hb9
 refine stp (r_assign_slice rfl ?_)
 refine WL_nil ?_
 refine W_seq (W_region rfl ?_)
 refine stp (r_alloc ?_)
 intro b13 w14 hb15 hc16 g17
 refine WL_nil ?_
 refine W_seq ?_
 refine W_seq (W_region rfl ?_)
 have hge18 := Nat.le_trans G.size hb15
 have ne19 := Nat.ne_of_lt (Nat.lt_of_lt_of_le (lt_of_heap hc4) hb15)
 have ne20 := Nat.ne_of_lt (Nat.lt_of_lt_of_le (lt_of_heap hc10) hb15)
 replace hc4 := g17.heap hc4
 replace hc10 := g17.heap hc10
 replace G := G.tr g17
 clear g17 hb15
 refine stp (r_loadAll rfl hc4 (by rfl) ?_)
 refine WL_some (og rfl ?_)
 have lt0_hc4 := lt_of_heap hc4
 have lt0_hc10 := lt_of_heap hc10
 have lt0_hc16 := lt_of_heap hc16
 refine r_call rfl (each_calls _) ?_
 rintro v_ w21 ⟨q1, q2, rfl, hq1, hq2, hc1, hc2, g_⟩
 replace hc4 := g_.heap hc4
 replace hc10 := g_.heap hc10
 replace hc16 := g_.heap hc16
 replace G := G.tr g_
 clear g_
 refine WL_nil ?_
 refine W_block ?_
 refine W_rangeC rfl rfl ?_
 intro rc hst hpd hps has hbd hsz hge l w6 hl hlp hmk g6 hw6
 have lt_hc4 := lt_of_heap hc4
 have lt_hc10 := lt_of_heap hc10
 have lt_hc16 := lt_of_heap hc16
 have lt_hc1 := lt_of_heap hc1
 have lt_hc2 := lt_of_heap hc2
 replace hc4 := g6.heap hc4
 replace hc10 := g6.heap hc10
 replace hc16 := g6.heap hc16
 replace hc1 := g6.heap hc1
 replace hc2 := g6.heap hc2
 have hGs := G.size
 have hg5 := hge18
 have hg3 := hge12
 replace G := G.tr g6
 generalize hmm : w21.heap.size = mk at *
 refine Calls.mono (each0_calls w6 (l := l) (q1 := q1) (q2 := q2) (by omega) (by omega) (fun j W => (∃ v xs, W.heap[b13]? = some (.cells #[v] 53 (0, 0)) ∧ W.ownsRow w.heap.size 33 2 v j xs) ∧ W.heap[b7]? = some (.cells #[.int .i64 most] 3 (0, 0)) ∧ W.heap[q1]? = some (.cells #[.int .i64 y0, .int .i64 y1, .slice ya yn yc, .slice za zn zc, .slice ua 0 uc] 37 (0, 0)) ∧ W.heap[q2]? = some (.cells #[.slice none 0 0] 31 (0, 0)) ∧ W.heap[l]? = some (.loop rc) ∧ W.heap[mk]? = some (.deferred (some [])) ∧ Grow w W) (fun i w' h => ⟨h.2.2.1, h.2.2.2.1⟩) (fun i w' w'' g ⟨⟨v, xs, h1, h2⟩, h3, h4, h5, h6, h7, h8⟩ => ⟨⟨v, xs, g.heap h1, own_grow h2 g⟩, g.heap h3, g.heap h4, g.heap h5, g.heap h6, g.heap h7, h8.tr g⟩) ?_ ⟨⟨_, [], hc16, World.ownsRow_nil _ _ _ _⟩, hc10, hc1, hc2, hlp, hmk, G⟩) ?_
 ·rintro j w7 hj ⟨⟨vc2, xs, h1, own2⟩, h3, h4, h5, h6, h7, G7⟩
  refine yields_of_W (ps := [9]) (vs := [_]) (n := 20) h6 hps rfl hsz (by rfl) hge ?_
  rw [has, hbd]
  have hF0 : ∀ (b : Nat) (cs : Array Value) (fr : Nat × Nat), w7.heap[b]? = some (Obj.cells cs 126 fr) → w7.heap[b]? = some (Obj.cells cs 126 fr) := fun _ _ _ h_ => h_
  refine W_region rfl ?_
  refine stp (r_alloc ?_)
  intro b22 w23 hb24 hc25 g26
  refine stn (r_storeAll rfl rfl hc25 (by rfl) (by rfl) (by rfl) ?_)
  intro w27 hc28 u29
  have g30 := g26.upd u29 hb24
  replace h1 := g30.heap h1
  replace h3 := g30.heap h3
  replace h4 := g30.heap h4
  replace h5 := g30.heap h5
  replace h6 := g30.heap h6
  replace h7 := g30.heap h7
  replace own2 := own_grow own2 g30
  replace G7 := G7.tr g30
  replace hF0 := (fun b_ cs_ fr_ hb_ => g30.heap (hF0 b_ cs_ fr_ hb_))
  clear u29 g26 hb24 hc25
  refine WL_nil ?_
  refine ⟨rc, h6, hst, ?_⟩
  have u1 := upd_put (o' := .loop { rc with state := .busy }) h6
  have k6 := put_same (o' := .loop { rc with state := .busy }) h6
  have lt6 := lt_of_heap hc28
  have ne6 : b22 ≠ l := fun he_ => by rw [he_, h6] at hc28; cases hc28
  have kb := u1.heap hc28 ne6
  have k1 := u1.heap h1 (by omega)
  have k2 := own_upd own2 u1 (own_ne_loop own2 h6)
  have k3 := u1.heap h3 (by omega)
  have k4 := u1.heap h4 (by omega)
  have k5 := u1.heap h5 (by omega)
  have k7 := u1.heap h7 (by omega)
  have G8 := G7.upd u1 (by omega)
  have hF1 := fun b_ cs_ fr_ hb_ => u1.heap (hF0 b_ cs_ fr_ hb_) (fun he_ => by have h_ := hF0 b_ cs_ fr_ hb_; rw [he_, h6] at h_; cases h_)
  generalize w27.putObj l (.loop { rc with state := .busy }) = w8 at *
  clear u1 h1 own2 h3 h4 h5 h7 hF0 hc28
  obtain ⟨ad2, n2, c2, rfl⟩ := own_slice k2
  have hn2 : j = n2 := (own_len k2).symm
  subst hn2
  refine W_block ?_
  refine W_seq ?_
  refine W_seq (W_region rfl ?_)
  refine stp (r_load (v := .slice ad2 j c2) rfl k1 rfl ?_)
  refine stp (r_len rfl rfl rfl ?_)
  refine stp (r_load (v := .int .i64 most) rfl k3 rfl ?_)
  refine stp (r_min rfl rfl rfl ?_)
  refine stp (r_geq_f rfl rfl (by split <;> omega) ?_)
  refine WL_nil ?_
  refine W_false rfl ?_
  refine W_skip ?_
  refine W_region rfl ?_
  refine stp (r_load (v := .slice ad2 j c2) rfl k1 rfl ?_)
  refine stp (r_loadAll rfl kb (by rfl) ?_)
  refine stp (r_buildSlice (cs := #[.slice none 0 0, .int .i64 ((j : Int) - 1)]) (el := 33) (fun w => by kernel_rfl) ?_)
  intro bs31 w32 hb33 hc34 g35
  replace k1 := g35.heap k1
  replace k3 := g35.heap k3
  replace k4 := g35.heap k4
  replace k5 := g35.heap k5
  replace k6 := g35.heap k6
  replace k7 := g35.heap k7
  replace kb := g35.heap kb
  replace k2 := own_grow k2 g35
  replace G8 := G8.tr g35
  replace hF1 := (fun b_ cs_ fr_ hb_ => g35.heap (hF1 b_ cs_ fr_ hb_))
  clear g35
  refine stp (r_append rfl rfl rfl rfl k2 (Row.of_block (n := 1) hc34 rfl rfl (by omega)) (fun q_ hq_ => by simp at hq_; rcases hq_ with rfl | rfl <;> rfl) (by simp only [maxLen]; omega) (by omega) G8.size ?_)
  intro v9 w9 own9 gr9
  have G9 := G8.grown gr9 (own_ge k2)
  have m1 := gr_heap gr9 k1 (own_ne k2 k1 (by decide))
  have m3 := gr_heap gr9 k3 (own_ne k2 k3 (by decide))
  have m4 := gr_heap gr9 k4 (own_ne k2 k4 (by decide))
  have m5 := gr_heap gr9 k5 (own_ne k2 k5 (by decide))
  have m6 := gr_heap gr9 k6 (own_ne_loop k2 k6)
  have m7 := gr_heap gr9 k7 (own_ne_def k2 k7)
  have hF2 := fun b_ cs_ fr_ hb_ => gr_heap gr9 (hF1 b_ cs_ fr_ hb_) (own_ne k2 (hF1 b_ cs_ fr_ hb_) (by decide))
  refine stn (r_store1 (v := v9) rfl rfl (own_one own9) m1 (by rfl) (by rfl) ?_)
  intro w10 n1 u10
  refine WL_nil ?_
  have n6 := u10.heap m6 (by omega)
  have u2 := upd_put (o' := .loop rc) n6
  refine ⟨_, n6, ?_⟩
  rw [loop_again hst hpd]
  have own10 := own_upd (own_upd own9 u10 (own_ne own9 m1 (by decide))) u2 (own_ne_loop (own_upd own9 u10 (own_ne own9 m1 (by decide))) n6)
  refine ⟨rfl, ⟨⟨_, _, u2.heap n1 (by omega), own10⟩, u2.heap (u10.heap m3 (by omega)) (by omega), u2.heap (u10.heap m4 (by omega)) (by omega), u2.heap (u10.heap m5 (by omega)) (by omega), put_same n6, u2.heap (u10.heap m7 (by omega)) (by omega), (G9.upd u10 (by omega)).upd u2 (by omega)⟩, fun b_ cs_ fr_ hb_ => ?_⟩
  have h9_ := hF2 b_ cs_ fr_ hb_
  have h10_ := u10.heap h9_ (fun he_ => by rw [he_, m1] at h9_; simp at h9_)
  exact u2.heap h10_ (fun he_ => by rw [he_, n6] at h10_; cases h10_)
 ·rintro r_ w7 ⟨v_, rfl, ⟨vc2, xs, h1, own2⟩, h3, h4, h5, h6, h7, G7⟩
  refine ⟨_, rc, rfl, h6, by rw [hst]; simp, ?_⟩
  simp only [hpd]
  have u1 := upd_put (o' := .loop { rc with state := .exhausted, pending := none }) h6
  have k1 := u1.heap h1 (by omega)
  have k7 := u1.heap h7 (by omega)
  have k2 := own_upd own2 u1 (own_ne_loop own2 h6)
  clear G
  have G := G7.upd u1 (by omega)
  generalize w7.putObj l _ = w8 at *
  clear u1 h1 own2
  obtain ⟨ad2, n2, c2, rfl⟩ := own_slice k2
  have hn2 : n2 = (1 + yn + zn) := own_len k2
  subst hn2
  refine W_seq (W_region rfl ?_)
  refine stp (r_load (v := .slice ad2 (1 + yn + zn) c2) rfl k1 rfl ?_)
  refine stp (r_assign_slice rfl ?_)
  refine WL_nil ?_
  refine W_ret ?_
  have u2 := upd_put (o' := .deferred none) k7
  exact retM (vs := [_]) ⟨mk, _, rfl, run_takeDeferred k7, rfl⟩ ⟨rfl, trivial⟩ ⟨_, _, rfl, G.upd u2 (by omega)⟩
end Go.Proofs.Ytfhfecepcnapfaa.K
