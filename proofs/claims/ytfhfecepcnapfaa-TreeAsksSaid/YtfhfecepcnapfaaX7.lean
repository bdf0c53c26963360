/- Laid together: CB, CE, CK, CP, CT, Ro, Rp. Each part is plain law, a rule, or a walk of the functions that its names tell. -/
import Derived.Test.YtfhfecepcnapfaaX6
import Derived.WalkKit
import Derived.ProofKit
import Derived.OpenShut
import Derived.ChangeOld
import Derived.Carry
import Derived.SizedLaws
set_option linter.unusedVariables false
set_option linter.unusedSimpArgs false
namespace Go.Proofs.Ytfhfecepcnapfaa.K
open Go Go.RowKit Go.Proofs
attribute [local irreducible] Run1 OpG WL W AO Gives
set_option maxRecDepth 100000 in
theorem dnode_calls : ∀ (n_ : Nat) (w : World) {t_ : TypeId} {u_ : Value} {s : Src} {w0 : World} (H : SrcOk Try.prog w0 (.iface t_ u_) s) (g0 : Grow w0 w) {bd : Nat} (hbd : w0.heap.size ≤ bd) {paid : Int} (hb : w.heap[bd]? = some (.cells #[.iface t_ u_, .int .i64 paid] 85 (0, 0))) (hp0 : 0 ≤ paid) (hp1 : paid ≤ 8192) (seg : Int) {a : Int} (a0 : 0 ≤ a) (a1 : a ≤ 140737488455328) {d : Nat} (hd : d ≤ 32), d + 1 ≤ n_ → Calls Try.prog 39 #[.pointer (some ⟨bd, 0, none⟩), .int .i64 seg, .int .i64 a, .int .i64 (d : Int)] w (Ret fun v w' => ∃ cells, v = .tuple #[.agg cells.toArray, .int .u16 (nodeD s d seg a paid).2.2] ∧ NodeR (hide w.heap.size w') cells (nodeD s d seg a paid).2.1 ∧ w'.heap[bd]? = some (.cells #[.iface t_ u_, .int .i64 ((nodeD s d seg a paid).1)] 85 (0, 0)) ∧ Kp [bd] w w') := by
 intro n_
 induction n_ with
 | zero => intro w t_ u_ s w0 H g0 bd hbd paid hb hp0 hp1 seg a a0 a1 d hd hm_; exact absurd hm_ (by have := Nat.succ_pos d; omega)
 | succ n_ ih_ =>
 intro w t_ u_ s w0 H g0 bd hbd paid hb hp0 hp1 seg a a0 a1 d hd hm_
 have K := Kp.refl [bd] w
 have g0w := g0.size
 have hblt := lt_of_heap hb
 have hor := followS_range H seg a
 have hok := followS_kind s seg a
 obtain ⟨hw0, hw1⟩ := wordsO_range hor
 obtain ⟨rk, rs, ra, rd, rp, rz, rc⟩ := hor
 have hor := followS_range H seg a
 have hneq := nodeD_eq s d seg a paid
 refine calls_ret Try.func39 Try.ntmps39 Try.results39 rfl rfl ?_
 refine W_seq (W_region rfl ?_)
 refine stp (r_alloc ?_)
 intro b1 w2 hb3 hc4 g5
 refine stp (r_assign_int rfl ?_)
 refine WL_nil ?_
 refine W_seq (W_region rfl ?_)
 refine stp (r_move_ptr rfl ?_)
 refine stp (r_nilCheck rfl ?_)
 refine stp (r_fieldAddr rfl ?_)
 have hge6 := Nat.le_trans K.size hb3
 have ne7 := Nat.ne_of_lt (Nat.lt_of_lt_of_le (lt_of_heap hb) hb3)
 replace hb := g5.heap hb
 replace K := K.tr g5.kp
 replace g0 := g0.tr g5
 clear g5 hb3
 refine stp (r_load (v := .iface t_ u_) rfl hb rfl ?_)
 refine stp (r_move_int rfl ?_)
 refine stp (r_move_int rfl ?_)
 refine stp (r_gives (v := .tuple #[.agg #[.int .i64 ((followS s seg a).1.kind), .int .i64 ((followS s seg a).1.seg), .int .i64 ((followS s seg a).1.at_), .int .i64 ((followS s seg a).1.data), .int .i64 ((followS s seg a).1.ptrs), .int .i64 ((followS s seg a).1.size), .int .i64 ((followS s seg a).1.count)], .int .u16 ((followS s seg a).2)]) rfl (follow_calls _ (H.grow g0) seg a) ?_)
 intro w8 g9
 replace hb := g9.heap hb
 replace K := K.tr g9.kp
 replace g0 := g0.tr g9
 replace hc4 := g9.heap hc4
 clear g9
 refine stp (r_move (v := .tuple #[.agg #[.int .i64 ((followS s seg a).1.kind), .int .i64 ((followS s seg a).1.seg), .int .i64 ((followS s seg a).1.at_), .int .i64 ((followS s seg a).1.data), .int .i64 ((followS s seg a).1.ptrs), .int .i64 ((followS s seg a).1.size), .int .i64 ((followS s seg a).1.count)], .int .u16 ((followS s seg a).2)]) rfl ?_)
 refine stp (r_extract (v := .agg #[.int .i64 ((followS s seg a).1.kind), .int .i64 ((followS s seg a).1.seg), .int .i64 ((followS s seg a).1.at_), .int .i64 ((followS s seg a).1.data), .int .i64 ((followS s seg a).1.ptrs), .int .i64 ((followS s seg a).1.size), .int .i64 ((followS s seg a).1.count)]) rfl rfl ?_)
 refine stp (r_extract (v := .int .u16 ((followS s seg a).2)) rfl rfl ?_)
 refine stp (r_alloc ?_)
 intro b10 w11 hb12 hc13 g14
 refine stn (r_storeAll rfl rfl hc13 (by rfl) (by rfl) (by rfl) ?_)
 intro w15 hc16 u17
 have g18 := g14.upd u17 hb12
 have hge19 := Nat.le_trans K.size hb12
 have ne20 := Nat.ne_of_lt (Nat.lt_of_lt_of_le (lt_of_heap hb) hb12)
 have ne21 := Nat.ne_of_lt (Nat.lt_of_lt_of_le (lt_of_heap hc4) hb12)
 replace hb := g18.heap hb
 replace K := K.tr g18.kp
 replace g0 := g0.tr g18
 replace hc4 := g18.heap hc4
 clear u17 g14 hb12 hc13
 refine stp (r_assign_int rfl ?_)
 refine WL_nil ?_
 refine W_seq ?_
 refine W_seq (W_region rfl ?_)
 refine stp (r_move_int rfl ?_)
 refine stp (r_neq rfl rfl ?_)
 refine WL_nil ?_
 refine W_cond2 (b := (decide (((followS s seg a).2) ≠ 0))) rfl (fun h1 => ?_) (fun h1 => ?_)
 ·-- true
  replace h1 := of_decide_eq_true h1
  refine W_seq (W_region rfl ?_)
  refine stp (r_loadAll rfl hc4 (by rfl) ?_)
  refine stp (r_move_int rfl ?_)
  refine stn (r_storeAll rfl rfl hc4 (by rfl) (by rfl) (by rfl) ?_)
  intro w22 hc23 u24
  replace hb := u24.heap hb ne7
  replace K := (by first | exact K.upd_new u24 (by assumption) | exact K.tr (Kp.of_upd u24 (by simp)))
  replace g0 := (by first | exact Grow.upd g0 u24 (Nat.le_trans g0w (by assumption)) | exact g0.kp1 (Kp.of_upd u24 (by simp)) hbd)
  replace hc16 := u24.heap hc16 ne21.symm
  clear u24 hc4
  refine stp (r_assign_int rfl ?_)
  refine WL_nil ?_
  refine W_ret ?_
  have h9 : (nodeD s d seg a paid) = (paid, .nil, (followS s seg a).2) := by rw [hneq]; unfold nodeK; rw [if_pos h1]
  rw [h9]
  refine ret2 (res_all rfl hc23 (by rfl)) (res_tmp (v := .int .u16 ((followS s seg a).2)) rfl) ⟨[_, _, _, _, _], rfl, NodeR.zero _, hb, K⟩
 ·-- false
  replace h1 := of_decide_eq_false h1
  refine W_skip ?_
  refine W_seq ?_
  refine W_any 8 [[], [0], [1, 0], [2, 1, 0], [], [0], [1, 0], [6, 5, 4, 3, 2, 1, 0]] mixed (by kernel_rfl) (by kernel_rfl) (by kernel_rfl) ?_
  intro w25 g26
  replace hb := g26.heap hb
  replace K := K.tr g26.kp
  replace g0 := g0.tr g26
  replace hc4 := g26.heap hc4
  replace hc16 := g26.heap hc16
  clear g26
  apply AO_ex
  ·intro w_ g_; refine og rfl ?_; refine r_move_ptr rfl ?_; exact ⟨Grow.rfl' _, rfl⟩
  apply AO_ex
  ·intro w_ g_; refine og rfl ?_; refine r_nilCheck rfl ?_; exact ⟨Grow.rfl' _, rfl⟩
  apply AO_ex
  ·intro w_ g_; refine og rfl ?_; refine r_fieldAddr rfl ?_; exact ⟨Grow.rfl' _, rfl⟩
  apply AO_ex
  ·intro w_ g_; refine og rfl ?_; refine r_load (v := .int .i64 paid) rfl (g_.heap hb) rfl ?_; exact ⟨Grow.rfl' _, rfl⟩
  apply AO_ex
  ·intro w_ g_; refine og rfl ?_; refine r_loadAll rfl (g_.heap hc16) (by rfl) ?_; exact ⟨Grow.rfl' _, rfl⟩
  apply AO_ex
  ·intro w_ g_; refine og rfl ?_; exact r_gives (v := .int .i64 (wordsO (followS s seg a).1)) rfl (owords_calls _ (followS s seg a).1) (fun w2_ g2_ => ⟨g2_, rfl⟩)
  apply AO_ex
  ·intro w_ g_; refine og rfl ?_; refine r_add rfl rfl ?_ ?_; constructor <;> omega; exact ⟨Grow.rfl' _, rfl⟩
  apply AO_ex
  ·intro w_ g_; refine og rfl ?_; refine r_add rfl rfl ?_ ?_; constructor <;> omega; exact ⟨Grow.rfl' _, rfl⟩
  refine AO_nil ?_
  intro w27 g28
  replace hb := g28.heap hb
  replace K := K.tr g28.kp
  replace g0 := g0.tr g28
  replace hc4 := g28.heap hc4
  replace hc16 := g28.heap hc16
  clear g28
  refine stp (r_nilCheck rfl ?_)
  refine stp (r_fieldAddr rfl ?_)
  refine stn (r_store1 (v := .int .i64 (paid + (1 + (wordsO (followS s seg a).1)))) rfl rfl (by rfl) hb (by rfl) (by rfl) ?_)
  intro w29 hc30 u31
  replace K := (by first | exact K.upd_new u31 (by assumption) | exact K.tr (Kp.of_upd u31 (by simp)))
  replace g0 := (by first | exact Grow.upd g0 u31 (Nat.le_trans g0w (by assumption)) | exact g0.kp1 (Kp.of_upd u31 (by simp)) hbd)
  replace hc4 := u31.heap hc4 ne7.symm
  replace hc16 := u31.heap hc16 ne20.symm
  clear u31 hb
  refine WL_nil ?_
  refine W_seq ?_
  refine W_block ?_
  refine W_seq (W_region rfl ?_)
  refine stp (r_fieldAddr rfl ?_)
  refine stp (r_load (v := .int .i64 ((followS s seg a).1.kind)) rfl hc16 rfl ?_)
  refine stp (r_neq rfl rfl ?_)
  refine stp (r_move_bool rfl ?_)
  refine WL_some (og_if (s := .bool (decide (((followS s seg a).1.kind) ≠ 0))) (b := true) (v := .int .i64 (d : Int)) rfl (wgb_t _) (fun hc32 => ?_) ?_)
  ·
   have hc32_ := of_decide_eq_true hc32
   refine r_move_int rfl ?_
   exact ⟨rfl, rfl⟩
  refine WL_some (og_if (s := .bool (decide (((followS s seg a).1.kind) ≠ 0))) (b := true) (v := .bool (decide ((d : Int) = 0))) rfl (wgb_t _) (fun hc33 => ?_) ?_)
  ·
   have hc33_ := of_decide_eq_true hc33
   refine r_eql (gvt hc33) rfl ?_
   exact ⟨rfl, rfl⟩
  refine stp (r_and2 rfl rfl rfl ?_)
  refine stp (r_assign_bool rfl ?_)
  refine WL_nil ?_
  refine W_cond2 (b := ((decide (((followS s seg a).1.kind) ≠ 0)) && (decide ((d : Int) = 0)))) rfl (fun h2 => ?_) (fun h2 => ?_)
  ·-- true
   simp only [Bool.and_eq_true, Bool.or_eq_true, Bool.not_eq_true', Bool.and_eq_false_iff, Bool.or_eq_false_iff, Bool.not_eq_false', decide_eq_true_eq, decide_eq_false_iff_not, Bool.not_true, Bool.not_false, Bool.not_eq_eq_eq_not, Bool.or_false, Bool.and_true, Bool.or_true, Bool.and_false, Bool.false_or, Bool.true_and, Bool.true_or, Bool.false_and, Bool.false_eq_true, Bool.true_eq_false] at h2
   obtain ⟨h2a, h2b⟩ := h2
   have hd0 : (d == 0) = true := by rw [show d = 0 from by omega]; rfl
   refine W_seq (W_region rfl ?_)
   refine stp (r_loadAll rfl hc4 (by rfl) ?_)
   refine stn (r_storeAll rfl rfl hc4 (by rfl) (by rfl) (by rfl) ?_)
   intro w34 hc35 u36
   replace K := (by first | exact K.upd_new u36 (by assumption) | exact K.tr (Kp.of_upd u36 (by simp)))
   replace g0 := (by first | exact Grow.upd g0 u36 (Nat.le_trans g0w (by assumption)) | exact g0.kp1 (Kp.of_upd u36 (by simp)) hbd)
   replace hc16 := u36.heap hc16 ne21.symm
   replace hc30 := u36.heap hc30 ne7
   clear u36 hc4
   refine stp (r_assign_int rfl ?_)
   refine WL_nil ?_
   refine W_ret ?_
   have h9 : (nodeD s d seg a paid) = ((paid + (1 + wordsO (followS s seg a).1)), .nil, 21) := by rw [hneq]; unfold nodeK; rw [if_neg h1, if_pos ⟨h2a, hd0⟩]
   rw [h9]
   refine ret2 (res_all rfl hc35 (by rfl)) (res_tmp (v := .int .u16 21) rfl) ⟨[_, _, _, _, _], rfl, NodeR.zero _, hc30, K⟩
  ·-- false
   simp only [Bool.and_eq_true, Bool.or_eq_true, Bool.not_eq_true', Bool.and_eq_false_iff, Bool.or_eq_false_iff, Bool.not_eq_false', decide_eq_true_eq, decide_eq_false_iff_not, Bool.not_true, Bool.not_false, Bool.not_eq_eq_eq_not, Bool.or_false, Bool.and_true, Bool.or_true, Bool.and_false, Bool.false_or, Bool.true_and, Bool.true_or, Bool.false_and, Bool.false_eq_true, Bool.true_eq_false] at h2
   have h2n : ¬ ((followS s seg a).1.kind ≠ 0 ∧ (d == 0) = true) := fun h_ => absurd (eq_of_beq h_.2) (by omega)
   refine W_seq (W_region rfl ?_)
   refine stp (r_move_ptr rfl ?_)
   refine stp (r_nilCheck rfl ?_)
   refine stp (r_fieldAddr rfl ?_)
   refine stp (r_load (v := .int .i64 (paid + (1 + (wordsO (followS s seg a).1)))) rfl hc30 rfl ?_)
   refine stp (r_gtr rfl rfl ?_)
   refine stp (r_assign_bool rfl ?_)
   refine WL_nil ?_
   refine W_cond2 (b := (decide ((paid + (1 + (wordsO (followS s seg a).1))) > 8192))) rfl (fun h3 => ?_) (fun h3 => ?_)
   ·-- true
    replace h3 := of_decide_eq_true h3
    refine W_seq (W_region rfl ?_)
    refine stp (r_loadAll rfl hc4 (by rfl) ?_)
    refine stn (r_storeAll rfl rfl hc4 (by rfl) (by rfl) (by rfl) ?_)
    intro w37 hc38 u39
    replace K := (by first | exact K.upd_new u39 (by assumption) | exact K.tr (Kp.of_upd u39 (by simp)))
    replace g0 := (by first | exact Grow.upd g0 u39 (Nat.le_trans g0w (by assumption)) | exact g0.kp1 (Kp.of_upd u39 (by simp)) hbd)
    replace hc16 := u39.heap hc16 ne21.symm
    replace hc30 := u39.heap hc30 ne7
    clear u39 hc4
    refine stp (r_assign_int rfl ?_)
    refine WL_nil ?_
    refine W_ret ?_
    have h9 : (nodeD s d seg a paid) = ((paid + (1 + wordsO (followS s seg a).1)), .nil, 22) := by rw [hneq]; unfold nodeK; rw [if_neg h1, if_neg h2n, if_pos h3]
    rw [h9]
    refine ret2 (res_all rfl hc38 (by rfl)) (res_tmp (v := .int .u16 22) rfl) ⟨[_, _, _, _, _], rfl, NodeR.zero _, hc30, K⟩
   ·-- false
    replace h3 := of_decide_eq_false h3
    obtain ⟨s1, s2, s3, s4, s5, s6⟩ := ob_small hor hok (by omega)
    obtain ⟨B, hB⟩ : ∃ B, B = w29.heap.size := ⟨_, rfl⟩
    have hB8 : b1 < B := by rw [hB]; exact lt_of_heap hc4
    have hB10 : b10 < B := by rw [hB]; exact lt_of_heap hc16
    have hBd : bd < B := by rw [hB]; exact lt_of_heap hc30
    have hwB : w.heap.size ≤ B := by rw [hB]; exact K.size
    have hBw : B ≤ w29.heap.size := by rw [hB]; exact Nat.le_refl _
    clear hB
    refine W_skip ?_
    refine W_seq ?_
    have kb_hc16 : ∀ w_, Kp [b1] w29 w_ → w_.heap[b10]? = some (.cells #[.int .i64 ((followS s seg a).1.kind), .int .i64 ((followS s seg a).1.seg), .int .i64 ((followS s seg a).1.at_), .int .i64 ((followS s seg a).1.data), .int .i64 ((followS s seg a).1.ptrs), .int .i64 ((followS s seg a).1.size), .int .i64 ((followS s seg a).1.count)] 120 (0, 0)) := fun w_ k_ => k_.heap hc16 (fun hm_ => by simp only [List.mem_singleton] at hm_; first | exact ne21 hm_ | exact ne21 hm_.symm)
    have kb_hc30 : ∀ w_, Kp [b1] w29 w_ → w_.heap[bd]? = some (.cells #[.iface t_ u_, .int .i64 (paid + (1 + (wordsO (followS s seg a).1)))] 85 (0, 0)) := fun w_ k_ => k_.heap hc30 (fun hm_ => by simp only [List.mem_singleton] at hm_; omega)
    have kb_K : ∀ w_, Kp [b1] w29 w_ → Kp [bd] w w_ := fun w_ k_ => K.trans k_ (fun x_ hx_ => by simp only [List.mem_singleton] at hx_; subst hx_; exact .inr hge6)
    have kb_g0 : ∀ w_, Kp [b1] w29 w_ → Grow w0 w_ := fun w_ k_ => g0.trK k_ (fun x_ hx_ => by simp only [List.mem_singleton] at hx_; subst hx_; exact Nat.le_trans g0w hge6)
    have kb_hBw : ∀ w_, Kp [b1] w29 w_ → B ≤ w_.heap.size := fun w_ k_ => Nat.le_trans hBw k_.size
    refine W_anyM 6 [[], [0], [], [0], [3, 2], [4, 3, 0]] [5] [b1] (fun k_ w_ => match k_ with | 0 => w_.heap[b1]? = some (.cells #[.int .i64 0, .int .i64 0, .slice none 0 0, .slice none 0 0, .slice none 0 0] 37 (0, 0)) | _ => w_.heap[b1]? = some (.cells #[.int .i64 ((followS s seg a).1.kind), .int .i64 0, .slice none 0 0, .slice none 0 0, .slice none 0 0] 37 (0, 0))) mixed (by kernel_rfl) (by kernel_rfl) (by kernel_rfl) (by kernel_rfl) (fun k_ w_ w2_ g_ h_ => match k_, h_ with | 0, h_ => g_.heap h_ | n_ + 1, h_ => g_.heap h_) (fun w_ g_ => g_.heap hc4) ?_
    intro w40 g41
    replace kb_hc16 : ∀ w_, Kp [b1] w40 w_ → w_.heap[b10]? = some (.cells #[.int .i64 ((followS s seg a).1.kind), .int .i64 ((followS s seg a).1.seg), .int .i64 ((followS s seg a).1.at_), .int .i64 ((followS s seg a).1.data), .int .i64 ((followS s seg a).1.ptrs), .int .i64 ((followS s seg a).1.size), .int .i64 ((followS s seg a).1.count)] 120 (0, 0)) := fun w_ k_ => kb_hc16 w_ (g41.kp.tr k_)
    replace kb_hc30 : ∀ w_, Kp [b1] w40 w_ → w_.heap[bd]? = some (.cells #[.iface t_ u_, .int .i64 (paid + (1 + (wordsO (followS s seg a).1)))] 85 (0, 0)) := fun w_ k_ => kb_hc30 w_ (g41.kp.tr k_)
    replace kb_K : ∀ w_, Kp [b1] w40 w_ → Kp [bd] w w_ := fun w_ k_ => kb_K w_ (g41.kp.tr k_)
    replace kb_g0 : ∀ w_, Kp [b1] w40 w_ → Grow w0 w_ := fun w_ k_ => kb_g0 w_ (g41.kp.tr k_)
    replace kb_hBw : ∀ w_, Kp [b1] w40 w_ → B ≤ w_.heap.size := fun w_ k_ => kb_hBw w_ (g41.kp.tr k_)
    have k0_ : Kp [b1] w29 w40 := g41.kp
    apply AOM_ex (hm := by rfl)
    ·intro w_ g_; refine og rfl ?_; refine r_fieldAddr rfl ?_; exact ⟨Grow.rfl' _, rfl⟩
    apply AOM_ex (hm := by rfl)
    ·intro w_ g_; refine og rfl ?_; refine r_load (v := .int .i64 ((followS s seg a).1.kind)) rfl (kb_hc16 _ g_) rfl ?_; exact ⟨Grow.rfl' _, rfl⟩
    apply AOM_ex (hm := by rfl)
    ·intro w_ g_; refine og rfl ?_; refine r_fieldAddr rfl ?_; exact ⟨Grow.rfl' _, rfl⟩
    apply AOM_ex (hm := by rfl)
    ·intro w_ g_; refine og rfl ?_; refine r_load (v := .int .i64 ((followS s seg a).1.size)) rfl (kb_hc16 _ g_) rfl ?_; exact ⟨Grow.rfl' _, rfl⟩
    apply AOM_ex (hm := by rfl)
    ·intro w_ g_; refine og rfl ?_; refine r_fieldAddr rfl ?_; exact ⟨Grow.rfl' _, rfl⟩
    apply AOM_mut 0 (hm := by rfl)
    ·intro w_ g_ s_
     refine og rfl ?_
     refine r_store1 (v := .int .i64 ((followS s seg a).1.kind)) rfl rfl (by rfl) s_ (by rfl) (by rfl) ?_
     intro w2_ s2_ u_
     exact ⟨Kp.of_upd u_ (by simp), s2_, rfl⟩
    refine AOM_nil ?_
    intro w42 g43 S_
    replace k0_ := (k0_.tr g43)
    have hc8x := S_
    clear S_
    replace hc16 := kb_hc16 _ g43
    clear kb_hc16
    replace hc30 := kb_hc30 _ g43
    clear kb_hc30
    replace K := kb_K _ g43
    clear kb_K
    replace g0 := kb_g0 _ g43
    clear kb_g0
    replace hBw := kb_hBw _ g43
    clear kb_hBw
    refine stp (r_fieldAddr rfl ?_)
    refine stn (r_store1 (v := .int .i64 ((followS s seg a).1.size)) rfl rfl (by rfl) hc8x (by rfl) (by rfl) ?_)
    intro w44 hc45 u46
    replace K := (by first | exact K.upd_new u46 (by assumption) | exact K.tr (Kp.of_upd u46 (by simp)))
    replace g0 := (by first | exact Grow.upd g0 u46 (Nat.le_trans g0w (by assumption)) | exact g0.kp1 (Kp.of_upd u46 (by simp)) hbd)
    replace hc16 := u46.heap hc16 ne21.symm
    replace hc30 := u46.heap hc30 ne7
    replace hBw := Nat.le_trans hBw (Nat.le_of_eq u46.size.symm)
    clear u46 hc8x
    refine WL_nil ?_
    refine W_seq ?_
    refine W_any 8 [[], [0], [], [0], [], [0], [3, 2, 1, 0], [6, 5]] mixed (by kernel_rfl) (by kernel_rfl) (by kernel_rfl) ?_
    intro w47 g48
    replace K := K.tr g48.kp
    replace g0 := g0.tr g48
    replace hc16 := g48.heap hc16
    replace hc30 := g48.heap hc30
    replace hBw := Nat.le_trans hBw g48.size
    replace hc45 := g48.heap hc45
    clear g48
    apply AO_ex
    ·intro w_ g_; refine og rfl ?_; refine r_fieldAddr rfl ?_; exact ⟨Grow.rfl' _, rfl⟩
    apply AO_ex
    ·intro w_ g_; refine og rfl ?_; refine r_load (v := .int .i64 ((followS s seg a).1.ptrs)) rfl (g_.heap hc16) rfl ?_; exact ⟨Grow.rfl' _, rfl⟩
    apply AO_ex
    ·intro w_ g_; refine og rfl ?_; refine r_fieldAddr rfl ?_; exact ⟨Grow.rfl' _, rfl⟩
    apply AO_ex
    ·intro w_ g_; refine og rfl ?_; refine r_load (v := .int .i64 ((followS s seg a).1.at_)) rfl (g_.heap hc16) rfl ?_; exact ⟨Grow.rfl' _, rfl⟩
    apply AO_ex
    ·intro w_ g_; refine og rfl ?_; refine r_fieldAddr rfl ?_; exact ⟨Grow.rfl' _, rfl⟩
    apply AO_ex
    ·intro w_ g_; refine og rfl ?_; refine r_load (v := .int .i64 ((followS s seg a).1.data)) rfl (g_.heap hc16) rfl ?_; exact ⟨Grow.rfl' _, rfl⟩
    apply AO_ex
    ·intro w_ g_; refine og rfl ?_; refine r_add rfl rfl ?_ ?_; constructor <;> omega; exact ⟨Grow.rfl' _, rfl⟩
    apply AO_ex
    ·intro w_ g_; refine og rfl ?_; refine r_assign_int rfl ?_; exact ⟨Grow.rfl' _, rfl⟩
    refine AO_nil ?_
    intro w49 g50
    replace K := K.tr g50.kp
    replace g0 := g0.tr g50
    replace hc16 := g50.heap hc16
    replace hc30 := g50.heap hc30
    replace hBw := Nat.le_trans hBw g50.size
    replace hc45 := g50.heap hc45
    clear g50
    refine stp (r_assign_int rfl ?_)
    refine WL_nil ?_
    refine W_seq (W_region rfl ?_)
    refine stp (r_move_ptr rfl ?_)
    refine stp (r_fieldAddr rfl ?_)
    refine stp (r_load (v := .int .i64 ((followS s seg a).1.seg)) rfl hc16 rfl ?_)
    refine stp (r_fieldAddr rfl ?_)
    refine stp (r_load (v := .int .i64 ((followS s seg a).1.at_)) rfl hc16 rfl ?_)
    refine stp (r_fieldAddr rfl ?_)
    refine stp (r_load (v := .int .i64 ((followS s seg a).1.data)) rfl hc16 rfl ?_)
    refine WL_some (og rfl ?_)
    have hcal := dwords_calls _ (H.grow g0) hc30 (followS s seg a).1.seg ra.1 ra.2 (n := (followS s seg a).1.data.toNat) (by omega)
    rw [Int.toNat_of_nonneg (by omega)] at hcal
    refine r_call rfl hcal ?_
    rintro v_ w51 ⟨R_, g_⟩
    have hRw := R_.sees (Sees.low hBw _)
    clear R_
    replace K := K.tr g_.kp
    replace g0 := g0.tr g_
    replace hc16 := g_.heap hc16
    replace hc30 := g_.heap hc30
    replace hBw := Nat.le_trans hBw g_.size
    replace hc45 := g_.heap hc45
    clear g_
    obtain ⟨adhRw, cphRw, rfl, -⟩ := id hRw
    refine stp (r_fieldAddr rfl ?_)
    refine stn (r_store1 (v := .slice adhRw ((followS s seg a).1.data.toNat) cphRw) rfl rfl (by rfl) hc45 (by rfl) (by rfl) ?_)
    intro w52 hc53 u54
    replace K := (by first | exact K.upd_new u54 (by assumption) | exact K.tr (Kp.of_upd u54 (by simp)))
    replace g0 := (by first | exact Grow.upd g0 u54 (Nat.le_trans g0w (by assumption)) | exact g0.kp1 (Kp.of_upd u54 (by simp)) hbd)
    replace hc16 := u54.heap hc16 ne21.symm
    replace hc30 := u54.heap hc30 ne7
    replace hBw := Nat.le_trans hBw (Nat.le_of_eq u54.size.symm)
    replace hRw := hRw.sees (Sees.upd u54 (fun h_ => by omega))
    clear u54 hc45
    refine WL_nil ?_
    refine W_cut1 (fun e_ w_ => ∃ (aw : Option Addr) (nw : Nat) (cw : Nat) (ab : Option Addr) (nb : Nat) (cb : Nat), Fr [(0, .pointer (some ⟨bd, 0, none⟩)), (3, .int .i64 (d : Int)), (8, .pointer (some ⟨b1, 0, none⟩)), (9, .int .u16 ((followS s seg a).2)), (10, .pointer (some ⟨b10, 0, none⟩)), (11, .int .i64 (kidN (followS s seg a).1)), (12, .int .i64 (kidA (followS s seg a).1))] e_ ∧ (Kp [bd] w w_) ∧ (Grow w0 w_) ∧ (w_.heap[b10]? = some (.cells #[.int .i64 ((followS s seg a).1.kind), .int .i64 ((followS s seg a).1.seg), .int .i64 ((followS s seg a).1.at_), .int .i64 ((followS s seg a).1.data), .int .i64 ((followS s seg a).1.ptrs), .int .i64 ((followS s seg a).1.size), .int .i64 ((followS s seg a).1.count)] 120 (0, 0))) ∧ (w_.heap[bd]? = some (.cells #[.iface t_ u_, .int .i64 (paid + (1 + (wordsO (followS s seg a).1)))] 85 (0, 0))) ∧ (B ≤ w_.heap.size) ∧ (w_.heap[b1]? = some (.cells #[.int .i64 ((followS s seg a).1.kind), .int .i64 ((followS s seg a).1.size), .slice aw nw cw, .slice ab nb cb, .slice none 0 0] 37 (0, 0))) ∧ (Row (hide B w_) 1 (.slice aw nw cw) (nodL s (followS s seg a).1).length ((nodL s (followS s seg a).1).map (.int .u64))) ∧ (Row (hide B w_) 1 (.slice ab nb cb) (nodB s (followS s seg a).1).length ((nodB s (followS s seg a).1).map (.int .u8)))) ?_ ?_
    ·-- the parts
     refine W_seq (W_region rfl ?_)
     refine stp (r_fieldAddr rfl ?_)
     refine stp (r_load (v := .int .i64 ((followS s seg a).1.size)) rfl hc16 rfl ?_)
     refine WL_nil ?_
     refine W_block ?_
     refine W_seq (W_region rfl ?_)
     refine stp (r_eql rfl rfl ?_)
     refine stp (r_assign_bool rfl ?_)
     refine WL_nil ?_
     refine W_cond2 (b := (decide (((followS s seg a).1.size) = 2))) rfl (fun h4 => ?_) (fun h4 => ?_)
     ·-- true
      replace h4 := of_decide_eq_true h4
      refine W_region rfl ?_
      refine stp (r_move_ptr rfl ?_)
      refine stp (r_fieldAddr rfl ?_)
      refine stp (r_load (v := .int .i64 ((followS s seg a).1.seg)) rfl hc16 rfl ?_)
      refine stp (r_fieldAddr rfl ?_)
      refine stp (r_load (v := .int .i64 ((followS s seg a).1.at_)) rfl hc16 rfl ?_)
      refine stp (r_fieldAddr rfl ?_)
      refine stp (r_load (v := .int .i64 ((followS s seg a).1.count)) rfl hc16 rfl ?_)
      refine WL_some (og rfl ?_)
      have hcal := dbytes_calls _ (H.grow g0) hc30 (followS s seg a).1.seg ra.1 ra.2 (n := (followS s seg a).1.count.toNat) (by omega)
      rw [Int.toNat_of_nonneg (by omega)] at hcal
      refine r_call rfl hcal ?_
      rintro v_ w55 ⟨R_, g_⟩
      have hRb := R_.sees (Sees.low hBw _)
      clear R_
      replace K := K.tr g_.kp
      replace g0 := g0.tr g_
      replace hc16 := g_.heap hc16
      replace hc30 := g_.heap hc30
      replace hBw := Nat.le_trans hBw g_.size
      replace hRw := hRw.sees (Sees.grow g_)
      replace hc53 := g_.heap hc53
      clear g_
      obtain ⟨adhRb, cphRb, rfl, -⟩ := id hRb
      refine stp (r_fieldAddr rfl ?_)
      refine stn (r_store1 (v := .slice adhRb ((followS s seg a).1.count.toNat) cphRb) rfl rfl (by rfl) hc53 (by rfl) (by rfl) ?_)
      intro w56 hc57 u58
      replace K := (by first | exact K.upd_new u58 (by assumption) | exact K.tr (Kp.of_upd u58 (by simp)))
      replace g0 := (by first | exact Grow.upd g0 u58 (Nat.le_trans g0w (by assumption)) | exact g0.kp1 (Kp.of_upd u58 (by simp)) hbd)
      replace hc16 := u58.heap hc16 ne21.symm
      replace hc30 := u58.heap hc30 ne7
      replace hBw := Nat.le_trans hBw (Nat.le_of_eq u58.size.symm)
      replace hRw := hRw.sees (Sees.upd u58 (fun h_ => by omega))
      replace hRb := hRb.sees (Sees.upd u58 (fun h_ => by omega))
      clear u58 hc53
      refine WL_nil ?_
      have hk6 : (followS s seg a).1.size = 6 ∨ (followS s seg a).1.size ≠ 6 := by omega
      exact ⟨adhRw, ((followS s seg a).1.data).toNat, cphRw, adhRb, ((followS s seg a).1.count).toNat, cphRb, fr_of ⟨rfl, rfl, rfl, rfl, rfl, congrArg (Value.int .i64) (by unfold kidN; rw [if_neg (by omega)]), congrArg (Value.int .i64) (by unfold kidA; rw [if_neg (by omega)]), trivial⟩, K, g0, hc16, hc30, hBw, hc57, (by unfold nodL; rw [if_neg (by omega), wordsS_len]; exact hRw), (by unfold nodB; rw [if_pos h4, bytesS_len]; exact hRb)⟩
     ·-- false
      replace h4 := of_decide_eq_false h4
      refine W_seq (W_region rfl ?_)
      refine stp (r_eql rfl rfl ?_)
      refine stp (r_assign_bool rfl ?_)
      refine WL_nil ?_
      refine W_cond2 (b := (decide (((followS s seg a).1.size) = 5))) rfl (fun h5 => ?_) (fun h5 => ?_)
      ·-- true
       replace h5 := of_decide_eq_true h5
       refine W_region rfl ?_
       refine stp (r_move_ptr rfl ?_)
       refine stp (r_fieldAddr rfl ?_)
       refine stp (r_load (v := .int .i64 ((followS s seg a).1.seg)) rfl hc16 rfl ?_)
       refine stp (r_fieldAddr rfl ?_)
       refine stp (r_load (v := .int .i64 ((followS s seg a).1.at_)) rfl hc16 rfl ?_)
       refine stp (r_fieldAddr rfl ?_)
       refine stp (r_load (v := .int .i64 ((followS s seg a).1.count)) rfl hc16 rfl ?_)
       refine WL_some (og rfl ?_)
       have hcal := dwords_calls _ (H.grow g0) hc30 (followS s seg a).1.seg ra.1 ra.2 (n := (followS s seg a).1.count.toNat) (by omega)
       rw [Int.toNat_of_nonneg (by omega)] at hcal
       refine r_call rfl hcal ?_
       rintro v_ w59 ⟨R_, g_⟩
       have hRv := R_.sees (Sees.low hBw _)
       clear R_
       replace K := K.tr g_.kp
       replace g0 := g0.tr g_
       replace hc16 := g_.heap hc16
       replace hc30 := g_.heap hc30
       replace hBw := Nat.le_trans hBw g_.size
       replace hRw := hRw.sees (Sees.grow g_)
       replace hc53 := g_.heap hc53
       clear g_
       obtain ⟨adhRv, cphRv, rfl, -⟩ := id hRv
       refine stp (r_fieldAddr rfl ?_)
       refine stn (r_store1 (v := .slice adhRv ((followS s seg a).1.count.toNat) cphRv) rfl rfl (by rfl) hc53 (by rfl) (by rfl) ?_)
       intro w60 hc61 u62
       replace K := (by first | exact K.upd_new u62 (by assumption) | exact K.tr (Kp.of_upd u62 (by simp)))
       replace g0 := (by first | exact Grow.upd g0 u62 (Nat.le_trans g0w (by assumption)) | exact g0.kp1 (Kp.of_upd u62 (by simp)) hbd)
       replace hc16 := u62.heap hc16 ne21.symm
       replace hc30 := u62.heap hc30 ne7
       replace hBw := Nat.le_trans hBw (Nat.le_of_eq u62.size.symm)
       replace hRw := hRw.sees (Sees.upd u62 (fun h_ => by omega))
       replace hRv := hRv.sees (Sees.upd u62 (fun h_ => by omega))
       clear u62 hc53
       refine WL_nil ?_
       have hk6 : (followS s seg a).1.size = 6 ∨ (followS s seg a).1.size ≠ 6 := by omega
       exact ⟨adhRv, ((followS s seg a).1.count).toNat, cphRv, none, 0, 0, fr_of ⟨rfl, rfl, rfl, rfl, rfl, congrArg (Value.int .i64) (by unfold kidN; rw [if_neg (by omega)]), congrArg (Value.int .i64) (by unfold kidA; rw [if_neg (by omega)]), trivial⟩, K, g0, hc16, hc30, hBw, hc61, (by unfold nodL; rw [if_pos h5, wordsS_len]; exact hRv), (by unfold nodB; rw [if_neg (by omega)]; exact Row.nil _ _)⟩
      ·-- false
       replace h5 := of_decide_eq_false h5
       refine W_seq (W_region rfl ?_)
       refine stp (r_eql rfl rfl ?_)
       refine stp (r_assign_bool rfl ?_)
       refine WL_nil ?_
       refine W_cond2 (b := (decide (((followS s seg a).1.size) = 6))) rfl (fun h6 => ?_) (fun h6 => ?_)
       ·-- true
        replace h6 := of_decide_eq_true h6
        refine W_any 5 [[], [0], [], [0], [3, 2]] mixed (by kernel_rfl) (by kernel_rfl) (by kernel_rfl) ?_
        intro w63 g64
        replace K := K.tr g64.kp
        replace g0 := g0.tr g64
        replace hc16 := g64.heap hc16
        replace hc30 := g64.heap hc30
        replace hBw := Nat.le_trans hBw g64.size
        replace hRw := hRw.sees (Sees.grow g64)
        replace hc53 := g64.heap hc53
        clear g64
        apply AO_ex
        ·intro w_ g_; refine og rfl ?_; refine r_fieldAddr rfl ?_; exact ⟨Grow.rfl' _, rfl⟩
        apply AO_ex
        ·intro w_ g_; refine og rfl ?_; refine r_load (v := .int .i64 ((followS s seg a).1.count)) rfl (g_.heap hc16) rfl ?_; exact ⟨Grow.rfl' _, rfl⟩
        apply AO_ex
        ·intro w_ g_; refine og rfl ?_; refine r_fieldAddr rfl ?_; exact ⟨Grow.rfl' _, rfl⟩
        apply AO_ex
        ·intro w_ g_; refine og rfl ?_; refine r_load (v := .int .i64 ((followS s seg a).1.at_)) rfl (g_.heap hc16) rfl ?_; exact ⟨Grow.rfl' _, rfl⟩
        apply AO_ex
        ·intro w_ g_; refine og rfl ?_; refine r_assign_int rfl ?_; exact ⟨Grow.rfl' _, rfl⟩
        refine AO_nil ?_
        intro w65 g66
        replace K := K.tr g66.kp
        replace g0 := g0.tr g66
        replace hc16 := g66.heap hc16
        replace hc30 := g66.heap hc30
        replace hBw := Nat.le_trans hBw g66.size
        replace hRw := hRw.sees (Sees.grow g66)
        replace hc53 := g66.heap hc53
        clear g66
        refine stp (r_assign_int rfl ?_)
        refine WL_nil ?_
        have hk6 : (followS s seg a).1.size = 6 ∨ (followS s seg a).1.size ≠ 6 := by omega
        exact ⟨adhRw, ((followS s seg a).1.data).toNat, cphRw, none, 0, 0, fr_of ⟨rfl, rfl, rfl, rfl, rfl, congrArg (Value.int .i64) (by unfold kidN; rw [if_pos (by omega)]), congrArg (Value.int .i64) (by unfold kidA; rw [if_pos (by omega)]), trivial⟩, K, g0, hc16, hc30, hBw, hc53, (by unfold nodL; rw [if_neg (by omega), wordsS_len]; exact hRw), (by unfold nodB; rw [if_neg (by omega)]; exact Row.nil _ _)⟩
       ·-- false
        replace h6 := of_decide_eq_false h6
        refine W_skip ?_
        have hk6 : (followS s seg a).1.size = 6 ∨ (followS s seg a).1.size ≠ 6 := by omega
        exact ⟨adhRw, ((followS s seg a).1.data).toNat, cphRw, none, 0, 0, fr_of ⟨rfl, rfl, rfl, rfl, rfl, congrArg (Value.int .i64) (by unfold kidN; rw [if_neg (by omega)]), congrArg (Value.int .i64) (by unfold kidA; rw [if_neg (by omega)]), trivial⟩, K, g0, hc16, hc30, hBw, hc53, (by unfold nodL; rw [if_neg (by omega), wordsS_len]; exact hRw), (by unfold nodB; rw [if_neg (by omega)]; exact Row.nil _ _)⟩
    ·-- behind them
     clear K g0 hc16 hc30 hBw hRw hc53
     rintro e_ w67 ⟨aw, nw, cw, ab, nb, cb, ⟨e68, rfl⟩, K, g0, hc16, hc30, hBw, hc53, hRW, hRB⟩
     refine W_seq ?_
     refine W_seq (W_region rfl ?_)
     refine stp (r_move_int rfl ?_)
     refine stp (r_move_int rfl ?_)
     refine WL_nil ?_
     refine W_block ?_
     obtain ⟨B2, hB2⟩ : ∃ B, B = w67.heap.size := ⟨_, rfl⟩
     have hBB2 : B ≤ B2 := by rw [hB2]; exact hBw
     have hB2w : B2 ≤ w67.heap.size := by rw [hB2]; exact Nat.le_refl _
     have hSW := hRW.sees (Sees.more (V' := (fun x => B ≤ x ∧ x < B2)) w67 (fun x_ h1_ h2_ => ⟨h2_, by rw [hB2]; exact h1_⟩))
     have hSB := hRB.sees (Sees.more (V' := (fun x => B ≤ x ∧ x < B2)) w67 (fun x_ h1_ h2_ => ⟨h2_, by rw [hB2]; exact h1_⟩))
     clear hRW hRB hB2
     refine W_loop (fun m_ e_ w_ => ∃ (j : Nat) (pd : Int) (ks : List Nd) (ad6 : Option Addr) (n6 : Nat) (c6 : Nat) (kc : List Value) (V : Nat → Prop), m_ = (kidN (followS s seg a).1).toNat - j ∧ Fr [(0, .pointer (some ⟨bd, 0, none⟩)), (3, .int .i64 (d : Int)), (8, .pointer (some ⟨b1, 0, none⟩)), (10, .pointer (some ⟨b10, 0, none⟩)), (12, .int .i64 (kidA (followS s seg a).1)), (108, .int .i64 (kidN (followS s seg a).1)), (109, .int .i64 (j : Int))] e_ ∧ ((j : Int) ≤ kidN (followS s seg a).1) ∧ (kidsD (nodeF s d (followS s seg a).1.seg) (kidA (followS s seg a).1) (paid + (1 + wordsO (followS s seg a).1)) j = (pd, ks, 0)) ∧ (0 ≤ pd ∧ pd ≤ 8192) ∧ (∀ x, (Value.slice ad6 n6 c6).ownBlock = some x → ¬ V x) ∧ (Kp [bd] w w_) ∧ (Grow w0 w_) ∧ (w_.heap[b10]? = some (.cells #[.int .i64 ((followS s seg a).1.kind), .int .i64 ((followS s seg a).1.seg), .int .i64 ((followS s seg a).1.at_), .int .i64 ((followS s seg a).1.data), .int .i64 ((followS s seg a).1.ptrs), .int .i64 ((followS s seg a).1.size), .int .i64 ((followS s seg a).1.count)] 120 (0, 0))) ∧ (B ≤ w_.heap.size) ∧ (Row (see (fun x => B ≤ x ∧ x < B2) w_) 1 (.slice aw nw cw) (nodL s (followS s seg a).1).length ((nodL s (followS s seg a).1).map (.int .u64))) ∧ (Row (see (fun x => B ≤ x ∧ x < B2) w_) 1 (.slice ab nb cb) (nodB s (followS s seg a).1).length ((nodB s (followS s seg a).1).map (.int .u8))) ∧ (B2 ≤ w_.heap.size) ∧ (w_.heap[b1]? = some (.cells #[.int .i64 ((followS s seg a).1.kind), .int .i64 ((followS s seg a).1.size), .slice aw nw cw, .slice ab nb cb, .slice ad6 n6 c6] 37 (0, 0))) ∧ (w_.heap[bd]? = some (.cells #[.iface t_ u_, .int .i64 pd] 85 (0, 0))) ∧ (w_.ownsRow B2 37 5 (.slice ad6 n6 c6) j kc) ∧ (∀ x, V x → B2 ≤ x ∧ x < w_.heap.size) ∧ (KidsR (see V w_) kc ks)) _ ⟨0, (paid + (1 + wordsO (followS s seg a).1)), [], none, 0, 0, [], fun _ => False, rfl, fr_of ⟨rfl, rfl, rfl, rfl, rfl, rfl, rfl, trivial⟩, by omega, rfl, by omega, fun x _ h_ => h_, K, g0, hc16, hBw, hSW, hSB, hB2w, hc53, hc30, World.ownsRow_nil _ _ _ _, fun x h_ => h_.elim, .nil⟩ ?_
     clear K g0 hc16 hc30 hBw hc53 hSW hSB hB2w
     rintro m_ e_ w69 ⟨j, pd, ks, ad6, n6, c6, kc, V, rfl, ⟨e70, rfl⟩, hj, hkd, hpd, hVo, K, g0, hc16, hBw, hSW, hSB, hB2w, hc53, hc30, ownk, hV, hK⟩
     refine W_seq (W_region rfl ?_)
     refine stp (r_lss rfl rfl ?_)
     refine WL_nil ?_
     refine W_seq ?_
     refine W_cond2 (b := (decide ((j : Int) < (kidN (followS s seg a).1)))) rfl (fun hlt => ?_) (fun hlt => ?_)
     ·-- true
      replace hlt := of_decide_eq_true hlt
      obtain ⟨d1, hd1⟩ := kid_left hok h2n (j := j) (by omega)
      have hnf : nodeF s d = nodeD s d1 := by rw [hd1]; rfl
      have hka : 0 ≤ kidA (followS s seg a).1 ∧ kidA (followS s seg a).1 ≤ 140737488420864 := by unfold kidA; split <;> omega
      have hq := nodeD_paid H d1 (followS s seg a).1.seg (kidA (followS s seg a).1 + (j : Int)) pd hpd.1 hpd.2
      have hj1 : kidsD (nodeF s d (followS s seg a).1.seg) (kidA (followS s seg a).1) (paid + (1 + wordsO (followS s seg a).1)) (j + 1) = ((nodeD s d1 (followS s seg a).1.seg (kidA (followS s seg a).1 + (j : Int)) pd).1, ks ++ [(nodeD s d1 (followS s seg a).1.seg (kidA (followS s seg a).1 + (j : Int)) pd).2.1], (nodeD s d1 (followS s seg a).1.seg (kidA (followS s seg a).1 + (j : Int)) pd).2.2) := by rw [kidsD, hkd, if_neg (by simp), hnf]
      refine W_skip ?_
      refine W_seq ?_
      refine W_block ?_
      refine W_seq (W_region rfl ?_)
      refine stp (r_move_int rfl ?_)
      refine stp (r_assign_int rfl ?_)
      refine WL_nil ?_
      refine W_seq (W_region rfl ?_)
      refine stp (r_move_ptr rfl ?_)
      refine stp (r_fieldAddr rfl ?_)
      refine stp (r_load (v := .int .i64 ((followS s seg a).1.seg)) rfl hc16 rfl ?_)
      refine stp (r_move_int rfl ?_)
      refine stp (r_move_int rfl ?_)
      refine stp (r_add rfl rfl ?_ ?_); constructor <;> omega
      refine stp (r_move_int rfl ?_)
      refine stp (r_sub rfl rfl ?_ ?_); constructor <;> omega
      refine WL_some (og rfl ?_)
      have hcal := ih_ _ H g0 hbd hc30 hpd.1 hpd.2 (followS s seg a).1.seg (a := kidA (followS s seg a).1 + (j : Int)) (by omega) (by omega) (d := d1) (by omega) (by omega)
      rw [show ((d1 : Nat) : Int) = (d : Int) - 1 from by omega] at hcal
      refine r_call rfl hcal ?_
      rintro v_ w71 ⟨cells, rfl, hT9, hb9, K_⟩
      clear hcal
      have hB2w0 := hB2w
      have hol := fun x hx_ => (ownk.lt x hx_).2
      replace K := K.tr K_
      replace g0 := g0.kp1 K_ hbd
      replace hc16 := K_.heap hc16 (fun hm_ => by simp only [List.mem_singleton] at hm_; first | exact ne20 hm_ | exact ne20 hm_.symm)
      replace hBw := Nat.le_trans hBw K_.size
      replace hSW := hSW.sees (Sees.kp K_ (fun x_ hx_ hv_ => by simp only [List.mem_singleton] at hx_; subst hx_; exact absurd hv_.1 (by omega)))
      replace hSB := hSB.sees (Sees.kp K_ (fun x_ hx_ hv_ => by simp only [List.mem_singleton] at hx_; subst hx_; exact absurd hv_.1 (by omega)))
      replace hB2w := Nat.le_trans hB2w K_.size
      replace hc53 := K_.heap hc53 (fun hm_ => by simp only [List.mem_singleton] at hm_; first | exact ne7 hm_ | exact ne7 hm_.symm)
      replace ownk := own_kp ownk K_ (fun x_ hx_ => by simp only [List.mem_singleton] at hx_; subst hx_; omega)
      replace hV := vlt hV K_.size
      replace hK := hK.sees (Sees.kp K_ (fun x_ hx_ hv_ => by simp only [List.mem_singleton] at hx_; subst hx_; exact absurd (hV _ hv_).1 (by omega)))
      have hszK := K_.size
      clear K_ hc30
      obtain ⟨y0, y1, ya, yn, yc, za, zn, zc, ua, un, uc, rfl⟩ := hT9.cells
      have hT8 := hT9.sees (Sees.more (V' := fun x => V x ∨ (w69.heap.size ≤ x ∧ x < w71.heap.size)) w71 (fun x h1_ h2_ => .inr ⟨h2_, h1_⟩))
      clear hT9
      replace hK := hK.sees (Sees.more (V' := fun x => V x ∨ (w69.heap.size ≤ x ∧ x < w71.heap.size)) w71 (fun x _ h2_ => .inl h2_))
      have hV9 : ∀ x, (V x ∨ (w69.heap.size ≤ x ∧ x < w71.heap.size)) → B2 ≤ x ∧ x < w71.heap.size := fun x hx_ => hx_.elim (fun h_ => hV x h_) (fun h_ => ⟨Nat.le_trans hB2w0 h_.1, h_.2⟩)
      have hVo9 : ∀ x, (Value.slice ad6 n6 c6).ownBlock = some x → ¬ (V x ∨ (w69.heap.size ≤ x ∧ x < w71.heap.size)) := fun x hx_ hv_ => hv_.elim (fun h_ => hVo x hx_ h_) (fun h_ => by have := hol x hx_; omega)
      clear hV hVo
      obtain ⟨V9, hV9e⟩ : ∃ V9 : Nat → Prop, V9 = fun x => V x ∨ (w69.heap.size ≤ x ∧ x < w71.heap.size) := ⟨_, rfl⟩
      rw [← hV9e] at hT8 hK
      have hV : ∀ x, V9 x → B2 ≤ x ∧ x < w71.heap.size := by rw [hV9e]; exact hV9
      have hVo : ∀ x, (Value.slice ad6 n6 c6).ownBlock = some x → ¬ V9 x := by rw [hV9e]; exact hVo9
      clear hV9 hVo9 hV9e hB2w0 hol hszK
      refine stp (r_move (v := .tuple #[.agg #[.int .i64 y0, .int .i64 y1, .slice ya yn yc, .slice za zn zc, .slice ua un uc], .int .u16 ((nodeD s d1 (followS s seg a).1.seg (kidA (followS s seg a).1 + (j : Int)) pd).2.2)]) rfl ?_)
      refine stp (r_extract (v := .agg #[.int .i64 y0, .int .i64 y1, .slice ya yn yc, .slice za zn zc, .slice ua un uc]) rfl rfl ?_)
      refine stp (r_extract (v := .int .u16 ((nodeD s d1 (followS s seg a).1.seg (kidA (followS s seg a).1 + (j : Int)) pd).2.2)) rfl rfl ?_)
      refine stp (r_alloc ?_)
      intro b72 w73 hb74 hc75 g76
      refine stn (r_storeAll rfl rfl hc75 (by rfl) (by rfl) (by rfl) ?_)
      intro w77 hc78 u79
      have g80 := g76.upd u79 hb74
      have hge81 := Nat.le_trans K.size hb74
      have ne82 := Nat.ne_of_lt (Nat.lt_of_lt_of_le (lt_of_heap hc16) hb74)
      have ne83 := Nat.ne_of_lt (Nat.lt_of_lt_of_le (lt_of_heap hc53) hb74)
      have ne84 := Nat.ne_of_lt (Nat.lt_of_lt_of_le (lt_of_heap hb9) hb74)
      replace K := K.tr g80.kp
      replace g0 := g0.tr g80
      replace hc16 := g80.heap hc16
      replace hBw := Nat.le_trans hBw g80.size
      replace hSW := hSW.sees (Sees.grow g80)
      replace hSB := hSB.sees (Sees.grow g80)
      replace hB2w := Nat.le_trans hB2w g80.size
      replace hc53 := g80.heap hc53
      replace ownk := own_grow ownk g80
      replace hK := hK.sees (Sees.grow g80)
      replace hb9 := g80.heap hb9
      replace hT8 := hT8.sees (Sees.grow g80)
      replace hV := vlt hV g80.size
      clear u79 g76 hb74 hc75
      refine stp (r_assign_int rfl ?_)
      refine WL_nil ?_
      refine W_seq ?_
      refine W_seq (W_region rfl ?_)
      refine stp (r_move_int rfl ?_)
      refine stp (r_neq rfl rfl ?_)
      refine WL_nil ?_
      refine W_cond2 (b := (decide (((nodeD s d1 (followS s seg a).1.seg (kidA (followS s seg a).1 + (j : Int)) pd).2.2) ≠ 0))) rfl (fun h7 => ?_) (fun h7 => ?_)
      ·-- true
       replace h7 := of_decide_eq_true h7
       refine W_seq (W_region rfl ?_)
       refine stp (r_build (v := .agg #[.int .i64 0, .int .i64 0, .slice none 0 0, .slice none 0 0, .slice none 0 0]) (fun w => by kernel_rfl) ?_)
       refine stp (r_move_int rfl ?_)
       refine stn (r_storeAll rfl rfl hc53 (by rfl) (by rfl) (by rfl) ?_)
       intro w85 hc86 u87
       replace K := (by first | exact K.upd_new u87 (by assumption) | exact K.tr (Kp.of_upd u87 (by simp)))
       replace g0 := (by first | exact Grow.upd g0 u87 (Nat.le_trans g0w (by assumption)) | exact g0.kp1 (Kp.of_upd u87 (by simp)) hbd)
       replace hc16 := u87.heap hc16 ne21.symm
       replace hBw := Nat.le_trans hBw (Nat.le_of_eq u87.size.symm)
       replace hSW := hSW.sees (Sees.upd u87 (fun h_ => by have := h_.1; omega))
       replace hSB := hSB.sees (Sees.upd u87 (fun h_ => by have := h_.1; omega))
       replace hB2w := Nat.le_trans hB2w (Nat.le_of_eq u87.size.symm)
       replace ownk := own_upd ownk u87 (fun he_ => by have := own_ge ownk _ he_; omega)
       replace hb9 := u87.heap hb9 ne7
       replace hc78 := u87.heap hc78 ne83.symm
       clear u87 hc53
       refine stp (r_assign_int rfl ?_)
       refine WL_nil ?_
       refine W_ret ?_
       have h9 : (nodeD s d seg a paid) = ((nodeD s d1 (followS s seg a).1.seg (kidA (followS s seg a).1 + (j : Int)) pd).1, .nil, (nodeD s d1 (followS s seg a).1.seg (kidA (followS s seg a).1 + (j : Int)) pd).2.2) := by rw [hneq]; unfold nodeK; rw [if_neg h1, if_neg h2n, if_neg h3, kidsD_stop' (k := j + 1) (by rw [hj1]; exact h7) (by omega), hj1, if_pos h7]
       rw [h9]
       refine ret2 (res_all rfl hc86 (by rfl)) (res_tmp (v := .int .u16 ((nodeD s d1 (followS s seg a).1.seg (kidA (followS s seg a).1 + (j : Int)) pd).2.2)) rfl) ⟨[_, _, _, _, _], rfl, NodeR.zero _, hb9, K⟩
      ·-- false
       replace h7 := of_decide_eq_false h7
       have h70 : (nodeD s d1 (followS s seg a).1.seg (kidA (followS s seg a).1 + (j : Int)) pd).2.2 = 0 := by omega
       refine W_skip ?_
       refine W_region rfl ?_
       refine stp (r_fieldAddr rfl ?_)
       refine stp (r_load (v := .slice ad6 n6 c6) rfl hc53 rfl ?_)
       refine stp (r_loadAll rfl hc78 (by rfl) ?_)
       refine stp (r_buildSlice (cs := #[.int .i64 y0, .int .i64 y1, .slice ya yn yc, .slice za zn zc, .slice ua un uc]) (el := 37) (fun w => by kernel_rfl) ?_)
       intro bs88 w89 hb90 hc91 g92
       have hge93 := Nat.le_trans K.size hb90
       have ne94 := Nat.ne_of_lt (Nat.lt_of_lt_of_le (lt_of_heap hc16) hb90)
       have ne95 := Nat.ne_of_lt (Nat.lt_of_lt_of_le (lt_of_heap hc53) hb90)
       have ne96 := Nat.ne_of_lt (Nat.lt_of_lt_of_le (lt_of_heap hc78) hb90)
       replace K := K.tr g92.kp
       replace g0 := g0.tr g92
       replace hc16 := g92.heap hc16
       replace hBw := Nat.le_trans hBw g92.size
       replace hSW := hSW.sees (Sees.grow g92)
       replace hSB := hSB.sees (Sees.grow g92)
       replace hB2w := Nat.le_trans hB2w g92.size
       replace hc53 := g92.heap hc53
       replace ownk := own_grow ownk g92
       replace hK := hK.sees (Sees.grow g92)
       replace hb9 := g92.heap hb9
       replace hT8 := hT8.sees (Sees.grow g92)
       replace hV := vlt hV g92.size
       replace hc78 := g92.heap hc78
       clear g92
       refine stp (r_appendB rfl rfl rfl rfl ownk (Row.of_block (n := 1) hc91 rfl rfl (by omega)) (fun q_ hq_ => by simp at hq_; rcases hq_ with rfl | rfl | rfl | rfl | rfl <;> rfl) (by simp only [maxLen]; omega) (by omega) hB2w ?_)
       intro v97 w98 own6 gr6 hbk6
       have k6_ : Kp (Value.slice ad6 n6 c6).ownBlock.toList w89 w98 := Kp.of_grownBy gr6 (fun k_ hk_ => by rw [Option.mem_toList]; exact hk_)
       have hF6 : ∀ x ∈ (Value.slice ad6 n6 c6).ownBlock.toList, B2 ≤ x := fun x hx_ => own_ge ownk x (Option.mem_toList.1 hx_)
       have hF7 : ∀ x ∈ (Value.slice ad6 n6 c6).ownBlock.toList, ¬ V9 x := fun x hx_ => hVo x (Option.mem_toList.1 hx_)
       have hVo6 : ∀ x, v97.ownBlock = some x → ¬ V9 x := fun x hx_ hv_ => hbk6.elim (fun h_ => hVo x (h_ ▸ hx_) hv_) (fun h_ => by rw [h_] at hx_; simp only [Option.some.injEq] at hx_; have := (hV x hv_).2; omega)
       replace K := K.trans k6_ (fun x_ hx_ => .inr (Nat.le_trans hwB (Nat.le_trans hBB2 (hF6 x_ hx_))))
       replace g0 := g0.trK k6_ (fun x_ hx_ => Nat.le_trans g0w (Nat.le_trans hwB (Nat.le_trans hBB2 (hF6 x_ hx_))))
       replace hc16 := k6_.heap hc16 (fun hm_ => by have h1_ := hF6 _ hm_; omega)
       replace hBw := Nat.le_trans hBw k6_.size
       replace hSW := hSW.sees (Sees.kp k6_ (fun x_ hx_ hv_ => by have := hF6 x_ hx_; have := hv_.2; omega))
       replace hSB := hSB.sees (Sees.kp k6_ (fun x_ hx_ hv_ => by have := hF6 x_ hx_; have := hv_.2; omega))
       replace hB2w := Nat.le_trans hB2w k6_.size
       replace hc53 := k6_.heap hc53 (fun hm_ => by have h1_ := hF6 _ hm_; omega)
       replace hK := hK.sees (Sees.kp k6_ hF7)
       replace hb9 := k6_.heap hb9 (fun hm_ => by have h1_ := hF6 _ hm_; omega)
       replace hT8 := hT8.sees (Sees.kp k6_ hF7)
       replace hV := fun x hx_ => (⟨(hV x hx_).1, Nat.lt_of_lt_of_le (hV x hx_).2 k6_.size⟩ : B2 ≤ x ∧ x < w98.heap.size)
       clear hc78
       clear hc91
       clear ownk gr6 hVo k6_ hF6 hF7 hbk6
       obtain ⟨ad7, n7, c7, rfl⟩ := own_slice own6
       refine stp (r_fieldAddr rfl ?_)
       refine stn (r_store1 (v := .slice ad7 n7 c7) rfl rfl (by rfl) hc53 (by rfl) (by rfl) ?_)
       intro w99 hc100 u101
       replace K := (by first | exact K.upd_new u101 (by assumption) | exact K.tr (Kp.of_upd u101 (by simp)))
       replace g0 := (by first | exact Grow.upd g0 u101 (Nat.le_trans g0w (by assumption)) | exact g0.kp1 (Kp.of_upd u101 (by simp)) hbd)
       replace hc16 := u101.heap hc16 (fun hm_ => by first | exact ne21 hm_ | exact ne21 hm_.symm)
       replace hBw := Nat.le_trans hBw (Nat.le_of_eq u101.size.symm)
       replace hSW := hSW.sees (Sees.upd u101 (fun h_ => by have := h_.1; omega))
       replace hSB := hSB.sees (Sees.upd u101 (fun h_ => by have := h_.1; omega))
       replace hB2w := Nat.le_trans hB2w (Nat.le_of_eq u101.size.symm)
       replace hK := hK.sees (Sees.upd u101 (fun h_ => by have := (hV _ h_).1; omega))
       replace hb9 := u101.heap hb9 (fun hm_ => by first | exact ne7 hm_ | exact ne7 hm_.symm)
       replace hT8 := hT8.sees (Sees.upd u101 (fun h_ => by have := (hV _ h_).1; omega))
       replace hV := fun x hx_ => (⟨(hV x hx_).1, Nat.lt_of_lt_of_le (hV x hx_).2 (Nat.le_of_eq u101.size.symm)⟩ : B2 ≤ x ∧ x < w99.heap.size)
       replace own6 := own_upd own6 u101 (fun he_ => by have := own_ge own6 _ he_; omega)
       clear hc53 u101
       refine WL_nil ?_
       refine W_region rfl ?_
       refine stp (r_add rfl rfl ?_ ?_); constructor <;> omega
       refine stp (r_move_int rfl ?_)
       refine WL_nil ?_
       refine ⟨_, ?_, j + 1, (nodeD s d1 (followS s seg a).1.seg (kidA (followS s seg a).1 + (j : Int)) pd).1, ks ++ [(nodeD s d1 (followS s seg a).1.seg (kidA (followS s seg a).1 + (j : Int)) pd).2.1], ad7, n7, c7, _, V9, rfl, fr_of ⟨rfl, rfl, rfl, rfl, rfl, rfl, congrArg (Value.int .i64) (by omega), trivial⟩, by omega, (by rw [hj1, h70]), ⟨hq.1, hq.2.2 h70⟩, hVo6, K, g0, hc16, hBw, hSW, hSB, hB2w, hc100, hb9, own6, hV, (KidsR.append hK (by have := KidsR.cons hT8 .nil; simpa using this))⟩
       omega
     ·-- false
      replace hlt := of_decide_eq_false hlt
      have hjn : (kidN (followS s seg a).1).toNat = j := by omega
      have hlk : ks.length = j := by have := kidsD_count (f := nodeF s d (followS s seg a).1.seg) (a := kidA (followS s seg a).1) (p := (paid + (1 + wordsO (followS s seg a).1))) j (by rw [hkd]); rw [hkd] at this; exact this
      have hrk : Row (hide B2 w69) 5 (.slice ad6 n6 c6) ks.length kc := by rw [hlk]; exact own_hide ownk (by omega)
      have hK9 := hK.sees (Sees.more (V' := fun x => B2 ≤ x) _ (fun x _ hx_ => (hV x hx_).1))
      clear hK hV ownk
      refine W_exit ?_
      refine W_seq (W_region rfl ?_)
      refine stp (r_loadAll rfl hc53 (by rfl) ?_)
      refine stn (r_storeAll rfl rfl hc53 (by rfl) (by rfl) (by rfl) ?_)
      intro w102 hc103 u104
      replace K := (by first | exact K.upd_new u104 (by assumption) | exact K.tr (Kp.of_upd u104 (by simp)))
      replace g0 := (by first | exact Grow.upd g0 u104 (Nat.le_trans g0w (by assumption)) | exact g0.kp1 (Kp.of_upd u104 (by simp)) hbd)
      replace hc16 := u104.heap hc16 ne21.symm
      replace hBw := Nat.le_trans hBw (Nat.le_of_eq u104.size.symm)
      replace hSW := hSW.sees (Sees.upd u104 (fun h_ => by have := h_.1; omega))
      replace hSB := hSB.sees (Sees.upd u104 (fun h_ => by have := h_.1; omega))
      replace hB2w := Nat.le_trans hB2w (Nat.le_of_eq u104.size.symm)
      replace hc30 := u104.heap hc30 ne7
      replace hrk := hrk.sees (Sees.upd u104 (fun h_ => absurd h_ (by omega)))
      replace hK9 := hK9.sees (Sees.upd u104 (fun h_ => absurd h_ (by omega)))
      clear u104 hc53
      refine stp (r_assign_int rfl ?_)
      refine WL_nil ?_
      refine W_ret ?_
      have h9 : (nodeD s d seg a paid) = (pd, .mk (followS s seg a).1.kind (followS s seg a).1.size (nodL s (followS s seg a).1) (nodB s (followS s seg a).1) ks, 0) := by rw [hneq]; unfold nodeK; rw [if_neg h1, if_neg h2n, if_neg h3, hjn, hkd, if_neg (by simp)]
      rw [h9]
      refine ret2 (res_all rfl hc103 (by rfl)) (res_tmp (v := .int .u16 0) rfl) ⟨[_, _, _, _, _], rfl, (.mk (by simp only [inR]; omega) (by simp only [inR]; omega) (hSW.sees (Sees.more _ (fun x _ hx_ => Nat.le_trans hwB hx_.1))) (nodL_u64 H _) (hSB.sees (Sees.more _ (fun x _ hx_ => Nat.le_trans hwB hx_.1))) (nodB_u8 s _) (hrk.sees (Sees.low (Nat.le_trans hwB hBB2) _)) (hK9.sees (Sees.low (Nat.le_trans hwB hBB2) _))), hc30, K⟩

set_option maxRecDepth 100000 in
theorem Decode_calls (w : World) {u : Value} {A : List (List Int)} (hA : ArenaR w u A) (hr : OkA A) : Calls Try.prog 22 #[u] w (Ret fun v w' => ∃ cells, v = .tuple #[.agg cells.toArray, .int .u16 (nodeD (wholeS A) 32 0 0 0).2.2] ∧ NodeR (hide w.heap.size w') cells (nodeD (wholeS A) 32 0 0 0).2.1 ∧ Grow w w') := by
 have hA0 := hA
 obtain ⟨segs_, ⟨ada, ca, rfl, hc1_, hc2_, RA⟩, hrows⟩ := hA
 have G := Grow.rfl' w
 refine calls_ret Try.func22 Try.ntmps22 Try.results22 rfl rfl ?_
 refine W_seq (W_region rfl ?_)
 refine stp (r_alloc ?_)
 intro b1 w2 hb3 hc4 g5
 refine stp (r_assign_int rfl ?_)
 refine WL_nil ?_
 refine W_seq ?_
 refine W_seq (W_region rfl ?_)
 refine stp (r_move_slice rfl ?_)
 have hge6 := Nat.le_trans G.size hb3
 replace G := G.tr g5
 clear g5 hb3
 refine stp (r_gives (v := .bool true) rfl (aright_calls _ (RA.grow G) rfl (fun i q hq => by obtain ⟨v, h1, h2⟩ := hrows i q hq; exact ⟨v, h1, h2.grow G⟩) hr.one hr.most hr.first hr.all) ?_)
 intro w7 g8
 replace hc4 := g8.heap hc4
 replace G := G.tr g8
 clear g8
 refine stp (r_not_f rfl rfl ?_)
 refine WL_nil ?_
 refine W_false rfl ?_
 refine W_skip ?_
 refine W_seq (W_region rfl ?_)
 refine stp (r_move_slice rfl ?_)
 refine stp (r_gives (v := .iface 118 (.agg #[.slice ada A.length ca])) rfl (whole_calls _) ?_)
 intro w9 g10
 replace hc4 := g10.heap hc4
 replace G := G.tr g10
 clear g10
 refine stp (r_build (v := .agg #[.iface 118 (.agg #[.slice ada A.length ca]), .int .i64 0]) (fun w => by kernel_rfl) ?_)
 refine WL_some (og rfl ?_)
 (first | refine r_box_agg rfl ?_ | refine r_box_int rfl ?_ | refine r_box_slice rfl ?_ | refine r_box rfl rfl ?_)
 intro b11 w12 hb13 hc14 g15
 have hge16 := Nat.le_trans G.size hb13
 have ne17 := Nat.ne_of_lt (Nat.lt_of_lt_of_le (lt_of_heap hc4) hb13)
 replace hc4 := g15.heap hc4
 replace G := G.tr g15
 clear g15 hb13
 refine stp (r_assign_ptr rfl ?_)
 refine WL_nil ?_
 refine W_seq (W_region rfl ?_)
 refine stp (r_move_ptr rfl ?_)
 refine WL_some (og rfl ?_)
 have hcal := dnode_calls _ _ (whole_ok hA0 hr) G hge16 hc14 (by decide) (by decide) 0 (a := 0) (by decide) (by decide) (d := 32) (by decide) (Nat.le_refl _)
 have hlow := G.size
 have hlt1 := lt_of_heap hc4
 refine r_call rfl hcal ?_
 rintro v_ w18 ⟨cells, rfl, hT9, hb9, K_⟩
 clear hcal
 replace hc4 := K_.heap hc4 (fun hm_ => by simp only [List.mem_singleton] at hm_; first | exact ne17 hm_ | exact ne17 hm_.symm)
 replace G := G.trK K_ (fun x_ hx_ => by simp only [List.mem_singleton] at hx_; subst hx_; exact hge16)
 clear K_ hc14
 obtain ⟨y0, y1, ya, yn, yc, za, zn, zc, ua, un, uc, rfl⟩ := hT9.cells
 refine stp (r_extract (v := .agg #[.int .i64 y0, .int .i64 y1, .slice ya yn yc, .slice za zn zc, .slice ua un uc]) rfl rfl ?_)
 refine stp (r_extract (v := .int .u16 ((nodeD (wholeS A) 32 0 0 0).2.2)) rfl rfl ?_)
 refine stn (r_storeAll rfl rfl hc4 (by rfl) (by rfl) (by rfl) ?_)
 intro w19 hc20 u21
 replace hb9 := u21.heap hb9 ne17.symm
 replace hT9 := hT9.sees (Sees.upd u21 (fun h_ => absurd h_ (Nat.not_le.2 hlt1)))
 replace G := G.upd u21 hge6
 clear u21 hc4
 refine stp (r_assign_int rfl ?_)
 refine WL_nil ?_
 refine W_ret ?_
 refine ret2 (res_all rfl hc20 (by rfl)) (res_tmp (v := .int .u16 ((nodeD (wholeS A) 32 0 0 0).2.2)) rfl) ⟨_, rfl, hT9.sees (Sees.low hlow _), G⟩
end Go.Proofs.Ytfhfecepcnapfaa.K
namespace Go.Proofs.Ytfhfecepcnapfaa.K
open Go Go.RowKit Go.Proofs
attribute [local irreducible] Run1 OpG WL W AO Gives
set_option maxRecDepth 100000 in
theorem nsame_calls : ∀ (n_ : Nat) (w : World) {c : List Value} {t : Nd} (T : NodeR w c t) {d : List Value} {u : Nd} (U : NodeR w d u), t.sz ≤ n_ → Gives Try.prog 23 #[.agg c.toArray, .agg d.toArray] w (.bool (t.beq u)) := by
 intro n_
 induction n_ with
 | zero => intro w c t T d u U hm_; exact absurd hm_ (by have := t.sz_pos; omega)
 | succ n_ ih_ =>
 intro w c t T d u U hm_
 obtain @⟨kind, size, words, bytes, kids, ws, bs, ks, kc, hk, hs, hW, hwr, hB, hbr, hK, hKs⟩ := T
 obtain ⟨aw, cw, rfl, hcw, hcw2, RW⟩ := hW
 obtain ⟨ab, cb, rfl, hcb, hcb2, RB⟩ := hB
 obtain ⟨ak, ck, rfl, hck, hck2, RK⟩ := hK
 have lw := RW.lim
 have lb := RB.lim
 have lk := RK.lim
 simp only [inR] at hk hs
 obtain @⟨kind2, size2, words2, bytes2, kids2, ws2, bs2, ks2, kc2, hk2, hs2, hW2, hwr2, hB2, hbr2, hK2, hKs2⟩ := U
 obtain ⟨aw2, cw2, rfl, hcw2, hcw22, RW2⟩ := hW2
 obtain ⟨ab2, cb2, rfl, hcb2, hcb22, RB2⟩ := hB2
 obtain ⟨ak2, ck2, rfl, hck2, hck22, RK2⟩ := hK2
 have lw2 := RW2.lim
 have lb2 := RB2.lim
 have lk2 := RK2.lim
 simp only [inR] at hk2 hs2
 have G := Grow.rfl' w
 refine gives_of Try.func23 Try.ntmps23 Try.results23 rfl rfl ?_
 refine W_seq (W_region rfl ?_)
 refine WL_some (og rfl ?_)
 (first | refine r_box_agg rfl ?_ | refine r_box_int rfl ?_ | refine r_box_slice rfl ?_ | refine r_box rfl rfl ?_)
 intro b1 w2 hb3 hc4 g5
 have hge6 := Nat.le_trans G.size hb3
 replace G := G.tr g5
 clear g5 hb3
 refine WL_some (og rfl ?_)
 (first | refine r_box_agg rfl ?_ | refine r_box_int rfl ?_ | refine r_box_slice rfl ?_ | refine r_box rfl rfl ?_)
 intro b7 w8 hb9 hc10 g11
 have hge12 := Nat.le_trans G.size hb9
 replace hc4 := g11.heap hc4
 replace G := G.tr g11
 clear g11 hb9
 refine stp (r_assign (v := .bool false) rfl ?_)
 refine WL_nil ?_
 refine W_seq ?_
 refine W_seq (W_region rfl ?_)
 refine stp (r_fieldAddr rfl ?_)
 refine stp (r_load (v := .int .i64 kind) rfl hc4 rfl ?_)
 refine stp (r_fieldAddr rfl ?_)
 refine stp (r_load (v := .int .i64 kind2) rfl hc10 rfl ?_)
 refine stp (r_neq rfl rfl ?_)
 refine stp (r_move_bool rfl ?_)
 refine WL_some (og_if (s := .bool (decide (kind ≠ kind2))) (b := false) (v := .pointer (some ⟨b1, 1, none⟩)) rfl (wgb_f _) (fun hc13 => ?_) ?_)
 ·
  have hc13_ := hc13
  try simp only [Bool.and_eq_true, Bool.or_eq_true, Bool.not_eq_true', Bool.and_eq_false_iff, Bool.or_eq_false_iff, Bool.not_eq_false', decide_eq_true_eq, decide_eq_false_iff_not, Bool.not_true, Bool.not_false, Bool.not_eq_eq_eq_not, Bool.or_false, Bool.and_true, Bool.or_true, Bool.and_false, Bool.false_or, Bool.true_and, Bool.true_or, Bool.false_and, Bool.false_eq_true, Bool.true_eq_false] at hc13_
  refine r_fieldAddr rfl ?_
  exact ⟨rfl, rfl⟩
 refine WL_some (og_if (s := .bool (decide (kind ≠ kind2))) (b := false) (v := .int .i64 size) rfl (wgb_f _) (fun hc14 => ?_) ?_)
 ·
  have hc14_ := hc14
  try simp only [Bool.and_eq_true, Bool.or_eq_true, Bool.not_eq_true', Bool.and_eq_false_iff, Bool.or_eq_false_iff, Bool.not_eq_false', decide_eq_true_eq, decide_eq_false_iff_not, Bool.not_true, Bool.not_false, Bool.not_eq_eq_eq_not, Bool.or_false, Bool.and_true, Bool.or_true, Bool.and_false, Bool.false_or, Bool.true_and, Bool.true_or, Bool.false_and, Bool.false_eq_true, Bool.true_eq_false] at hc14_
  refine r_load (v := .int .i64 size) (gvt hc14) hc4 rfl ?_
  exact ⟨rfl, rfl⟩
 refine WL_some (og_if (s := .bool (decide (kind ≠ kind2))) (b := false) (v := .pointer (some ⟨b7, 1, none⟩)) rfl (wgb_f _) (fun hc15 => ?_) ?_)
 ·
  have hc15_ := hc15
  try simp only [Bool.and_eq_true, Bool.or_eq_true, Bool.not_eq_true', Bool.and_eq_false_iff, Bool.or_eq_false_iff, Bool.not_eq_false', decide_eq_true_eq, decide_eq_false_iff_not, Bool.not_true, Bool.not_false, Bool.not_eq_eq_eq_not, Bool.or_false, Bool.and_true, Bool.or_true, Bool.and_false, Bool.false_or, Bool.true_and, Bool.true_or, Bool.false_and, Bool.false_eq_true, Bool.true_eq_false] at hc15_
  refine r_fieldAddr rfl ?_
  exact ⟨rfl, rfl⟩
 refine WL_some (og_if (s := .bool (decide (kind ≠ kind2))) (b := false) (v := .int .i64 size2) rfl (wgb_f _) (fun hc16 => ?_) ?_)
 ·
  have hc16_ := hc16
  try simp only [Bool.and_eq_true, Bool.or_eq_true, Bool.not_eq_true', Bool.and_eq_false_iff, Bool.or_eq_false_iff, Bool.not_eq_false', decide_eq_true_eq, decide_eq_false_iff_not, Bool.not_true, Bool.not_false, Bool.not_eq_eq_eq_not, Bool.or_false, Bool.and_true, Bool.or_true, Bool.and_false, Bool.false_or, Bool.true_and, Bool.true_or, Bool.false_and, Bool.false_eq_true, Bool.true_eq_false] at hc16_
  refine r_load (v := .int .i64 size2) (gvt hc16) hc10 rfl ?_
  exact ⟨rfl, rfl⟩
 refine WL_some (og_if (s := .bool (decide (kind ≠ kind2))) (b := false) (v := .bool (decide (size ≠ size2))) rfl (wgb_f _) (fun hc17 => ?_) ?_)
 ·
  have hc17_ := hc17
  try simp only [Bool.and_eq_true, Bool.or_eq_true, Bool.not_eq_true', Bool.and_eq_false_iff, Bool.or_eq_false_iff, Bool.not_eq_false', decide_eq_true_eq, decide_eq_false_iff_not, Bool.not_true, Bool.not_false, Bool.not_eq_eq_eq_not, Bool.or_false, Bool.and_true, Bool.or_true, Bool.and_false, Bool.false_or, Bool.true_and, Bool.true_or, Bool.false_and, Bool.false_eq_true, Bool.true_eq_false] at hc17_
  refine r_neq (gvt hc17) (gvt hc17) ?_
  exact ⟨rfl, rfl⟩
 refine stp (r_or2 rfl rfl rfl ?_)
 refine stp (r_move_bool rfl ?_)
 refine WL_some (og_if (s := .bool ((decide (kind ≠ kind2)) || (decide (size ≠ size2)))) (b := false) (v := .pointer (some ⟨b1, 3, none⟩)) rfl (wgb_f _) (fun hc18 => ?_) ?_)
 ·
  have hc18_ := hc18
  try simp only [Bool.and_eq_true, Bool.or_eq_true, Bool.not_eq_true', Bool.and_eq_false_iff, Bool.or_eq_false_iff, Bool.not_eq_false', decide_eq_true_eq, decide_eq_false_iff_not, Bool.not_true, Bool.not_false, Bool.not_eq_eq_eq_not, Bool.or_false, Bool.and_true, Bool.or_true, Bool.and_false, Bool.false_or, Bool.true_and, Bool.true_or, Bool.false_and, Bool.false_eq_true, Bool.true_eq_false] at hc18_
  refine r_fieldAddr rfl ?_
  exact ⟨rfl, rfl⟩
 refine WL_some (og_if (s := .bool ((decide (kind ≠ kind2)) || (decide (size ≠ size2)))) (b := false) (v := .slice ab bytes.length cb) rfl (wgb_f _) (fun hc19 => ?_) ?_)
 ·
  have hc19_ := hc19
  try simp only [Bool.and_eq_true, Bool.or_eq_true, Bool.not_eq_true', Bool.and_eq_false_iff, Bool.or_eq_false_iff, Bool.not_eq_false', decide_eq_true_eq, decide_eq_false_iff_not, Bool.not_true, Bool.not_false, Bool.not_eq_eq_eq_not, Bool.or_false, Bool.and_true, Bool.or_true, Bool.and_false, Bool.false_or, Bool.true_and, Bool.true_or, Bool.false_and, Bool.false_eq_true, Bool.true_eq_false] at hc19_
  refine r_load (v := .slice ab bytes.length cb) (gvt hc19) hc4 rfl ?_
  exact ⟨rfl, rfl⟩
 refine WL_some (og_if (s := .bool ((decide (kind ≠ kind2)) || (decide (size ≠ size2)))) (b := false) (v := .string (strOfNums bytes)) rfl (wgb_f _) (fun hc20 => ?_) ?_)
 ·
  have hc20_ := hc20
  try simp only [Bool.and_eq_true, Bool.or_eq_true, Bool.not_eq_true', Bool.and_eq_false_iff, Bool.or_eq_false_iff, Bool.not_eq_false', decide_eq_true_eq, decide_eq_false_iff_not, Bool.not_true, Bool.not_false, Bool.not_eq_eq_eq_not, Bool.or_false, Bool.and_true, Bool.or_true, Bool.and_false, Bool.false_or, Bool.true_and, Bool.true_or, Bool.false_and, Bool.false_eq_true, Bool.true_eq_false] at hc20_
  refine r_bytesStr (xs := bytes) (RB.grow G) (gvt hc20) ?_
  exact ⟨rfl, rfl⟩
 refine WL_some (og_if (s := .bool ((decide (kind ≠ kind2)) || (decide (size ≠ size2)))) (b := false) (v := .pointer (some ⟨b7, 3, none⟩)) rfl (wgb_f _) (fun hc21 => ?_) ?_)
 ·
  have hc21_ := hc21
  try simp only [Bool.and_eq_true, Bool.or_eq_true, Bool.not_eq_true', Bool.and_eq_false_iff, Bool.or_eq_false_iff, Bool.not_eq_false', decide_eq_true_eq, decide_eq_false_iff_not, Bool.not_true, Bool.not_false, Bool.not_eq_eq_eq_not, Bool.or_false, Bool.and_true, Bool.or_true, Bool.and_false, Bool.false_or, Bool.true_and, Bool.true_or, Bool.false_and, Bool.false_eq_true, Bool.true_eq_false] at hc21_
  refine r_fieldAddr rfl ?_
  exact ⟨rfl, rfl⟩
 refine WL_some (og_if (s := .bool ((decide (kind ≠ kind2)) || (decide (size ≠ size2)))) (b := false) (v := .slice ab2 bytes2.length cb2) rfl (wgb_f _) (fun hc22 => ?_) ?_)
 ·
  have hc22_ := hc22
  try simp only [Bool.and_eq_true, Bool.or_eq_true, Bool.not_eq_true', Bool.and_eq_false_iff, Bool.or_eq_false_iff, Bool.not_eq_false', decide_eq_true_eq, decide_eq_false_iff_not, Bool.not_true, Bool.not_false, Bool.not_eq_eq_eq_not, Bool.or_false, Bool.and_true, Bool.or_true, Bool.and_false, Bool.false_or, Bool.true_and, Bool.true_or, Bool.false_and, Bool.false_eq_true, Bool.true_eq_false] at hc22_
  refine r_load (v := .slice ab2 bytes2.length cb2) (gvt hc22) hc10 rfl ?_
  exact ⟨rfl, rfl⟩
 refine WL_some (og_if (s := .bool ((decide (kind ≠ kind2)) || (decide (size ≠ size2)))) (b := false) (v := .string (strOfNums bytes2)) rfl (wgb_f _) (fun hc23 => ?_) ?_)
 ·
  have hc23_ := hc23
  try simp only [Bool.and_eq_true, Bool.or_eq_true, Bool.not_eq_true', Bool.and_eq_false_iff, Bool.or_eq_false_iff, Bool.not_eq_false', decide_eq_true_eq, decide_eq_false_iff_not, Bool.not_true, Bool.not_false, Bool.not_eq_eq_eq_not, Bool.or_false, Bool.and_true, Bool.or_true, Bool.and_false, Bool.false_or, Bool.true_and, Bool.true_or, Bool.false_and, Bool.false_eq_true, Bool.true_eq_false] at hc23_
  refine r_bytesStr (xs := bytes2) (RB2.grow G) (gvt hc23) ?_
  exact ⟨rfl, rfl⟩
 refine WL_some (og_if (s := .bool ((decide (kind ≠ kind2)) || (decide (size ≠ size2)))) (b := false) (v := .bool (!(decide (bytes = bytes2)))) rfl (wgb_f _) (fun hc24 => ?_) ?_)
 ·
  have hc24_ := hc24
  try simp only [Bool.and_eq_true, Bool.or_eq_true, Bool.not_eq_true', Bool.and_eq_false_iff, Bool.or_eq_false_iff, Bool.not_eq_false', decide_eq_true_eq, decide_eq_false_iff_not, Bool.not_true, Bool.not_false, Bool.not_eq_eq_eq_not, Bool.or_false, Bool.and_true, Bool.or_true, Bool.and_false, Bool.false_or, Bool.true_and, Bool.true_or, Bool.false_and, Bool.false_eq_true, Bool.true_eq_false] at hc24_
  refine r_neqStr (gvt hc24) (gvt hc24) ?_
  rw [strOf_eq hbr hbr2]
  exact ⟨rfl, rfl⟩
 refine stp (r_or2 rfl rfl rfl ?_)
 refine stp (r_move_bool rfl ?_)
 refine WL_some (og_if (s := .bool (((decide (kind ≠ kind2)) || (decide (size ≠ size2))) || (!(decide (bytes = bytes2))))) (b := false) (v := .pointer (some ⟨b1, 2, none⟩)) rfl (wgb_f _) (fun hc25 => ?_) ?_)
 ·
  have hc25_ := hc25
  try simp only [Bool.and_eq_true, Bool.or_eq_true, Bool.not_eq_true', Bool.and_eq_false_iff, Bool.or_eq_false_iff, Bool.not_eq_false', decide_eq_true_eq, decide_eq_false_iff_not, Bool.not_true, Bool.not_false, Bool.not_eq_eq_eq_not, Bool.or_false, Bool.and_true, Bool.or_true, Bool.and_false, Bool.false_or, Bool.true_and, Bool.true_or, Bool.false_and, Bool.false_eq_true, Bool.true_eq_false] at hc25_
  refine r_fieldAddr rfl ?_
  exact ⟨rfl, rfl⟩
 refine WL_some (og_if (s := .bool (((decide (kind ≠ kind2)) || (decide (size ≠ size2))) || (!(decide (bytes = bytes2))))) (b := false) (v := .slice aw words.length cw) rfl (wgb_f _) (fun hc26 => ?_) ?_)
 ·
  have hc26_ := hc26
  try simp only [Bool.and_eq_true, Bool.or_eq_true, Bool.not_eq_true', Bool.and_eq_false_iff, Bool.or_eq_false_iff, Bool.not_eq_false', decide_eq_true_eq, decide_eq_false_iff_not, Bool.not_true, Bool.not_false, Bool.not_eq_eq_eq_not, Bool.or_false, Bool.and_true, Bool.or_true, Bool.and_false, Bool.false_or, Bool.true_and, Bool.true_or, Bool.false_and, Bool.false_eq_true, Bool.true_eq_false] at hc26_
  refine r_load (v := .slice aw words.length cw) (gvt hc26) hc4 rfl ?_
  exact ⟨rfl, rfl⟩
 refine WL_some (og_if (s := .bool (((decide (kind ≠ kind2)) || (decide (size ≠ size2))) || (!(decide (bytes = bytes2))))) (b := false) (v := .int .i64 (words.length : Int)) rfl (wgb_f _) (fun hc27 => ?_) ?_)
 ·
  have hc27_ := hc27
  try simp only [Bool.and_eq_true, Bool.or_eq_true, Bool.not_eq_true', Bool.and_eq_false_iff, Bool.or_eq_false_iff, Bool.not_eq_false', decide_eq_true_eq, decide_eq_false_iff_not, Bool.not_true, Bool.not_false, Bool.not_eq_eq_eq_not, Bool.or_false, Bool.and_true, Bool.or_true, Bool.and_false, Bool.false_or, Bool.true_and, Bool.true_or, Bool.false_and, Bool.false_eq_true, Bool.true_eq_false] at hc27_
  refine r_len rfl rfl (gvt hc27) ?_
  exact ⟨rfl, rfl⟩
 refine WL_some (og_if (s := .bool (((decide (kind ≠ kind2)) || (decide (size ≠ size2))) || (!(decide (bytes = bytes2))))) (b := false) (v := .pointer (some ⟨b7, 2, none⟩)) rfl (wgb_f _) (fun hc28 => ?_) ?_)
 ·
  have hc28_ := hc28
  try simp only [Bool.and_eq_true, Bool.or_eq_true, Bool.not_eq_true', Bool.and_eq_false_iff, Bool.or_eq_false_iff, Bool.not_eq_false', decide_eq_true_eq, decide_eq_false_iff_not, Bool.not_true, Bool.not_false, Bool.not_eq_eq_eq_not, Bool.or_false, Bool.and_true, Bool.or_true, Bool.and_false, Bool.false_or, Bool.true_and, Bool.true_or, Bool.false_and, Bool.false_eq_true, Bool.true_eq_false] at hc28_
  refine r_fieldAddr rfl ?_
  exact ⟨rfl, rfl⟩
 refine WL_some (og_if (s := .bool (((decide (kind ≠ kind2)) || (decide (size ≠ size2))) || (!(decide (bytes = bytes2))))) (b := false) (v := .slice aw2 words2.length cw2) rfl (wgb_f _) (fun hc29 => ?_) ?_)
 ·
  have hc29_ := hc29
  try simp only [Bool.and_eq_true, Bool.or_eq_true, Bool.not_eq_true', Bool.and_eq_false_iff, Bool.or_eq_false_iff, Bool.not_eq_false', decide_eq_true_eq, decide_eq_false_iff_not, Bool.not_true, Bool.not_false, Bool.not_eq_eq_eq_not, Bool.or_false, Bool.and_true, Bool.or_true, Bool.and_false, Bool.false_or, Bool.true_and, Bool.true_or, Bool.false_and, Bool.false_eq_true, Bool.true_eq_false] at hc29_
  refine r_load (v := .slice aw2 words2.length cw2) (gvt hc29) hc10 rfl ?_
  exact ⟨rfl, rfl⟩
 refine WL_some (og_if (s := .bool (((decide (kind ≠ kind2)) || (decide (size ≠ size2))) || (!(decide (bytes = bytes2))))) (b := false) (v := .int .i64 (words2.length : Int)) rfl (wgb_f _) (fun hc30 => ?_) ?_)
 ·
  have hc30_ := hc30
  try simp only [Bool.and_eq_true, Bool.or_eq_true, Bool.not_eq_true', Bool.and_eq_false_iff, Bool.or_eq_false_iff, Bool.not_eq_false', decide_eq_true_eq, decide_eq_false_iff_not, Bool.not_true, Bool.not_false, Bool.not_eq_eq_eq_not, Bool.or_false, Bool.and_true, Bool.or_true, Bool.and_false, Bool.false_or, Bool.true_and, Bool.true_or, Bool.false_and, Bool.false_eq_true, Bool.true_eq_false] at hc30_
  refine r_len rfl rfl (gvt hc30) ?_
  exact ⟨rfl, rfl⟩
 refine WL_some (og_if (s := .bool (((decide (kind ≠ kind2)) || (decide (size ≠ size2))) || (!(decide (bytes = bytes2))))) (b := false) (v := .bool (decide ((words.length : Int) ≠ (words2.length : Int)))) rfl (wgb_f _) (fun hc31 => ?_) ?_)
 ·
  have hc31_ := hc31
  try simp only [Bool.and_eq_true, Bool.or_eq_true, Bool.not_eq_true', Bool.and_eq_false_iff, Bool.or_eq_false_iff, Bool.not_eq_false', decide_eq_true_eq, decide_eq_false_iff_not, Bool.not_true, Bool.not_false, Bool.not_eq_eq_eq_not, Bool.or_false, Bool.and_true, Bool.or_true, Bool.and_false, Bool.false_or, Bool.true_and, Bool.true_or, Bool.false_and, Bool.false_eq_true, Bool.true_eq_false] at hc31_
  refine r_neq (gvt hc31) (gvt hc31) ?_
  exact ⟨rfl, rfl⟩
 refine stp (r_or2 rfl rfl rfl ?_)
 refine stp (r_move_bool rfl ?_)
 refine WL_some (og_if (s := .bool ((((decide (kind ≠ kind2)) || (decide (size ≠ size2))) || (!(decide (bytes = bytes2)))) || (decide ((words.length : Int) ≠ (words2.length : Int))))) (b := false) (v := .pointer (some ⟨b1, 4, none⟩)) rfl (wgb_f _) (fun hc32 => ?_) ?_)
 ·
  have hc32_ := hc32
  try simp only [Bool.and_eq_true, Bool.or_eq_true, Bool.not_eq_true', Bool.and_eq_false_iff, Bool.or_eq_false_iff, Bool.not_eq_false', decide_eq_true_eq, decide_eq_false_iff_not, Bool.not_true, Bool.not_false, Bool.not_eq_eq_eq_not, Bool.or_false, Bool.and_true, Bool.or_true, Bool.and_false, Bool.false_or, Bool.true_and, Bool.true_or, Bool.false_and, Bool.false_eq_true, Bool.true_eq_false] at hc32_
  refine r_fieldAddr rfl ?_
  exact ⟨rfl, rfl⟩
 refine WL_some (og_if (s := .bool ((((decide (kind ≠ kind2)) || (decide (size ≠ size2))) || (!(decide (bytes = bytes2)))) || (decide ((words.length : Int) ≠ (words2.length : Int))))) (b := false) (v := .slice ak kids.length ck) rfl (wgb_f _) (fun hc33 => ?_) ?_)
 ·
  have hc33_ := hc33
  try simp only [Bool.and_eq_true, Bool.or_eq_true, Bool.not_eq_true', Bool.and_eq_false_iff, Bool.or_eq_false_iff, Bool.not_eq_false', decide_eq_true_eq, decide_eq_false_iff_not, Bool.not_true, Bool.not_false, Bool.not_eq_eq_eq_not, Bool.or_false, Bool.and_true, Bool.or_true, Bool.and_false, Bool.false_or, Bool.true_and, Bool.true_or, Bool.false_and, Bool.false_eq_true, Bool.true_eq_false] at hc33_
  refine r_load (v := .slice ak kids.length ck) (gvt hc33) hc4 rfl ?_
  exact ⟨rfl, rfl⟩
 refine WL_some (og_if (s := .bool ((((decide (kind ≠ kind2)) || (decide (size ≠ size2))) || (!(decide (bytes = bytes2)))) || (decide ((words.length : Int) ≠ (words2.length : Int))))) (b := false) (v := .int .i64 (kids.length : Int)) rfl (wgb_f _) (fun hc34 => ?_) ?_)
 ·
  have hc34_ := hc34
  try simp only [Bool.and_eq_true, Bool.or_eq_true, Bool.not_eq_true', Bool.and_eq_false_iff, Bool.or_eq_false_iff, Bool.not_eq_false', decide_eq_true_eq, decide_eq_false_iff_not, Bool.not_true, Bool.not_false, Bool.not_eq_eq_eq_not, Bool.or_false, Bool.and_true, Bool.or_true, Bool.and_false, Bool.false_or, Bool.true_and, Bool.true_or, Bool.false_and, Bool.false_eq_true, Bool.true_eq_false] at hc34_
  refine r_len rfl rfl (gvt hc34) ?_
  exact ⟨rfl, rfl⟩
 refine WL_some (og_if (s := .bool ((((decide (kind ≠ kind2)) || (decide (size ≠ size2))) || (!(decide (bytes = bytes2)))) || (decide ((words.length : Int) ≠ (words2.length : Int))))) (b := false) (v := .pointer (some ⟨b7, 4, none⟩)) rfl (wgb_f _) (fun hc35 => ?_) ?_)
 ·
  have hc35_ := hc35
  try simp only [Bool.and_eq_true, Bool.or_eq_true, Bool.not_eq_true', Bool.and_eq_false_iff, Bool.or_eq_false_iff, Bool.not_eq_false', decide_eq_true_eq, decide_eq_false_iff_not, Bool.not_true, Bool.not_false, Bool.not_eq_eq_eq_not, Bool.or_false, Bool.and_true, Bool.or_true, Bool.and_false, Bool.false_or, Bool.true_and, Bool.true_or, Bool.false_and, Bool.false_eq_true, Bool.true_eq_false] at hc35_
  refine r_fieldAddr rfl ?_
  exact ⟨rfl, rfl⟩
 refine WL_some (og_if (s := .bool ((((decide (kind ≠ kind2)) || (decide (size ≠ size2))) || (!(decide (bytes = bytes2)))) || (decide ((words.length : Int) ≠ (words2.length : Int))))) (b := false) (v := .slice ak2 kids2.length ck2) rfl (wgb_f _) (fun hc36 => ?_) ?_)
 ·
  have hc36_ := hc36
  try simp only [Bool.and_eq_true, Bool.or_eq_true, Bool.not_eq_true', Bool.and_eq_false_iff, Bool.or_eq_false_iff, Bool.not_eq_false', decide_eq_true_eq, decide_eq_false_iff_not, Bool.not_true, Bool.not_false, Bool.not_eq_eq_eq_not, Bool.or_false, Bool.and_true, Bool.or_true, Bool.and_false, Bool.false_or, Bool.true_and, Bool.true_or, Bool.false_and, Bool.false_eq_true, Bool.true_eq_false] at hc36_
  refine r_load (v := .slice ak2 kids2.length ck2) (gvt hc36) hc10 rfl ?_
  exact ⟨rfl, rfl⟩
 refine WL_some (og_if (s := .bool ((((decide (kind ≠ kind2)) || (decide (size ≠ size2))) || (!(decide (bytes = bytes2)))) || (decide ((words.length : Int) ≠ (words2.length : Int))))) (b := false) (v := .int .i64 (kids2.length : Int)) rfl (wgb_f _) (fun hc37 => ?_) ?_)
 ·
  have hc37_ := hc37
  try simp only [Bool.and_eq_true, Bool.or_eq_true, Bool.not_eq_true', Bool.and_eq_false_iff, Bool.or_eq_false_iff, Bool.not_eq_false', decide_eq_true_eq, decide_eq_false_iff_not, Bool.not_true, Bool.not_false, Bool.not_eq_eq_eq_not, Bool.or_false, Bool.and_true, Bool.or_true, Bool.and_false, Bool.false_or, Bool.true_and, Bool.true_or, Bool.false_and, Bool.false_eq_true, Bool.true_eq_false] at hc37_
  refine r_len rfl rfl (gvt hc37) ?_
  exact ⟨rfl, rfl⟩
 refine WL_some (og_if (s := .bool ((((decide (kind ≠ kind2)) || (decide (size ≠ size2))) || (!(decide (bytes = bytes2)))) || (decide ((words.length : Int) ≠ (words2.length : Int))))) (b := false) (v := .bool (decide ((kids.length : Int) ≠ (kids2.length : Int)))) rfl (wgb_f _) (fun hc38 => ?_) ?_)
 ·
  have hc38_ := hc38
  try simp only [Bool.and_eq_true, Bool.or_eq_true, Bool.not_eq_true', Bool.and_eq_false_iff, Bool.or_eq_false_iff, Bool.not_eq_false', decide_eq_true_eq, decide_eq_false_iff_not, Bool.not_true, Bool.not_false, Bool.not_eq_eq_eq_not, Bool.or_false, Bool.and_true, Bool.or_true, Bool.and_false, Bool.false_or, Bool.true_and, Bool.true_or, Bool.false_and, Bool.false_eq_true, Bool.true_eq_false] at hc38_
  refine r_neq (gvt hc38) (gvt hc38) ?_
  exact ⟨rfl, rfl⟩
 refine stp (r_or2 rfl rfl rfl ?_)
 refine WL_nil ?_
 refine W_cond2 (b := (((((decide (kind ≠ kind2)) || (decide (size ≠ size2))) || (!(decide (bytes = bytes2)))) || (decide ((words.length : Int) ≠ (words2.length : Int)))) || (decide ((kids.length : Int) ≠ (kids2.length : Int))))) rfl (fun h1 => ?_) (fun h1 => ?_)
 ·-- true
  simp only [Bool.and_eq_true, Bool.or_eq_true, Bool.not_eq_true', Bool.and_eq_false_iff, Bool.or_eq_false_iff, Bool.not_eq_false', decide_eq_true_eq, decide_eq_false_iff_not, Bool.not_true, Bool.not_false, Bool.not_eq_eq_eq_not, Bool.or_false, Bool.and_true, Bool.or_true, Bool.and_false, Bool.false_or, Bool.true_and, Bool.true_or, Bool.false_and, Bool.false_eq_true, Bool.true_eq_false] at h1
  refine W_seq (W_region rfl ?_)
  refine stp (r_assign (v := .bool false) rfl ?_)
  refine WL_nil ?_
  refine W_ret ?_
  have h9 : (Nd.mk kind size words bytes kids).beq (.mk kind2 size2 words2 bytes2 kids2) = false := by cases hb_ : ((Nd.mk kind size words bytes kids).beq (.mk kind2 size2 words2 bytes2 kids2)) with | false => rfl | true => (exfalso; have h_ := (Nd.beq_iff _ _).1 hb_; simp only [Nd.mk.injEq] at h_; obtain ⟨rfl, rfl, rfl, rfl, rfl⟩ := h_; simp at h1)
  refine ret1 (res_tmp (v := .bool false) rfl) ⟨?_, G⟩
  rw [h9]
 ·-- false
  simp only [Bool.and_eq_true, Bool.or_eq_true, Bool.not_eq_true', Bool.and_eq_false_iff, Bool.or_eq_false_iff, Bool.not_eq_false', decide_eq_true_eq, decide_eq_false_iff_not, Bool.not_true, Bool.not_false, Bool.not_eq_eq_eq_not, Bool.or_false, Bool.and_true, Bool.or_true, Bool.and_false, Bool.false_or, Bool.true_and, Bool.true_or, Bool.false_and, Bool.false_eq_true, Bool.true_eq_false] at h1
  obtain ⟨e1, e2, e3, e4, e5⟩ : kind = kind2 ∧ size = size2 ∧ bytes = bytes2 ∧ words.length = words2.length ∧ kids.length = kids2.length := by simp at h1; refine ⟨by omega, by omega, by simp_all, by omega, by omega⟩
  refine W_skip ?_
  refine W_seq ?_
  refine W_seq (W_region rfl ?_)
  refine stp (r_assign_int rfl ?_)
  refine WL_nil ?_
  refine W_block ?_
  refine W_loop (fun m_ e_ w_ => ∃ (k : Nat), m_ = words.length - k ∧ Fr [(2, .pointer (some ⟨b1, 0, none⟩)), (3, .pointer (some ⟨b7, 0, none⟩)), (5, .int .i64 (k : Int))] e_ ∧ (k ≤ words.length) ∧ (∀ j, j < k → words.getD j 0 = words2.getD j 0) ∧ (w_.heap[b1]? = some (.cells #[.int .i64 kind, .int .i64 size, .slice aw words.length cw, .slice ab bytes.length cb, .slice ak kids.length ck] 37 (0, 0))) ∧ (w_.heap[b7]? = some (.cells #[.int .i64 kind2, .int .i64 size2, .slice aw2 words2.length cw2, .slice ab2 bytes2.length cb2, .slice ak2 kids2.length ck2] 37 (0, 0))) ∧ Grow w w_) _ ⟨0, rfl, fr_of ⟨rfl, rfl, rfl, trivial⟩, by omega, fun j hj => by omega, hc4, hc10, G⟩ ?_
  clear hc4 hc10
  clear G
  rintro m_ e_ w39 ⟨k, rfl, ⟨e40, rfl⟩, hk2, hk_, hc4, hc10, G⟩
  refine W_seq ?_
  refine W_seq (W_region rfl ?_)
  refine stp (r_move_int rfl ?_)
  refine stp (r_fieldAddr rfl ?_)
  refine stp (r_load (v := .slice aw words.length cw) rfl hc4 rfl ?_)
  refine stp (r_len rfl rfl rfl ?_)
  refine stp (r_lss rfl rfl ?_)
  refine WL_nil ?_
  refine W_cond2 (b := (decide ((k : Int) < (words.length : Int)))) rfl (fun hlt => ?_) (fun hlt => ?_)
  ·-- true
   replace hlt := of_decide_eq_true hlt
   have hk3 : k < words2.length := by omega
   refine W_skip ?_
   refine W_seq ?_
   refine W_block ?_
   refine W_seq ?_
   refine W_any 11 [[], [0], [], [2, 1, 0], [3, 2, 1, 0], [], [0], [], [2, 1, 0], [3, 2, 1, 0], [9, 8, 7, 6, 5, 4, 3, 2, 1, 0]] mixed (by kernel_rfl) (by kernel_rfl) (by kernel_rfl) ?_
   intro w41 g42
   replace hc4 := g42.heap hc4
   replace hc10 := g42.heap hc10
   replace G := G.tr g42
   clear g42
   apply AO_ex
   ·intro w_ g_; refine og rfl ?_; refine r_fieldAddr rfl ?_; exact ⟨Grow.rfl' _, rfl⟩
   apply AO_ex
   ·intro w_ g_; refine og rfl ?_; refine r_load (v := .slice aw words.length cw) rfl (g_.heap hc4) rfl ?_; exact ⟨Grow.rfl' _, rfl⟩
   apply AO_ex
   ·intro w_ g_; refine og rfl ?_; refine r_move_int rfl ?_; exact ⟨Grow.rfl' _, rfl⟩
   apply AO_ex
   ·intro w_ g_; refine og rfl ?_; refine r_indexN (RW.grow (G.tr g_)) rfl rfl ?_ ?_; omega; exact ⟨Grow.rfl' _, rfl⟩
   apply AO_ex
   ·intro w_ g_; refine og rfl ?_; refine r_loadR (v := .int .u64 (words.getD k 0)) (m := 0) (RW.grow (G.tr g_)) rfl (map_get1 0 (by omega)) ?_; exact ⟨Grow.rfl' _, rfl⟩
   apply AO_ex
   ·intro w_ g_; refine og rfl ?_; refine r_fieldAddr rfl ?_; exact ⟨Grow.rfl' _, rfl⟩
   apply AO_ex
   ·intro w_ g_; refine og rfl ?_; refine r_load (v := .slice aw2 words2.length cw2) rfl (g_.heap hc10) rfl ?_; exact ⟨Grow.rfl' _, rfl⟩
   apply AO_ex
   ·intro w_ g_; refine og rfl ?_; refine r_move_int rfl ?_; exact ⟨Grow.rfl' _, rfl⟩
   apply AO_ex
   ·intro w_ g_; refine og rfl ?_; refine r_indexN (RW2.grow (G.tr g_)) rfl rfl ?_ ?_; omega; exact ⟨Grow.rfl' _, rfl⟩
   apply AO_ex
   ·intro w_ g_; refine og rfl ?_; refine r_loadR (v := .int .u64 (words2.getD k 0)) (m := 0) (RW2.grow (G.tr g_)) rfl (map_get1 0 (by omega)) ?_; exact ⟨Grow.rfl' _, rfl⟩
   apply AO_ex
   ·intro w_ g_; refine og rfl ?_; refine r_neq rfl rfl ?_; exact ⟨Grow.rfl' _, rfl⟩
   refine AO_nil ?_
   intro w43 g44
   replace hc4 := g44.heap hc4
   replace hc10 := g44.heap hc10
   replace G := G.tr g44
   clear g44
   refine WL_nil ?_
   refine W_cond2 (b := (decide ((words.getD k 0) ≠ (words2.getD k 0)))) rfl (fun h3 => ?_) (fun h3 => ?_)
   ·-- true
    replace h3 := of_decide_eq_true h3
    refine W_seq (W_region rfl ?_)
    refine stp (r_assign (v := .bool false) rfl ?_)
    refine WL_nil ?_
    refine W_ret ?_
    have h9 : (Nd.mk kind size words bytes kids).beq (.mk kind2 size2 words2 bytes2 kids2) = false := by cases hb_ : ((Nd.mk kind size words bytes kids).beq (.mk kind2 size2 words2 bytes2 kids2)) with | false => rfl | true => (exfalso; have h_ := (Nd.beq_iff _ _).1 hb_; simp only [Nd.mk.injEq] at h_; obtain ⟨-, -, h_, -, -⟩ := h_; rw [h_] at h3; exact h3 rfl)
    refine ret1 (res_tmp (v := .bool false) rfl) ⟨?_, G⟩
    rw [h9]
   ·-- false
    replace h3 := of_decide_eq_false h3
    refine W_skip ?_
    refine W_region rfl ?_
    refine stp (r_move_int rfl ?_)
    refine stp (r_add rfl rfl ?_ ?_); constructor <;> omega
    refine stp (r_assign_int rfl ?_)
    refine WL_nil ?_
    refine ⟨_, ?_, k + 1, rfl, fr_of ⟨rfl, rfl, rfl, trivial⟩, by omega, fun j hj => by rcases Nat.lt_succ_iff_lt_or_eq.1 hj with h_ | h_; exact hk_ j h_; subst h_; omega, hc4, hc10, G⟩
    omega
  ·-- false
   replace hlt := of_decide_eq_false hlt
   have hk3 : k = words.length := by omega
   have e6 : words = words2 := lists_eq e4 (fun j hj => hk_ j (by omega))
   refine W_exit ?_
   refine W_seq ?_
   refine W_seq (W_region rfl ?_)
   refine stp (r_assign_int rfl ?_)
   refine WL_nil ?_
   refine W_block ?_
   refine W_loop (fun m_ e_ w_ => ∃ (j : Nat), m_ = kids.length - j ∧ Fr [(2, .pointer (some ⟨b1, 0, none⟩)), (3, .pointer (some ⟨b7, 0, none⟩)), (6, .int .i64 (j : Int))] e_ ∧ (j ≤ kids.length) ∧ (∀ i, i < j → (h : i < kids.length) → kids[i] = kids2[i]) ∧ (w_.heap[b1]? = some (.cells #[.int .i64 kind, .int .i64 size, .slice aw words.length cw, .slice ab bytes.length cb, .slice ak kids.length ck] 37 (0, 0))) ∧ (w_.heap[b7]? = some (.cells #[.int .i64 kind2, .int .i64 size2, .slice aw2 words2.length cw2, .slice ab2 bytes2.length cb2, .slice ak2 kids2.length ck2] 37 (0, 0))) ∧ Grow w w_) _ ⟨0, rfl, fr_of ⟨rfl, rfl, rfl, trivial⟩, by omega, fun i hi => by omega, hc4, hc10, G⟩ ?_
   clear hc4 hc10
   clear G
   rintro m_ e_ w45 ⟨j, rfl, ⟨e46, rfl⟩, hj2, hj_, hc4, hc10, G⟩
   refine W_seq ?_
   refine W_seq (W_region rfl ?_)
   refine stp (r_move_int rfl ?_)
   refine stp (r_fieldAddr rfl ?_)
   refine stp (r_load (v := .slice ak kids.length ck) rfl hc4 rfl ?_)
   refine stp (r_len rfl rfl rfl ?_)
   refine stp (r_lss rfl rfl ?_)
   refine WL_nil ?_
   refine W_cond2 (b := (decide ((j : Int) < (kids.length : Int)))) rfl (fun hlt2 => ?_) (fun hlt2 => ?_)
   ·-- true
    replace hlt2 := of_decide_eq_true hlt2
    have hj3 : j < kids.length := by omega
    have hj4 : j < kids2.length := by omega
    have hat := KidsR.at_ j kids[j] hKs (by simp [hj3])
    have hat2 := KidsR.at_ j kids2[j] hKs2 (by simp [hj4])
    have hsz := Nd.szs_at kids j kids[j] (by simp [hj3])
    simp only [Nd.sz] at hm_
    refine W_skip ?_
    refine W_seq ?_
    refine W_block ?_
    refine W_seq ?_
    refine W_any 12 [[], [0], [], [2, 1, 0], [3, 2, 1, 0], [], [0], [], [2, 1, 0], [3, 2, 1, 0], [9, 8, 7, 6, 5, 4, 3, 2, 1, 0], [10, 9, 8, 7, 6, 5, 4, 3, 2, 1, 0]] mixed (by kernel_rfl) (by kernel_rfl) (by kernel_rfl) ?_
    intro w47 g48
    replace hc4 := g48.heap hc4
    replace hc10 := g48.heap hc10
    replace G := G.tr g48
    clear g48
    apply AO_ex
    ·intro w_ g_; refine og rfl ?_; refine r_fieldAddr rfl ?_; exact ⟨Grow.rfl' _, rfl⟩
    apply AO_ex
    ·intro w_ g_; refine og rfl ?_; refine r_load (v := .slice ak kids.length ck) rfl (g_.heap hc4) rfl ?_; exact ⟨Grow.rfl' _, rfl⟩
    apply AO_ex
    ·intro w_ g_; refine og rfl ?_; refine r_move_int rfl ?_; exact ⟨Grow.rfl' _, rfl⟩
    apply AO_ex
    ·intro w_ g_; refine og rfl ?_; refine r_indexN (RK.grow (G.tr g_)) rfl rfl ?_ ?_; omega; exact ⟨Grow.rfl' _, rfl⟩
    apply AO_ex
    ·intro w_ g_; refine og rfl ?_; refine r_loadNR (RK.grow (G.tr g_)) rfl (by decide) (by rw [RK.len]; omega) rfl ?_; exact ⟨Grow.rfl' _, rfl⟩
    apply AO_ex
    ·intro w_ g_; refine og rfl ?_; refine r_fieldAddr rfl ?_; exact ⟨Grow.rfl' _, rfl⟩
    apply AO_ex
    ·intro w_ g_; refine og rfl ?_; refine r_load (v := .slice ak2 kids2.length ck2) rfl (g_.heap hc10) rfl ?_; exact ⟨Grow.rfl' _, rfl⟩
    apply AO_ex
    ·intro w_ g_; refine og rfl ?_; refine r_move_int rfl ?_; exact ⟨Grow.rfl' _, rfl⟩
    apply AO_ex
    ·intro w_ g_; refine og rfl ?_; refine r_indexN (RK2.grow (G.tr g_)) rfl rfl ?_ ?_; omega; exact ⟨Grow.rfl' _, rfl⟩
    apply AO_ex
    ·intro w_ g_; refine og rfl ?_; refine r_loadNR (RK2.grow (G.tr g_)) rfl (by decide) (by rw [RK2.len]; omega) rfl ?_; exact ⟨Grow.rfl' _, rfl⟩
    apply AO_ex
    ·intro w_ g_; refine og rfl ?_; exact r_gives (v := .bool (kids[j].beq kids2[j])) rfl (ih_ _ (hat.grow (G.tr g_)) (hat2.grow (G.tr g_)) (by omega)) (fun w2_ g2_ => ⟨g2_, rfl⟩)
    apply AO_ex
    ·intro w_ g_; refine og rfl ?_; refine r_not rfl ?_; exact ⟨Grow.rfl' _, rfl⟩
    refine AO_nil ?_
    intro w49 g50
    replace hc4 := g50.heap hc4
    replace hc10 := g50.heap hc10
    replace G := G.tr g50
    clear g50
    refine WL_nil ?_
    refine W_cond2 (b := (!(kids[j].beq kids2[j]))) rfl (fun h5 => ?_) (fun h5 => ?_)
    ·-- true
     simp only [Bool.and_eq_true, Bool.or_eq_true, Bool.not_eq_true', Bool.and_eq_false_iff, Bool.or_eq_false_iff, Bool.not_eq_false', decide_eq_true_eq, decide_eq_false_iff_not, Bool.not_true, Bool.not_false, Bool.not_eq_eq_eq_not, Bool.or_false, Bool.and_true, Bool.or_true, Bool.and_false, Bool.false_or, Bool.true_and, Bool.true_or, Bool.false_and, Bool.false_eq_true, Bool.true_eq_false] at h5
     refine W_seq (W_region rfl ?_)
     refine stp (r_assign (v := .bool false) rfl ?_)
     refine WL_nil ?_
     refine W_ret ?_
     have h9 : (Nd.mk kind size words bytes kids).beq (.mk kind2 size2 words2 bytes2 kids2) = false := by cases hb_ : ((Nd.mk kind size words bytes kids).beq (.mk kind2 size2 words2 bytes2 kids2)) with | false => rfl | true => (exfalso; have h_ := (Nd.beq_iff _ _).1 hb_; simp only [Nd.mk.injEq] at h_; obtain ⟨-, -, -, -, rfl⟩ := h_; rw [(Nd.beq_iff _ _).2 rfl] at h5; simp at h5)
     refine ret1 (res_tmp (v := .bool false) rfl) ⟨?_, G⟩
     rw [h9]
    ·-- false
     simp only [Bool.and_eq_true, Bool.or_eq_true, Bool.not_eq_true', Bool.and_eq_false_iff, Bool.or_eq_false_iff, Bool.not_eq_false', decide_eq_true_eq, decide_eq_false_iff_not, Bool.not_true, Bool.not_false, Bool.not_eq_eq_eq_not, Bool.or_false, Bool.and_true, Bool.or_true, Bool.and_false, Bool.false_or, Bool.true_and, Bool.true_or, Bool.false_and, Bool.false_eq_true, Bool.true_eq_false] at h5
     refine W_skip ?_
     refine W_region rfl ?_
     refine stp (r_move_int rfl ?_)
     refine stp (r_add rfl rfl ?_ ?_); constructor <;> omega
     refine stp (r_assign_int rfl ?_)
     refine WL_nil ?_
     refine ⟨_, ?_, j + 1, rfl, fr_of ⟨rfl, rfl, rfl, trivial⟩, by omega, fun i hi hi2 => by rcases Nat.lt_succ_iff_lt_or_eq.1 hi with h_ | h_; exact hj_ i h_ hi2; subst h_; exact (Nd.beq_iff _ _).1 (by simpa using h5), hc4, hc10, G⟩
     omega
   ·-- false
    replace hlt2 := of_decide_eq_false hlt2
    have hj3 : j = kids.length := by omega
    have e7 : kids = kids2 := List.ext_getElem e5 (fun i h1_ h2_ => hj_ i (by omega) h1_)
    refine W_exit ?_
    refine W_seq (W_region rfl ?_)
    refine stp (r_assign (v := .bool true) rfl ?_)
    refine WL_nil ?_
    refine W_ret ?_
    have h9 : (Nd.mk kind size words bytes kids).beq (.mk kind2 size2 words2 bytes2 kids2) = true := by rw [Nd.beq_iff, e1, e2, e3, e6, e7]
    refine ret1 (res_tmp (v := .bool true) rfl) ⟨?_, G⟩
    rw [h9]

set_option maxRecDepth 100000 in
theorem tree_calls : ∀ (n_ : Nat) (w : World) {w0 : World} {d n cp : Nat} {ad : Option Addr} {xs : List Int} (R : RowAt w0 1 ad n (xs.map (.int .u8))) (g0 : Grow w0 w) (hn : n = xs.length) (hx : ∀ x ∈ xs, inR .u8 x) (hcp : n ≤ cp) (hcp2 : cp ≤ maxLen) (hd : d ≤ 100), d + 1 ≤ n_ → Calls Try.prog 15 #[.slice ad n cp, .int .i64 (d : Int)] w (Ret fun v w' => ∃ cells ad' n' c', v = .tuple #[.agg cells.toArray, .slice ad' n' c'] ∧ NodeR (hide w.heap.size w') cells (treeP d xs).1 ∧ n' = (treeP d xs).2.length ∧ n' ≤ c' ∧ c' ≤ maxLen ∧ RowAt w0 1 ad' n' ((treeP d xs).2.map (.int .u8)) ∧ Grow w w') := by
 intro n_
 induction n_ with
 | zero => intro w w0 d n cp ad xs R g0 hn hx hcp hcp2 hd hm_; exact absurd hm_ (by have := Nat.succ_pos d; omega)
 | succ n_ ih_ =>
 intro w w0 d n cp ad xs R g0 hn hx hcp hcp2 hd hm_
 have G := Grow.rfl' w
 refine calls_ret Try.func15 Try.ntmps15 Try.results15 rfl rfl ?_
 refine W_seq (W_region rfl ?_)
 refine stp (r_alloc ?_)
 intro b1 w2 hb3 hc4 g5
 refine stp (r_assign_slice rfl ?_)
 refine WL_nil ?_
 refine W_seq ?_
 refine W_seq (W_region rfl ?_)
 refine stp (r_move_slice rfl ?_)
 refine stp (r_len rfl rfl rfl ?_)
 refine stp (r_eql rfl rfl ?_)
 refine stp (r_move_bool rfl ?_)
 refine WL_some (og_if (s := .bool (decide ((n : Int) = 0))) (b := false) (v := .int .i64 (d : Int)) rfl (wgb_f _) (fun hc6 => ?_) ?_)
 ·
  have hc6_ := hc6
  try simp only [Bool.and_eq_true, Bool.or_eq_true, Bool.not_eq_true', Bool.and_eq_false_iff, Bool.or_eq_false_iff, Bool.not_eq_false', decide_eq_true_eq, decide_eq_false_iff_not, Bool.not_true, Bool.not_false, Bool.not_eq_eq_eq_not, Bool.or_false, Bool.and_true, Bool.or_true, Bool.and_false, Bool.false_or, Bool.true_and, Bool.true_or, Bool.false_and, Bool.false_eq_true, Bool.true_eq_false] at hc6_
  refine r_move_int rfl ?_
  exact ⟨rfl, rfl⟩
 refine WL_some (og_if (s := .bool (decide ((n : Int) = 0))) (b := false) (v := .bool (decide ((d : Int) = 0))) rfl (wgb_f _) (fun hc7 => ?_) ?_)
 ·
  have hc7_ := hc7
  try simp only [Bool.and_eq_true, Bool.or_eq_true, Bool.not_eq_true', Bool.and_eq_false_iff, Bool.or_eq_false_iff, Bool.not_eq_false', decide_eq_true_eq, decide_eq_false_iff_not, Bool.not_true, Bool.not_false, Bool.not_eq_eq_eq_not, Bool.or_false, Bool.and_true, Bool.or_true, Bool.and_false, Bool.false_or, Bool.true_and, Bool.true_or, Bool.false_and, Bool.false_eq_true, Bool.true_eq_false] at hc7_
  refine r_eql (gvt hc7) rfl ?_
  exact ⟨rfl, rfl⟩
 refine stp (r_or2 rfl rfl rfl ?_)
 refine WL_nil ?_
 have hge8 := Nat.le_trans G.size hb3
 replace G := G.tr g5
 clear g5 hb3
 refine W_cond2 (b := ((decide ((n : Int) = 0)) || (decide ((d : Int) = 0)))) rfl (fun h1 => ?_) (fun h1 => ?_)
 ·-- true
  simp only [Bool.and_eq_true, Bool.or_eq_true, Bool.not_eq_true', Bool.and_eq_false_iff, Bool.or_eq_false_iff, Bool.not_eq_false', decide_eq_true_eq, decide_eq_false_iff_not, Bool.not_true, Bool.not_false, Bool.not_eq_eq_eq_not, Bool.or_false, Bool.and_true, Bool.or_true, Bool.and_false, Bool.false_or, Bool.true_and, Bool.true_or, Bool.false_and, Bool.false_eq_true, Bool.true_eq_false] at h1
  have hst : treeP d xs = (.nil, xs) := treeP_stop (by rcases h1 with h | h; exact .inl (List.eq_nil_of_length_eq_zero (by omega)); exact .inr (by omega))
  refine W_seq (W_region rfl ?_)
  refine stp (r_build (v := .agg #[.int .i64 0, .int .i64 0, .slice none 0 0, .slice none 0 0, .slice none 0 0]) (fun w => by kernel_rfl) ?_)
  refine stp (r_move_slice rfl ?_)
  refine stn (r_storeAll rfl rfl hc4 (by rfl) (by rfl) (by rfl) ?_)
  intro w9 hc10 u11
  replace G := G.upd u11 hge8
  clear u11 hc4
  refine stp (r_assign_slice rfl ?_)
  refine WL_nil ?_
  refine W_ret ?_
  rw [hst]
  refine ret2 (res_all rfl hc10 (by rfl)) (res_tmp (v := .slice ad n cp) rfl) ⟨[_, _, _, _, _], _, _, _, rfl, NodeR.zero _, hn, hcp, hcp2, R, G⟩
 ·-- false
  simp only [Bool.and_eq_true, Bool.or_eq_true, Bool.not_eq_true', Bool.and_eq_false_iff, Bool.or_eq_false_iff, Bool.not_eq_false', decide_eq_true_eq, decide_eq_false_iff_not, Bool.not_true, Bool.not_false, Bool.not_eq_eq_eq_not, Bool.or_false, Bool.and_true, Bool.or_true, Bool.and_false, Bool.false_or, Bool.true_and, Bool.true_or, Bool.false_and, Bool.false_eq_true, Bool.true_eq_false] at h1
  obtain ⟨h1a, h1b⟩ := h1
  obtain ⟨d, rfl⟩ : ∃ e, d = e + 1 := ⟨d - 1, by omega⟩
  obtain ⟨k, c, rfl⟩ : ∃ k c, xs = k :: c := by cases xs with | nil => simp at hn; omega | cons k c => exact ⟨_, _, rfl⟩
  have hk := hx k (by simp)
  simp only [inR] at hk
  simp only [List.length_cons] at hn
  have hxc : ∀ x ∈ c, inR .u8 x := fun x h_ => hx x (by simp [h_])
  have hlim := R.lim
  have hnc : n - 1 = c.length := by omega
  refine W_skip ?_
  refine W_seq (W_region rfl ?_)
  refine stp (r_move_slice rfl ?_)
  refine stp (r_indexR ((R.grow g0).grow G) rfl rfl ?_ ?_ ?_); omega; omega
  refine stp (r_loadR (v := .int .u8 k) (m := 0) ((R.grow g0).grow G) rfl rfl ?_)
  refine stp (r_assign_int rfl ?_)
  refine WL_nil ?_
  refine W_seq (W_region rfl ?_)
  refine stp (r_move_slice rfl ?_)
  refine stp (r_sliceL rfl rfl (by omega) (by omega) ?_)
  have R1 := R.sliceLH (l := 1) (m := n - 1) hcp (by omega) (by omega)
  rw [show ((1 : Int).toNat) = 1 from rfl]
  generalize (if cp = 1 then ad else ad.map (·.add (1 * 1))) = ad1 at R1 ⊢
  have R2 : RowAt w0 1 ad1 (n - 1) (c.map (.int .u8)) := by
   have e_ : (List.take ((n - 1) * 1) (List.drop (1 * 1) (List.map (Value.int .u8) (k :: c)))) = c.map (.int .u8) := by simp only [Nat.mul_one, List.map_cons, List.drop_succ_cons, List.drop_zero]; rw [List.take_of_length_le (by rw [List.length_map]; omega)]
   rw [e_] at R1; exact R1
  clear R1
  refine stp (r_assign_slice rfl ?_)
  refine WL_nil ?_
  refine W_seq (W_region rfl ?_)
  refine stp (r_build (v := .agg #[.int .i64 0, .int .i64 0, .slice none 0 0, .slice none 0 0, .slice none 0 0]) (fun w => by kernel_rfl) ?_)
  refine stp (r_alloc ?_)
  intro b12 w13 hb14 hc15 g16
  refine stn (r_storeAll rfl rfl hc15 (by rfl) (by rfl) (by rfl) ?_)
  intro w17 hc18 u19
  have g20 := g16.upd u19 hb14
  have hge21 := Nat.le_trans G.size hb14
  have ne22 := Nat.ne_of_lt (Nat.lt_of_lt_of_le (lt_of_heap hc4) hb14)
  replace hc4 := g20.heap hc4
  replace G := G.tr g20
  clear u19 g16 hb14 hc15
  refine WL_nil ?_
  refine W_seq (W_region rfl ?_)
  refine stp (r_move_int rfl ?_)
  refine stp (r_quo rfl rfl ?_ ?_ ?_ ?_); omega; omega; (constructor <;> omega)
  refine stp (r_rem rfl rfl ?_ ?_ ?_); omega; omega
  refine stp (r_conv rfl ?_ ?_); constructor <;> omega
  refine stp (r_assign_int rfl ?_)
  refine WL_nil ?_
  refine W_seq ?_
  refine W_seq (W_region rfl ?_)
  refine stp (r_move_int rfl ?_)
  refine stp (r_rem rfl rfl ?_ ?_ ?_); omega; omega
  refine WL_nil ?_
  refine W_block ?_
  refine W_seq (W_region rfl ?_)
  refine stp (r_eql rfl rfl ?_)
  refine stp (r_assign_bool rfl ?_)
  refine WL_nil ?_
  refine W_cond2 (b := (decide ((k % 8) = 0))) rfl (fun h2 => ?_) (fun h2 => ?_)
  ·-- true
   replace h2 := of_decide_eq_true h2
   have ht : treeP (d + 1) (k :: c) = (.nil, c) := by simp only [treeP]; rw [if_pos h2]
   refine W_seq (W_region rfl ?_)
   refine stp (r_loadAll rfl hc18 (by rfl) ?_)
   refine stp (r_move_slice rfl ?_)
   refine stn (r_storeAll rfl rfl hc4 (by rfl) (by rfl) (by rfl) ?_)
   intro w23 hc24 u25
   replace hc18 := u25.heap hc18 ne22.symm
   replace G := G.upd u25 hge8
   clear u25 hc4
   refine stp (r_assign_slice rfl ?_)
   refine WL_nil ?_
   refine W_ret ?_
   rw [ht]
   refine ret2 (res_all rfl hc24 (by rfl)) (res_tmp (v := .slice ad1 (n - 1) (cp - 1)) rfl) ⟨[_, _, _, _, _], _, _, _, rfl, NodeR.zero _, hnc, by omega, by omega, R2, G⟩
  ·-- false
   replace h2 := of_decide_eq_false h2
   refine W_seq ?_
   refine W_seq (W_region rfl ?_)
   refine stp (r_eql rfl rfl ?_)
   refine stp (r_assign_bool rfl ?_)
   refine WL_nil ?_
   refine W_cond2 (b := (decide ((k % 8) = 1))) rfl (fun h3 => ?_) (fun h3 => ?_)
   ·-- true
    replace h3 := of_decide_eq_true h3
    refine W_skip ?_
    refine W_true (show _ = Value.bool true from congrArg Value.bool (decide_eq_true h3)) ?_
    refine W_seq (W_region rfl ?_)
    refine stp (r_fieldAddr rfl ?_)
    refine stn (r_store1 (v := .int .i64 2) rfl rfl (by rfl) hc18 (by rfl) (by rfl) ?_)
    intro w26 hc27 u28
    replace hc4 := u28.heap hc4 ne22
    replace G := G.upd u28 hge21
    clear u28 hc18
    refine WL_nil ?_
    refine W_seq (W_region rfl ?_)
    refine stp (r_fieldAddr rfl ?_)
    refine stn (r_store1 (v := .int .i64 2) rfl rfl (by rfl) hc27 (by rfl) (by rfl) ?_)
    intro w29 hc30 u31
    replace hc4 := u31.heap hc4 ne22
    replace G := G.upd u31 hge21
    clear u31 hc27
    refine WL_nil ?_
    refine W_seq (W_region rfl ?_)
    refine stp (r_assign_int rfl ?_)
    refine WL_nil ?_
    refine W_block ?_
    refine W_loop (fun m_ e_ w_ => ∃ (m : Nat) (ad3 : Option Addr) (n3 : Nat) (c3 : Nat), m_ = ((3 * (k / 8 % 5) + k % 2)).toNat - m ∧ Fr [(0, .slice ad1 (n - 1) (cp - 1)), (4, .pointer (some ⟨b1, 0, none⟩)), (5, .slice none 0 0), (6, .int .u8 k), (7, .pointer (some ⟨b12, 0, none⟩)), (8, .int .i64 ((k / 8) % 5)), (9, .int .i64 (m : Int))] e_ ∧ ((m : Int) ≤ (3 * (k / 8 % 5) + k % 2)) ∧ (w_.heap[b1]? = some (.cells #[.int .i64 0, .int .i64 0, .slice none 0 0, .slice none 0 0, .slice none 0 0] 37 (0, 0))) ∧ (w_.heap[b12]? = some (.cells #[.int .i64 2, .int .i64 2, .slice none 0 0, .slice ad3 n3 c3, .slice none 0 0] 37 (0, 0))) ∧ (w_.ownsRow w.heap.size 5 1 (.slice ad3 n3 c3) m ((List.range m).map fun i => .int .u8 (bTree k i))) ∧ Grow w w_) _ ⟨0, none, 0, 0, rfl, fr_of ⟨rfl, rfl, rfl, rfl, rfl, rfl, rfl, trivial⟩, by omega, hc4, hc30, World.ownsRow_nil _ _ _ _, G⟩ ?_
    clear hc4 hc30
    clear G
    rintro m_ e_ w32 ⟨m, ad3, n3, c3, rfl, ⟨e33, rfl⟩, hm, hc4, hc30, own, G⟩
    refine W_seq ?_
    refine W_seq (W_region rfl ?_)
    refine stp (r_move_int rfl ?_)
    refine stp (r_move_int rfl ?_)
    refine stp (r_mul rfl rfl ?_ ?_); constructor <;> omega
    refine stp (r_move_int rfl ?_)
    refine stp (r_rem rfl rfl ?_ ?_ ?_); omega; omega
    refine stp (r_conv rfl ?_ ?_); constructor <;> omega
    refine stp (r_add rfl rfl ?_ ?_); constructor <;> omega
    refine stp (r_lss rfl rfl ?_)
    refine WL_nil ?_
    refine W_cond2 (b := (decide ((m : Int) < ((3 * ((k / 8) % 5)) + (k % 2))))) rfl (fun hlt => ?_) (fun hlt => ?_)
    ·-- true
     replace hlt := of_decide_eq_true hlt
     refine W_skip ?_
     refine W_seq ?_
     refine W_block ?_
     refine W_region rfl ?_
     refine stp (r_fieldAddr rfl ?_)
     refine stp (r_load (v := .slice ad3 n3 c3) rfl hc30 rfl ?_)
     refine stp (r_move_int rfl ?_)
     refine stp (r_move_int rfl ?_)
     refine stp (r_conv rfl ?_ ?_); constructor <;> omega
     refine stp (r_addw rfl rfl ?_)
     refine stp (r_buildSlice (cs := #[.int .u8 (bTree k m)]) (el := 5) (fun w => by kernel_rfl) ?_)
     intro bs34 w35 hb36 hc37 g38
     have hge39 := Nat.le_trans G.size hb36
     have ne40 := Nat.ne_of_lt (Nat.lt_of_lt_of_le (lt_of_heap hc4) hb36)
     have ne41 := Nat.ne_of_lt (Nat.lt_of_lt_of_le (lt_of_heap hc30) hb36)
     replace hc4 := g38.heap hc4
     replace hc30 := g38.heap hc30
     replace own := own_grow own g38
     replace G := G.tr g38
     clear g38
     refine stp (r_append rfl rfl rfl rfl own (Row.of_block (n := 1) hc37 rfl rfl (by omega)) (fun q_ hq_ => by simp at hq_; subst hq_; rfl) (by simp only [maxLen]; omega) (by omega) G.size ?_)
     intro v42 w43 own6 gr6
     replace G := G.grown gr6 (own_ge own)
     replace hc4 := gr_heap gr6 hc4 (own_ne own hc4 (by decide))
     replace hc30 := gr_heap gr6 hc30 (own_ne own hc30 (by decide))
     clear own gr6
     obtain ⟨ad4, n4, c4, rfl⟩ := own_slice own6
     refine stp (r_fieldAddr rfl ?_)
     refine stn (r_store1 (v := .slice ad4 n4 c4) rfl rfl (by rfl) hc30 (by rfl) (by rfl) ?_)
     intro w44 hc45 u46
     replace hc4 := u46.heap hc4 ne22
     replace own6 := own_upd own6 u46 (own_ne own6 hc30 (by decide))
     replace G := G.upd u46 hge21
     clear u46 hc30
     refine WL_nil ?_
     refine W_region rfl ?_
     refine stp (r_move_int rfl ?_)
     refine stp (r_add rfl rfl ?_ ?_); constructor <;> omega
     refine stp (r_assign_int rfl ?_)
     refine WL_nil ?_
     refine ⟨_, ?_, m + 1, ad4, n4, c4, rfl, fr_of ⟨rfl, rfl, rfl, rfl, rfl, rfl, congrArg (Value.int .i64) (by omega), trivial⟩, by omega, hc4, hc45, (by rw [List.range_succ, List.map_append]; exact own6), G⟩
     omega
    ·-- false
     replace hlt := of_decide_eq_false hlt
     have hm2 : m = (3 * (k / 8 % 5) + k % 2).toNat := by omega
     have ht : treeP (d + 1) (k :: c) = (.mk 2 2 [] ((List.range (3 * (k / 8 % 5) + k % 2).toNat).map (bTree k)) [], c) := by simp only [treeP]; rw [if_neg h2, if_pos (by omega)]
     refine W_exit ?_
     refine W_seq (W_region rfl ?_)
     refine stp (r_loadAll rfl hc30 (by rfl) ?_)
     refine stp (r_move_slice rfl ?_)
     refine stn (r_storeAll rfl rfl hc4 (by rfl) (by rfl) (by rfl) ?_)
     intro w47 hc48 u49
     replace hc30 := u49.heap hc30 ne22.symm
     replace own := own_upd own u49 (own_ne own hc4 (by decide))
     replace G := G.upd u49 hge8
     clear u49 hc4
     refine stp (r_assign_slice rfl ?_)
     refine WL_nil ?_
     refine W_ret ?_
     rw [ht]
     refine ret2 (res_all rfl hc48 (by rfl)) (res_tmp (v := .slice ad1 (n - 1) (cp - 1)) rfl) ⟨[_, _, _, _, _], _, _, _, rfl, .mk (by simp [inR]) (by simp [inR]) (Row.nil _ _) (by simp) (own_hide_ints own hm2 (by omega)) (fun x hx_ => by obtain ⟨i, _, rfl⟩ := List.mem_map.1 hx_; exact wrap_u8R _) (Row.nil _ _) .nil, hnc, (by omega), (by omega), R2, G⟩
   ·-- false
    replace h3 := of_decide_eq_false h3
    refine W_region rfl ?_
    refine stp (r_eql rfl rfl ?_)
    refine stp (r_assign_bool rfl ?_)
    refine WL_nil ?_
    refine W_cond2 (b := (decide ((k % 8) = 2))) rfl (fun h4 => ?_) (fun h4 => ?_)
    ·-- true
     replace h4 := of_decide_eq_true h4
     refine W_seq (W_region rfl ?_)
     refine stp (r_fieldAddr rfl ?_)
     refine stn (r_store1 (v := .int .i64 2) rfl rfl (by rfl) hc18 (by rfl) (by rfl) ?_)
     intro w50 hc51 u52
     replace hc4 := u52.heap hc4 ne22
     replace G := G.upd u52 hge21
     clear u52 hc18
     refine WL_nil ?_
     refine W_seq (W_region rfl ?_)
     refine stp (r_fieldAddr rfl ?_)
     refine stn (r_store1 (v := .int .i64 2) rfl rfl (by rfl) hc51 (by rfl) (by rfl) ?_)
     intro w53 hc54 u55
     replace hc4 := u55.heap hc4 ne22
     replace G := G.upd u55 hge21
     clear u55 hc51
     refine WL_nil ?_
     refine W_seq (W_region rfl ?_)
     refine stp (r_assign_int rfl ?_)
     refine WL_nil ?_
     refine W_block ?_
     refine W_loop (fun m_ e_ w_ => ∃ (m : Nat) (ad3 : Option Addr) (n3 : Nat) (c3 : Nat), m_ = ((3 * (k / 8 % 5) + k % 2)).toNat - m ∧ Fr [(0, .slice ad1 (n - 1) (cp - 1)), (4, .pointer (some ⟨b1, 0, none⟩)), (5, .slice none 0 0), (6, .int .u8 k), (7, .pointer (some ⟨b12, 0, none⟩)), (8, .int .i64 ((k / 8) % 5)), (9, .int .i64 (m : Int))] e_ ∧ ((m : Int) ≤ (3 * (k / 8 % 5) + k % 2)) ∧ (w_.heap[b1]? = some (.cells #[.int .i64 0, .int .i64 0, .slice none 0 0, .slice none 0 0, .slice none 0 0] 37 (0, 0))) ∧ (w_.heap[b12]? = some (.cells #[.int .i64 2, .int .i64 2, .slice none 0 0, .slice ad3 n3 c3, .slice none 0 0] 37 (0, 0))) ∧ (w_.ownsRow w.heap.size 5 1 (.slice ad3 n3 c3) m ((List.range m).map fun i => .int .u8 (bTree k i))) ∧ Grow w w_) _ ⟨0, none, 0, 0, rfl, fr_of ⟨rfl, rfl, rfl, rfl, rfl, rfl, rfl, trivial⟩, by omega, hc4, hc54, World.ownsRow_nil _ _ _ _, G⟩ ?_
     clear hc4 hc54
     clear G
     rintro m_ e_ w56 ⟨m, ad3, n3, c3, rfl, ⟨e57, rfl⟩, hm, hc4, hc54, own, G⟩
     refine W_seq ?_
     refine W_seq (W_region rfl ?_)
     refine stp (r_move_int rfl ?_)
     refine stp (r_move_int rfl ?_)
     refine stp (r_mul rfl rfl ?_ ?_); constructor <;> omega
     refine stp (r_move_int rfl ?_)
     refine stp (r_rem rfl rfl ?_ ?_ ?_); omega; omega
     refine stp (r_conv rfl ?_ ?_); constructor <;> omega
     refine stp (r_add rfl rfl ?_ ?_); constructor <;> omega
     refine stp (r_lss rfl rfl ?_)
     refine WL_nil ?_
     refine W_cond2 (b := (decide ((m : Int) < ((3 * ((k / 8) % 5)) + (k % 2))))) rfl (fun hlt => ?_) (fun hlt => ?_)
     ·-- true
      replace hlt := of_decide_eq_true hlt
      refine W_skip ?_
      refine W_seq ?_
      refine W_block ?_
      refine W_region rfl ?_
      refine stp (r_fieldAddr rfl ?_)
      refine stp (r_load (v := .slice ad3 n3 c3) rfl hc54 rfl ?_)
      refine stp (r_move_int rfl ?_)
      refine stp (r_move_int rfl ?_)
      refine stp (r_conv rfl ?_ ?_); constructor <;> omega
      refine stp (r_addw rfl rfl ?_)
      refine stp (r_buildSlice (cs := #[.int .u8 (bTree k m)]) (el := 5) (fun w => by kernel_rfl) ?_)
      intro bs58 w59 hb60 hc61 g62
      have hge63 := Nat.le_trans G.size hb60
      have ne64 := Nat.ne_of_lt (Nat.lt_of_lt_of_le (lt_of_heap hc4) hb60)
      have ne65 := Nat.ne_of_lt (Nat.lt_of_lt_of_le (lt_of_heap hc54) hb60)
      replace hc4 := g62.heap hc4
      replace hc54 := g62.heap hc54
      replace own := own_grow own g62
      replace G := G.tr g62
      clear g62
      refine stp (r_append rfl rfl rfl rfl own (Row.of_block (n := 1) hc61 rfl rfl (by omega)) (fun q_ hq_ => by simp at hq_; subst hq_; rfl) (by simp only [maxLen]; omega) (by omega) G.size ?_)
      intro v66 w67 own6 gr6
      replace G := G.grown gr6 (own_ge own)
      replace hc4 := gr_heap gr6 hc4 (own_ne own hc4 (by decide))
      replace hc54 := gr_heap gr6 hc54 (own_ne own hc54 (by decide))
      clear own gr6
      obtain ⟨ad4, n4, c4, rfl⟩ := own_slice own6
      refine stp (r_fieldAddr rfl ?_)
      refine stn (r_store1 (v := .slice ad4 n4 c4) rfl rfl (by rfl) hc54 (by rfl) (by rfl) ?_)
      intro w68 hc69 u70
      replace hc4 := u70.heap hc4 ne22
      replace own6 := own_upd own6 u70 (own_ne own6 hc54 (by decide))
      replace G := G.upd u70 hge21
      clear u70 hc54
      refine WL_nil ?_
      refine W_region rfl ?_
      refine stp (r_move_int rfl ?_)
      refine stp (r_add rfl rfl ?_ ?_); constructor <;> omega
      refine stp (r_assign_int rfl ?_)
      refine WL_nil ?_
      refine ⟨_, ?_, m + 1, ad4, n4, c4, rfl, fr_of ⟨rfl, rfl, rfl, rfl, rfl, rfl, congrArg (Value.int .i64) (by omega), trivial⟩, by omega, hc4, hc69, (by rw [List.range_succ, List.map_append]; exact own6), G⟩
      omega
     ·-- false
      replace hlt := of_decide_eq_false hlt
      have hm2 : m = (3 * (k / 8 % 5) + k % 2).toNat := by omega
      have ht : treeP (d + 1) (k :: c) = (.mk 2 2 [] ((List.range (3 * (k / 8 % 5) + k % 2).toNat).map (bTree k)) [], c) := by simp only [treeP]; rw [if_neg h2, if_pos (by omega)]
      refine W_exit ?_
      refine W_seq (W_region rfl ?_)
      refine stp (r_loadAll rfl hc54 (by rfl) ?_)
      refine stp (r_move_slice rfl ?_)
      refine stn (r_storeAll rfl rfl hc4 (by rfl) (by rfl) (by rfl) ?_)
      intro w71 hc72 u73
      replace hc54 := u73.heap hc54 ne22.symm
      replace own := own_upd own u73 (own_ne own hc4 (by decide))
      replace G := G.upd u73 hge8
      clear u73 hc4
      refine stp (r_assign_slice rfl ?_)
      refine WL_nil ?_
      refine W_ret ?_
      rw [ht]
      refine ret2 (res_all rfl hc72 (by rfl)) (res_tmp (v := .slice ad1 (n - 1) (cp - 1)) rfl) ⟨[_, _, _, _, _], _, _, _, rfl, .mk (by simp [inR]) (by simp [inR]) (Row.nil _ _) (by simp) (own_hide_ints own hm2 (by omega)) (fun x hx_ => by obtain ⟨i, _, rfl⟩ := List.mem_map.1 hx_; exact wrap_u8R _) (Row.nil _ _) .nil, hnc, (by omega), (by omega), R2, G⟩
    ·-- false
     replace h4 := of_decide_eq_false h4
     refine W_seq (W_region rfl ?_)
     refine stp (r_eql rfl rfl ?_)
     refine stp (r_assign_bool rfl ?_)
     refine WL_nil ?_
     refine W_cond2 (b := (decide ((k % 8) = 3))) rfl (fun h5 => ?_) (fun h5 => ?_)
     ·-- true
      replace h5 := of_decide_eq_true h5
      refine W_seq (W_region rfl ?_)
      refine stp (r_fieldAddr rfl ?_)
      refine stn (r_store1 (v := .int .i64 2) rfl rfl (by rfl) hc18 (by rfl) (by rfl) ?_)
      intro w74 hc75 u76
      replace hc4 := u76.heap hc4 ne22
      replace G := G.upd u76 hge21
      clear u76 hc18
      refine WL_nil ?_
      refine W_seq (W_region rfl ?_)
      refine stp (r_fieldAddr rfl ?_)
      refine stn (r_store1 (v := .int .i64 5) rfl rfl (by rfl) hc75 (by rfl) (by rfl) ?_)
      intro w77 hc78 u79
      replace hc4 := u79.heap hc4 ne22
      replace G := G.upd u79 hge21
      clear u79 hc75
      refine WL_nil ?_
      refine W_seq (W_region rfl ?_)
      refine stp (r_assign_int rfl ?_)
      refine WL_nil ?_
      refine W_block ?_
      refine W_loop (fun m_ e_ w_ => ∃ (m : Nat) (ad3 : Option Addr) (n3 : Nat) (c3 : Nat), m_ = ((k / 8 % 5)).toNat - m ∧ Fr [(0, .slice ad1 (n - 1) (cp - 1)), (4, .pointer (some ⟨b1, 0, none⟩)), (5, .slice none 0 0), (6, .int .u8 k), (7, .pointer (some ⟨b12, 0, none⟩)), (8, .int .i64 ((k / 8) % 5)), (10, .int .i64 (m : Int))] e_ ∧ ((m : Int) ≤ (k / 8 % 5)) ∧ (w_.heap[b1]? = some (.cells #[.int .i64 0, .int .i64 0, .slice none 0 0, .slice none 0 0, .slice none 0 0] 37 (0, 0))) ∧ (w_.heap[b12]? = some (.cells #[.int .i64 2, .int .i64 5, .slice ad3 n3 c3, .slice none 0 0, .slice none 0 0] 37 (0, 0))) ∧ (w_.ownsRow w.heap.size 55 1 (.slice ad3 n3 c3) m ((List.range m).map fun i => .int .u64 (w3Tree k i))) ∧ Grow w w_) _ ⟨0, none, 0, 0, rfl, fr_of ⟨rfl, rfl, rfl, rfl, rfl, rfl, rfl, trivial⟩, by omega, hc4, hc78, World.ownsRow_nil _ _ _ _, G⟩ ?_
      clear hc4 hc78
      clear G
      rintro m_ e_ w80 ⟨m, ad3, n3, c3, rfl, ⟨e81, rfl⟩, hm, hc4, hc78, own, G⟩
      refine W_seq ?_
      refine W_seq (W_region rfl ?_)
      refine stp (r_move_int rfl ?_)
      refine stp (r_move_int rfl ?_)
      refine stp (r_lss rfl rfl ?_)
      refine WL_nil ?_
      refine W_cond2 (b := (decide ((m : Int) < ((k / 8) % 5)))) rfl (fun hlt => ?_) (fun hlt => ?_)
      ·-- true
       replace hlt := of_decide_eq_true hlt
       refine W_skip ?_
       refine W_seq ?_
       refine W_block ?_
       refine W_region rfl ?_
       refine stp (r_fieldAddr rfl ?_)
       refine stp (r_load (v := .slice ad3 n3 c3) rfl hc78 rfl ?_)
       refine stp (r_move_int rfl ?_)
       refine stp (r_conv rfl ?_ ?_); constructor <;> omega
       refine stp (r_mulw rfl rfl ?_)
       refine stp (r_move_int rfl ?_)
       refine stp (r_conv rfl ?_ ?_); constructor <;> omega
       refine stp (r_addw rfl rfl ?_)
       refine stp (r_buildSlice (cs := #[.int .u64 (w3Tree k m)]) (el := 55) (fun w => by kernel_rfl) ?_)
       intro bs82 w83 hb84 hc85 g86
       have hge87 := Nat.le_trans G.size hb84
       have ne88 := Nat.ne_of_lt (Nat.lt_of_lt_of_le (lt_of_heap hc4) hb84)
       have ne89 := Nat.ne_of_lt (Nat.lt_of_lt_of_le (lt_of_heap hc78) hb84)
       replace hc4 := g86.heap hc4
       replace hc78 := g86.heap hc78
       replace own := own_grow own g86
       replace G := G.tr g86
       clear g86
       refine stp (r_append rfl rfl rfl rfl own (Row.of_block (n := 1) hc85 rfl rfl (by omega)) (fun q_ hq_ => by simp at hq_; subst hq_; rfl) (by simp only [maxLen]; omega) (by omega) G.size ?_)
       intro v90 w91 own6 gr6
       replace G := G.grown gr6 (own_ge own)
       replace hc4 := gr_heap gr6 hc4 (own_ne own hc4 (by decide))
       replace hc78 := gr_heap gr6 hc78 (own_ne own hc78 (by decide))
       clear own gr6
       obtain ⟨ad4, n4, c4, rfl⟩ := own_slice own6
       refine stp (r_fieldAddr rfl ?_)
       refine stn (r_store1 (v := .slice ad4 n4 c4) rfl rfl (by rfl) hc78 (by rfl) (by rfl) ?_)
       intro w92 hc93 u94
       replace hc4 := u94.heap hc4 ne22
       replace own6 := own_upd own6 u94 (own_ne own6 hc78 (by decide))
       replace G := G.upd u94 hge21
       clear u94 hc78
       refine WL_nil ?_
       refine W_region rfl ?_
       refine stp (r_move_int rfl ?_)
       refine stp (r_add rfl rfl ?_ ?_); constructor <;> omega
       refine stp (r_assign_int rfl ?_)
       refine WL_nil ?_
       refine ⟨_, ?_, m + 1, ad4, n4, c4, rfl, fr_of ⟨rfl, rfl, rfl, rfl, rfl, rfl, congrArg (Value.int .i64) (by omega), trivial⟩, by omega, hc4, hc93, (by rw [List.range_succ, List.map_append]; exact own6), G⟩
       omega
      ·-- false
       replace hlt := of_decide_eq_false hlt
       have hm2 : m = (k / 8 % 5).toNat := by omega
       have ht : treeP (d + 1) (k :: c) = (.mk 2 5 ((List.range (k / 8 % 5).toNat).map (w3Tree k)) [] [], c) := by simp only [treeP]; rw [if_neg h2, if_neg (by omega), if_pos h5]
       refine W_exit ?_
       refine W_seq (W_region rfl ?_)
       refine stp (r_loadAll rfl hc78 (by rfl) ?_)
       refine stp (r_move_slice rfl ?_)
       refine stn (r_storeAll rfl rfl hc4 (by rfl) (by rfl) (by rfl) ?_)
       intro w95 hc96 u97
       replace hc78 := u97.heap hc78 ne22.symm
       replace own := own_upd own u97 (own_ne own hc4 (by decide))
       replace G := G.upd u97 hge8
       clear u97 hc4
       refine stp (r_assign_slice rfl ?_)
       refine WL_nil ?_
       refine W_ret ?_
       rw [ht]
       refine ret2 (res_all rfl hc96 (by rfl)) (res_tmp (v := .slice ad1 (n - 1) (cp - 1)) rfl) ⟨[_, _, _, _, _], _, _, _, rfl, .mk (by simp [inR]) (by simp [inR]) (own_hide_ints own hm2 (by omega)) (fun x hx_ => by obtain ⟨i, _, rfl⟩ := List.mem_map.1 hx_; exact wrap_u64R _) (Row.nil _ _) (by simp) (Row.nil _ _) .nil, hnc, (by omega), (by omega), R2, G⟩
     ·-- false
      replace h5 := of_decide_eq_false h5
      refine W_seq (W_region rfl ?_)
      refine stp (r_fieldAddr rfl ?_)
      refine stn (r_store1 (v := .int .i64 1) rfl rfl (by rfl) hc18 (by rfl) (by rfl) ?_)
      intro w98 hc99 u100
      replace hc4 := u100.heap hc4 ne22
      replace G := G.upd u100 hge21
      clear u100 hc18
      refine WL_nil ?_
      refine W_seq ?_
      refine W_seq (W_region rfl ?_)
      refine stp (r_move_int rfl ?_)
      refine stp (r_rem rfl rfl ?_ ?_ ?_); omega; omega
      refine stp (r_gtr rfl rfl ?_)
      refine WL_nil ?_
      refine W_cond2 (b := (decide ((k % 8) > 6))) rfl (fun h6 => ?_) (fun h6 => ?_)
      ·-- true
       replace h6 := of_decide_eq_true h6
       refine W_seq (W_region rfl ?_)
       refine stp (r_fieldAddr rfl ?_)
       refine stn (r_store1 (v := .int .i64 2) rfl rfl (by rfl) hc99 (by rfl) (by rfl) ?_)
       intro w101 hc102 u103
       replace hc4 := u103.heap hc4 ne22
       replace G := G.upd u103 hge21
       clear u103 hc99
       refine WL_nil ?_
       refine W_region rfl ?_
       refine stp (r_fieldAddr rfl ?_)
       refine stn (r_store1 (v := .int .i64 6) rfl rfl (by rfl) hc102 (by rfl) (by rfl) ?_)
       intro w104 hc105 u106
       replace hc4 := u106.heap hc4 ne22
       replace G := G.upd u106 hge21
       clear u106 hc102
       refine WL_nil ?_
       refine W_seq ?_
       refine W_seq (W_region rfl ?_)
       refine stp (r_assign_int rfl ?_)
       refine WL_nil ?_
       refine W_block ?_
       refine W_loop (fun m_ e_ w_ => m_ = 0 ∧ Fr [(0, .slice ad1 (n - 1) (cp - 1)), (1, .int .i64 ((d + 1 : Nat) : Int)), (4, .pointer (some ⟨b1, 0, none⟩)), (5, .slice none 0 0), (6, .int .u8 k), (7, .pointer (some ⟨b12, 0, none⟩)), (8, .int .i64 ((k / 8) % 5)), (11, .int .i64 0)] e_ ∧ (w_.heap[b1]? = some (.cells #[.int .i64 0, .int .i64 0, .slice none 0 0, .slice none 0 0, .slice none 0 0] 37 (0, 0))) ∧ (w_.heap[b12]? = some (.cells #[.int .i64 2, .int .i64 6, .slice none 0 0, .slice none 0 0, .slice none 0 0] 37 (0, 0))) ∧ Grow w w_) _ ⟨rfl, fr_of ⟨rfl, rfl, rfl, rfl, rfl, rfl, rfl, rfl, trivial⟩, hc4, hc105, G⟩ ?_
       clear hc4 hc105
       clear G
       rintro m_ e_ w107 ⟨rfl, ⟨e108, rfl⟩, hc4, hc105, G⟩
       refine W_seq ?_
       refine W_seq (W_region rfl ?_)
       refine stp (r_move_int rfl ?_)
       refine stp (r_move_int rfl ?_)
       refine stp (r_quo rfl rfl ?_ ?_ ?_ ?_); omega; omega; (constructor <;> omega)
       refine stp (r_conv rfl ?_ ?_); constructor <;> omega
       refine stp (r_lss rfl rfl ?_)
       refine stp (r_move_bool rfl ?_)
       refine WL_some (og_if (s := .bool (decide (0 < (k / 64)))) (b := true) (v := .pointer (some ⟨b12, 0, none⟩)) rfl (wgb_t _) (fun hc109 => ?_) ?_)
       ·
        have hc109_ := of_decide_eq_true hc109
        refine r_fieldAddr rfl ?_
        exact ⟨rfl, rfl⟩
       refine WL_some (og_if (s := .bool (decide (0 < (k / 64)))) (b := true) (v := .int .i64 2) rfl (wgb_t _) (fun hc110 => ?_) ?_)
       ·
        have hc110_ := of_decide_eq_true hc110
        refine r_load (v := .int .i64 2) (gvt hc110) hc105 rfl ?_
        exact ⟨rfl, rfl⟩
       refine WL_some (og_if (s := .bool (decide (0 < (k / 64)))) (b := true) (v := .bool false) rfl (wgb_t _) (fun hc111 => ?_) ?_)
       ·
        have hc111_ := of_decide_eq_true hc111
        refine r_eql_f (gvt hc111) rfl (by decide) ?_
        exact ⟨rfl, rfl⟩
       refine stp (r_and2 rfl rfl rfl ?_)
       refine WL_nil ?_
       refine W_false (show _ = Value.bool false from congrArg Value.bool (by simp)) ?_
       refine W_exit ?_
       refine W_seq (W_region rfl ?_)
       refine stp (r_assign_int rfl ?_)
       refine WL_nil ?_
       refine W_block ?_
       obtain ⟨B, hB⟩ : ∃ B, B = w107.heap.size := ⟨_, rfl⟩
       have hB7 : b12 < B := by rw [hB]; exact lt_of_heap hc105
       have hwB : w.heap.size ≤ B := by rw [hB]; exact G.size
       have hBw : B ≤ w107.heap.size := by rw [hB]; exact Nat.le_refl _
       have hB4 : b1 < B := by rw [hB]; exact lt_of_heap hc4
       clear hB
       have hc1 : (treesP (treeP d) 0 c).2 = c := rfl
       refine W_loop (fun m_ e_ w_ => ∃ (j : Nat) (ad5 : Option Addr) (n5 : Nat) (c5 : Nat) (ad6 : Option Addr) (n6 : Nat) (c6 : Nat) (kc : List Value) (V : Nat → Prop), m_ = (k / 8 % 5).toNat - j ∧ Fr [(1, .int .i64 ((d + 1 : Nat) : Int)), (4, .pointer (some ⟨b1, 0, none⟩)), (5, .slice none 0 0), (7, .pointer (some ⟨b12, 0, none⟩)), (8, .int .i64 ((k / 8) % 5)), (12, .int .i64 (j : Int)), (0, .slice ad5 n5 c5)] e_ ∧ ((j : Int) ≤ (k / 8 % 5)) ∧ (n5 = (treesP (treeP d) j c).2.length) ∧ (n5 ≤ c5) ∧ (c5 ≤ maxLen) ∧ (RowAt w0 1 ad5 n5 ((treesP (treeP d) j c).2.map (.int .u8))) ∧ (∀ x, (Value.slice ad6 n6 c6).ownBlock = some x → ¬ V x) ∧ (w_.heap[b1]? = some (.cells #[.int .i64 0, .int .i64 0, .slice none 0 0, .slice none 0 0, .slice none 0 0] 37 (0, 0))) ∧ (w_.heap[b12]? = some (.cells #[.int .i64 2, .int .i64 6, .slice none 0 0, .slice none 0 0, .slice ad6 n6 c6] 37 (0, 0))) ∧ (B ≤ w_.heap.size) ∧ (w_.ownsRow B 37 5 (.slice ad6 n6 c6) j kc) ∧ (∀ x, V x → B ≤ x ∧ x < w_.heap.size) ∧ (KidsR (see V w_) kc (treesP (treeP d) j c).1) ∧ Grow w w_) _ ⟨0, ad1, n - 1, cp - 1, none, 0, 0, [], fun _ => False, rfl, fr_of ⟨rfl, rfl, rfl, rfl, rfl, rfl, rfl, trivial⟩, by omega, hnc, by omega, by omega, R2, fun x _ h_ => h_, hc4, hc105, hBw, World.ownsRow_nil _ _ _ _, fun x h_ => h_.elim, .nil, G⟩ ?_
       clear hc4 hc105
       clear G
       rintro m_ e_ w112 ⟨j, ad5, n5, c5, ad6, n6, c6, kc, V, rfl, ⟨e113, rfl⟩, hj, hn5, hc5, hc52, hR5, hVo, hc4, hc105, hBw, ownk, hV, hK, G⟩
       refine W_seq ?_
       refine W_seq (W_region rfl ?_)
       refine stp (r_move_int rfl ?_)
       refine stp (r_move_int rfl ?_)
       refine stp (r_lss rfl rfl ?_)
       refine WL_nil ?_
       refine W_cond2 (b := (decide ((j : Int) < ((k / 8) % 5)))) rfl (fun hlt => ?_) (fun hlt => ?_)
       ·-- true
        replace hlt := of_decide_eq_true hlt
        refine W_skip ?_
        refine W_seq ?_
        refine W_block ?_
        refine W_seq (W_region rfl ?_)
        refine stp (r_move_slice rfl ?_)
        refine stp (r_move_int rfl ?_)
        refine stp (r_sub rfl rfl ?_ ?_); constructor <;> omega
        refine WL_some (og rfl ?_)
        have hBw0 := hBw
        have hol := fun x hx_ => (ownk.lt x hx_).2
        have hcal := ih_ _ (d := d) hR5 (g0.tr G) hn5 (treesP_rest d j c hxc) hc5 hc52 (by omega) (by omega)
        rw [show ((d : Nat) : Int) = ((d + 1 : Nat) : Int) - 1 from by omega] at hcal
        refine r_call rfl hcal ?_
        rintro v_ w114 ⟨cells, ad9, n9, c9, rfl, hT9, hn9, hc9, hc92, hR9, g_⟩
        have hsz9 := lt_of_heap hc105
        replace hc4 := g_.heap hc4
        replace hc105 := g_.heap hc105
        replace hBw := Nat.le_trans hBw g_.size
        replace ownk := own_grow ownk g_
        replace hV := vlt hV g_.size
        replace hK := hK.sees (Sees.grow g_)
        replace G := G.tr g_
        clear g_
        obtain ⟨y0, y1, ya, yn, yc, za, zn, zc, ua, un, uc, rfl⟩ := hT9.cells
        have hT8 := hT9.sees (Sees.more (V' := fun x => V x ∨ (w112.heap.size ≤ x ∧ x < w114.heap.size)) w114 (fun x h1_ h2_ => .inr ⟨h2_, h1_⟩))
        clear hT9
        replace hK := hK.sees (Sees.more (V' := fun x => V x ∨ (w112.heap.size ≤ x ∧ x < w114.heap.size)) w114 (fun x _ h2_ => .inl h2_))
        have hV9 : ∀ x, (V x ∨ (w112.heap.size ≤ x ∧ x < w114.heap.size)) → B ≤ x ∧ x < w114.heap.size := fun x hx_ => hx_.elim (fun h_ => hV x h_) (fun h_ => ⟨Nat.le_trans hBw0 h_.1, h_.2⟩)
        have hVo9 : ∀ x, (Value.slice ad6 n6 c6).ownBlock = some x → ¬ (V x ∨ (w112.heap.size ≤ x ∧ x < w114.heap.size)) := fun x hx_ hv_ => hv_.elim (hVo x hx_) (fun h_ => by have := (hol x hx_); omega)
        clear hV hVo
        obtain ⟨V9, hV9e⟩ : ∃ V9 : Nat → Prop, V9 = fun x => V x ∨ (w112.heap.size ≤ x ∧ x < w114.heap.size) := ⟨_, rfl⟩
        rw [← hV9e] at hT8 hK
        have hV : ∀ x, V9 x → B ≤ x ∧ x < w114.heap.size := by rw [hV9e]; exact hV9
        have hVo : ∀ x, (Value.slice ad6 n6 c6).ownBlock = some x → ¬ V9 x := by rw [hV9e]; exact hVo9
        clear hV9 hVo9 hV9e hBw0 hol
        refine stp (r_move (v := .tuple #[.agg #[.int .i64 y0, .int .i64 y1, .slice ya yn yc, .slice za zn zc, .slice ua un uc], .slice ad9 n9 c9]) rfl ?_)
        refine stp (r_extract (v := .agg #[.int .i64 y0, .int .i64 y1, .slice ya yn yc, .slice za zn zc, .slice ua un uc]) rfl rfl ?_)
        refine stp (r_extract (v := .slice ad9 n9 c9) rfl rfl ?_)
        refine stp (r_alloc ?_)
        intro b115 w116 hb117 hc118 g119
        refine stn (r_storeAll rfl rfl hc118 (by rfl) (by rfl) (by rfl) ?_)
        intro w120 hc121 u122
        have g123 := g119.upd u122 hb117
        have hge124 := Nat.le_trans G.size hb117
        have ne125 := Nat.ne_of_lt (Nat.lt_of_lt_of_le (lt_of_heap hc4) hb117)
        have ne126 := Nat.ne_of_lt (Nat.lt_of_lt_of_le (lt_of_heap hc105) hb117)
        replace hc4 := g123.heap hc4
        replace hc105 := g123.heap hc105
        replace hBw := Nat.le_trans hBw g123.size
        replace ownk := own_grow ownk g123
        replace hK := hK.sees (Sees.grow g123)
        replace hT8 := hT8.sees (Sees.grow g123)
        replace hV := vlt hV g123.size
        replace G := G.tr g123
        clear u122 g119 hb117 hc118
        refine stp (r_assign_slice rfl ?_)
        refine WL_nil ?_
        refine W_seq (W_region rfl ?_)
        refine stp (r_move_slice rfl ?_)
        refine stp (r_assign_slice rfl ?_)
        refine WL_nil ?_
        refine W_region rfl ?_
        refine stp (r_fieldAddr rfl ?_)
        refine stp (r_load (v := .slice ad6 n6 c6) rfl hc105 rfl ?_)
        refine stp (r_loadAll rfl hc121 (by rfl) ?_)
        refine stp (r_buildSlice (cs := #[.int .i64 y0, .int .i64 y1, .slice ya yn yc, .slice za zn zc, .slice ua un uc]) (el := 37) (fun w => by kernel_rfl) ?_)
        intro bs127 w128 hb129 hc130 g131
        have hge132 := Nat.le_trans G.size hb129
        have ne133 := Nat.ne_of_lt (Nat.lt_of_lt_of_le (lt_of_heap hc4) hb129)
        have ne134 := Nat.ne_of_lt (Nat.lt_of_lt_of_le (lt_of_heap hc105) hb129)
        have ne135 := Nat.ne_of_lt (Nat.lt_of_lt_of_le (lt_of_heap hc121) hb129)
        replace hc4 := g131.heap hc4
        replace hc105 := g131.heap hc105
        replace hBw := Nat.le_trans hBw g131.size
        replace ownk := own_grow ownk g131
        replace hK := hK.sees (Sees.grow g131)
        replace hT8 := hT8.sees (Sees.grow g131)
        replace hV := vlt hV g131.size
        replace hc121 := g131.heap hc121
        replace G := G.tr g131
        clear g131
        refine stp (r_appendB rfl rfl rfl rfl ownk (Row.of_block (n := 1) hc130 rfl rfl (by omega)) (fun q_ hq_ => by simp at hq_; rcases hq_ with rfl | rfl | rfl | rfl | rfl <;> rfl) (by simp only [maxLen]; omega) (by omega) hBw ?_)
        intro v136 w137 own6 gr6 hbk6
        have k6_ : Kp (Value.slice ad6 n6 c6).ownBlock.toList w128 w137 := Kp.of_grownBy gr6 (fun k_ hk_ => by rw [Option.mem_toList]; exact hk_)
        have hF6 : ∀ x ∈ (Value.slice ad6 n6 c6).ownBlock.toList, B ≤ x := fun x hx_ => own_ge ownk x (Option.mem_toList.1 hx_)
        have hF7 : ∀ x ∈ (Value.slice ad6 n6 c6).ownBlock.toList, ¬ V9 x := fun x hx_ => hVo x (Option.mem_toList.1 hx_)
        replace hT8 := hT8.sees (Sees.kp k6_ hF7)
        replace hK := hK.sees (Sees.kp k6_ hF7)
        have hVo6 : ∀ x, v136.ownBlock = some x → ¬ V9 x := fun x hx_ hv_ => hbk6.elim (fun h_ => hVo x (h_ ▸ hx_) hv_) (fun h_ => by rw [h_] at hx_; simp only [Option.some.injEq] at hx_; have := (hV x hv_).2; omega)
        replace hV := fun x hx_ => (⟨(hV x hx_).1, Nat.lt_of_lt_of_le (hV x hx_).2 k6_.size⟩ : B ≤ x ∧ x < w137.heap.size)
        replace G := G.trK k6_ (fun x hx_ => Nat.le_trans hwB (hF6 x hx_))
        clear hc121
        replace hc4 := k6_.heap hc4 (fun hm_ => by have h1_ := hF6 _ hm_; have := hB4; omega)
        replace hc105 := k6_.heap hc105 (fun hm_ => by have h1_ := hF6 _ hm_; omega)
        replace hBw := Nat.le_trans hBw k6_.size
        clear ownk gr6 hVo k6_ hF6 hF7 hbk6
        obtain ⟨ad7, n7, c7, rfl⟩ := own_slice own6
        refine stp (r_fieldAddr rfl ?_)
        refine stn (r_store1 (v := .slice ad7 n7 c7) rfl rfl (by rfl) hc105 (by rfl) (by rfl) ?_)
        intro w138 hc139 u140
        replace hc4 := u140.heap hc4 ne22
        replace own6 := own_upd own6 u140 (fun he_ => by have := own_ge own6 _ he_; omega)
        replace hT8 := hT8.sees (Sees.upd u140 (fun h_ => by have := (hV _ h_).1; omega))
        replace hK := hK.sees (Sees.upd u140 (fun h_ => by have := (hV _ h_).1; omega))
        replace hV := fun x hx_ => (⟨(hV x hx_).1, Nat.lt_of_lt_of_le (hV x hx_).2 (Nat.le_of_eq u140.size.symm)⟩ : B ≤ x ∧ x < w138.heap.size)
        replace hBw : B ≤ w138.heap.size := by rw [u140.size]; exact hBw
        replace G := G.upd u140 hge21
        clear hc105
        refine WL_nil ?_
        refine W_region rfl ?_
        refine stp (r_move_int rfl ?_)
        refine stp (r_add rfl rfl ?_ ?_); constructor <;> omega
        refine stp (r_assign_int rfl ?_)
        refine WL_nil ?_
        refine ⟨_, ?_, j + 1, ad9, n9, c9, ad7, n7, c7, _, V9, rfl, fr_of ⟨rfl, rfl, rfl, rfl, rfl, congrArg (Value.int .i64) (by omega), rfl, trivial⟩, by omega, hn9, hc9, hc92, hR9, hVo6, hc4, hc139, hBw, own6, hV, (KidsR.append hK (by have := KidsR.cons hT8 .nil; simpa using this)), G⟩
        omega
       ·-- false
        replace hlt := of_decide_eq_false hlt
        have hj2 : j = (k / 8 % 5).toNat := by omega
        have hlk := treesP_count (treeP d) j c
        have hrk : Row (hide B w112) 5 (.slice ad6 n6 c6) (treesP (treeP d) j c).1.length kc := by rw [hlk]; exact own_hide ownk (by omega)
        have hK9 := hK.sees (Sees.more (V' := fun x => B ≤ x) _ (fun x _ hx_ => (hV x hx_).1))
        clear hK hV
        have ht : treeP (d + 1) (k :: c) = (.mk 2 6 [] [] (treesP (treeP d) j c).1, (treesP (treeP d) j c).2) := by simp only [treeP]; rw [if_neg h2, if_neg (by omega), if_neg h5, if_pos h6, ← hj2]
        refine W_exit ?_
        refine W_seq (W_region rfl ?_)
        refine stp (r_loadAll rfl hc105 (by rfl) ?_)
        refine stp (r_move_slice rfl ?_)
        refine stn (r_storeAll rfl rfl hc4 (by rfl) (by rfl) (by rfl) ?_)
        intro w141 hc142 u143
        replace hc105 := u143.heap hc105 ne22.symm
        replace hrk := hrk.sees (Sees.upd u143 (fun h_ => by omega))
        replace hK9 := hK9.sees (Sees.upd u143 (fun h_ => by omega))
        replace G := G.upd u143 hge8
        clear u143 hc4
        refine stp (r_assign_slice rfl ?_)
        refine WL_nil ?_
        refine W_ret ?_
        rw [ht]
        refine ret2 (res_all rfl hc142 (by rfl)) (res_tmp (v := .slice ad5 n5 c5) rfl) ⟨[_, _, _, _, _], _, _, _, rfl, .mk (by simp [inR]) (by simp [inR]) (Row.nil _ _) (by simp) (Row.nil _ _) (by simp) (hrk.sees (Sees.low hwB _)) (hK9.sees (Sees.low hwB _)), hn5, hc5, hc52, hR5, G⟩
      ·-- false
       replace h6 := of_decide_eq_false h6
       have hkd6 : ¬ k % 8 > 6 := h6
       refine W_skip ?_
       refine W_seq ?_
       refine W_seq (W_region rfl ?_)
       refine stp (r_assign_int rfl ?_)
       refine WL_nil ?_
       refine W_block ?_
       refine W_loop (fun m_ e_ w_ => ∃ (m : Nat) (ad3 : Option Addr) (n3 : Nat) (c3 : Nat), m_ = ((k / 64)).toNat - m ∧ Fr [(0, .slice ad1 (n - 1) (cp - 1)), (1, .int .i64 ((d + 1 : Nat) : Int)), (4, .pointer (some ⟨b1, 0, none⟩)), (5, .slice none 0 0), (6, .int .u8 k), (7, .pointer (some ⟨b12, 0, none⟩)), (8, .int .i64 ((k / 8) % 5)), (11, .int .i64 (m : Int))] e_ ∧ ((m : Int) ≤ (k / 64)) ∧ (w_.heap[b1]? = some (.cells #[.int .i64 0, .int .i64 0, .slice none 0 0, .slice none 0 0, .slice none 0 0] 37 (0, 0))) ∧ (w_.heap[b12]? = some (.cells #[.int .i64 1, .int .i64 0, .slice ad3 n3 c3, .slice none 0 0, .slice none 0 0] 37 (0, 0))) ∧ (w_.ownsRow w.heap.size 55 1 (.slice ad3 n3 c3) m ((List.range m).map fun i => .int .u64 (w4Tree k i))) ∧ Grow w w_) _ ⟨0, none, 0, 0, rfl, fr_of ⟨rfl, rfl, rfl, rfl, rfl, rfl, rfl, rfl, trivial⟩, by omega, hc4, hc99, World.ownsRow_nil _ _ _ _, G⟩ ?_
       clear hc4 hc99
       clear G
       rintro m_ e_ w144 ⟨m, ad3, n3, c3, rfl, ⟨e145, rfl⟩, hm, hc4, hc99, own, G⟩
       refine W_seq ?_
       refine W_seq (W_region rfl ?_)
       refine stp (r_move_int rfl ?_)
       refine stp (r_move_int rfl ?_)
       refine stp (r_quo rfl rfl ?_ ?_ ?_ ?_); omega; omega; (constructor <;> omega)
       refine stp (r_conv rfl ?_ ?_); constructor <;> omega
       refine stp (r_lss rfl rfl ?_)
       refine stp (r_move_bool rfl ?_)
       refine WL_some (og_if (s := .bool (decide ((m : Int) < (k / 64)))) (b := true) (v := .pointer (some ⟨b12, 0, none⟩)) rfl (wgb_t _) (fun hc146 => ?_) ?_)
       ·
        have hc146_ := of_decide_eq_true hc146
        refine r_fieldAddr rfl ?_
        exact ⟨rfl, rfl⟩
       refine WL_some (og_if (s := .bool (decide ((m : Int) < (k / 64)))) (b := true) (v := .int .i64 1) rfl (wgb_t _) (fun hc147 => ?_) ?_)
       ·
        have hc147_ := of_decide_eq_true hc147
        refine r_load (v := .int .i64 1) (gvt hc147) hc99 rfl ?_
        exact ⟨rfl, rfl⟩
       refine WL_some (og_if (s := .bool (decide ((m : Int) < (k / 64)))) (b := true) (v := .bool true) rfl (wgb_t _) (fun hc148 => ?_) ?_)
       ·
        have hc148_ := of_decide_eq_true hc148
        refine r_eql_t (gvt hc148) rfl (by decide) ?_
        exact ⟨rfl, rfl⟩
       refine stp (r_and2 rfl rfl rfl ?_)
       refine WL_nil ?_
       refine W_cond2 (b := ((decide ((m : Int) < (k / 64))) && true)) rfl (fun hlt => ?_) (fun hlt => ?_)
       ·-- true
        simp only [Bool.and_eq_true, Bool.or_eq_true, Bool.not_eq_true', Bool.and_eq_false_iff, Bool.or_eq_false_iff, Bool.not_eq_false', decide_eq_true_eq, decide_eq_false_iff_not, Bool.not_true, Bool.not_false, Bool.not_eq_eq_eq_not, Bool.or_false, Bool.and_true, Bool.or_true, Bool.and_false, Bool.false_or, Bool.true_and, Bool.true_or, Bool.false_and, Bool.false_eq_true, Bool.true_eq_false] at hlt
        refine W_skip ?_
        refine W_seq ?_
        refine W_block ?_
        refine W_region rfl ?_
        refine stp (r_fieldAddr rfl ?_)
        refine stp (r_load (v := .slice ad3 n3 c3) rfl hc99 rfl ?_)
        refine stp (r_move_int rfl ?_)
        refine stp (r_conv rfl ?_ ?_); constructor <;> omega
        refine stp (r_move_int rfl ?_)
        refine stp (r_mul rfl rfl ?_ ?_); constructor <;> omega
        refine stp (r_conv rfl ?_ ?_); constructor <;> omega
        refine stp (r_shl rfl rfl ?_ ?_); omega
        refine stp (r_move_int rfl ?_)
        refine stp (r_conv rfl ?_ ?_); constructor <;> omega
        refine stp (r_addw rfl rfl ?_)
        refine stp (r_buildSlice (cs := #[.int .u64 (w4Tree k m)]) (el := 55) (fun w => by kernel_rfl) ?_)
        intro bs149 w150 hb151 hc152 g153
        have hge154 := Nat.le_trans G.size hb151
        have ne155 := Nat.ne_of_lt (Nat.lt_of_lt_of_le (lt_of_heap hc4) hb151)
        have ne156 := Nat.ne_of_lt (Nat.lt_of_lt_of_le (lt_of_heap hc99) hb151)
        replace hc4 := g153.heap hc4
        replace hc99 := g153.heap hc99
        replace own := own_grow own g153
        replace G := G.tr g153
        clear g153
        refine stp (r_append rfl rfl rfl rfl own (Row.of_block (n := 1) hc152 rfl rfl (by omega)) (fun q_ hq_ => by simp at hq_; subst hq_; rfl) (by simp only [maxLen]; omega) (by omega) G.size ?_)
        intro v157 w158 own6 gr6
        replace G := G.grown gr6 (own_ge own)
        replace hc4 := gr_heap gr6 hc4 (own_ne own hc4 (by decide))
        replace hc99 := gr_heap gr6 hc99 (own_ne own hc99 (by decide))
        clear own gr6
        obtain ⟨ad4, n4, c4, rfl⟩ := own_slice own6
        refine stp (r_fieldAddr rfl ?_)
        refine stn (r_store1 (v := .slice ad4 n4 c4) rfl rfl (by rfl) hc99 (by rfl) (by rfl) ?_)
        intro w159 hc160 u161
        replace hc4 := u161.heap hc4 ne22
        replace own6 := own_upd own6 u161 (own_ne own6 hc99 (by decide))
        replace G := G.upd u161 hge21
        clear u161 hc99
        refine WL_nil ?_
        refine W_region rfl ?_
        refine stp (r_move_int rfl ?_)
        refine stp (r_add rfl rfl ?_ ?_); constructor <;> omega
        refine stp (r_assign_int rfl ?_)
        refine WL_nil ?_
        refine ⟨_, ?_, m + 1, ad4, n4, c4, rfl, fr_of ⟨rfl, rfl, rfl, rfl, rfl, rfl, rfl, congrArg (Value.int .i64) (by omega), trivial⟩, by omega, hc4, hc160, (by rw [List.range_succ, List.map_append]; exact own6), G⟩
        omega
       ·-- false
        simp only [Bool.and_eq_true, Bool.or_eq_true, Bool.not_eq_true', Bool.and_eq_false_iff, Bool.or_eq_false_iff, Bool.not_eq_false', decide_eq_true_eq, decide_eq_false_iff_not, Bool.not_true, Bool.not_false, Bool.not_eq_eq_eq_not, Bool.or_false, Bool.and_true, Bool.or_true, Bool.and_false, Bool.false_or, Bool.true_and, Bool.true_or, Bool.false_and, Bool.false_eq_true, Bool.true_eq_false] at hlt
        have hm2 : m = (k / 64).toNat := by omega
        refine W_exit ?_
        refine W_seq (W_region rfl ?_)
        refine stp (r_assign_int rfl ?_)
        refine WL_nil ?_
        refine W_block ?_
        obtain ⟨B, hB⟩ : ∃ B, B = w144.heap.size := ⟨_, rfl⟩
        have hB7 : b12 < B := by rw [hB]; exact lt_of_heap hc99
        have hwB : w.heap.size ≤ B := by rw [hB]; exact G.size
        have hBw : B ≤ w144.heap.size := by rw [hB]; exact Nat.le_refl _
        have hB4 : b1 < B := by rw [hB]; exact lt_of_heap hc4
        clear hB
        have hc1 : (treesP (treeP d) 0 c).2 = c := rfl
        refine W_loop (fun m_ e_ w_ => ∃ (j : Nat) (ad5 : Option Addr) (n5 : Nat) (c5 : Nat) (ad6 : Option Addr) (n6 : Nat) (c6 : Nat) (kc : List Value) (V : Nat → Prop), m_ = (k / 8 % 5).toNat - j ∧ Fr [(1, .int .i64 ((d + 1 : Nat) : Int)), (4, .pointer (some ⟨b1, 0, none⟩)), (5, .slice none 0 0), (7, .pointer (some ⟨b12, 0, none⟩)), (8, .int .i64 ((k / 8) % 5)), (12, .int .i64 (j : Int)), (0, .slice ad5 n5 c5)] e_ ∧ ((j : Int) ≤ (k / 8 % 5)) ∧ (n5 = (treesP (treeP d) j c).2.length) ∧ (n5 ≤ c5) ∧ (c5 ≤ maxLen) ∧ (RowAt w0 1 ad5 n5 ((treesP (treeP d) j c).2.map (.int .u8))) ∧ (∀ x, (Value.slice ad6 n6 c6).ownBlock = some x → ¬ V x) ∧ (w_.heap[b1]? = some (.cells #[.int .i64 0, .int .i64 0, .slice none 0 0, .slice none 0 0, .slice none 0 0] 37 (0, 0))) ∧ (w_.ownsRow w.heap.size 55 1 (.slice ad3 n3 c3) m ((List.range m).map fun i => .int .u64 (w4Tree k i))) ∧ (w_.heap[b12]? = some (.cells #[.int .i64 1, .int .i64 0, .slice ad3 n3 c3, .slice none 0 0, .slice ad6 n6 c6] 37 (0, 0))) ∧ (B ≤ w_.heap.size) ∧ (w_.ownsRow B 37 5 (.slice ad6 n6 c6) j kc) ∧ (∀ x, V x → B ≤ x ∧ x < w_.heap.size) ∧ (KidsR (see V w_) kc (treesP (treeP d) j c).1) ∧ Grow w w_) _ ⟨0, ad1, n - 1, cp - 1, none, 0, 0, [], fun _ => False, rfl, fr_of ⟨rfl, rfl, rfl, rfl, rfl, rfl, rfl, trivial⟩, by omega, hnc, by omega, by omega, R2, fun x _ h_ => h_, hc4, own, hc99, hBw, World.ownsRow_nil _ _ _ _, fun x h_ => h_.elim, .nil, G⟩ ?_
        clear hc4 hc99 own
        clear G
        rintro m_ e_ w162 ⟨j, ad5, n5, c5, ad6, n6, c6, kc, V, rfl, ⟨e163, rfl⟩, hj, hn5, hc5, hc52, hR5, hVo, hc4, own, hc99, hBw, ownk, hV, hK, G⟩
        refine W_seq ?_
        refine W_seq (W_region rfl ?_)
        refine stp (r_move_int rfl ?_)
        refine stp (r_move_int rfl ?_)
        refine stp (r_lss rfl rfl ?_)
        refine WL_nil ?_
        refine W_cond2 (b := (decide ((j : Int) < ((k / 8) % 5)))) rfl (fun hlt => ?_) (fun hlt => ?_)
        ·-- true
         replace hlt := of_decide_eq_true hlt
         refine W_skip ?_
         refine W_seq ?_
         refine W_block ?_
         refine W_seq (W_region rfl ?_)
         refine stp (r_move_slice rfl ?_)
         refine stp (r_move_int rfl ?_)
         refine stp (r_sub rfl rfl ?_ ?_); constructor <;> omega
         refine WL_some (og rfl ?_)
         have hBw0 := hBw
         have hol := fun x hx_ => (ownk.lt x hx_).2
         have hcal := ih_ _ (d := d) hR5 (g0.tr G) hn5 (treesP_rest d j c hxc) hc5 hc52 (by omega) (by omega)
         rw [show ((d : Nat) : Int) = ((d + 1 : Nat) : Int) - 1 from by omega] at hcal
         refine r_call rfl hcal ?_
         rintro v_ w164 ⟨cells, ad9, n9, c9, rfl, hT9, hn9, hc9, hc92, hR9, g_⟩
         have hsz9 := lt_of_heap hc99
         replace hc4 := g_.heap hc4
         replace own := own_grow own g_
         replace hc99 := g_.heap hc99
         replace hBw := Nat.le_trans hBw g_.size
         replace ownk := own_grow ownk g_
         replace hV := vlt hV g_.size
         replace hK := hK.sees (Sees.grow g_)
         replace G := G.tr g_
         clear g_
         obtain ⟨y0, y1, ya, yn, yc, za, zn, zc, ua, un, uc, rfl⟩ := hT9.cells
         have hT8 := hT9.sees (Sees.more (V' := fun x => V x ∨ (w162.heap.size ≤ x ∧ x < w164.heap.size)) w164 (fun x h1_ h2_ => .inr ⟨h2_, h1_⟩))
         clear hT9
         replace hK := hK.sees (Sees.more (V' := fun x => V x ∨ (w162.heap.size ≤ x ∧ x < w164.heap.size)) w164 (fun x _ h2_ => .inl h2_))
         have hV9 : ∀ x, (V x ∨ (w162.heap.size ≤ x ∧ x < w164.heap.size)) → B ≤ x ∧ x < w164.heap.size := fun x hx_ => hx_.elim (fun h_ => hV x h_) (fun h_ => ⟨Nat.le_trans hBw0 h_.1, h_.2⟩)
         have hVo9 : ∀ x, (Value.slice ad6 n6 c6).ownBlock = some x → ¬ (V x ∨ (w162.heap.size ≤ x ∧ x < w164.heap.size)) := fun x hx_ hv_ => hv_.elim (hVo x hx_) (fun h_ => by have := (hol x hx_); omega)
         clear hV hVo
         obtain ⟨V9, hV9e⟩ : ∃ V9 : Nat → Prop, V9 = fun x => V x ∨ (w162.heap.size ≤ x ∧ x < w164.heap.size) := ⟨_, rfl⟩
         rw [← hV9e] at hT8 hK
         have hV : ∀ x, V9 x → B ≤ x ∧ x < w164.heap.size := by rw [hV9e]; exact hV9
         have hVo : ∀ x, (Value.slice ad6 n6 c6).ownBlock = some x → ¬ V9 x := by rw [hV9e]; exact hVo9
         clear hV9 hVo9 hV9e hBw0 hol
         refine stp (r_move (v := .tuple #[.agg #[.int .i64 y0, .int .i64 y1, .slice ya yn yc, .slice za zn zc, .slice ua un uc], .slice ad9 n9 c9]) rfl ?_)
         refine stp (r_extract (v := .agg #[.int .i64 y0, .int .i64 y1, .slice ya yn yc, .slice za zn zc, .slice ua un uc]) rfl rfl ?_)
         refine stp (r_extract (v := .slice ad9 n9 c9) rfl rfl ?_)
         refine stp (r_alloc ?_)
         intro b165 w166 hb167 hc168 g169
         refine stn (r_storeAll rfl rfl hc168 (by rfl) (by rfl) (by rfl) ?_)
         intro w170 hc171 u172
         have g173 := g169.upd u172 hb167
         have hge174 := Nat.le_trans G.size hb167
         have ne175 := Nat.ne_of_lt (Nat.lt_of_lt_of_le (lt_of_heap hc4) hb167)
         have ne176 := Nat.ne_of_lt (Nat.lt_of_lt_of_le (lt_of_heap hc99) hb167)
         replace hc4 := g173.heap hc4
         replace own := own_grow own g173
         replace hc99 := g173.heap hc99
         replace hBw := Nat.le_trans hBw g173.size
         replace ownk := own_grow ownk g173
         replace hK := hK.sees (Sees.grow g173)
         replace hT8 := hT8.sees (Sees.grow g173)
         replace hV := vlt hV g173.size
         replace G := G.tr g173
         clear u172 g169 hb167 hc168
         refine stp (r_assign_slice rfl ?_)
         refine WL_nil ?_
         refine W_seq (W_region rfl ?_)
         refine stp (r_move_slice rfl ?_)
         refine stp (r_assign_slice rfl ?_)
         refine WL_nil ?_
         refine W_region rfl ?_
         refine stp (r_fieldAddr rfl ?_)
         refine stp (r_load (v := .slice ad6 n6 c6) rfl hc99 rfl ?_)
         refine stp (r_loadAll rfl hc171 (by rfl) ?_)
         refine stp (r_buildSlice (cs := #[.int .i64 y0, .int .i64 y1, .slice ya yn yc, .slice za zn zc, .slice ua un uc]) (el := 37) (fun w => by kernel_rfl) ?_)
         intro bs177 w178 hb179 hc180 g181
         have hge182 := Nat.le_trans G.size hb179
         have ne183 := Nat.ne_of_lt (Nat.lt_of_lt_of_le (lt_of_heap hc4) hb179)
         have ne184 := Nat.ne_of_lt (Nat.lt_of_lt_of_le (lt_of_heap hc99) hb179)
         have ne185 := Nat.ne_of_lt (Nat.lt_of_lt_of_le (lt_of_heap hc171) hb179)
         replace hc4 := g181.heap hc4
         replace own := own_grow own g181
         replace hc99 := g181.heap hc99
         replace hBw := Nat.le_trans hBw g181.size
         replace ownk := own_grow ownk g181
         replace hK := hK.sees (Sees.grow g181)
         replace hT8 := hT8.sees (Sees.grow g181)
         replace hV := vlt hV g181.size
         replace hc171 := g181.heap hc171
         replace G := G.tr g181
         clear g181
         refine stp (r_appendB rfl rfl rfl rfl ownk (Row.of_block (n := 1) hc180 rfl rfl (by omega)) (fun q_ hq_ => by simp at hq_; rcases hq_ with rfl | rfl | rfl | rfl | rfl <;> rfl) (by simp only [maxLen]; omega) (by omega) hBw ?_)
         intro v186 w187 own6 gr6 hbk6
         have k6_ : Kp (Value.slice ad6 n6 c6).ownBlock.toList w178 w187 := Kp.of_grownBy gr6 (fun k_ hk_ => by rw [Option.mem_toList]; exact hk_)
         have hF6 : ∀ x ∈ (Value.slice ad6 n6 c6).ownBlock.toList, B ≤ x := fun x hx_ => own_ge ownk x (Option.mem_toList.1 hx_)
         have hF7 : ∀ x ∈ (Value.slice ad6 n6 c6).ownBlock.toList, ¬ V9 x := fun x hx_ => hVo x (Option.mem_toList.1 hx_)
         replace hT8 := hT8.sees (Sees.kp k6_ hF7)
         replace hK := hK.sees (Sees.kp k6_ hF7)
         have hVo6 : ∀ x, v186.ownBlock = some x → ¬ V9 x := fun x hx_ hv_ => hbk6.elim (fun h_ => hVo x (h_ ▸ hx_) hv_) (fun h_ => by rw [h_] at hx_; simp only [Option.some.injEq] at hx_; have := (hV x hv_).2; omega)
         replace hV := fun x hx_ => (⟨(hV x hx_).1, Nat.lt_of_lt_of_le (hV x hx_).2 k6_.size⟩ : B ≤ x ∧ x < w187.heap.size)
         replace G := G.trK k6_ (fun x hx_ => Nat.le_trans hwB (hF6 x hx_))
         replace own := own_gr own ownk (by decide) gr6
         clear hc171
         replace hc4 := k6_.heap hc4 (fun hm_ => by have h1_ := hF6 _ hm_; have := hB4; omega)
         replace hc99 := k6_.heap hc99 (fun hm_ => by have h1_ := hF6 _ hm_; omega)
         replace hBw := Nat.le_trans hBw k6_.size
         clear ownk gr6 hVo k6_ hF6 hF7 hbk6
         obtain ⟨ad7, n7, c7, rfl⟩ := own_slice own6
         refine stp (r_fieldAddr rfl ?_)
         refine stn (r_store1 (v := .slice ad7 n7 c7) rfl rfl (by rfl) hc99 (by rfl) (by rfl) ?_)
         intro w188 hc189 u190
         replace hc4 := u190.heap hc4 ne22
         replace own := own_upd own u190 (own_ne own hc99 (by decide))
         replace own6 := own_upd own6 u190 (fun he_ => by have := own_ge own6 _ he_; omega)
         replace hT8 := hT8.sees (Sees.upd u190 (fun h_ => by have := (hV _ h_).1; omega))
         replace hK := hK.sees (Sees.upd u190 (fun h_ => by have := (hV _ h_).1; omega))
         replace hV := fun x hx_ => (⟨(hV x hx_).1, Nat.lt_of_lt_of_le (hV x hx_).2 (Nat.le_of_eq u190.size.symm)⟩ : B ≤ x ∧ x < w188.heap.size)
         replace hBw : B ≤ w188.heap.size := by rw [u190.size]; exact hBw
         replace G := G.upd u190 hge21
         clear hc99
         refine WL_nil ?_
         refine W_region rfl ?_
         refine stp (r_move_int rfl ?_)
         refine stp (r_add rfl rfl ?_ ?_); constructor <;> omega
         refine stp (r_assign_int rfl ?_)
         refine WL_nil ?_
         refine ⟨_, ?_, j + 1, ad9, n9, c9, ad7, n7, c7, _, V9, rfl, fr_of ⟨rfl, rfl, rfl, rfl, rfl, congrArg (Value.int .i64) (by omega), rfl, trivial⟩, by omega, hn9, hc9, hc92, hR9, hVo6, hc4, own, hc189, hBw, own6, hV, (KidsR.append hK (by have := KidsR.cons hT8 .nil; simpa using this)), G⟩
         omega
        ·-- false
         replace hlt := of_decide_eq_false hlt
         have hj2 : j = (k / 8 % 5).toNat := by omega
         have hlk := treesP_count (treeP d) j c
         have hrk : Row (hide B w162) 5 (.slice ad6 n6 c6) (treesP (treeP d) j c).1.length kc := by rw [hlk]; exact own_hide ownk (by omega)
         have hK9 := hK.sees (Sees.more (V' := fun x => B ≤ x) _ (fun x _ hx_ => (hV x hx_).1))
         clear hK hV
         have ht : treeP (d + 1) (k :: c) = (.mk 1 0 ((List.range (k / 64).toNat).map (w4Tree k)) [] (treesP (treeP d) j c).1, (treesP (treeP d) j c).2) := by simp only [treeP]; rw [if_neg h2, if_neg (by omega), if_neg h5, if_neg h6, ← hj2]
         refine W_exit ?_
         refine W_seq (W_region rfl ?_)
         refine stp (r_loadAll rfl hc99 (by rfl) ?_)
         refine stp (r_move_slice rfl ?_)
         refine stn (r_storeAll rfl rfl hc4 (by rfl) (by rfl) (by rfl) ?_)
         intro w191 hc192 u193
         replace own := own_upd own u193 (own_ne own hc4 (by decide))
         replace hc99 := u193.heap hc99 ne22.symm
         replace hrk := hrk.sees (Sees.upd u193 (fun h_ => by omega))
         replace hK9 := hK9.sees (Sees.upd u193 (fun h_ => by omega))
         replace G := G.upd u193 hge8
         clear u193 hc4
         refine stp (r_assign_slice rfl ?_)
         refine WL_nil ?_
         refine W_ret ?_
         rw [ht]
         refine ret2 (res_all rfl hc192 (by rfl)) (res_tmp (v := .slice ad5 n5 c5) rfl) ⟨[_, _, _, _, _], _, _, _, rfl, .mk (by simp [inR]) (by simp [inR]) (own_hide_ints own hm2 (by omega)) (fun x hx_ => by obtain ⟨i, _, rfl⟩ := List.mem_map.1 hx_; exact wrap_u64R _) (Row.nil _ _) (by simp) (hrk.sees (Sees.low hwB _)) (hK9.sees (Sees.low hwB _)), hn5, hc5, hc52, hR5, G⟩
end Go.Proofs.Ytfhfecepcnapfaa.K
namespace Go.Proofs.Ytfhfecepcnapfaa.K
open Go Go.RowKit Go.Proofs
attribute [local irreducible] Run1 OpG WL W AO Gives
set_option maxRecDepth 100000 in
theorem known10_calls (w : World)  : Gives Try.prog 11 #[] w (.bool true) := by
 have G := Grow.rfl' w
 refine gives_of Try.func11 Try.ntmps11 Try.results11 rfl rfl ?_
 refine W_seq (W_region rfl ?_)
 refine stp (r_assign (v := .bool false) rfl ?_)
 refine WL_nil ?_
 refine W_seq (W_region rfl ?_)
 refine stp (r_buildSlice (cs := #[.int .u64 7]) (el := 55) (fun w => by kernel_rfl) ?_)
 intro bs1 w2 hb3 hc4 g5
 have hge6 := Nat.le_trans G.size hb3
 replace G := G.tr g5
 clear g5
 refine stp (r_build (v := .agg #[.int .i64 1, .int .i64 0, .slice (some ⟨bs1, 0, none⟩) 1 1, .slice none 0 0, .slice none 0 0]) (fun w => by kernel_rfl) ?_)
 refine stp (r_alloc ?_)
 intro b7 w8 hb9 hc10 g11
 refine stn (r_storeAll rfl rfl hc10 (by rfl) (by rfl) (by rfl) ?_)
 intro w12 hc13 u14
 have g15 := g11.upd u14 hb9
 have hge16 := Nat.le_trans G.size hb9
 have ne17 := Nat.ne_of_lt (Nat.lt_of_lt_of_le (lt_of_heap hc4) hb9)
 replace hc4 := g15.heap hc4
 replace G := G.tr g15
 clear u14 g11 hb9 hc10
 refine WL_nil ?_
 have hT : NodeR w12 [.int .i64 1, .int .i64 0, .slice (some ⟨bs1, 0, none⟩) 1 1, .slice none 0 0, .slice none 0 0] known10 := .mk (by simp [inR]) (by simp [inR]) (Row.of_block (n := 1) hc4 rfl rfl (by decide)) (by simp [inR]) (Row.nil _ _) (by simp) (Row.nil _ _) .nil
 refine W_seq (W_region rfl ?_)
 refine stp (r_loadAll rfl hc13 (by rfl) ?_)
 refine stp (r_build (v := .agg #[.slice none 0 0, .int .i64 0]) (fun w => by kernel_rfl) ?_)
 refine stp (r_gives (v := .tuple #[.agg #[.int .i64 1, .int .i64 0, .int .i64 0, .int .i64 0, .int .u64 7], .int .u16 0]) rfl (gives_eq (ask_calls _ hT (rowat_nil _ _) (steps := []) (a := 0) (by simp [inR])) (y := .tuple #[.agg #[.int .i64 1, .int .i64 0, .int .i64 0, .int .i64 0, .int .u64 7], .int .u16 0]) (by rw [known10_ask] <;> rfl)) ?_)
 intro w18 g19
 replace hc4 := g19.heap hc4
 replace hc13 := g19.heap hc13
 replace hT := hT.grow g19
 replace G := G.tr g19
 clear g19
 refine stp (r_move (v := .tuple #[.agg #[.int .i64 1, .int .i64 0, .int .i64 0, .int .i64 0, .int .u64 7], .int .u16 0]) rfl ?_)
 refine stp (r_extract (v := .agg #[.int .i64 1, .int .i64 0, .int .i64 0, .int .i64 0, .int .u64 7]) rfl rfl ?_)
 refine stp (r_extract (v := .int .u16 0) rfl rfl ?_)
 refine stp (r_alloc ?_)
 intro b20 w21 hb22 hc23 g24
 refine stn (r_storeAll rfl rfl hc23 (by rfl) (by rfl) (by rfl) ?_)
 intro w25 hc26 u27
 have g28 := g24.upd u27 hb22
 have hge29 := Nat.le_trans G.size hb22
 have ne30 := Nat.ne_of_lt (Nat.lt_of_lt_of_le (lt_of_heap hc4) hb22)
 have ne31 := Nat.ne_of_lt (Nat.lt_of_lt_of_le (lt_of_heap hc13) hb22)
 replace hc4 := g28.heap hc4
 replace hc13 := g28.heap hc13
 replace hT := hT.grow g28
 replace G := G.tr g28
 clear u27 g24 hb22 hc23
 refine stp (r_assign_int rfl ?_)
 refine WL_nil ?_
 refine W_seq (W_region rfl ?_)
 refine stp (r_loadAll rfl hc13 (by rfl) ?_)
 refine WL_some (og rfl ?_)
 refine r_call rfl (rBuild_calls _ hT 9) ?_
 rw [show known10.build 9 = (known9, 0) from known9_build]
 rintro v_ w32 ⟨so_, segs_, rfl, hO_, g_⟩
 replace hc4 := g_.heap hc4
 replace hc13 := g_.heap hc13
 replace hT := hT.grow g_
 replace hc26 := g_.heap hc26
 replace G := G.tr g_
 clear g_
 have hA := hO_.arena (by decide) (by decide)
 obtain ⟨ad1, n1, c1, rfl⟩ := own_slice hO_.out
 clear hO_
 refine stp (r_move (v := .tuple #[.slice ad1 n1 c1, .int .i64 0]) rfl ?_)
 refine stp (r_extract (v := .slice ad1 n1 c1) rfl rfl ?_)
 refine stp (r_extract (v := .int .i64 0) rfl rfl ?_)
 refine stp (r_assign_slice rfl ?_)
 refine stp (r_assign_int rfl ?_)
 refine WL_nil ?_
 refine W_seq (W_region rfl ?_)
 refine stp (r_move_slice rfl ?_)
 refine WL_some (og rfl ?_)
 refine r_call rfl (Decode_calls _ hA known9_ok) ?_
 rw [known10_dec]
 rintro v_ w33 ⟨cells_, rfl, hU_, g_⟩
 have hU := hU_.sees (Sees.seen _ _)
 clear hU_
 replace hc4 := g_.heap hc4
 replace hc13 := g_.heap hc13
 replace hT := hT.grow g_
 replace hc26 := g_.heap hc26
 replace hA := hA.grow g_
 replace G := G.tr g_
 clear g_
 obtain ⟨y34, y35, a36, n37, c38, a39, n40, c41, a42, n43, c44, rfl⟩ := hU.cells
 refine stp (r_move (v := .tuple #[.agg #[.int .i64 y34, .int .i64 y35, .slice a36 n37 c38, .slice a39 n40 c41, .slice a42 n43 c44], .int .u16 0]) rfl ?_)
 refine stp (r_extract (v := .agg #[.int .i64 y34, .int .i64 y35, .slice a36 n37 c38, .slice a39 n40 c41, .slice a42 n43 c44]) rfl rfl ?_)
 refine stp (r_extract (v := .int .u16 0) rfl rfl ?_)
 refine stp (r_alloc ?_)
 intro b45 w46 hb47 hc48 g49
 refine stn (r_storeAll rfl rfl hc48 (by rfl) (by rfl) (by rfl) ?_)
 intro w50 hc51 u52
 have g53 := g49.upd u52 hb47
 have hge54 := Nat.le_trans G.size hb47
 have ne55 := Nat.ne_of_lt (Nat.lt_of_lt_of_le (lt_of_heap hc4) hb47)
 have ne56 := Nat.ne_of_lt (Nat.lt_of_lt_of_le (lt_of_heap hc13) hb47)
 have ne57 := Nat.ne_of_lt (Nat.lt_of_lt_of_le (lt_of_heap hc26) hb47)
 replace hc4 := g53.heap hc4
 replace hc13 := g53.heap hc13
 replace hT := hT.grow g53
 replace hc26 := g53.heap hc26
 replace hA := hA.grow g53
 replace hU := hU.grow g53
 replace G := G.tr g53
 clear u52 g49 hb47 hc48
 refine stp (r_assign_int rfl ?_)
 refine WL_nil ?_
 refine W_seq (W_region rfl ?_)
 refine stp (r_move_int rfl ?_)
 refine stp (r_eql_t rfl rfl (by decide) ?_)
 refine stp (r_move (v := .bool true) rfl ?_)
 refine stp (r_fieldAddr rfl ?_)
 refine stp (r_load (v := .int .u64 7) rfl hc26 rfl ?_)
 refine stp (r_eql_t rfl rfl (by decide) ?_)
 refine stp (r_pick_t (v := .bool true) rfl rfl rfl ?_)
 refine stp (r_move (v := .bool true) rfl ?_)
 refine stp (r_move_int rfl ?_)
 refine stp (r_eql_t rfl rfl (by decide) ?_)
 refine stp (r_pick_t (v := .bool true) rfl rfl rfl ?_)
 refine stp (r_move (v := .bool true) rfl ?_)
 refine stp (r_loadAll rfl hc13 (by rfl) ?_)
 refine stp (r_loadAll rfl hc51 (by rfl) ?_)
 refine stp (r_gives (v := .bool true) rfl (gives_eq (nsame_calls _ _ hT hU (Nat.le_refl _)) (y := .bool true) (by rw [beq_self])) ?_)
 intro w58 g59
 replace hc4 := g59.heap hc4
 replace hc13 := g59.heap hc13
 replace hT := hT.grow g59
 replace hc26 := g59.heap hc26
 replace hA := hA.grow g59
 replace hU := hU.grow g59
 replace hc51 := g59.heap hc51
 replace G := G.tr g59
 clear g59
 refine stp (r_pick_t (v := .bool true) rfl rfl rfl ?_)
 refine stp (r_move (v := .bool true) rfl ?_)
 refine stp (r_loadAll rfl hc13 (by rfl) ?_)
 refine stp (r_gives (v := .int .i64 2) rfl (gives_eq (cost_calls _ _ hT (Nat.le_refl _)) (y := .int .i64 2) (by rw [known10_cost])) ?_)
 intro w60 g61
 replace hc4 := g61.heap hc4
 replace hc13 := g61.heap hc13
 replace hT := hT.grow g61
 replace hc26 := g61.heap hc26
 replace hA := hA.grow g61
 replace hU := hU.grow g61
 replace hc51 := g61.heap hc51
 replace G := G.tr g61
 clear g61
 refine stp (r_eql_t rfl rfl (by decide) ?_)
 refine stp (r_pick_t (v := .bool true) rfl rfl rfl ?_)
 refine stp (r_move (v := .bool true) rfl ?_)
 refine stp (r_loadAll rfl hc13 (by rfl) ?_)
 refine WL_some (og rfl ?_)
 refine r_call rfl (paths0_calls _ (yn := 1) (zn := 0) (by decide) (by decide)) ?_
 rintro v_ w62 ⟨adp, cp_, rfl, g_⟩
 replace hc4 := g_.heap hc4
 replace hc13 := g_.heap hc13
 replace hT := hT.grow g_
 replace hc26 := g_.heap hc26
 replace hA := hA.grow g_
 replace hU := hU.grow g_
 replace hc51 := g_.heap hc51
 replace G := G.tr g_
 clear g_
 refine stp (r_len rfl rfl rfl ?_)
 refine stp (r_eql_t rfl rfl (by decide) ?_)
 refine stp (r_pick_t (v := .bool true) rfl rfl rfl ?_)
 refine stp (r_assign (v := .bool true) rfl ?_)
 refine WL_nil ?_
 refine W_ret ?_
 refine ret1 (res_tmp (v := .bool true) rfl) ⟨?_, G⟩
 rfl
end Go.Proofs.Ytfhfecepcnapfaa.K
namespace Go.Proofs.Ytfhfecepcnapfaa.K
open Go Go.RowKit Go.Proofs
attribute [local irreducible] Run1 OpG WL W AO Gives
set_option maxRecDepth 100000 in
theorem path_calls (w : World) {n cp : Nat} {ad : Option Addr} {xs : List Int} {at_ : Int} (R : RowAt w 1 ad n (xs.map (.int .u8))) (hn : n = xs.length) (hx : isU8 xs) (a0 : 0 ≤ at_) (a1 : at_ ≤ 255) : Calls Try.prog 17 #[.slice ad n cp, .int .u8 at_] w (Ret fun v w' => ∃ ad2 c2, v = .agg #[.slice ad2 (pathP xs).length c2, .int .i64 (at_ % 12 - 2)] ∧ RowAt w' 1 ad2 (pathP xs).length ((pathP xs).map (.int .i64)) ∧ Grow w w') := by
 have ll := R.lim
 have G := Grow.rfl' w
 refine calls_ret Try.func17 Try.ntmps17 Try.results17 rfl rfl ?_
 refine W_seq (W_region rfl ?_)
 refine stp (r_alloc ?_)
 intro b1 w2 hb3 hc4 g5
 refine WL_nil ?_
 refine W_seq (W_region rfl ?_)
 refine stp (r_move_int rfl ?_)
 refine stp (r_rem rfl rfl ?_ ?_ ?_); omega; omega
 refine stp (r_conv rfl ?_ ?_); constructor <;> omega
 refine stp (r_sub rfl rfl ?_ ?_); constructor <;> omega
 refine stp (r_build (v := .agg #[.slice none 0 0, .int .i64 ((at_ % 12) - 2)]) (fun w => by kernel_rfl) ?_)
 have hge6 := Nat.le_trans G.size hb3
 replace G := G.tr g5
 clear g5 hb3
 refine stp (r_alloc ?_)
 intro b7 w8 hb9 hc10 g11
 refine stn (r_storeAll rfl rfl hc10 (by rfl) (by rfl) (by rfl) ?_)
 intro w12 hc13 u14
 have g15 := g11.upd u14 hb9
 have hge16 := Nat.le_trans G.size hb9
 have ne17 := Nat.ne_of_lt (Nat.lt_of_lt_of_le (lt_of_heap hc4) hb9)
 replace hc4 := g15.heap hc4
 replace G := G.tr g15
 clear u14 g11 hb9 hc10
 refine WL_nil ?_
 refine W_seq ?_
 refine W_seq (W_region rfl ?_)
 refine stp (r_assign_int rfl ?_)
 refine WL_nil ?_
 refine W_block ?_
 refine W_loop (fun m_ e_ w_ => ∃ (k : Nat) (ad3 : Option Addr) (n3 : Nat) (c3 : Nat), m_ = 6 - k ∧ Fr [(0, .slice ad n cp), (4, .pointer (some ⟨b1, 0, none⟩)), (5, .pointer (some ⟨b7, 0, none⟩)), (6, .int .i64 (k : Int))] e_ ∧ (k ≤ 6 ∧ k ≤ xs.length) ∧ (w_.heap[b1]? = some (.cells #[.slice none 0 0, .int .i64 0] 33 (0, 0))) ∧ (w_.heap[b7]? = some (.cells #[.slice ad3 n3 c3, .int .i64 (at_ % 12 - 2)] 33 (0, 0))) ∧ (w_.ownsRow w.heap.size 3 1 (.slice ad3 n3 c3) k (((xs.take k).map (· % 6)).map (.int .i64))) ∧ Grow w w_) _ ⟨0, none, 0, 0, rfl, fr_of ⟨rfl, rfl, rfl, rfl, trivial⟩, by omega, hc4, hc13, World.ownsRow_nil _ _ _ _, G⟩ ?_
 clear hc4 hc13
 clear G
 rintro m_ e_ w18 ⟨k, ad3, n3, c3, rfl, ⟨e19, rfl⟩, hk, hc4, hc13, own, G⟩
 refine W_seq ?_
 refine W_seq (W_region rfl ?_)
 refine stp (r_move_int rfl ?_)
 refine stp (r_move_slice rfl ?_)
 refine stp (r_len rfl rfl rfl ?_)
 refine stp (r_lss rfl rfl ?_)
 refine stp (r_move_bool rfl ?_)
 refine WL_some (og_if (s := .bool (decide ((k : Int) < (n : Int)))) (b := true) (v := .int .i64 (k : Int)) rfl (wgb_t _) (fun hc20 => ?_) ?_)
 ·
  have hc20_ := of_decide_eq_true hc20
  refine r_move_int rfl ?_
  exact ⟨rfl, rfl⟩
 refine WL_some (og_if (s := .bool (decide ((k : Int) < (n : Int)))) (b := true) (v := .bool (decide ((k : Int) < 6))) rfl (wgb_t _) (fun hc21 => ?_) ?_)
 ·
  have hc21_ := of_decide_eq_true hc21
  refine r_lss (gvt hc21) rfl ?_
  exact ⟨rfl, rfl⟩
 refine stp (r_and2 rfl rfl rfl ?_)
 refine WL_nil ?_
 refine W_cond2 (b := ((decide ((k : Int) < (n : Int))) && (decide ((k : Int) < 6)))) rfl (fun hlt => ?_) (fun hlt => ?_)
 ·-- true
  simp only [Bool.and_eq_true, Bool.or_eq_true, Bool.not_eq_true', Bool.and_eq_false_iff, Bool.or_eq_false_iff, Bool.not_eq_false', decide_eq_true_eq, decide_eq_false_iff_not, Bool.not_true, Bool.not_false, Bool.not_eq_eq_eq_not, Bool.or_false, Bool.and_true, Bool.or_true, Bool.and_false, Bool.false_or, Bool.true_and, Bool.true_or, Bool.false_and, Bool.false_eq_true, Bool.true_eq_false] at hlt
  obtain ⟨h1a, h1b⟩ := hlt
  have hu := getD_u8 hx k
  have hkx : k < xs.length := by omega
  refine W_skip ?_
  refine W_seq ?_
  refine W_block ?_
  refine W_any 9 [[], [0], [], [], [1, 0], [2, 1, 0], [3, 2, 1, 0], [4, 3, 2, 1, 0], [5, 4, 3, 2, 1, 0]] mixed (by kernel_rfl) (by kernel_rfl) (by kernel_rfl) ?_
  intro w22 g23
  replace hc4 := g23.heap hc4
  replace hc13 := g23.heap hc13
  replace own := own_grow own g23
  replace G := G.tr g23
  clear g23
  apply AO_ex
  ·intro w_ g_; refine og rfl ?_; refine r_fieldAddr rfl ?_; exact ⟨Grow.rfl' _, rfl⟩
  apply AO_ex
  ·intro w_ g_; refine og rfl ?_; refine r_load (v := .slice ad3 n3 c3) rfl (g_.heap hc13) rfl ?_; exact ⟨Grow.rfl' _, rfl⟩
  apply AO_ex
  ·intro w_ g_; refine og rfl ?_; refine r_move_slice rfl ?_; exact ⟨Grow.rfl' _, rfl⟩
  apply AO_ex
  ·intro w_ g_; refine og rfl ?_; refine r_move_int rfl ?_; exact ⟨Grow.rfl' _, rfl⟩
  apply AO_ex
  ·intro w_ g_; refine og rfl ?_; refine r_indexN (R.grow (G.tr g_)) rfl rfl ?_ ?_; omega; exact ⟨Grow.rfl' _, rfl⟩
  apply AO_ex
  ·intro w_ g_; refine og rfl ?_; refine r_loadR (v := .int .u8 (xs.getD k 0)) (m := 0) (R.grow (G.tr g_)) rfl (map_get1 0 (by omega)) ?_; exact ⟨Grow.rfl' _, rfl⟩
  apply AO_ex
  ·intro w_ g_; refine og rfl ?_; refine r_rem rfl rfl ?_ ?_ ?_; omega; omega; exact ⟨Grow.rfl' _, rfl⟩
  apply AO_ex
  ·intro w_ g_; refine og rfl ?_; refine r_conv rfl ?_ ?_; constructor <;> omega; exact ⟨Grow.rfl' _, rfl⟩
  refine AO_so (fun w_ v_ => Row w_ 1 v_ 1 [.int .i64 (xs.getD k 0 % 6)]) (fun _ _ _ g_ h_ => h_.grow g_) ?_ ?_
  ·intro w_ g_
   refine og rfl ?_
   refine r_buildSlice (cs := #[.int .i64 (xs.getD k 0 % 6)]) (el := 3) (fun w => by kernel_rfl) ?_
   intro bs_ w2_ hb_ hc_ g2_
   exact ⟨g2_, Row.of_block (n := 1) hc_ rfl rfl (by omega)⟩
  refine AO_nil ?_
  intro w24 g25
  replace hc4 := g25.heap hc4
  replace hc13 := g25.heap hc13
  replace own := own_grow own g25
  replace G := G.tr g25
  clear g25
  intro v_l hv_l
  refine stp (r_append rfl rfl rfl rfl own hv_l (fun q_ hq_ => by simp at hq_; subst hq_; rfl) (by simp only [maxLen]; omega) (by omega) G.size ?_)
  intro v26 w27 own6 gr6
  replace G := G.grown gr6 (own_ge own)
  replace hc4 := gr_heap gr6 hc4 (own_ne own hc4 (by decide))
  replace hc13 := gr_heap gr6 hc13 (own_ne own hc13 (by decide))
  clear own gr6
  obtain ⟨ad4, n4, c4, rfl⟩ := own_slice own6
  refine stp (r_fieldAddr rfl ?_)
  refine stn (r_store1 (v := .slice ad4 n4 c4) rfl rfl (by rfl) hc13 (by rfl) (by rfl) ?_)
  intro w28 hc29 u30
  replace hc4 := u30.heap hc4 ne17
  replace own6 := own_upd own6 u30 (own_ne own6 hc13 (by decide))
  replace G := G.upd u30 hge16
  clear u30 hc13
  refine WL_nil ?_
  refine W_region rfl ?_
  refine stp (r_move_int rfl ?_)
  refine stp (r_add rfl rfl ?_ ?_); constructor <;> omega
  refine stp (r_assign_int rfl ?_)
  refine WL_nil ?_
  refine ⟨_, ?_, k + 1, ad4, n4, c4, rfl, fr_of ⟨rfl, rfl, rfl, congrArg (Value.int .i64) (by omega), trivial⟩, by omega, hc4, hc29, (by rw [List.take_add_one, List.getElem?_eq_getElem hkx, Option.toList_some, List.map_append, List.map_append]; rw [getD_at hkx] at own6; exact own6), G⟩
  omega
 ·-- false
  simp only [Bool.and_eq_true, Bool.or_eq_true, Bool.not_eq_true', Bool.and_eq_false_iff, Bool.or_eq_false_iff, Bool.not_eq_false', decide_eq_true_eq, decide_eq_false_iff_not, Bool.not_true, Bool.not_false, Bool.not_eq_eq_eq_not, Bool.or_false, Bool.and_true, Bool.or_true, Bool.and_false, Bool.false_or, Bool.true_and, Bool.true_or, Bool.false_and, Bool.false_eq_true, Bool.true_eq_false] at hlt
  have hk6 : k = min 6 xs.length := by omega
  have htk : xs.take k = xs.take 6 := by rw [hk6]; rcases Nat.le_total 6 xs.length with h_ | h_; (rw [Nat.min_eq_left h_]); (rw [Nat.min_eq_right h_, List.take_length, List.take_of_length_le h_])
  have hpl : (pathP xs).length = k := by simp only [pathP, List.length_map, List.length_take]; omega
  refine W_exit ?_
  refine W_seq (W_region rfl ?_)
  refine stp (r_loadAll rfl hc13 (by rfl) ?_)
  refine stn (r_storeAll rfl rfl hc4 (by rfl) (by rfl) (by rfl) ?_)
  intro w31 hc32 u33
  replace hc13 := u33.heap hc13 ne17.symm
  replace own := own_upd own u33 (own_ne own hc4 (by decide))
  replace G := G.upd u33 hge6
  clear u33 hc4
  refine WL_nil ?_
  refine W_ret ?_
  obtain ⟨ad9, c9, hs9, -, -, R9⟩ := own_row own (by omega)
  simp only [Value.slice.injEq] at hs9
  obtain ⟨rfl, rfl, rfl⟩ := hs9
  rw [htk] at R9
  refine ret1 (res_all rfl hc32 (by rfl)) ⟨_, _, by rw [hpl], by rw [hpl]; exact R9, G⟩
end Go.Proofs.Ytfhfecepcnapfaa.K
namespace Go.Proofs.Ytfhfecepcnapfaa.K
open Go Go.RowKit Go.Proofs
attribute [local irreducible] Run1 OpG WL W AO Gives
set_option maxRecDepth 100000 in
theorem asks_calls (w : World) {y0 y1 : Int} {ya za ua : Option Addr} {yn yc zn zc un uc : Nat} {t : Nd} {ad : Option Addr} {c2 : Nat} {steps : List Int} {a : Int} (hT : NodeR w [.int .i64 y0, .int .i64 y1, .slice ya yn yc, .slice za zn zc, .slice ua un uc] t) (R : RowAt w 1 ad steps.length (steps.map (.int .i64))) (ha : inR .i64 a) : Gives Try.prog 16 #[.agg #[.int .i64 y0, .int .i64 y1, .slice ya yn yc, .slice za zn zc, .slice ua un uc], .agg #[.slice ad steps.length c2, .int .i64 a]] w (.bool true) := by
 have her := askT_err t steps a
 have G := Grow.rfl' w
 refine gives_of Try.func16 Try.ntmps16 Try.results16 rfl rfl ?_
 refine W_seq (W_region rfl ?_)
 refine WL_some (og rfl ?_)
 (first | refine r_box_agg rfl ?_ | refine r_box_int rfl ?_ | refine r_box_slice rfl ?_ | refine r_box rfl rfl ?_)
 intro b1 w2 hb3 hc4 g5
 have hge6 := Nat.le_trans G.size hb3
 replace G := G.tr g5
 clear g5 hb3
 refine WL_some (og rfl ?_)
 (first | refine r_box_agg rfl ?_ | refine r_box_int rfl ?_ | refine r_box_slice rfl ?_ | refine r_box rfl rfl ?_)
 intro b7 w8 hb9 hc10 g11
 have hge12 := Nat.le_trans G.size hb9
 replace hc4 := g11.heap hc4
 replace G := G.tr g11
 clear g11 hb9
 refine stp (r_assign (v := .bool false) rfl ?_)
 refine WL_nil ?_
 refine W_seq (W_region rfl ?_)
 refine stp (r_loadAll rfl hc4 (by rfl) ?_)
 refine stp (r_loadAll rfl hc10 (by rfl) ?_)
 refine stp (r_gives (v := .tuple #[.agg #[.int .i64 ((askT t steps a).1.kind), .int .i64 ((askT t steps a).1.size), .int .i64 ((askT t steps a).1.words), .int .i64 ((askT t steps a).1.kids), .int .u64 ((askT t steps a).1.word)], .int .u16 ((askT t steps a).2)]) rfl (ask_calls _ (hT.grow G) (R.grow G) ha) ?_)
 intro w13 g14
 replace hc4 := g14.heap hc4
 replace hc10 := g14.heap hc10
 replace G := G.tr g14
 clear g14
 refine stp (r_move (v := .tuple #[.agg #[.int .i64 ((askT t steps a).1.kind), .int .i64 ((askT t steps a).1.size), .int .i64 ((askT t steps a).1.words), .int .i64 ((askT t steps a).1.kids), .int .u64 ((askT t steps a).1.word)], .int .u16 ((askT t steps a).2)]) rfl ?_)
 refine stp (r_extract (v := .agg #[.int .i64 ((askT t steps a).1.kind), .int .i64 ((askT t steps a).1.size), .int .i64 ((askT t steps a).1.words), .int .i64 ((askT t steps a).1.kids), .int .u64 ((askT t steps a).1.word)]) rfl rfl ?_)
 refine stp (r_extract (v := .int .u16 ((askT t steps a).2)) rfl rfl ?_)
 refine stp (r_alloc ?_)
 intro b15 w16 hb17 hc18 g19
 refine stn (r_storeAll rfl rfl hc18 (by rfl) (by rfl) (by rfl) ?_)
 intro w20 hc21 u22
 have g23 := g19.upd u22 hb17
 have hge24 := Nat.le_trans G.size hb17
 have ne25 := Nat.ne_of_lt (Nat.lt_of_lt_of_le (lt_of_heap hc4) hb17)
 have ne26 := Nat.ne_of_lt (Nat.lt_of_lt_of_le (lt_of_heap hc10) hb17)
 replace hc4 := g23.heap hc4
 replace hc10 := g23.heap hc10
 replace G := G.tr g23
 clear u22 g19 hb17 hc18
 refine stp (r_assign_int rfl ?_)
 refine WL_nil ?_
 refine W_seq (W_region rfl ?_)
 refine stp (r_loadAll rfl hc4 (by rfl) ?_)
 refine stp (r_loadAll rfl hc10 (by rfl) ?_)
 refine stp (r_gives (v := .tuple #[.agg #[.int .i64 ((askT t steps a).1.kind), .int .i64 ((askT t steps a).1.size), .int .i64 ((askT t steps a).1.words), .int .i64 ((askT t steps a).1.kids), .int .u64 ((askT t steps a).1.word)], .int .i64 ((askT t steps a).2)]) rfl (rask_calls _ (hT.grow G) (R.grow G) ha) ?_)
 intro w27 g28
 replace hc4 := g28.heap hc4
 replace hc10 := g28.heap hc10
 replace hc21 := g28.heap hc21
 replace G := G.tr g28
 clear g28
 refine stp (r_move (v := .tuple #[.agg #[.int .i64 ((askT t steps a).1.kind), .int .i64 ((askT t steps a).1.size), .int .i64 ((askT t steps a).1.words), .int .i64 ((askT t steps a).1.kids), .int .u64 ((askT t steps a).1.word)], .int .i64 ((askT t steps a).2)]) rfl ?_)
 refine stp (r_extract (v := .agg #[.int .i64 ((askT t steps a).1.kind), .int .i64 ((askT t steps a).1.size), .int .i64 ((askT t steps a).1.words), .int .i64 ((askT t steps a).1.kids), .int .u64 ((askT t steps a).1.word)]) rfl rfl ?_)
 refine stp (r_extract (v := .int .i64 ((askT t steps a).2)) rfl rfl ?_)
 refine stp (r_alloc ?_)
 intro b29 w30 hb31 hc32 g33
 refine stn (r_storeAll rfl rfl hc32 (by rfl) (by rfl) (by rfl) ?_)
 intro w34 hc35 u36
 have g37 := g33.upd u36 hb31
 have hge38 := Nat.le_trans G.size hb31
 have ne39 := Nat.ne_of_lt (Nat.lt_of_lt_of_le (lt_of_heap hc4) hb31)
 have ne40 := Nat.ne_of_lt (Nat.lt_of_lt_of_le (lt_of_heap hc10) hb31)
 have ne41 := Nat.ne_of_lt (Nat.lt_of_lt_of_le (lt_of_heap hc21) hb31)
 replace hc4 := g37.heap hc4
 replace hc10 := g37.heap hc10
 replace hc21 := g37.heap hc21
 replace G := G.tr g37
 clear u36 g33 hb31 hc32
 refine stp (r_assign_int rfl ?_)
 refine WL_nil ?_
 refine W_seq (W_region rfl ?_)
 refine stp (r_loadAll rfl hc21 (by rfl) ?_)
 refine stp (r_loadAll rfl hc35 (by rfl) ?_)
 refine stp (r_eqlS' (r' := true) rfl rfl (by rfl) (by simp) ?_)
 refine stp (r_move (v := .bool true) rfl ?_)
 refine stp (r_move_int rfl ?_)
 refine stp (r_conv rfl ?_ ?_); constructor <;> omega
 refine stp (r_move_int rfl ?_)
 refine stp (r_eql_t rfl rfl (rfl) ?_)
 refine stp (r_pick_t (v := .bool true) rfl rfl rfl ?_)
 refine stp (r_assign (v := .bool true) rfl ?_)
 refine WL_nil ?_
 refine W_ret ?_
 refine ret1 (res_tmp (v := .bool true) rfl) ⟨?_, G⟩
 rfl

set_option maxRecDepth 100000 in
theorem lpaths_calls (w : World) {y0 y1 : Int} {ya za ua : Option Addr} {yn yc zn zc un uc : Nat} {t : Nd} {most : Int} (hT : NodeR w [.int .i64 y0, .int .i64 y1, .slice ya yn yc, .slice za zn zc, .slice ua un uc] t) (hd : t.dep ≤ 900) (hm : inR .i64 most) : Gives Try.prog 18 #[.agg #[.int .i64 y0, .int .i64 y1, .slice ya yn yc, .slice za zn zc, .slice ua un uc], .int .i64 most] w (.bool true) := by
 have G := Grow.rfl' w
 refine gives_of Try.func18 Try.ntmps18 Try.results18 rfl rfl ?_
 refine W_seq (W_region rfl ?_)
 refine WL_some (og rfl ?_)
 (first | refine r_box_agg rfl ?_ | refine r_box_int rfl ?_ | refine r_box_slice rfl ?_ | refine r_box rfl rfl ?_)
 intro b1 w2 hb3 hc4 g5
 have hge6 := Nat.le_trans G.size hb3
 replace G := G.tr g5
 clear g5 hb3
 refine stp (r_assign (v := .bool false) rfl ?_)
 refine WL_nil ?_
 refine W_seq (W_region rfl ?_)
 refine stp (r_loadAll rfl hc4 (by rfl) ?_)
 refine stp (r_move_int rfl ?_)
 refine WL_some (og rfl ?_)
 have hcal := paths_calls w2 (hT.grow G) (most := most) (by omega) hm
 obtain ⟨LT, hLT⟩ : ∃ L, L = (t.paths []).take (min most 10000).toNat := ⟨_, rfl⟩
 rw [← hLT] at hcal
 refine r_call rfl hcal ?_
 rintro v1 w1 ⟨ad1, c1, xs1, rfl, -, -, R1, P1, g1⟩
 clear hcal
 replace hc4 := g1.heap hc4
 replace G := G.tr g1
 clear g1
 have hl1 := R1.lim
 refine stp (r_assign_slice rfl ?_)
 refine WL_nil ?_
 refine W_seq (W_region rfl ?_)
 refine stp (r_loadAll rfl hc4 (by rfl) ?_)
 refine stp (r_move_int rfl ?_)
 refine WL_some (og rfl ?_)
 have hcal := rpaths_calls _ w1 (hT.grow G) (most := most) (by omega) hm (Nat.le_refl _)
 rw [← hLT] at hcal
 refine r_call rfl hcal ?_
 rintro v2 w2 ⟨xs2, own2, P20, g2⟩
 clear hcal
 replace hc4 := g2.heap hc4
 replace R1 := R1.grow g2
 replace P1 := P1.sees (Sees.of_grow g2)
 replace G := G.tr g2
 clear g2
 obtain ⟨ad2, c2, rfl, -, -, R2⟩ := own_row own2 (by omega)
 have P2 := P20.sees (Sees.typ _ _)
 clear P20 own2
 refine stp (r_assign_slice rfl ?_)
 refine WL_nil ?_
 refine W_seq ?_
 refine W_seq (W_region rfl ?_)
 refine stp (r_move_slice rfl ?_)
 refine stp (r_len rfl rfl rfl ?_)
 refine stp (r_move_slice rfl ?_)
 refine stp (r_len rfl rfl rfl ?_)
 refine stp (r_neq_f rfl rfl (rfl) ?_)
 refine WL_nil ?_
 refine W_false rfl ?_
 refine W_skip ?_
 refine W_seq ?_
 refine W_seq (W_region rfl ?_)
 refine stp (r_assign_int rfl ?_)
 refine WL_nil ?_
 refine W_block ?_
 refine W_loop (fun m_ e_ w_ => ∃ (k : Nat), m_ = LT.length - k ∧ Fr [(5, .slice ad1 LT.length c1), (6, .slice ad2 LT.length c2), (7, .int .i64 (k : Int))] e_ ∧ (k ≤ LT.length) ∧ (w_.heap[b1]? = some (.cells #[.int .i64 y0, .int .i64 y1, .slice ya yn yc, .slice za zn zc, .slice ua un uc] 37 (0, 0))) ∧ (RowAt w_ 2 ad1 LT.length xs1) ∧ (PathsR w_ xs1 LT) ∧ (RowAt w_ 2 ad2 LT.length xs2) ∧ (PathsR w_ xs2 LT) ∧ Grow w w_) _ ⟨0, rfl, fr_of ⟨rfl, rfl, rfl, trivial⟩, by omega, hc4, R1, P1, R2, P2, G⟩ ?_
 clear hc4 R1 P1 R2 P2
 clear G
 rintro m_ e_ w7 ⟨k, rfl, ⟨e8, rfl⟩, hk, hc4, R1, P1, R2, P2, G⟩
 refine W_seq ?_
 refine W_seq (W_region rfl ?_)
 refine stp (r_move_int rfl ?_)
 refine stp (r_move_slice rfl ?_)
 refine stp (r_len rfl rfl rfl ?_)
 refine stp (r_lss rfl rfl ?_)
 refine WL_nil ?_
 refine W_cond2 (b := (decide ((k : Int) < (LT.length : Int)))) rfl (fun hlt => ?_) (fun hlt => ?_)
 ·-- true
  replace hlt := of_decide_eq_true hlt
  have hk3 : k < LT.length := by omega
  obtain ⟨p, hp⟩ : ∃ p, LT[k]? = some p := ⟨_, List.getElem?_eq_getElem hk3⟩
  obtain ⟨ae, ce, hce, -, -, Re⟩ := P1.at_ k p hp
  obtain ⟨af, cf, hcf, -, -, Rf⟩ := P2.at_ k p hp
  refine W_skip ?_
  refine W_seq ?_
  refine W_block ?_
  refine W_seq ?_
  refine W_any 25 [[], [], [1, 0], [2, 1, 0], [3, 2, 1, 0], [], [], [1, 0], [2, 1, 0], [3, 2, 1, 0], [9, 8, 7, 6, 5, 4, 3, 2, 1, 0], [10, 9, 8, 7, 6, 5, 4, 3, 2, 1, 0], [11, 10, 9, 8, 7, 6, 5, 4, 3, 2, 1, 0], [12, 11, 10, 9, 8, 7, 6, 5, 4, 3, 2, 1], [13, 12, 11, 10, 9, 8, 7, 6, 5, 4, 3, 2, 1, 0], [14, 13, 12, 11, 10, 9, 8, 7, 6, 5, 4, 3, 2, 1, 0], [15, 14, 13, 12, 11, 10, 9, 8, 7, 6, 5, 4, 3, 2, 1, 0], [16, 15, 14, 13, 12, 11, 10, 9, 8, 7, 6, 5], [17, 16, 15, 14, 13, 12, 11, 10, 9, 8, 7, 6], [18, 17, 16, 15, 14, 13, 12, 11, 10, 9, 8, 7, 1, 0], [19, 18, 17, 16, 15, 14, 13, 12, 11, 10, 9, 8, 2, 1, 0], [20, 19, 18, 17, 16, 15, 14, 13, 12, 11, 10, 9, 3, 2, 1, 0], [21, 20, 19, 18, 17, 16, 15, 14, 13, 12, 11, 10, 9, 8, 7, 6, 5, 4, 3, 2, 1, 0], [22, 21, 20, 19, 18, 17, 16, 15, 14, 13, 12, 11, 10, 9, 8, 7, 6, 5, 4, 3, 2, 1, 0], [23, 22, 21, 20, 19, 18, 17, 16, 15, 14, 13, 12, 11, 10, 9, 8, 7, 6, 5, 4, 3, 2, 1, 0]] mixed (by kernel_rfl) (by kernel_rfl) (by kernel_rfl) ?_
  intro w9 g10
  replace hc4 := g10.heap hc4
  replace R1 := R1.grow g10
  replace P1 := P1.sees (Sees.of_grow g10)
  replace R2 := R2.grow g10
  replace P2 := P2.sees (Sees.of_grow g10)
  replace Re := Re.grow g10
  replace Rf := Rf.grow g10
  replace G := G.tr g10
  clear g10
  apply AO_ex
  ·intro w_ g_; refine og rfl ?_; refine r_move_slice rfl ?_; exact ⟨Grow.rfl' _, rfl⟩
  apply AO_ex
  ·intro w_ g_; refine og rfl ?_; refine r_move_int rfl ?_; exact ⟨Grow.rfl' _, rfl⟩
  apply AO_ex
  ·intro w_ g_; refine og rfl ?_; refine r_indexN (R1.grow g_) rfl rfl ?_ ?_; omega; exact ⟨Grow.rfl' _, rfl⟩
  apply AO_ex
  ·intro w_ g_; refine og rfl ?_; refine r_fieldE rfl ?_; exact ⟨Grow.rfl' _, rfl⟩
  apply AO_ex
  ·intro w_ g_; refine og rfl ?_; refine r_loadR (v := .int .i64 p.2) (m := 0) (R1.grow g_) rfl (take_two1 hce) ?_; exact ⟨Grow.rfl' _, rfl⟩
  apply AO_ex
  ·intro w_ g_; refine og rfl ?_; refine r_move_slice rfl ?_; exact ⟨Grow.rfl' _, rfl⟩
  apply AO_ex
  ·intro w_ g_; refine og rfl ?_; refine r_move_int rfl ?_; exact ⟨Grow.rfl' _, rfl⟩
  apply AO_ex
  ·intro w_ g_; refine og rfl ?_; refine r_indexN (R2.grow g_) rfl rfl ?_ ?_; omega; exact ⟨Grow.rfl' _, rfl⟩
  apply AO_ex
  ·intro w_ g_; refine og rfl ?_; refine r_fieldE rfl ?_; exact ⟨Grow.rfl' _, rfl⟩
  apply AO_ex
  ·intro w_ g_; refine og rfl ?_; refine r_loadR (v := .int .i64 p.2) (m := 0) (R2.grow g_) rfl (take_two1 hcf) ?_; exact ⟨Grow.rfl' _, rfl⟩
  apply AO_ex
  ·intro w_ g_; refine og rfl ?_; refine r_neq_f rfl rfl (by simp) ?_; exact ⟨Grow.rfl' _, rfl⟩
  apply AO_ex
  ·intro w_ g_; refine og rfl ?_; refine r_move (v := .bool false) rfl ?_; exact ⟨Grow.rfl' _, rfl⟩
  apply AO_ex
  ·intro w_ g_; refine og rfl ?_; refine r_move_slice rfl ?_; exact ⟨Grow.rfl' _, rfl⟩
  apply AO_ex
  ·intro w_ g_; refine og rfl ?_; refine r_move_int rfl ?_; exact ⟨Grow.rfl' _, rfl⟩
  apply AO_ex
  ·intro w_ g_; refine og rfl ?_; refine r_indexN (R1.grow g_) rfl rfl ?_ ?_; omega; exact ⟨Grow.rfl' _, rfl⟩
  apply AO_ex
  ·intro w_ g_; refine og rfl ?_; refine r_fieldE rfl ?_; exact ⟨Grow.rfl' _, rfl⟩
  apply AO_ex
  ·intro w_ g_; refine og rfl ?_; refine r_loadR (v := .slice ae p.1.length ce) (m := 0) (R1.grow g_) rfl (take_two0 hce) ?_; exact ⟨Grow.rfl' _, rfl⟩
  apply AO_ex
  ·intro w_ g_; refine og rfl ?_; refine r_move_slice rfl ?_; exact ⟨Grow.rfl' _, rfl⟩
  apply AO_ex
  ·intro w_ g_; refine og rfl ?_; refine r_move_int rfl ?_; exact ⟨Grow.rfl' _, rfl⟩
  apply AO_ex
  ·intro w_ g_; refine og rfl ?_; refine r_indexN (R2.grow g_) rfl rfl ?_ ?_; omega; exact ⟨Grow.rfl' _, rfl⟩
  apply AO_ex
  ·intro w_ g_; refine og rfl ?_; refine r_fieldE rfl ?_; exact ⟨Grow.rfl' _, rfl⟩
  apply AO_ex
  ·intro w_ g_; refine og rfl ?_; refine r_loadR (v := .slice af p.1.length cf) (m := 0) (R2.grow g_) rfl (take_two0 hcf) ?_; exact ⟨Grow.rfl' _, rfl⟩
  apply AO_ex
  ·intro w_ g_; refine og rfl ?_; exact r_gives (v := .bool true) rfl ((by have h_ := sameints_calls w_ (c := ce) (c2 := cf) (Re.grow g_) (Rf.grow g_); rw [decide_eq_true rfl] at h_; exact h_)) (fun w2_ g2_ => ⟨g2_, rfl⟩)
  apply AO_ex
  ·intro w_ g_; refine og rfl ?_; refine r_not_f rfl rfl ?_; exact ⟨Grow.rfl' _, rfl⟩
  apply AO_ex
  ·intro w_ g_; refine og rfl ?_; refine r_pick_f (v := .bool false) rfl rfl rfl ?_; exact ⟨Grow.rfl' _, rfl⟩
  refine AO_nil ?_
  intro w11 g12
  replace hc4 := g12.heap hc4
  replace R1 := R1.grow g12
  replace P1 := P1.sees (Sees.of_grow g12)
  replace R2 := R2.grow g12
  replace P2 := P2.sees (Sees.of_grow g12)
  replace Re := Re.grow g12
  replace Rf := Rf.grow g12
  replace G := G.tr g12
  clear g12
  refine WL_nil ?_
  refine W_false rfl ?_
  refine W_skip ?_
  refine W_region rfl ?_
  refine stp (r_move_int rfl ?_)
  refine stp (r_add rfl rfl ?_ ?_); constructor <;> omega
  refine stp (r_assign_int rfl ?_)
  refine WL_nil ?_
  refine ⟨_, ?_, k + 1, rfl, fr_of ⟨rfl, rfl, rfl, trivial⟩, by omega, hc4, R1, P1, R2, P2, G⟩
  omega
 ·-- false
  replace hlt := of_decide_eq_false hlt
  refine W_exit ?_
  refine W_seq (W_region rfl ?_)
  refine stp (r_assign (v := .bool true) rfl ?_)
  refine WL_nil ?_
  refine W_ret ?_
  refine ret1 (res_tmp (v := .bool true) rfl) ⟨?_, G⟩
  rfl

set_option maxRecDepth 100000 in
theorem TreeAsks_calls (w : World) {n cp : Nat} {ad : Option Addr} {xs : List Int} (R : RowAt w 1 ad n (xs.map (.int .u8))) (hn : n = xs.length) (hx : isU8 xs) (hcp : n ≤ cp) (hcp2 : cp ≤ maxLen) {n2 cp2 : Nat} {ad2 : Option Addr} {ys : List Int} (R2 : RowAt w 1 ad2 n2 (ys.map (.int .u8))) (hn2 : n2 = ys.length) (hy : isU8 ys) {adp : Option Addr} {cp9 : Nat} {steps : List Int} {pa_ most at_ k_ : Int} (Rp : RowAt w 1 adp steps.length (steps.map (.int .i64))) (hpa : inR .i64 pa_) (hmo : inR .i64 most) (a0 : 0 ≤ at_) (a1 : at_ ≤ 255) (k0 : 0 ≤ k_) (k1 : k_ ≤ 255) : Gives Try.prog 4 #[.slice ad n cp, .slice ad2 n2 cp2, .agg #[.slice adp steps.length cp9, .int .i64 pa_], .int .i64 most, .int .u8 at_, .int .u8 k_] w (.bool true) := by
 have hri := treeP_right 6 xs 32 (by decide) hx
 have hdp := treeP_dep 6 xs
 have hpr := pathP_range (c := ys)
 have hpl := pathP_length ys
 have G := Grow.rfl' w
 refine gives_of Try.func4 Try.ntmps4 Try.results4 rfl rfl ?_
 refine W_seq (W_region rfl ?_)
 refine WL_some (og rfl ?_)
 (first | refine r_box_agg rfl ?_ | refine r_box_int rfl ?_ | refine r_box_slice rfl ?_ | refine r_box rfl rfl ?_)
 intro b1 w2 hb3 hc4 g5
 have hge6 := Nat.le_trans G.size hb3
 replace G := G.tr g5
 clear g5 hb3
 refine stp (r_assign (v := .bool false) rfl ?_)
 refine WL_nil ?_
 refine W_seq ?_
 refine W_seq (W_region rfl ?_)
 refine stp (r_move_slice rfl ?_)
 refine stp (r_len rfl rfl rfl ?_)
 refine stp (r_gtr rfl rfl ?_)
 refine stp (r_move_bool rfl ?_)
 refine WL_some (og_if (s := .bool (decide ((n : Int) > 200))) (b := false) (v := .pointer (some ⟨b1, 0, none⟩)) rfl (wgb_f _) (fun hc7 => ?_) ?_)
 ·
  have hc7_ := hc7
  try simp only [Bool.and_eq_true, Bool.or_eq_true, Bool.not_eq_true', Bool.and_eq_false_iff, Bool.or_eq_false_iff, Bool.not_eq_false', decide_eq_true_eq, decide_eq_false_iff_not, Bool.not_true, Bool.not_false, Bool.not_eq_eq_eq_not, Bool.or_false, Bool.and_true, Bool.or_true, Bool.and_false, Bool.false_or, Bool.true_and, Bool.true_or, Bool.false_and, Bool.false_eq_true, Bool.true_eq_false] at hc7_
  refine r_fieldAddr rfl ?_
  exact ⟨rfl, rfl⟩
 refine WL_some (og_if (s := .bool (decide ((n : Int) > 200))) (b := false) (v := .slice adp steps.length cp9) rfl (wgb_f _) (fun hc8 => ?_) ?_)
 ·
  have hc8_ := hc8
  try simp only [Bool.and_eq_true, Bool.or_eq_true, Bool.not_eq_true', Bool.and_eq_false_iff, Bool.or_eq_false_iff, Bool.not_eq_false', decide_eq_true_eq, decide_eq_false_iff_not, Bool.not_true, Bool.not_false, Bool.not_eq_eq_eq_not, Bool.or_false, Bool.and_true, Bool.or_true, Bool.and_false, Bool.false_or, Bool.true_and, Bool.true_or, Bool.false_and, Bool.false_eq_true, Bool.true_eq_false] at hc8_
  refine r_load (v := .slice adp steps.length cp9) (gvt hc8) hc4 rfl ?_
  exact ⟨rfl, rfl⟩
 refine WL_some (og_if (s := .bool (decide ((n : Int) > 200))) (b := false) (v := .int .i64 (steps.length : Int)) rfl (wgb_f _) (fun hc9 => ?_) ?_)
 ·
  have hc9_ := hc9
  try simp only [Bool.and_eq_true, Bool.or_eq_true, Bool.not_eq_true', Bool.and_eq_false_iff, Bool.or_eq_false_iff, Bool.not_eq_false', decide_eq_true_eq, decide_eq_false_iff_not, Bool.not_true, Bool.not_false, Bool.not_eq_eq_eq_not, Bool.or_false, Bool.and_true, Bool.or_true, Bool.and_false, Bool.false_or, Bool.true_and, Bool.true_or, Bool.false_and, Bool.false_eq_true, Bool.true_eq_false] at hc9_
  refine r_len rfl rfl (gvt hc9) ?_
  exact ⟨rfl, rfl⟩
 refine WL_some (og_if (s := .bool (decide ((n : Int) > 200))) (b := false) (v := .bool (decide ((steps.length : Int) > 100))) rfl (wgb_f _) (fun hc10 => ?_) ?_)
 ·
  have hc10_ := hc10
  try simp only [Bool.and_eq_true, Bool.or_eq_true, Bool.not_eq_true', Bool.and_eq_false_iff, Bool.or_eq_false_iff, Bool.not_eq_false', decide_eq_true_eq, decide_eq_false_iff_not, Bool.not_true, Bool.not_false, Bool.not_eq_eq_eq_not, Bool.or_false, Bool.and_true, Bool.or_true, Bool.and_false, Bool.false_or, Bool.true_and, Bool.true_or, Bool.false_and, Bool.false_eq_true, Bool.true_eq_false] at hc10_
  refine r_gtr (gvt hc10) rfl ?_
  exact ⟨rfl, rfl⟩
 refine stp (r_or2 rfl rfl rfl ?_)
 refine stp (r_move_bool rfl ?_)
 refine WL_some (og_ifg (s := .bool ((decide ((n : Int) > 200)) || (decide ((steps.length : Int) > 100)))) (b := false) (v := .bool true) rfl (wgb_f _) (fun hc11 => ?_) ?_)
 ·
  have hc11_ := hc11
  try simp only [Bool.and_eq_true, Bool.or_eq_true, Bool.not_eq_true', Bool.and_eq_false_iff, Bool.or_eq_false_iff, Bool.not_eq_false', decide_eq_true_eq, decide_eq_false_iff_not, Bool.not_true, Bool.not_false, Bool.not_eq_eq_eq_not, Bool.or_false, Bool.and_true, Bool.or_true, Bool.and_false, Bool.false_or, Bool.true_and, Bool.true_or, Bool.false_and, Bool.false_eq_true, Bool.true_eq_false] at hc11_
  exact r_gives rfl (known10_calls _) (fun w2_ g2_ => ⟨rfl, g2_⟩)
 intro w12 g13
 replace hc4 := g13.heap hc4
 replace G := G.tr g13
 clear g13
 refine WL_some (og_if (s := .bool ((decide ((n : Int) > 200)) || (decide ((steps.length : Int) > 100)))) (b := false) (v := .bool false) rfl (wgb_f _) (fun hc14 => ?_) ?_)
 ·
  have hc14_ := hc14
  try simp only [Bool.and_eq_true, Bool.or_eq_true, Bool.not_eq_true', Bool.and_eq_false_iff, Bool.or_eq_false_iff, Bool.not_eq_false', decide_eq_true_eq, decide_eq_false_iff_not, Bool.not_true, Bool.not_false, Bool.not_eq_eq_eq_not, Bool.or_false, Bool.and_true, Bool.or_true, Bool.and_false, Bool.false_or, Bool.true_and, Bool.true_or, Bool.false_and, Bool.false_eq_true, Bool.true_eq_false] at hc14_
  refine r_not_f (gvt hc14) rfl ?_
  exact ⟨rfl, rfl⟩
 refine stp (r_or2 rfl rfl rfl ?_)
 refine WL_nil ?_
 refine W_cond2 (b := (((decide ((n : Int) > 200)) || (decide ((steps.length : Int) > 100))) || false)) rfl (fun h1 => ?_) (fun h1 => ?_)
 ·-- true
  simp only [Bool.and_eq_true, Bool.or_eq_true, Bool.not_eq_true', Bool.and_eq_false_iff, Bool.or_eq_false_iff, Bool.not_eq_false', decide_eq_true_eq, decide_eq_false_iff_not, Bool.not_true, Bool.not_false, Bool.not_eq_eq_eq_not, Bool.or_false, Bool.and_true, Bool.or_true, Bool.and_false, Bool.false_or, Bool.true_and, Bool.true_or, Bool.false_and, Bool.false_eq_true, Bool.true_eq_false] at h1
  refine W_seq (W_region rfl ?_)
  refine stp (r_gives (v := .bool true) rfl (known10_calls _) ?_)
  intro w15 g16
  replace hc4 := g16.heap hc4
  replace G := G.tr g16
  clear g16
  refine stp (r_assign (v := .bool true) rfl ?_)
  refine WL_nil ?_
  refine W_ret ?_
  refine ret1 (res_tmp (v := .bool true) rfl) ⟨?_, G⟩
  rfl
 ·-- false
  simp only [Bool.and_eq_true, Bool.or_eq_true, Bool.not_eq_true', Bool.and_eq_false_iff, Bool.or_eq_false_iff, Bool.not_eq_false', decide_eq_true_eq, decide_eq_false_iff_not, Bool.not_true, Bool.not_false, Bool.not_eq_eq_eq_not, Bool.or_false, Bool.and_true, Bool.or_true, Bool.and_false, Bool.false_or, Bool.true_and, Bool.true_or, Bool.false_and, Bool.false_eq_true, Bool.true_eq_false] at h1
  refine W_skip ?_
  refine W_seq (W_region rfl ?_)
  refine stp (r_move_slice rfl ?_)
  refine WL_some (og rfl ?_)
  refine r_call rfl (tree_calls _ _ R G hn hx hcp hcp2 (d := 6) (by decide) (Nat.le_refl _)) ?_
  rintro v_ w17 ⟨cells_, ad9, n9, c9, rfl, hT_, -, -, -, -, g_⟩
  have hT := hT_.sees (Sees.seen _ _)
  clear hT_
  replace hc4 := g_.heap hc4
  replace G := G.tr g_
  clear g_
  obtain ⟨x0, x1, xa, xn, xc, pa, pn, pc, qa, qn, qc, rfl⟩ := hT.cells
  refine stp (r_move (v := .tuple #[.agg #[.int .i64 x0, .int .i64 x1, .slice xa xn xc, .slice pa pn pc, .slice qa qn qc], .slice ad9 n9 c9]) rfl ?_)
  refine stp (r_extract (v := .agg #[.int .i64 x0, .int .i64 x1, .slice xa xn xc, .slice pa pn pc, .slice qa qn qc]) rfl rfl ?_)
  refine stp (r_extract (v := .slice ad9 n9 c9) rfl rfl ?_)
  refine stp (r_alloc ?_)
  intro b18 w19 hb20 hc21 g22
  refine stn (r_storeAll rfl rfl hc21 (by rfl) (by rfl) (by rfl) ?_)
  intro w23 hc24 u25
  have g26 := g22.upd u25 hb20
  have hge27 := Nat.le_trans G.size hb20
  have ne28 := Nat.ne_of_lt (Nat.lt_of_lt_of_le (lt_of_heap hc4) hb20)
  replace hc4 := g26.heap hc4
  replace hT := hT.grow g26
  replace G := G.tr g26
  clear u25 g22 hb20 hc21
  refine stp (r_assign_slice rfl ?_)
  refine WL_nil ?_
  refine W_seq ?_
  refine W_any 28 [[], [], [1, 0], [2, 1, 0], [3, 2, 1, 0], [4, 3, 2, 1], [5, 4, 3, 2], [6, 5, 4, 3, 1, 0], [7, 6, 5, 4, 3, 2, 1, 0], [8, 7, 6, 5, 4, 3, 2, 1, 0], [9, 8, 7, 6, 5, 4, 3, 2, 1, 0], [10, 9, 8, 7, 6, 5, 4, 3, 2, 1, 0], [11, 10, 9, 8, 7, 6, 5, 4, 3, 2, 1], [12, 11, 10, 9, 8, 7, 6, 5, 4, 3, 2, 1, 0], [13, 12, 11, 10, 9, 8, 7, 6, 5, 4, 3, 2, 1, 0], [14, 13, 12, 11, 10, 9, 8, 7, 6, 5, 4, 3, 2, 1, 0], [15, 14, 13, 12, 11, 10, 9, 8, 7, 6, 5, 4, 3, 2, 1, 0], [16, 15, 14, 13, 12, 11, 10, 9, 8, 7, 6, 5, 4, 3, 2, 1], [17, 16, 15, 14, 13, 12, 11, 10, 9, 8, 7, 6, 5, 4, 3, 2, 0], [18, 17, 16, 15, 14, 13, 12, 11, 10, 9, 8, 7, 6, 5, 4, 3, 2, 1, 0], [19, 18, 17, 16, 15, 14, 13, 12, 11, 10, 9, 8, 7, 6, 5, 4, 3, 2, 1, 0], [20, 19, 18, 17, 16, 15, 14, 13, 12, 11, 10, 9, 8, 7, 6, 5, 4, 3, 2, 1, 0], [21, 20, 19, 18, 17, 16, 15, 14, 13, 12, 11, 10, 9, 8, 7, 6, 5, 4, 3, 2, 1, 0], [22, 21, 20, 19, 18, 17, 16, 15, 14, 13, 12, 11, 10, 9, 8, 7, 6, 5, 4, 3, 2, 1, 0], [23, 22, 21, 20, 19, 18, 17, 16, 15, 14, 13, 12, 11, 10, 9, 8, 7, 6, 5, 4, 3, 2], [24, 23, 22, 21, 20, 19, 18, 17, 16, 15, 14, 13, 12, 11, 10, 9, 8, 7, 6, 5, 4, 3, 2, 1, 0], [25, 24, 23, 22, 21, 20, 19, 18, 17, 16, 15, 14, 13, 12, 11, 10, 9, 8, 7, 6, 5, 4, 3, 2, 1, 0], [26, 25, 24, 23, 22, 21, 20, 19, 18, 17, 16, 15, 14, 13, 12, 11, 10, 9, 8, 7, 6, 5, 4, 3, 2, 1, 0]] mixed (by kernel_rfl) (by kernel_rfl) (by kernel_rfl) ?_
  intro w29 g30
  replace hc4 := g30.heap hc4
  replace hT := hT.grow g30
  replace hc24 := g30.heap hc24
  replace G := G.tr g30
  clear g30
  apply AO_ex
  ·intro w_ g_; refine og rfl ?_; refine r_loadAll rfl (g_.heap hc24) (by rfl) ?_; exact ⟨Grow.rfl' _, rfl⟩
  apply AO_ex
  ·intro w_ g_; refine og rfl ?_; refine r_loadAll rfl (g_.heap hc4) (by rfl) ?_; exact ⟨Grow.rfl' _, rfl⟩
  apply AO_ex
  ·intro w_ g_; refine og rfl ?_; exact r_gives (v := .bool true) rfl (asks_calls w_ (hT.grow g_) (Rp.grow (G.tr g_)) hpa) (fun w2_ g2_ => ⟨g2_, rfl⟩)
  apply AO_ex
  ·intro w_ g_; refine og rfl ?_; refine r_move (v := .bool true) rfl ?_; exact ⟨Grow.rfl' _, rfl⟩
  apply AO_ex
  ·intro w_ g_; refine og rfl ?_; refine r_loadAll rfl (g_.heap hc24) (by rfl) ?_; exact ⟨Grow.rfl' _, rfl⟩
  apply AO_ex
  ·intro w_ g_; refine og rfl ?_; refine r_move_slice rfl ?_; exact ⟨Grow.rfl' _, rfl⟩
  apply AO_ex
  ·intro w_ g_; refine og rfl ?_; refine r_move_int rfl ?_; exact ⟨Grow.rfl' _, rfl⟩
  refine AO_so (fun w_ v_ => ∃ ad9 c9, v_ = .agg #[.slice ad9 (pathP ys).length c9, .int .i64 (at_ % 12 - 2)] ∧ RowAt w_ 1 ad9 (pathP ys).length ((pathP ys).map (.int .i64))) (fun _ _ _ g_ ⟨a_, c_, h1_, h2_⟩ => ⟨a_, c_, h1_, h2_.grow g_⟩) ?_ ?_
  ·intro w_ g_
   refine og rfl ?_
   refine r_call rfl (path_calls w_ (R2.grow (G.tr g_)) hn2 hy a0 a1) ?_
   rintro v9_ w9_ ⟨a_, c_, rfl, R9_, g9_⟩
   exact ⟨g9_, a_, c_, rfl, R9_⟩
  apply AO_ex
  ·intro w_ g_; intro v7_ hv7_; show OpG _ _ _ _ _ _; refine og rfl ?_; obtain ⟨ad9, c9, rfl, R9_⟩ := hv7_; exact r_gives (v := .bool true) rfl (asks_calls w_ (hT.grow g_) R9_ (by simp only [inR]; omega)) (fun w2_ g2_ => ⟨g2_, rfl⟩)
  apply AO_ex
  ·intro w_ g_; intro v7_ hv7_; show OpG _ _ _ _ _ _; refine og rfl ?_; refine r_pick_t (v := .bool true) rfl rfl rfl ?_; exact ⟨Grow.rfl' _, rfl⟩
  apply AO_ex
  ·intro w_ g_; intro v7_ hv7_; show OpG _ _ _ _ _ _; refine og rfl ?_; refine r_move (v := .bool true) rfl ?_; exact ⟨Grow.rfl' _, rfl⟩
  apply AO_ex
  ·intro w_ g_; intro v7_ hv7_; show OpG _ _ _ _ _ _; refine og rfl ?_; refine r_loadAll rfl (g_.heap hc24) (by rfl) ?_; exact ⟨Grow.rfl' _, rfl⟩
  apply AO_ex
  ·intro w_ g_; intro v7_ hv7_; show OpG _ _ _ _ _ _; refine og rfl ?_; refine r_move_int rfl ?_; exact ⟨Grow.rfl' _, rfl⟩
  apply AO_ex
  ·intro w_ g_; intro v7_ hv7_; show OpG _ _ _ _ _ _; refine og rfl ?_; exact r_gives (v := .bool true) rfl (lpaths_calls w_ (hT.grow g_) (by omega) hmo) (fun w2_ g2_ => ⟨g2_, rfl⟩)
  apply AO_ex
  ·intro w_ g_; intro v7_ hv7_; show OpG _ _ _ _ _ _; refine og rfl ?_; refine r_pick_t (v := .bool true) rfl rfl rfl ?_; exact ⟨Grow.rfl' _, rfl⟩
  apply AO_ex
  ·intro w_ g_; intro v7_ hv7_; show OpG _ _ _ _ _ _; refine og rfl ?_; refine r_move (v := .bool true) rfl ?_; exact ⟨Grow.rfl' _, rfl⟩
  apply AO_ex
  ·intro w_ g_; intro v7_ hv7_; show OpG _ _ _ _ _ _; refine og rfl ?_; refine r_loadAll rfl (g_.heap hc24) (by rfl) ?_; exact ⟨Grow.rfl' _, rfl⟩
  apply AO_ex
  ·intro w_ g_; intro v7_ hv7_; show OpG _ _ _ _ _ _; refine og rfl ?_; refine r_move_int rfl ?_; exact ⟨Grow.rfl' _, rfl⟩
  apply AO_ex
  ·intro w_ g_; intro v7_ hv7_; show OpG _ _ _ _ _ _; refine og rfl ?_; refine r_conv rfl ?_ ?_; constructor <;> omega; exact ⟨Grow.rfl' _, rfl⟩
  apply AO_ex
  ·intro w_ g_; intro v7_ hv7_; show OpG _ _ _ _ _ _; refine og rfl ?_; exact r_gives (v := .bool true) rfl (lpaths_calls w_ (hT.grow g_) (by omega) (by simp only [inR]; omega)) (fun w2_ g2_ => ⟨g2_, rfl⟩)
  apply AO_ex
  ·intro w_ g_; intro v7_ hv7_; show OpG _ _ _ _ _ _; refine og rfl ?_; refine r_pick_t (v := .bool true) rfl rfl rfl ?_; exact ⟨Grow.rfl' _, rfl⟩
  apply AO_ex
  ·intro w_ g_; intro v7_ hv7_; show OpG _ _ _ _ _ _; refine og rfl ?_; refine r_move (v := .bool true) rfl ?_; exact ⟨Grow.rfl' _, rfl⟩
  apply AO_ex
  ·intro w_ g_; intro v7_ hv7_; show OpG _ _ _ _ _ _; refine og rfl ?_; refine r_loadAll rfl (g_.heap hc24) (by rfl) ?_; exact ⟨Grow.rfl' _, rfl⟩
  apply AO_ex
  ·intro w_ g_; intro v7_ hv7_; show OpG _ _ _ _ _ _; refine og rfl ?_; exact r_gives (v := .int .i64 ((treeP 6 xs).1.cost)) rfl (cost_calls _ _ (hT.grow g_) (Nat.le_refl _)) (fun w2_ g2_ => ⟨g2_, rfl⟩)
  apply AO_ex
  ·intro w_ g_; intro v7_ hv7_; show OpG _ _ _ _ _ _; refine og rfl ?_; refine r_loadAll rfl (g_.heap hc24) (by rfl) ?_; exact ⟨Grow.rfl' _, rfl⟩
  apply AO_ex
  ·intro w_ g_; intro v7_ hv7_; show OpG _ _ _ _ _ _; refine og rfl ?_; exact r_gives (v := .int .i64 ((treeP 6 xs).1.cost)) rfl (rcost_calls _ _ (hT.grow g_) (Nat.le_refl _)) (fun w2_ g2_ => ⟨g2_, rfl⟩)
  apply AO_ex
  ·intro w_ g_; intro v7_ hv7_; show OpG _ _ _ _ _ _; refine og rfl ?_; refine r_eql_t rfl rfl (rfl) ?_; exact ⟨Grow.rfl' _, rfl⟩
  apply AO_ex
  ·intro w_ g_; intro v7_ hv7_; show OpG _ _ _ _ _ _; refine og rfl ?_; refine r_pick_t (v := .bool true) rfl rfl rfl ?_; exact ⟨Grow.rfl' _, rfl⟩
  refine AO_nil ?_
  intro w31 g32
  replace hc4 := g32.heap hc4
  replace hT := hT.grow g32
  replace hc24 := g32.heap hc24
  replace G := G.tr g32
  clear g32
  intro v_p hv_p
  refine stp (r_assign (v := .bool true) rfl ?_)
  refine WL_nil ?_
  refine W_ret ?_
  refine ret1 (res_tmp (v := .bool true) rfl) ⟨?_, G⟩
  rfl
end Go.Proofs.Ytfhfecepcnapfaa.K
namespace Go.Proofs.Ytfhfecepcnapfaa.K
open Go Go.RowKit Go.ChangeShapes Go.WideShapes

section
variable {H : Type} {enc : TypeId × Value → H} {P : Program} {w : World}
/-- What is told of an argument, or of a part of it: it is read so, and is no greater than memory is. -/
structure Told (enc : TypeId × Value → H) (P : Program) (w : World) (fuel : Nat) (t : TypeId) (cs : List Value) : Prop where
  h : ∃ d p, DataW.trod enc P w 0 (fun _ => true) true fuel t cs = some (d, p) ∧ ∀ n ∈ d.weights P t, n ≤ reachBytes
theorem told_of {ts : List TypeId} {ds : List (DataW H)} {j : Nat} {t : TypeId} {d : DataW H} {v : Value} {p : List MemPlace} (h : DataW.Trod enc P w 0 (fun _ => true) true t v d p) (hz : (DataW.weightsEach P ts ds).all (· ≤ reachBytes) = true) (ht : ts[j]? = some t) (hd : ds[j]? = some d) : ∃ fuel, Told enc P w fuel t v.cells.toList := by
  obtain ⟨fuel, hf⟩ := h
  exact ⟨fuel, ⟨d, p, hf, fun n hn => by simpa using List.all_eq_true.1 hz n (DataW.weights_mem_each ht hd n hn)⟩⟩
theorem mapM_ex {α β : Type} {f : α → Option β} : ∀ {l : List α} {r : List β}, l.mapM f = some r → ∀ (i : Nat) (x : α), l[i]? = some x → ∃ y, f x = some y ∧ r[i]? = some y := by
  intro l r h i x hx
  have h1 := mapM_some_get h i x hx
  have hl := mapM_some_length h
  have hi : i < r.length := by rw [hl]; exact (List.getElem?_eq_some_iff.1 hx).1
  rw [List.getElem?_eq_getElem hi] at h1
  exact ⟨_, h1, List.getElem?_eq_getElem hi⟩
theorem weightsAll_mem {e : TypeId} : ∀ {ds : List (DataW H)} {i : Nat} {d : DataW H}, ds[i]? = some d → ∀ n ∈ d.weights P e, n ∈ DataW.weightsAll P e ds
  | [], i, d, h, _, _ => by simp at h
  | x :: ds, 0, d, h, n, hn => by
    simp only [List.getElem?_cons_zero, Option.some.injEq] at h
    subst h
    simp only [DataW.weightsAll, List.mem_append]; exact .inl hn
  | x :: ds, i + 1, d, h, n, hn => by
    simp only [DataW.weightsAll, List.mem_append]; exact .inr (weightsAll_mem (by simpa using h) n hn)
/-- A slice, opened: what it holds, and each element. -/
theorem told_slice {t e : TypeId} {sz by_ fuel : Nat} {cs : List Value} (ht : P.underlying t = some (.slice e)) (hc : P.cellsOf e = sz) (hsz : 0 < sz) (hby : P.bytesOf e = by_) (hby1 : 1 ≤ by_) (h : Told enc P w fuel t cs) :
    ∃ f ad n c xs, fuel = f + 1 ∧ cs = [.slice ad n c] ∧ n ≤ c ∧ c ≤ maxLen ∧ RowAt w sz ad n xs ∧ ∀ i, i < n → Told enc P w f e ((xs.drop (i * sz)).take sz) := by
  obtain ⟨d, p, hd, hw⟩ := h
  rcases DataW.trod_slice ht hd with ⟨rfl, hx⟩ | ⟨a, len, cap, elems, rest, n, rfl, rfl, hx, _, hl, hm, hlen, hel, _, _⟩
  · cases fuel with
    | zero => simp [DataW.trod] at hd
    | succ f => exact ⟨f, none, 0, 0, [], rfl, rfl, Nat.le_refl _, Nat.zero_le _, RowAt.empty _ _ _, fun i hi => by omega⟩
  · simp only [Prod.mk.injEq] at hx
    obtain ⟨rfl, _⟩ := hx
    have hwt : ∀ n ∈ DataW.weightsAll P e (elems.map (·.1)), n ≤ reachBytes := fun n hn => hw n (by simp only [DataW.weights, ht, List.mem_cons, List.mem_append]; exact .inr (.inl hn))
    have hlim : len * by_ ≤ reachBytes := by
      have := hw (((elems.map (·.1)).length + (rest.map (·.1)).length) * P.bytesOf e) (by simp only [DataW.weights, ht, List.mem_cons, true_or])
      rw [hby, List.length_map, hlen, List.length_map, Nat.add_mul] at this
      omega
    have hlen2 : len ≤ 140737488355328 := by
      have h1 : len * 1 ≤ len * by_ := Nat.mul_le_mul_left _ hby1
      have h2 : reachBytes ≤ 140737488355328 := by decide
      omega
    -- each element
    have each : ∀ i, i < len → ∃ ys x, w.cells? 0 (a.add (i * sz)) sz = some ys ∧ DataW.trod enc P w 0 (fun _ => true) true n e ys = some x ∧ elems[i]? = some x := by
      intro i hi
      have hh := hel i hi
      have hi2 : i < elems.length := by omega
      rw [List.getElem?_eq_getElem hi2, hc] at hh
      simp only [Option.bind_eq_some_iff] at hh
      obtain ⟨ys, h1, h2⟩ := hh
      exact ⟨ys, _, h1, h2, List.getElem?_eq_getElem hi2⟩
    rcases Nat.eq_zero_or_pos len with h0 | h0
    · subst h0
      exact ⟨n, some a, 0, cap, [], rfl, rfl, hl, hm, RowAt.empty _ _ _, fun i hi => by omega⟩
    · -- the block
      have cell : ∀ i j, i < len → j < sz → ∃ v, w.cell? ((a.add (i * sz)).add j) = some v := by
        intro i j hi hj
        obtain ⟨ys, x, h1, _, _⟩ := each i hi
        unfold World.cells? at h1
        rw [if_pos (Nat.zero_le _)] at h1
        obtain ⟨y, hy, _⟩ := mapM_ex h1 j j (by simp [hj])
        exact ⟨y, hy⟩
      obtain ⟨blk, off, spot⟩ := a
      obtain ⟨v0, hv0⟩ := cell 0 0 h0 hsz
      have hadd0 : ((⟨blk, off, spot⟩ : Addr).add (0 * sz)).add 0 = ⟨blk, off, spot⟩ := by simp [Addr.add]
      rw [hadd0] at hv0
      unfold World.cell? at hv0
      cases hb : w.heap[blk]? with
      | none => rw [hb] at hv0; cases hv0
      | some o =>
        rw [hb] at hv0
        cases o with
        | cells c T fr =>
          simp only at hv0
          have hspot : spot = none := by
            cases spot with
            | none => rfl
            | some _ => simp at hv0
          subst hspot
          have hcell : ∀ k, k < len * sz → ∃ v, c[off + k]? = some v := by
            intro k hk
            have hdm := Nat.div_add_mod k sz
            have h1 : k / sz < len := (Nat.div_lt_iff_lt_mul hsz).2 hk
            obtain ⟨v, hv⟩ := cell (k / sz) (k % sz) h1 (Nat.mod_lt _ hsz)
            rw [add_lit, add_lit, cell_of_row w blk _ c T fr hb] at hv
            refine ⟨v, ?_⟩
            have : off + k / sz * sz + k % sz = off + k := by rw [Nat.mul_comm]; omega
            rwa [this] at hv
          have hsize : off + len * sz ≤ c.size := by
            have hp : 0 < len * sz := Nat.mul_pos h0 hsz
            obtain ⟨v, hv⟩ := hcell (len * sz - 1) (by omega)
            have := (Array.getElem?_eq_some_iff.1 hv).1
            omega
          refine ⟨n, some ⟨blk, off, none⟩, len, cap, (c.toList.drop off).take (len * sz), rfl, rfl, hl, hm, ⟨by rw [List.length_take, List.length_drop, Array.length_toList]; omega, hlen2, fun _ => ⟨blk, off, c, T, fr, rfl, hb, rfl⟩⟩, fun i hi => ?_⟩
          obtain ⟨ys, x, h1, h2, h3⟩ := each i hi
          have hys : ys = (((c.toList.drop off).take (len * sz)).drop (i * sz)).take sz := by
            unfold World.cells? at h1
            rw [if_pos (Nat.zero_le _)] at h1
            have hl2 := mapM_some_length h1
            simp only [List.length_range] at hl2
            have hle : (i + 1) * sz ≤ len * sz := Nat.mul_le_mul_right _ hi
            rw [Nat.add_mul, Nat.one_mul] at hle
            apply List.ext_getElem?
            intro j
            by_cases hj : j < sz
            · obtain ⟨y, hy, hy2⟩ := mapM_ex h1 j j (by simp [hj])
              rw [add_lit, add_lit, cell_of_row w blk _ c T fr hb] at hy
              rw [hy2, List.getElem?_take, if_pos hj, List.getElem?_drop, List.getElem?_take, if_pos (by omega), List.getElem?_drop, Array.getElem?_toList, ← Nat.add_assoc, hy]
            · rw [List.getElem?_eq_none (by omega), List.getElem?_eq_none (by rw [List.length_take]; omega)]
          rw [← hys]
          exact ⟨⟨x.1, x.2, h2, fun m hm_ => hwt m (weightsAll_mem (i := i) (by rw [List.getElem?_map, h3]; rfl) m hm_)⟩⟩
        | _ => cases hv0
theorem told_int {t : TypeId} {k : IntKind} {fuel : Nat} {cs : List Value} (ht : P.underlying t = some (.int k)) (h : Told enc P w fuel t cs) : ∃ n, cs = [.int k n] ∧ inR k n := by
  obtain ⟨d, p, hd, _⟩ := h
  obtain ⟨n, h1, _, hw⟩ := DataW.trod_int ht hd
  refine ⟨n, h1, ?_⟩
  cases k <;> simpa [Lit.wf, IntKind.min, IntKind.max, IntKind.bits, IntKind.signed, inR] using hw
theorem told_bool {t : TypeId} {fuel : Nat} {cs : List Value} (ht : P.underlying t = some .bool) (h : Told enc P w fuel t cs) : ∃ b, cs = [.bool b] := by
  obtain ⟨d, p, hd, _⟩ := h
  obtain ⟨b, h1, _⟩ := DataW.trod_bool ht hd
  exact ⟨b, h1⟩
theorem told_fld {t ft : TypeId} {f off fuel : Nat} {cs : List Value} (hf : fldS P t f = some off) (hft : ftS P t f = some ft) (h : Told enc P w fuel t cs) : ∃ g, fuel = g + 1 ∧ cs.length = P.cellsOf t ∧ Told enc P w g ft ((cs.drop off).take (P.cellsOf ft)) := by
  obtain ⟨d, p, hd, hw⟩ := h
  obtain ⟨fs, fl, hu, hfl, ho⟩ := fld_run hf
  unfold ftS at hft
  rw [hu] at hft
  simp only [hfl, Option.map_some, Option.some.injEq] at hft
  subst hft; subst ho
  obtain ⟨xs, n, rfl, hx, hlen, hxl, hg⟩ := DataW.trod_struct hu hd
  refine ⟨n, rfl, hlen, ?_⟩
  have hi : f < xs.length := by rw [hxl]; exact (Array.getElem?_eq_some_iff.1 hfl).1
  have hh := hg f fl hfl
  rw [List.getElem?_eq_getElem hi] at hh
  simp only [Prod.mk.injEq] at hx
  obtain ⟨rfl, _⟩ := hx
  refine ⟨⟨_, _, hh, fun m hm => hw m ?_⟩⟩
  simp only [DataW.weights, hu]
  refine DataW.weights_mem_each (j := f) (t := fl.type) (d := xs[f].1) ?_ ?_ m hm
  · rw [List.getElem?_map]
    have := hfl
    rw [← Array.getElem?_toList] at this
    rw [this]; rfl
  · rw [List.getElem?_map, List.getElem?_eq_getElem hi]; rfl
/-- A row of which each element is one cell, told by a function. -/
theorem row_map {α : Type} {sz n : Nat} {xs : List Value} {f : α → Value} (hl : xs.length = n) (h : ∀ i, i < n → ∃ a, (xs.drop (i * 1)).take 1 = [f a]) : ∃ l : List α, l.length = n ∧ xs = l.map f := by
  induction xs generalizing n with
  | nil => exact ⟨[], by simpa using hl, rfl⟩
  | cons x xs ih =>
    obtain ⟨a, ha⟩ := h 0 (by simp at hl; omega)
    simp at ha
    obtain ⟨l, h1, h2⟩ := ih (n := n - 1) (by simp at hl; omega) fun i hi => by
      obtain ⟨b, hb⟩ := h (i + 1) (by omega)
      exact ⟨b, by simpa using hb⟩
    exact ⟨a :: l, by simp at hl ⊢; omega, by simp [ha, h2]⟩
theorem told_ints {t e : TypeId} {k : IntKind} {fuel by_ : Nat} {cs : List Value} (ht : P.underlying t = some (.slice e)) (he : P.underlying e = some (.int k)) (hc : P.cellsOf e = 1) (hby : P.bytesOf e = by_) (hby1 : 1 ≤ by_) (h : Told enc P w fuel t cs) :
    ∃ ad n c, ∃ zs : List Int, cs = [.slice ad n c] ∧ n = zs.length ∧ n ≤ c ∧ c ≤ maxLen ∧ RowAt w 1 ad n (zs.map (.int k)) ∧ ∀ z ∈ zs, inR k z := by
  obtain ⟨f, ad, n, c, xs, rfl, rfl, h1, h2, R, hel⟩ := told_slice ht hc (by omega) hby hby1 h
  obtain ⟨l, hl, rfl⟩ := row_map (sz := 1) (f := fun a : { z : Int // inR k z } => Value.int k a.1) (by rw [R.len, Nat.mul_one]) fun i hi => by
    obtain ⟨z, hz, hr⟩ := told_int he (hel i hi)
    exact ⟨⟨z, hr⟩, hz⟩
  refine ⟨ad, n, c, l.map (·.1), rfl, by simp [hl], h1, h2, by rw [List.map_map]; exact R, fun z hz => ?_⟩
  obtain ⟨a, _, rfl⟩ := List.mem_map.1 hz
  exact a.2
theorem told_bools {t e : TypeId} {fuel by_ : Nat} {cs : List Value} (ht : P.underlying t = some (.slice e)) (he : P.underlying e = some .bool) (hc : P.cellsOf e = 1) (hby : P.bytesOf e = by_) (hby1 : 1 ≤ by_) (h : Told enc P w fuel t cs) :
    ∃ ad n c, ∃ zs : List Bool, cs = [.slice ad n c] ∧ n = zs.length ∧ n ≤ c ∧ c ≤ maxLen ∧ RowAt w 1 ad n (zs.map .bool) := by
  obtain ⟨f, ad, n, c, xs, rfl, rfl, h1, h2, R, hel⟩ := told_slice ht hc (by omega) hby hby1 h
  obtain ⟨l, hl, rfl⟩ := row_map (sz := 1) (f := fun a : Bool => Value.bool a) (by rw [R.len, Nat.mul_one]) fun i hi => told_bool he (hel i hi)
  exact ⟨ad, n, c, l, rfl, hl.symm, h1, h2, R⟩
theorem cells_slice {t e : TypeId} {r : Reach} {b0 : Nat} {v : Value} (ht : P.underlying t = some (.slice e)) (hv : Value.okWide P w r b0 t v) {ad : Option Addr} {n c : Nat} (h : v.cells.toList = [.slice ad n c]) : v = .slice ad n c := by
  unfold Value.okWide at hv
  rw [ht] at hv
  unfold Cell.okWide at hv
  rw [ht] at hv
  cases v <;> first | (simp only [Cell.ok, ht] at hv; done) | (simp [Value.cells] at h; try (obtain ⟨rfl, rfl, rfl⟩ := h); try rfl) | skip
theorem cells_agg {t : TypeId} {r : Reach} {b0 : Nat} {v : Value} {fs : Array Field} (ht : P.underlying t = some (.struct fs)) (hv : Value.okWide P w r b0 t v) : v = .agg v.cells := by
  unfold Value.okWide at hv
  rw [ht] at hv
  obtain ⟨cs, rfl, _⟩ := hv
  rfl
end
end Go.Proofs.Ytfhfecepcnapfaa.K
namespace Go.Proofs.Ytfhfecepcnapfaa.K
open Go Go.RowKit Go.ChangeShapes Go.WideShapes
structure PathT (P : Program) (TP TS TI : TypeId) : Prop where
  f0 : fldS P TP 0 = some 0
  f1 : fldS P TP 1 = some 1
  t0 : ftS P TP 0 = some TS
  t1 : ftS P TP 1 = some TI
  uS : P.underlying TS = some (.slice TI)
  uI : P.underlying TI = some (.int .i64)
  cP : P.cellsOf TP = 2
  cS : P.cellsOf TS = 1
  cI : P.cellsOf TI = 1
  bI : P.bytesOf TI = 8
section
variable {H : Type} {enc : TypeId × Value → H} {P : Program} {w : World} {TP TS TI : TypeId}
theorem two_takeP {c : List Value} {x0 x1 : Value} (h : c.length = 2) (h0 : (c.drop 0).take 1 = [x0]) (h1 : (c.drop 1).take 1 = [x1]) : c = [x0, x1] := by
  match c, h with
  | [y0, y1], _ => simp at h0 h1; simp [*]
theorem told_path (K : PathT P TP TS TI) {fuel : Nat} {cs : List Value} (h : Told enc P w fuel TP cs) :
    ∃ ad c, ∃ zs : List Int, ∃ a : Int, cs = [.slice ad zs.length c, .int .i64 a] ∧ zs.length ≤ c ∧ c ≤ maxLen ∧ RowAt w 1 ad zs.length (zs.map (.int .i64)) ∧ (∀ z ∈ zs, inR .i64 z) ∧ inR .i64 a := by
  obtain ⟨g, rfl, hl, q0⟩ := told_fld K.f0 K.t0 h
  obtain ⟨g1, hg1, _, q1⟩ := told_fld K.f1 K.t1 h
  rw [K.cS] at q0
  rw [K.cI] at q1
  rw [K.cP] at hl
  obtain ⟨ad, n, c, zs, e0, rfl, hc, hm, R, hz⟩ := told_ints K.uS K.uI K.cI K.bI (by omega) q0
  obtain ⟨a, e1, ha⟩ := told_int K.uI q1
  exact ⟨ad, c, zs, a, two_takeP hl e0 e1, hc, hm, R, hz, ha⟩
end
end Go.Proofs.Ytfhfecepcnapfaa.K
