/- Contracts of chapter 08's functions (printed by build08.py). -/
import Derived.Test.YthbcgfmoakokiaaT
import Derived.Test.YthbcgfmoakokiaaM08
import Derived.Test.YthbcgfmoakokiaaB08
import Derived.Test.YthbcgfmoakokiaaPtr
import Derived.Test.YthbcgfmoakokiaaBA
import Derived.Test.YthbcgfmoakokiaaBB
set_option linter.unusedVariables false
set_option linter.unusedSimpArgs false
namespace Go.Proofs.Ythbcgfmoakokiaa.K
open Go Go.RowKit Go.Proofs
attribute [local irreducible] Run1 OpG WL W AO Gives
set_option maxRecDepth 100000 in
theorem near_calls (w : World) {c : List Value} {t : Nd} (T : NodeR w c t) (off : Int) : Gives Try.prog 29 #[.agg c.toArray, .int .i64 off] w (.int .u64 (t.near off)) := by
 obtain @⟨kind, size, words, bytes, kids, ws, bs, ks, kc, hk, hs, hW, hwr, hB, hbr, hK, hKs⟩ := T
 obtain ⟨aw, cw, rfl, hcw, hcw2, RW⟩ := hW
 obtain ⟨ab, cb, rfl, hcb, hcb2, RB⟩ := hB
 obtain ⟨ak, ck, rfl, hck, hck2, RK⟩ := hK
 have lw := RW.lim
 have lb := RB.lim
 have lk := RK.lim
 simp only [inR] at hk hs
 have G := Grow.rfl' w
 refine gives_of Try.func29 Try.ntmps29 Try.results29 rfl rfl ?_
 refine W_seq (W_region rfl ?_)
 refine WL_some (og rfl ?_)
 (first | refine r_box_agg rfl ?_ | refine r_box_int rfl ?_ | refine r_box_slice rfl ?_ | refine r_box rfl rfl ?_)
 intro b1 w2 hb3 hc4 g5
 have hge6 := Nat.le_trans G.size hb3
 replace G := G.tr g5
 clear g5 hb3
 refine WL_some (og rfl ?_)
 (first | refine r_assign_int rfl ?_ | refine r_assign rfl ?_)
 refine WL_nil ?_
 refine W_seq (W_region rfl ?_)
 refine stp (r_fieldAddr rfl ?_)
 refine stp (r_load rfl (by assumption) (by rfl) ?_)
 refine WL_some (og rfl ?_)
 (first | refine r_move_int rfl ?_ | refine r_move rfl ?_)
 refine stp (r_build (v := .agg #[.int .i64 (kind), .int .i64 (off), .int .i64 (0), .int .i64 (0), .int .i64 (0), .int .i64 (0), .int .i64 (0), .bool false]) (fun w => by kernel_rfl) ?_)
 refine stp (r_alloc ?_)
 intro b7 w8 hb9 hc10 g11
 refine stn (r_storeAll rfl rfl hc10 (by rfl) (by rfl) (by rfl) ?_)
 intro w12 hc13 u14
 have g15 := g11.upd u14 hb9
 have hge16 := Nat.le_trans G.size hb9
 have ne17 := Nat.ne_of_lt (Nat.lt_of_lt_of_le (lt_of_heap hc4) hb9)
 replace hc4 := g15.heap hc4
 replace G := G.tr g15
 clear u14 g11 hb9 hc10
 refine WL_nil ?_
 refine W_seq ?_
 refine W_seq (W_region rfl ?_)
 refine stp (r_fieldAddr rfl ?_)
 refine stp (r_load rfl (by assumption) (by rfl) ?_)
 refine WL_nil ?_
 refine W_block ?_
 refine W_seq (W_region rfl ?_)
 refine WL_some (og rfl ?_)
 (first | (refine r_eql_t rfl rfl ?_ ?_; (first | assumption | omega)) | (refine r_eql_f rfl rfl ?_ ?_; (first | assumption | omega)) | refine r_eql rfl rfl ?_)
 refine WL_some (og rfl ?_)
 (first | refine r_assign_bool rfl ?_ | refine r_assign rfl ?_)
 refine WL_nil ?_
 refine W_cond2 rfl (fun k1 => ?_) (fun k1 => ?_)
 ·-- true
  first | (replace k1 := of_decide_eq_true k1) | (replace k1 := of_decide_eq_false k1) | skip
  refine W_anyM 10 [[], [0], [1, 0], [], [0], [1, 0], [5, 4, 3], [6, 5, 4, 0], [7, 6, 5, 4, 3, 2, 1, 0], [8, 7, 6, 5, 4, 3, 2, 1, 0]] [7, 9] [b7] (fun k_ w_ => match k_ with | 0 => w_.heap[b7]? = some (.cells #[.int .i64 (kind), .int .i64 (off), .int .i64 (0), .int .i64 (0), .int .i64 (0), .int .i64 (0), .int .i64 (0), .bool false] 77 (0, 0)) | 1 => w_.heap[b7]? = some (.cells #[.int .i64 (kind), .int .i64 (off), .int .i64 ((words.length : Int)), .int .i64 (0), .int .i64 (0), .int .i64 (0), .int .i64 (0), .bool false] 77 (0, 0)) | _ => w_.heap[b7]? = some (.cells #[.int .i64 (kind), .int .i64 (off), .int .i64 ((words.length : Int)), .int .i64 ((kids.length : Int)), .int .i64 (0), .int .i64 (0), .int .i64 (0), .bool false] 77 (0, 0))) mixed (by kernel_rfl) (by kernel_rfl) (by kernel_rfl) (by kernel_rfl) (fun k_ w_ w2_ g_ h_ => match k_, h_ with | 0, h_ => g_.heap h_ | 1, h_ => g_.heap h_ | n_ + 2, h_ => g_.heap h_) (fun w_ g_ => g_.heap hc13) ?_
  intro w18 g19
  replace hc4 := g19.heap hc4
  replace hc13 := g19.heap hc13
  replace G := G.tr g19
  clear g19
  apply AOM_ex (hm := by rfl)
  ·intro w_ g_; refine og rfl ?_; refine r_fieldAddr rfl ?_; exact ⟨Grow.rfl' _, rfl⟩
  apply AOM_ex (hm := by rfl)
  ·intro w_ g_; refine og rfl ?_; refine r_load rfl (by exact g_.heap (by assumption) (by simp; omega)) (by rfl) ?_; exact ⟨Grow.rfl' _, rfl⟩
  apply AOM_ex (hm := by rfl)
  ·intro w_ g_; refine og rfl ?_; refine r_len rfl rfl rfl ?_; exact ⟨Grow.rfl' _, rfl⟩
  apply AOM_ex (hm := by rfl)
  ·intro w_ g_; refine og rfl ?_; refine r_fieldAddr rfl ?_; exact ⟨Grow.rfl' _, rfl⟩
  apply AOM_ex (hm := by rfl)
  ·intro w_ g_; refine og rfl ?_; refine r_load rfl (by exact g_.heap (by assumption) (by simp; omega)) (by rfl) ?_; exact ⟨Grow.rfl' _, rfl⟩
  apply AOM_ex (hm := by rfl)
  ·intro w_ g_; refine og rfl ?_; refine r_len rfl rfl rfl ?_; exact ⟨Grow.rfl' _, rfl⟩
  apply AOM_ex (hm := by rfl)
  ·intro w_ g_; refine og rfl ?_; refine r_fieldAddr rfl ?_; exact ⟨Grow.rfl' _, rfl⟩
  apply AOM_mut 0 (hm := by rfl)
  ·intro w_ g_ s_
   refine og rfl ?_
   refine r_store1 (v := .int .i64 ((words.length : Int))) rfl rfl (by rfl) s_ (by rfl) (by rfl) ?_
   intro w2_ s2_ u_
   exact ⟨Kp.of_upd u_ (by simp), s2_, rfl⟩
  apply AOM_ex (hm := by rfl)
  ·intro w_ g_; refine og rfl ?_; refine r_fieldAddr rfl ?_; exact ⟨Grow.rfl' _, rfl⟩
  apply AOM_mut 1 (hm := by rfl)
  ·intro w_ g_ s_
   refine og rfl ?_
   refine r_store1 (v := .int .i64 ((kids.length : Int))) rfl rfl (by rfl) s_ (by rfl) (by rfl) ?_
   intro w2_ s2_ u_
   exact ⟨Kp.of_upd u_ (by simp), s2_, rfl⟩
  refine AOM_nil ?_
  intro w20 g21 S_
  clear hc13
  replace hc4 := g21.heap hc4 (by simp; omega)
  replace G := G.trK g21 (fun x hx => by simp at hx; subst hx; exact hge16)
  clear g21
  refine WL_nil ?_
  refine W_seq (W_region rfl ?_)
  refine stp (r_loadAll rfl S_ (by rfl) ?_)
  refine stp (r_gives rfl (encode_calls _ ⟨kind, off, (words.length : Int), (kids.length : Int), 0, 0, 0, false⟩) ?_)
  intro w22 g23
  replace hc4 := g23.heap hc4
  replace S_ := g23.heap S_
  replace G := G.tr g23
  clear g23
  refine WL_some (og rfl ?_)
  (first | refine r_move_tuple rfl ?_ | refine r_move rfl ?_)
  refine stp (r_extract rfl rfl ?_)
  refine stp (r_extract rfl rfl ?_)
  refine WL_some (og rfl ?_)
  (first | refine r_assign_int rfl ?_ | refine r_assign rfl ?_)
  refine WL_some (og rfl ?_)
  (first | refine r_assign_int rfl ?_ | refine r_assign rfl ?_)
  refine WL_nil ?_
  refine W_seq (W_region rfl ?_)
  refine WL_some (og rfl ?_)
  (first | refine r_move_int rfl ?_ | refine r_move rfl ?_)
  refine WL_some (og rfl ?_)
  (first | refine r_assign_int rfl ?_ | refine r_assign rfl ?_)
  refine WL_nil ?_
  refine W_ret ?_
  refine ret1 (res_int rfl) ⟨?_, G⟩
  simp [Nd.near, Nd.ptr, k1]
 ·-- false
  first | (replace k1 := of_decide_eq_true k1) | (replace k1 := of_decide_eq_false k1) | skip
  refine W_seq (W_region rfl ?_)
  refine WL_some (og rfl ?_)
  (first | (refine r_eql_t rfl rfl ?_ ?_; (first | assumption | omega)) | (refine r_eql_f rfl rfl ?_ ?_; (first | assumption | omega)) | refine r_eql rfl rfl ?_)
  refine WL_some (og rfl ?_)
  (first | refine r_assign_bool rfl ?_ | refine r_assign rfl ?_)
  refine WL_nil ?_
  refine W_cond2 rfl (fun k2 => ?_) (fun k2 => ?_)
  ·-- true
   first | (replace k2 := of_decide_eq_true k2) | (replace k2 := of_decide_eq_false k2) | skip
   refine W_anyM 17 [[], [0], [], [0], [1, 0], [], [0], [1, 0], [5, 4, 3, 2, 1, 0], [], [0], [1, 0], [9, 8, 7, 6, 5, 4, 3, 2, 1, 0], [12, 11], [13, 12, 0], [14, 13, 12, 11, 10, 9, 8, 7, 6, 5, 4, 3, 2, 1, 0], [15, 14, 13, 12, 11, 10, 9, 8, 7, 6, 5, 4, 3, 2, 1, 0]] [14, 16] [b7] (fun k_ w_ => match k_ with | 0 => w_.heap[b7]? = some (.cells #[.int .i64 (kind), .int .i64 (off), .int .i64 (0), .int .i64 (0), .int .i64 (0), .int .i64 (0), .int .i64 (0), .bool false] 77 (0, 0)) | 1 => w_.heap[b7]? = some (.cells #[.int .i64 (kind), .int .i64 (off), .int .i64 (0), .int .i64 (0), .int .i64 (size), .int .i64 (0), .int .i64 (0), .bool false] 77 (0, 0)) | _ => w_.heap[b7]? = some (.cells #[.int .i64 (kind), .int .i64 (off), .int .i64 (0), .int .i64 (0), .int .i64 (size), .int .i64 (((words.length : Int) + kids.length + bytes.length)), .int .i64 (0), .bool false] 77 (0, 0))) mixed (by kernel_rfl) (by kernel_rfl) (by kernel_rfl) (by kernel_rfl) (fun k_ w_ w2_ g_ h_ => match k_, h_ with | 0, h_ => g_.heap h_ | 1, h_ => g_.heap h_ | n_ + 2, h_ => g_.heap h_) (fun w_ g_ => g_.heap hc13) ?_
   intro w24 g25
   replace hc4 := g25.heap hc4
   replace hc13 := g25.heap hc13
   replace G := G.tr g25
   clear g25
   apply AOM_ex (hm := by rfl)
   ·intro w_ g_; refine og rfl ?_; refine r_fieldAddr rfl ?_; exact ⟨Grow.rfl' _, rfl⟩
   apply AOM_ex (hm := by rfl)
   ·intro w_ g_; refine og rfl ?_; refine r_load rfl (by exact g_.heap (by assumption) (by simp; omega)) (by rfl) ?_; exact ⟨Grow.rfl' _, rfl⟩
   apply AOM_ex (hm := by rfl)
   ·intro w_ g_; refine og rfl ?_; refine r_fieldAddr rfl ?_; exact ⟨Grow.rfl' _, rfl⟩
   apply AOM_ex (hm := by rfl)
   ·intro w_ g_; refine og rfl ?_; refine r_load rfl (by exact g_.heap (by assumption) (by simp; omega)) (by rfl) ?_; exact ⟨Grow.rfl' _, rfl⟩
   apply AOM_ex (hm := by rfl)
   ·intro w_ g_; refine og rfl ?_; refine r_len rfl rfl rfl ?_; exact ⟨Grow.rfl' _, rfl⟩
   apply AOM_ex (hm := by rfl)
   ·intro w_ g_; refine og rfl ?_; refine r_fieldAddr rfl ?_; exact ⟨Grow.rfl' _, rfl⟩
   apply AOM_ex (hm := by rfl)
   ·intro w_ g_; refine og rfl ?_; refine r_load rfl (by exact g_.heap (by assumption) (by simp; omega)) (by rfl) ?_; exact ⟨Grow.rfl' _, rfl⟩
   apply AOM_ex (hm := by rfl)
   ·intro w_ g_; refine og rfl ?_; refine r_len rfl rfl rfl ?_; exact ⟨Grow.rfl' _, rfl⟩
   apply AOM_ex (hm := by rfl)
   ·intro w_ g_; refine og rfl ?_; (first | (refine r_add rfl rfl ?_ ?_; (constructor <;> omega)) | refine r_addw rfl rfl ?_); exact ⟨Grow.rfl' _, rfl⟩
   apply AOM_ex (hm := by rfl)
   ·intro w_ g_; refine og rfl ?_; refine r_fieldAddr rfl ?_; exact ⟨Grow.rfl' _, rfl⟩
   apply AOM_ex (hm := by rfl)
   ·intro w_ g_; refine og rfl ?_; refine r_load rfl (by exact g_.heap (by assumption) (by simp; omega)) (by rfl) ?_; exact ⟨Grow.rfl' _, rfl⟩
   apply AOM_ex (hm := by rfl)
   ·intro w_ g_; refine og rfl ?_; refine r_len rfl rfl rfl ?_; exact ⟨Grow.rfl' _, rfl⟩
   apply AOM_ex (hm := by rfl)
   ·intro w_ g_; refine og rfl ?_; (first | (refine r_add rfl rfl ?_ ?_; (constructor <;> omega)) | refine r_addw rfl rfl ?_); exact ⟨Grow.rfl' _, rfl⟩
   apply AOM_ex (hm := by rfl)
   ·intro w_ g_; refine og rfl ?_; refine r_fieldAddr rfl ?_; exact ⟨Grow.rfl' _, rfl⟩
   apply AOM_mut 0 (hm := by rfl)
   ·intro w_ g_ s_
    refine og rfl ?_
    refine r_store1 (v := .int .i64 (size)) rfl rfl (by rfl) s_ (by rfl) (by rfl) ?_
    intro w2_ s2_ u_
    exact ⟨Kp.of_upd u_ (by simp), s2_, rfl⟩
   apply AOM_ex (hm := by rfl)
   ·intro w_ g_; refine og rfl ?_; refine r_fieldAddr rfl ?_; exact ⟨Grow.rfl' _, rfl⟩
   apply AOM_mut 1 (hm := by rfl)
   ·intro w_ g_ s_
    refine og rfl ?_
    refine r_store1 (v := .int .i64 (((words.length : Int) + kids.length + bytes.length))) rfl rfl (by rfl) s_ (by rfl) (by rfl) ?_
    intro w2_ s2_ u_
    exact ⟨Kp.of_upd u_ (by simp), s2_, rfl⟩
   refine AOM_nil ?_
   intro w26 g27 S_
   clear hc13
   replace hc4 := g27.heap hc4 (by simp; omega)
   replace G := G.trK g27 (fun x hx => by simp at hx; subst hx; exact hge16)
   clear g27
   refine WL_nil ?_
   refine W_seq (W_region rfl ?_)
   refine stp (r_loadAll rfl S_ (by rfl) ?_)
   refine stp (r_gives rfl (encode_calls _ ⟨kind, off, 0, 0, size, ((words.length : Int) + kids.length + bytes.length), 0, false⟩) ?_)
   intro w28 g29
   replace hc4 := g29.heap hc4
   replace S_ := g29.heap S_
   replace G := G.tr g29
   clear g29
   refine WL_some (og rfl ?_)
   (first | refine r_move_tuple rfl ?_ | refine r_move rfl ?_)
   refine stp (r_extract rfl rfl ?_)
   refine stp (r_extract rfl rfl ?_)
   refine WL_some (og rfl ?_)
   (first | refine r_assign_int rfl ?_ | refine r_assign rfl ?_)
   refine WL_some (og rfl ?_)
   (first | refine r_assign_int rfl ?_ | refine r_assign rfl ?_)
   refine WL_nil ?_
   refine W_seq (W_region rfl ?_)
   refine WL_some (og rfl ?_)
   (first | refine r_move_int rfl ?_ | refine r_move rfl ?_)
   refine WL_some (og rfl ?_)
   (first | refine r_assign_int rfl ?_ | refine r_assign rfl ?_)
   refine WL_nil ?_
   refine W_ret ?_
   refine ret1 (res_int rfl) ⟨?_, G⟩
   simp [Nd.near, Nd.ptr, k1, k2]
  ·-- false
   first | (replace k2 := of_decide_eq_true k2) | (replace k2 := of_decide_eq_false k2) | skip
   refine W_skip ?_
   refine W_seq (W_region rfl ?_)
   refine stp (r_loadAll rfl hc13 (by rfl) ?_)
   refine stp (r_gives rfl (encode_calls _ ⟨kind, off, 0, 0, 0, 0, 0, false⟩) ?_)
   intro w30 g31
   replace hc4 := g31.heap hc4
   replace hc13 := g31.heap hc13
   replace G := G.tr g31
   clear g31
   refine WL_some (og rfl ?_)
   (first | refine r_move_tuple rfl ?_ | refine r_move rfl ?_)
   refine stp (r_extract rfl rfl ?_)
   refine stp (r_extract rfl rfl ?_)
   refine WL_some (og rfl ?_)
   (first | refine r_assign_int rfl ?_ | refine r_assign rfl ?_)
   refine WL_some (og rfl ?_)
   (first | refine r_assign_int rfl ?_ | refine r_assign rfl ?_)
   refine WL_nil ?_
   refine W_seq (W_region rfl ?_)
   refine WL_some (og rfl ?_)
   (first | refine r_move_int rfl ?_ | refine r_move rfl ?_)
   refine WL_some (og rfl ?_)
   (first | refine r_assign_int rfl ?_ | refine r_assign rfl ?_)
   refine WL_nil ?_
   refine W_ret ?_
   refine ret1 (res_int rfl) ⟨?_, G⟩
   simp [Nd.near, Nd.ptr, k1, k2]

set_option maxRecDepth 100000 in
theorem rnear_calls (w : World) {c : List Value} {t : Nd} (T : NodeR w c t) (off : Int) (hk12 : t.kind = 1 ∨ t.kind = 2) : Gives Try.prog 41 #[.agg c.toArray, .int .i64 off] w (.int .u64 (t.near off)) := by
 obtain @⟨kind, size, words, bytes, kids, ws, bs, ks, kc, hk, hs, hW, hwr, hB, hbr, hK, hKs⟩ := T
 obtain ⟨aw, cw, rfl, hcw, hcw2, RW⟩ := hW
 obtain ⟨ab, cb, rfl, hcb, hcb2, RB⟩ := hB
 obtain ⟨ak, ck, rfl, hck, hck2, RK⟩ := hK
 have lw := RW.lim
 have lb := RB.lim
 have lk := RK.lim
 simp only [inR] at hk hs
 simp only [Nd.kind] at hk12
 have G := Grow.rfl' w
 refine gives_of Try.func41 Try.ntmps41 Try.results41 rfl rfl ?_
 refine W_seq (W_region rfl ?_)
 refine WL_some (og rfl ?_)
 (first | refine r_box_agg rfl ?_ | refine r_box_int rfl ?_ | refine r_box_slice rfl ?_ | refine r_box rfl rfl ?_)
 intro b1 w2 hb3 hc4 g5
 have hge6 := Nat.le_trans G.size hb3
 replace G := G.tr g5
 clear g5 hb3
 refine WL_some (og rfl ?_)
 (first | refine r_assign_int rfl ?_ | refine r_assign rfl ?_)
 refine WL_nil ?_
 refine W_seq (W_region rfl ?_)
 refine stp (r_fieldAddr rfl ?_)
 refine stp (r_load rfl (by assumption) (by rfl) ?_)
 refine WL_some (og rfl ?_)
 (first | refine r_move_int rfl ?_ | refine r_move rfl ?_)
 refine stp (r_fieldAddr rfl ?_)
 refine stp (r_load rfl (by assumption) (by rfl) ?_)
 refine stp (r_len rfl rfl rfl ?_)
 refine stp (r_fieldAddr rfl ?_)
 refine stp (r_load rfl (by assumption) (by rfl) ?_)
 refine stp (r_len rfl rfl rfl ?_)
 refine stp (r_build (v := .agg #[.int .i64 (kind), .int .i64 (off), .int .i64 ((words.length : Int)), .int .i64 ((kids.length : Int)), .int .i64 (0), .int .i64 (0), .int .i64 (0), .bool false]) (fun w => by kernel_rfl) ?_)
 refine stp (r_alloc ?_)
 intro b7 w8 hb9 hc10 g11
 refine stn (r_storeAll rfl rfl hc10 (by rfl) (by rfl) (by rfl) ?_)
 intro w12 hc13 u14
 have g15 := g11.upd u14 hb9
 have hge16 := Nat.le_trans G.size hb9
 have ne17 := Nat.ne_of_lt (Nat.lt_of_lt_of_le (lt_of_heap hc4) hb9)
 replace hc4 := g15.heap hc4
 replace G := G.tr g15
 clear u14 g11 hb9 hc10
 refine WL_nil ?_
 refine W_seq ?_
 refine W_seq (W_region rfl ?_)
 refine stp (r_fieldAddr rfl ?_)
 refine stp (r_load rfl (by assumption) (by rfl) ?_)
 refine WL_some (og rfl ?_)
 (first | (refine r_eql_t rfl rfl ?_ ?_; (first | assumption | omega)) | (refine r_eql_f rfl rfl ?_ ?_; (first | assumption | omega)) | refine r_eql rfl rfl ?_)
 refine WL_nil ?_
 refine W_cond2 rfl (fun k2 => ?_) (fun k2 => ?_)
 ·-- true
  first | (replace k2 := of_decide_eq_true k2) | (replace k2 := of_decide_eq_false k2) | skip
  refine W_region rfl ?_
  refine WL_some (og rfl ?_)
  (first | refine r_move_int rfl ?_ | refine r_move rfl ?_)
  refine stp (r_fieldAddr rfl ?_)
  refine stp (r_load rfl (by assumption) (by rfl) ?_)
  refine stp (r_fieldAddr rfl ?_)
  refine stp (r_load rfl (by assumption) (by rfl) ?_)
  refine stp (r_len rfl rfl rfl ?_)
  refine stp (r_fieldAddr rfl ?_)
  refine stp (r_load rfl (by assumption) (by rfl) ?_)
  refine stp (r_len rfl rfl rfl ?_)
  refine WL_some (og rfl ?_)
  (first | (refine r_add rfl rfl ?_ ?_; (constructor <;> omega)) | refine r_addw rfl rfl ?_)
  refine stp (r_fieldAddr rfl ?_)
  refine stp (r_load rfl (by assumption) (by rfl) ?_)
  refine stp (r_len rfl rfl rfl ?_)
  refine WL_some (og rfl ?_)
  (first | (refine r_add rfl rfl ?_ ?_; (constructor <;> omega)) | refine r_addw rfl rfl ?_)
  refine stp (r_build (v := .agg #[.int .i64 (2), .int .i64 (off), .int .i64 (0), .int .i64 (0), .int .i64 (size), .int .i64 (((words.length : Int) + kids.length + bytes.length)), .int .i64 (0), .bool false]) (fun w => by kernel_rfl) ?_)
  refine stn (r_storeAll rfl rfl hc13 (by rfl) (by rfl) (by rfl) ?_)
  intro w21 hc22 u23
  replace hc4 := u23.heap hc4 ne17
  replace G := G.upd u23 hge16
  clear u23 hc13
  refine WL_nil ?_
  refine W_seq (W_region rfl ?_)
  refine WL_some (og rfl ?_)
  (first | refine r_loadAll rfl (by assumption) (by rfl) ?_ | refine r_loadN rfl (by assumption) (by rfl) (by rfl) ?_)
  refine stp (r_gives rfl (rencode_calls _ ⟨2, off, 0, 0, size, ((words.length : Int) + kids.length + bytes.length), 0, false⟩) ?_)
  intro w24 g25
  replace hc4 := g25.heap hc4
  replace hc22 := g25.heap hc22
  replace G := G.tr g25
  clear g25
  refine WL_some (og rfl ?_)
  (first | refine r_move_tuple rfl ?_ | refine r_move rfl ?_)
  refine stp (r_extract rfl rfl ?_)
  refine stp (r_extract rfl rfl ?_)
  refine WL_some (og rfl ?_)
  (first | refine r_assign_int rfl ?_ | refine r_assign rfl ?_)
  refine WL_some (og rfl ?_)
  (first | refine r_assign_int rfl ?_ | refine r_assign rfl ?_)
  refine WL_nil ?_
  refine W_seq (W_region rfl ?_)
  refine WL_some (og rfl ?_)
  (first | refine r_move_int rfl ?_ | refine r_move rfl ?_)
  refine WL_some (og rfl ?_)
  (first | refine r_assign_int rfl ?_ | refine r_assign rfl ?_)
  refine WL_nil ?_
  refine W_ret ?_
  refine ret1 (res_int rfl) ⟨?_, G⟩
  subst k2
  simp [Nd.near, Nd.ptr]
 ·-- false
  first | (replace k2 := of_decide_eq_true k2) | (replace k2 := of_decide_eq_false k2) | skip
  have k1 : kind = 1 := by omega
  refine W_skip ?_
  refine W_seq (W_region rfl ?_)
  refine WL_some (og rfl ?_)
  (first | refine r_loadAll rfl (by assumption) (by rfl) ?_ | refine r_loadN rfl (by assumption) (by rfl) (by rfl) ?_)
  refine stp (r_gives rfl (rencode_calls _ ⟨kind, off, (words.length : Int), (kids.length : Int), 0, 0, 0, false⟩) ?_)
  intro w26 g27
  replace hc4 := g27.heap hc4
  replace hc13 := g27.heap hc13
  replace G := G.tr g27
  clear g27
  refine WL_some (og rfl ?_)
  (first | refine r_move_tuple rfl ?_ | refine r_move rfl ?_)
  refine stp (r_extract rfl rfl ?_)
  refine stp (r_extract rfl rfl ?_)
  refine WL_some (og rfl ?_)
  (first | refine r_assign_int rfl ?_ | refine r_assign rfl ?_)
  refine WL_some (og rfl ?_)
  (first | refine r_assign_int rfl ?_ | refine r_assign rfl ?_)
  refine WL_nil ?_
  refine W_seq (W_region rfl ?_)
  refine WL_some (og rfl ?_)
  (first | refine r_move_int rfl ?_ | refine r_move rfl ?_)
  refine WL_some (og rfl ?_)
  (first | refine r_assign_int rfl ?_ | refine r_assign rfl ?_)
  refine WL_nil ?_
  refine W_ret ?_
  refine ret1 (res_int rfl) ⟨?_, G⟩
  simp [Nd.near, Nd.ptr, k1]

set_option maxRecDepth 100000 in
theorem rfar_calls (w : World) (seg at_ : Int) : Gives Try.prog 43 #[.int .i64 seg, .int .i64 at_] w (.int .u64 (farP seg at_)) := by
 have G := Grow.rfl' w
 refine gives_of Try.func43 Try.ntmps43 Try.results43 rfl rfl ?_
 refine W_seq (W_region rfl ?_)
 refine WL_some (og rfl ?_)
 (first | refine r_assign_int rfl ?_ | refine r_assign rfl ?_)
 refine WL_nil ?_
 refine W_seq (W_region rfl ?_)
 refine WL_some (og rfl ?_)
 (first | refine r_move_int rfl ?_ | refine r_move rfl ?_)
 refine WL_some (og rfl ?_)
 (first | refine r_move_int rfl ?_ | refine r_move rfl ?_)
 refine stp (r_build (v := .agg #[.int .i64 (3), .int .i64 (at_), .int .i64 (0), .int .i64 (0), .int .i64 (0), .int .i64 (0), .int .i64 (seg), .bool false]) (fun w => by kernel_rfl) ?_)
 refine stp (r_gives rfl (rencode_calls _ ⟨3, at_, 0, 0, 0, 0, seg, false⟩) ?_)
 intro w1 g2
 replace G := G.tr g2
 clear g2
 refine WL_some (og rfl ?_)
 (first | refine r_move_tuple rfl ?_ | refine r_move rfl ?_)
 refine stp (r_extract rfl rfl ?_)
 refine stp (r_extract rfl rfl ?_)
 refine WL_some (og rfl ?_)
 (first | refine r_assign_int rfl ?_ | refine r_assign rfl ?_)
 refine WL_some (og rfl ?_)
 (first | refine r_assign_int rfl ?_ | refine r_assign rfl ?_)
 refine WL_nil ?_
 refine W_seq (W_region rfl ?_)
 refine WL_some (og rfl ?_)
 (first | refine r_move_int rfl ?_ | refine r_move rfl ?_)
 refine WL_some (og rfl ?_)
 (first | refine r_assign_int rfl ?_ | refine r_assign rfl ?_)
 refine WL_nil ?_
 refine W_ret ?_
 exact ret1 (res_int rfl) ⟨rfl, G⟩

set_option maxRecDepth 100000 in
theorem grow_calls (w : World) {bB q base : Nat} {so lv : Value} {segs : List Value} {A : List (List Int)} {size all : Int} {l : List Int} (h : BldAt 54 22 44 w bB (so) segs A size all) (hq : q ≤ A.length) (ol : w.ownsRow base 44 1 lv l.length (wordsV l)) (hb : ∀ k ∈ blks bB so segs, k < base) (hbw : base ≤ w.heap.size) (hA : A.length ≤ 1000) (hAs : ∀ s ∈ A, s.length ≤ 100000) (hl : l.length ≤ 100000) (ha0 : 0 ≤ all) (ha1 : all ≤ 1000000) : Calls Try.prog 31 #[.pointer (some ⟨bB, 0, none⟩), .int .i64 (q : Int), lv] w (Ret fun v w' => v = .bool (decide (((growA A q l).length : Int) ≤ 16) && (decide ((((growA A q l).getD q []).length : Int) ≤ size) && decide (all + l.length ≤ 4096))) ∧ ∃ so' segs', BldAt 54 22 44 w' bB (so') segs' (growA A q l) size (all + l.length) ∧ Kp (blks bB so segs) w w' ∧ ∀ k ∈ blks bB so' segs', k ∈ blks bB so segs ∨ w.heap.size ≤ k) := by
 obtain ⟨ado, co, rfl, hco, hco2, RO⟩ := own_row h.out (by omega)
 obtain ⟨adl, cl, rfl, hcl, hcl2, RL⟩ := own_row ol (by omega)
 have hbox := h.box
 have K0 := Kp.refl (blks bB (.slice ado A.length co) segs) w
 have ol0 := ol
 refine calls_ret Try.func31 Try.ntmps31 Try.results31 rfl rfl ?_
 refine W_seq (W_region rfl ?_)
 refine WL_some (og rfl ?_)
 (first | refine r_assign_bool rfl ?_ | refine r_assign rfl ?_)
 refine WL_nil ?_
 refine W_cut1 (fun e_ w_ => ∃ (so2 : Value) (segs2 : List Value), Fr [(0, .pointer (some ⟨bB, 0, none⟩)), (1, .int .i64 (q : Int)), (2, .slice adl l.length cl)] e_ ∧ (BldAt 54 22 44 w_ bB (so2) segs2 (growB A q) size all) ∧ (Kp (blks bB (.slice ado A.length co) segs) w w_) ∧ (∀ k ∈ blks bB so2 segs2, k ∈ blks bB (.slice ado A.length co) segs ∨ w.heap.size ≤ k)) ?_ ?_
 ·-- the parts
  refine W_seq (W_region rfl ?_)
  refine WL_some (og rfl ?_)
  (first | refine r_move_int rfl ?_ | refine r_move rfl ?_)
  refine WL_some (og rfl ?_)
  (first | refine r_move_ptr rfl ?_ | refine r_move rfl ?_)
  refine stp (r_nilCheck rfl ?_)
  refine stp (r_fieldAddr rfl ?_)
  refine stp (r_load rfl (by assumption) (by rfl) ?_)
  refine stp (r_len rfl rfl rfl ?_)
  refine WL_some (og rfl ?_)
  (first | (refine r_eql_t rfl rfl ?_ ?_; (first | assumption | omega)) | (refine r_eql_f rfl rfl ?_ ?_; (first | assumption | omega)) | refine r_eql rfl rfl ?_)
  refine WL_nil ?_
  refine W_cond2 rfl (fun hq0 => ?_) (fun hq0 => ?_)
  ·-- true
   first | (replace hq0 := of_decide_eq_true hq0) | (replace hq0 := of_decide_eq_false hq0) | skip
   have hqA : q = A.length := by omega
   refine W_region rfl ?_
   refine WL_some (og rfl ?_)
   (first | refine r_move_ptr rfl ?_ | refine r_move rfl ?_)
   refine WL_some (og rfl ?_)
   (first | refine r_move_ptr rfl ?_ | refine r_move rfl ?_)
   refine stp (r_nilCheck rfl ?_)
   refine stp (r_fieldAddr rfl ?_)
   refine stp (r_load rfl (by assumption) (by rfl) ?_)
   refine stp (r_buildSlice (cs := #[.slice none 0 0]) (el := 22) (fun w => by kernel_rfl) ?_)
   intro bs w5 hbs hcs g5
   replace hbox := g5.heap hbox
   replace h := h.grow g5
   replace ol := own_grow ol g5
   replace K0 := K0.tr g5.kp
   refine stp (r_appendB rfl rfl rfl rfl h.out (Row.of_block (n := 1) hcs rfl rfl (by omega)) (fun q_ hq_ => by simp at hq_; subst hq_; rfl) (by simp only [maxLen]; omega) (by omega) (Nat.zero_le _) ?_)
   intro so1 w6 ho6 gr6 hbk6
   have hbox6 := gr_heap gr6 hbox (own_ne h.out hbox (by decide))
   refine stp (r_nilCheck rfl ?_)
   refine stp (r_fieldAddr rfl ?_)
   refine stn (r_store1 (v := so1) rfl rfl (own_one ho6) hbox6 (by rfl) (by rfl) ?_)
   intro w7 hb7 u7
   have h7 := h.push (by decide) (by decide) (by decide) ho6 gr6 hb7 u7
   refine WL_nil ?_
   have hK7 : Kp (blks bB (.slice ado A.length co) segs) w w7 := (K0.tr (Kp.of_grownBy gr6 (fun k hk => mem_blks.2 (.inr (.inl hk))))).tr (Kp.of_upd u7 (mem_blks.2 (.inl rfl)))
   have hnb : ∀ k ∈ blks bB so1 (segs ++ [.slice none 0 0]), k ∈ blks bB (.slice ado A.length co) segs ∨ w.heap.size ≤ k := by
    intro k hk
    rcases mem_blks.1 hk with hk | hk | ⟨i, v, hv, hk⟩
    ·exact .inl (mem_blks.2 (.inl hk))
    ·rcases hbk6 with hb | hb
     ·exact .inl (mem_blks.2 (.inr (.inl (hb ▸ hk))))
     ·rw [hb] at hk; simp only [Option.some.injEq] at hk; have := K0.size; omega
    ·rcases Nat.lt_or_ge i segs.length with hi | hi
     ·rw [List.getElem?_append_left hi] at hv; exact .inl (mem_blks.2 (.inr (.inr ⟨i, v, hv, hk⟩)))
     ·rw [List.getElem?_append_right hi] at hv; have := List.mem_of_getElem? hv; simp at this; subst this; simp [Value.ownBlock] at hk
   have hgB : growB A q = A ++ [[]] := by unfold growB; rw [if_pos hqA]
   rw [hgB]
   exact ⟨so1, segs ++ [.slice none 0 0], fr_of ⟨rfl, rfl, rfl, trivial⟩, h7, hK7, hnb⟩
  ·-- false
   first | (replace hq0 := of_decide_eq_true hq0) | (replace hq0 := of_decide_eq_false hq0) | skip
   have hqA : ¬ q = A.length := by omega
   refine W_skip ?_
   have hgB : growB A q = A := by unfold growB; rw [if_neg hqA]
   rw [hgB]
   exact ⟨_, segs, fr_of ⟨rfl, rfl, rfl, trivial⟩, h, K0, fun k hk => .inl hk⟩
 ·-- behind them
  clear hbox h ol K0
  rintro e_ w1 ⟨so2, segs2, ⟨e2, rfl⟩, h2, K2, hnb⟩
  obtain ⟨hqB, hlB⟩ := growB_len hq
  have hsB := growB_at (A := A) (q := q) hAs
  obtain ⟨sv, hsv, osv⟩ := h2.at_ hqB
  have hgd : (growB A q).getD q [] = (growB A q)[q] := by rw [List.getD_eq_getElem?_getD, List.getElem?_eq_getElem hqB]; rfl
  rw [hgd] at hsB
  have hgA : (growB A q)[q]? = some (growB A q)[q] := List.getElem?_eq_getElem hqB
  have hfin : growA A q l = (growB A q).set q ((growB A q)[q] ++ l) := by unfold growA; rw [hgd]
  rw [hfin]
  have hgl : (growB A q).length = (growB A q).length := rfl
  generalize (growB A q)[q] = ws at *
  generalize growB A q = B at *
  rcases h2.out.2 with ⟨_, h0⟩ | ⟨go, co2, cur, hso2, _, hgo, hc1, hc2, hc3, hc4⟩
  ·omega
  subst hso2
  have hcur : cur[0 + q * 1]? = some sv := by
   have h := row_cell (o := 0) (cs := cur) (xs := segs2) (m := B.length * 1) (by simpa using hc4) hsv
   simpa using h
  obtain ⟨ads, cs_, rfl, hcs1, hcs2, RS⟩ := own_row osv (by omega)
  have hbox2 := h2.box
  have ne1 := own_ne osv hbox2 (by decide)
  have ne2 := own_ne osv hgo (by decide)
  skip
  have lvb := fun k (hk : (Value.slice adl l.length cl).ownBlock = some k) => ol0.lt k hk
  have ol2 := own_keepB ol0 K2 (fun k hk hm => by have := lvb k hk; have := hb k hm; omega)
  have nlF : ∀ k, (Value.slice adl l.length cl).ownBlock = some k → k ∉ (Value.slice ads ws.length cs_).ownBlock.toList := by
   intro k hk hm
   rw [Option.mem_toList] at hm
   have h1 := lvb k hk
   rcases hnb k (mem_blks.2 (.inr (.inr ⟨q, _, hsv, hm⟩))) with h | h
   ·have := hb k h; omega
   ·omega
  refine W_seq ?_
  refine W_anyM 14 [[], [0], [1, 0], [2, 1, 0], [], [], [0], [1, 0], [2, 1, 0], [], [4, 3, 2, 1, 0], [5, 4, 3, 2, 1, 0], [], [7, 6, 5, 4, 3, 2, 1, 0]] [13] (Value.slice ads ws.length cs_).ownBlock.toList (fun k_ w_ => match k_ with | 0 => w_.ownsRow 0 44 1 (.slice ads ws.length cs_) ws.length (wordsV ws) | _ => True) mixed (by kernel_rfl) (by kernel_rfl) (by kernel_rfl) (by kernel_rfl) (fun k_ w_ w2_ g_ h_ => match k_, h_ with | 0, h_ => own_grow h_ g_ | n_ + 1, h_ => trivial) (fun w_ g_ => own_grow osv g_) ?_
  intro wr g3
  replace h2 := h2.grow g3
  replace K2 := K2.tr g3.kp
  replace hgo := g3.heap hgo
  replace hbox2 := g3.heap hbox2
  replace osv := own_grow osv g3
  replace ol2 := own_grow ol2 g3
  clear g3
  apply AOM_ex (hm := by rfl)
  ·intro w_ g_; refine og rfl ?_; (first | refine r_move_ptr rfl ?_ | refine r_move rfl ?_); exact ⟨Grow.rfl' _, rfl⟩
  apply AOM_ex (hm := by rfl)
  ·intro w_ g_; refine og rfl ?_; refine r_nilCheck rfl ?_; exact ⟨Grow.rfl' _, rfl⟩
  apply AOM_ex (hm := by rfl)
  ·intro w_ g_; refine og rfl ?_; refine r_fieldAddr rfl ?_; exact ⟨Grow.rfl' _, rfl⟩
  apply AOM_ex (hm := by rfl)
  ·intro w_ g_
   refine og rfl ?_
   refine r_load rfl (g_.heap hbox2 (by rw [Option.mem_toList]; exact ne1)) (by rfl) ?_
   exact ⟨Grow.rfl' _, rfl⟩
  apply AOM_ex (hm := by rfl)
  ·intro w_ g_; refine og rfl ?_; (first | refine r_move_int rfl ?_ | refine r_move rfl ?_); exact ⟨Grow.rfl' _, rfl⟩
  apply AOM_ex (hm := by rfl)
  ·intro w_ g_; refine og rfl ?_; (first | refine r_move_ptr rfl ?_ | refine r_move rfl ?_); exact ⟨Grow.rfl' _, rfl⟩
  apply AOM_ex (hm := by rfl)
  ·intro w_ g_; refine og rfl ?_; refine r_nilCheck rfl ?_; exact ⟨Grow.rfl' _, rfl⟩
  apply AOM_ex (hm := by rfl)
  ·intro w_ g_; refine og rfl ?_; refine r_fieldAddr rfl ?_; exact ⟨Grow.rfl' _, rfl⟩
  apply AOM_ex (hm := by rfl)
  ·intro w_ g_
   refine og rfl ?_
   refine r_load rfl (g_.heap hbox2 (by rw [Option.mem_toList]; exact ne1)) (by rfl) ?_
   exact ⟨Grow.rfl' _, rfl⟩
  apply AOM_ex (hm := by rfl)
  ·intro w_ g_; refine og rfl ?_; (first | refine r_move_int rfl ?_ | refine r_move rfl ?_); exact ⟨Grow.rfl' _, rfl⟩
  apply AOM_ex (hm := by rfl)
  ·intro w_ g_
   refine og rfl ?_
   refine r_indexAddr rfl rfl (by omega) (by omega) ?_
   rw [Int.toNat_natCast]
   exact ⟨Grow.rfl' _, rfl⟩
  apply AOM_ex (hm := by rfl)
  ·intro w_ g_
   refine og rfl ?_
   refine r_load (v := .slice ads ws.length cs_) rfl (g_.heap hgo (by rw [Option.mem_toList]; exact ne2)) hcur ?_
   exact ⟨Grow.rfl' _, rfl⟩
  apply AOM_ex (hm := by rfl)
  ·intro w_ g_; refine og rfl ?_; (first | refine r_move_slice rfl ?_ | refine r_move rfl ?_); exact ⟨Grow.rfl' _, rfl⟩
  refine AOM_last 0 (fun w_ v => w_.ownsRow 0 44 1 v (ws ++ l).length (wordsV (ws ++ l)) ∧ ∀ k, v.ownBlock = some k → (Value.slice ads ws.length cs_).ownBlock = some k ∨ wr.heap.size ≤ k) (fun _ _ _ g ⟨h1, h2⟩ => ⟨own_grow h1 g, h2⟩) (by rfl) (by rfl) ?_ ?_
  ·intro w_ g_ s_
   refine og rfl ?_
   refine r_appendB rfl rfl rfl rfl s_ (own_row (own_keepB ol2 g_ nlF) (by omega)) (fun q_ hq_ => by obtain ⟨z, _, rfl⟩ := List.mem_map.1 hq_; rfl) (by simp only [maxLen]; omega) (by omega) (Nat.zero_le _) ?_
   intro v9 w9 own9 gr9 hbk9
   refine ⟨Kp.of_grownBy gr9 (fun k hk => by rw [Option.mem_toList]; exact hk), trivial, by rw [List.length_append, wordsV, List.map_append]; exact own9, fun k hk => ?_⟩
   rcases hbk9 with h | h
   ·exact .inl (h ▸ hk)
   ·rw [h] at hk; simp only [Option.some.injEq] at hk; have := g_.size; exact .inr (by omega)
  refine AOM_nil ?_
  intro w4 g5 S_
  have K3 := g5
  clear g5
  intro v_ hv_
  refine WL_some (og rfl ?_)
  refine r_indexAddr rfl rfl (by omega) (by omega) ?_
  rw [Int.toNat_natCast]
  obtain ⟨ov, hvn⟩ := hv_
  obtain ⟨adv, cv, rfl, hcv1, hcv2, RV⟩ := own_row ov (by rw [List.length_append]; omega)
  refine WL_none (og rfl ?_)
  have hgo3 := K3.heap hgo (by rw [Option.mem_toList]; exact ne2)
  refine r_store1 (v := .slice adv (ws ++ l).length cv) rfl rfl (by rfl) hgo3 (Nat.ble_eq_true_of_le (by omega)) rfl ?_
  intro w8 hgo8 u8
  have h8 := h2.more (by decide) (by decide) (by decide) hgA hsv ov K3 hvn rfl hgo hgo8 (by simp) u8
  have hbox8 := h8.box
  have K8 : Kp (blks bB (.slice ado A.length co) segs) w w8 := (K2.trans K3 (fun x hx => hnb x (mem_blks.2 (.inr (.inr ⟨q, _, hsv, Option.mem_toList.1 hx⟩))))).trans (Kp.of_upd (F := [go]) u8 (by simp)) (fun x hx => by simp at hx; subst hx; exact hnb _ (mem_blks.2 (.inr (.inl rfl))))
  have hnb8 : ∀ k ∈ blks bB (.slice (some ⟨go, 0, none⟩) B.length co2) (segs2.set q (.slice adv (ws ++ l).length cv)), k ∈ blks bB (.slice ado A.length co) segs ∨ w.heap.size ≤ k := by
   intro k hk
   rcases mem_blks.1 hk with hk | hk | ⟨i, v, hv, hk⟩
   ·exact hnb k (mem_blks.2 (.inl hk))
   ·exact hnb k (mem_blks.2 (.inr (.inl hk)))
   ·by_cases hi : i = q
    ·subst hi
     rw [List.getElem?_set_self (List.getElem?_eq_some_iff.1 hsv).1] at hv
     simp only [Option.some.injEq] at hv
     subst hv
     rcases hvn k hk with h | h
     ·exact hnb k (mem_blks.2 (.inr (.inr ⟨i, _, hsv, h⟩)))
     ·have := K2.size; exact .inr (by omega)
    ·rw [List.getElem?_set_ne (Ne.symm hi)] at hv
     exact hnb k (mem_blks.2 (.inr (.inr ⟨i, v, hv, hk⟩)))
  refine WL_nil ?_
  refine W_seq (W_region rfl ?_)
  refine WL_some (og rfl ?_)
  (first | refine r_move_ptr rfl ?_ | refine r_move rfl ?_)
  refine stp (r_nilCheck rfl ?_)
  refine stp (r_fieldAddr rfl ?_)
  refine stp (r_load rfl hbox8 (by rfl) ?_)
  refine WL_some (og rfl ?_)
  (first | refine r_move_slice rfl ?_ | refine r_move rfl ?_)
  refine stp (r_len rfl rfl rfl ?_)
  refine WL_some (og rfl ?_)
  (first | (refine r_add rfl rfl ?_ ?_; (constructor <;> omega)) | refine r_addw rfl rfl ?_)
  refine stp (r_nilCheck rfl ?_)
  refine stp (r_fieldAddr rfl ?_)
  refine stn (r_store1 (v := .int .i64 (all + l.length)) rfl rfl (by rfl) hbox8 (by rfl) (by rfl) ?_)
  intro w9 hb9 u9
  have h9 := h8.count (all' := all + l.length) (by decide) (by decide) hb9 u9
  have K9 := K8.tr (Kp.of_upd u9 (mem_blks.2 (.inl rfl)))
  have ngB : go ≠ bB := fun he => own_ne h8.out hbox8 (by decide) (by rw [he]; rfl)
  have hgo9 := u9.heap hgo8 ngB
  have hcell9 : ((cur.toList.set (0 + q * 1) (.slice adv (ws ++ l).length cv)).toArray)[0 + q * 1]? = some (.slice adv (ws ++ l).length cv) := by
   rw [List.getElem?_toArray, List.getElem?_set_self (by rw [Array.length_toList]; omega)]
  have e1 : (B.set q (ws ++ l)).getD q [] = ws ++ l := by rw [List.getD_eq_getElem?_getD, List.getElem?_set_self hqB]; rfl
  have e2 : (B.set q (ws ++ l)).length = B.length := List.length_set
  rw [e1, e2]
  refine WL_nil ?_
  by_cases hA16 : (B.length : Int) ≤ 16
  ·
   by_cases hSz : ((ws ++ l).length : Int) ≤ size
   ·
    refine W_seq ?_
    refine W_any 29 [[], [0], [1, 0], [2, 1, 0], [3, 2, 1, 0], [4, 3, 2, 1, 0], [5, 4, 3, 2, 1, 0], [6, 5, 4, 3, 2, 1, 0], [7, 6, 5, 4, 3, 2, 1, 0], [8, 7, 6, 5, 4, 3, 2, 1, 0], [9, 8, 7, 6, 5, 4, 3, 2, 1, 0], [10, 9, 8, 7, 6, 5, 4], [11, 10, 9, 8, 7, 6, 5, 4, 3, 2, 1, 0], [12, 11, 10, 9, 8, 7, 6, 5, 4, 3, 2, 1, 0], [13, 12, 11, 10, 9, 8, 7, 6, 5, 4, 3, 2, 1, 0], [14, 13, 12, 11, 10, 9, 8], [15, 14, 13, 12, 11, 10, 9, 0], [16, 15, 14, 13, 12, 11, 10, 1, 0], [17, 16, 15, 14, 13, 12, 11, 2, 1, 0], [18, 17, 16, 15, 14, 13, 12, 11, 10, 9, 8, 7, 6, 5, 4, 3, 2, 1, 0], [19, 18, 17, 16, 15, 14, 13, 12, 11, 10, 9, 8, 7, 6, 5, 4, 3, 2, 1, 0], [20, 19, 18, 17, 16, 15, 14, 13, 12, 11, 10, 9, 8, 7, 6, 5, 4, 3, 2, 1, 0], [21, 20, 19, 18, 17, 16, 15, 14, 13, 12, 11, 10, 9, 8, 7, 6, 5, 4, 3, 2, 1, 0], [22, 21, 20, 19, 18, 17, 16, 15, 14, 13, 12, 11, 10, 9, 8, 7, 6, 5, 4, 3, 2, 1, 0], [23, 22, 21, 20, 19, 18, 17, 16, 15, 14, 13, 12, 11, 10, 9, 8, 7, 6, 5, 4, 3, 2, 1, 0], [24, 23, 22, 21, 20, 19, 18, 17, 16, 15, 14, 13, 12, 11, 10, 9, 8, 7, 6, 5, 4, 3, 2, 1, 0], [25, 24, 23, 22, 21, 20, 19, 18, 17, 16, 15, 14, 13, 12, 11, 10, 9, 8, 7, 6, 5, 4, 3, 2, 1, 0], [26, 25, 24, 23, 22, 21, 20, 19, 18, 17, 16, 15, 14, 13, 12, 11, 10, 9, 8, 7, 6, 5, 4, 3, 2, 1, 0], [27, 26, 25, 24, 23, 22, 21, 20, 19, 18, 17, 16, 15, 14, 13, 12, 11, 10, 9, 8, 7, 6, 5, 4, 3, 2, 1, 0]] mixed (by kernel_rfl) (by kernel_rfl) (by kernel_rfl) ?_
    intro w6 g7
    replace hb9 := g7.heap hb9
    replace hgo9 := g7.heap hgo9
    replace h9 := h9.grow g7
    replace K9 := K9.tr g7.kp
    clear g7
    apply AO_ex
    ·intro w_ g_; refine og rfl ?_; (first | refine r_move_ptr rfl ?_ | refine r_move rfl ?_); exact ⟨Grow.rfl' _, rfl⟩
    apply AO_ex
    ·intro w_ g_; refine og rfl ?_; refine r_nilCheck rfl ?_; exact ⟨Grow.rfl' _, rfl⟩
    apply AO_ex
    ·intro w_ g_; refine og rfl ?_; refine r_fieldAddr rfl ?_; exact ⟨Grow.rfl' _, rfl⟩
    apply AO_ex
    ·intro w_ g_
     refine og rfl ?_
     refine r_load rfl (Grow.heap g_ hb9) (by rfl) ?_
     exact ⟨Grow.rfl' _, rfl⟩
    apply AO_ex
    ·intro w_ g_; refine og rfl ?_; refine r_len rfl rfl rfl ?_; exact ⟨Grow.rfl' _, rfl⟩
    apply AO_ex
    ·intro w_ g_; refine og rfl ?_; (first | (refine r_leq_t rfl rfl ?_ ?_; (first | assumption | omega)) | (refine r_leq_f rfl rfl ?_ ?_; (first | assumption | omega)) | refine r_leq rfl rfl ?_); exact ⟨Grow.rfl' _, rfl⟩
    apply AO_ex
    ·intro w_ g_; refine og rfl ?_; (first | refine r_move_bool rfl ?_ | refine r_move rfl ?_); exact ⟨Grow.rfl' _, rfl⟩
    apply AO_ex
    ·intro w_ g_; refine og rfl ?_; (first | refine r_move_ptr rfl ?_ | refine r_move rfl ?_); exact ⟨Grow.rfl' _, rfl⟩
    apply AO_ex
    ·intro w_ g_; refine og rfl ?_; refine r_nilCheck rfl ?_; exact ⟨Grow.rfl' _, rfl⟩
    apply AO_ex
    ·intro w_ g_; refine og rfl ?_; refine r_fieldAddr rfl ?_; exact ⟨Grow.rfl' _, rfl⟩
    apply AO_ex
    ·intro w_ g_
     refine og rfl ?_
     refine r_load rfl (Grow.heap g_ hb9) (by rfl) ?_
     exact ⟨Grow.rfl' _, rfl⟩
    apply AO_ex
    ·intro w_ g_; refine og rfl ?_; (first | refine r_move_int rfl ?_ | refine r_move rfl ?_); exact ⟨Grow.rfl' _, rfl⟩
    apply AO_ex
    ·intro w_ g_
     refine og rfl ?_
     refine r_indexAddr rfl rfl (by omega) (by omega) ?_
     rw [Int.toNat_natCast]
     exact ⟨Grow.rfl' _, rfl⟩
    apply AO_ex
    ·intro w_ g_
     refine og rfl ?_
     refine r_load (v := .slice adv (ws ++ l).length cv) rfl (Grow.heap g_ hgo9) hcell9 ?_
     exact ⟨Grow.rfl' _, rfl⟩
    apply AO_ex
    ·intro w_ g_; refine og rfl ?_; refine r_len rfl rfl rfl ?_; exact ⟨Grow.rfl' _, rfl⟩
    apply AO_ex
    ·intro w_ g_; refine og rfl ?_; (first | refine r_move_ptr rfl ?_ | refine r_move rfl ?_); exact ⟨Grow.rfl' _, rfl⟩
    apply AO_ex
    ·intro w_ g_; refine og rfl ?_; refine r_nilCheck rfl ?_; exact ⟨Grow.rfl' _, rfl⟩
    apply AO_ex
    ·intro w_ g_; refine og rfl ?_; refine r_fieldAddr rfl ?_; exact ⟨Grow.rfl' _, rfl⟩
    apply AO_ex
    ·intro w_ g_
     refine og rfl ?_
     refine r_load rfl (Grow.heap g_ hb9) (by rfl) ?_
     exact ⟨Grow.rfl' _, rfl⟩
    apply AO_ex
    ·intro w_ g_; refine og rfl ?_; (first | (refine r_leq_t rfl rfl ?_ ?_; (first | assumption | omega)) | (refine r_leq_f rfl rfl ?_ ?_; (first | assumption | omega)) | refine r_leq rfl rfl ?_); exact ⟨Grow.rfl' _, rfl⟩
    apply AO_ex
    ·intro w_ g_
     refine og rfl ?_
     refine r_pick_t rfl rfl rfl ?_
     exact ⟨Grow.rfl' _, rfl⟩
    apply AO_ex
    ·intro w_ g_; refine og rfl ?_; (first | refine r_move_bool rfl ?_ | refine r_move rfl ?_); exact ⟨Grow.rfl' _, rfl⟩
    apply AO_ex
    ·intro w_ g_; refine og rfl ?_; (first | refine r_move_ptr rfl ?_ | refine r_move rfl ?_); exact ⟨Grow.rfl' _, rfl⟩
    apply AO_ex
    ·intro w_ g_; refine og rfl ?_; refine r_nilCheck rfl ?_; exact ⟨Grow.rfl' _, rfl⟩
    apply AO_ex
    ·intro w_ g_; refine og rfl ?_; refine r_fieldAddr rfl ?_; exact ⟨Grow.rfl' _, rfl⟩
    apply AO_ex
    ·intro w_ g_
     refine og rfl ?_
     refine r_load rfl (Grow.heap g_ hb9) (by rfl) ?_
     exact ⟨Grow.rfl' _, rfl⟩
    apply AO_ex
    ·intro w_ g_; refine og rfl ?_; (first | (refine r_leq_t rfl rfl ?_ ?_; (first | assumption | omega)) | (refine r_leq_f rfl rfl ?_ ?_; (first | assumption | omega)) | refine r_leq rfl rfl ?_); exact ⟨Grow.rfl' _, rfl⟩
    apply AO_ex
    ·intro w_ g_
     refine og rfl ?_
     refine r_pick_t rfl rfl rfl ?_
     exact ⟨Grow.rfl' _, rfl⟩
    apply AO_ex
    ·intro w_ g_; refine og rfl ?_; (first | refine r_assign_bool rfl ?_ | refine r_assign rfl ?_); exact ⟨Grow.rfl' _, rfl⟩
    refine AO_nil ?_
    intro w8 g9
    replace hb9 := g9.heap hb9
    replace hgo9 := g9.heap hgo9
    replace h9 := h9.grow g9
    replace K9 := K9.tr g9.kp
    clear g9
    refine WL_nil ?_
    refine W_ret ?_
    refine ret1 (res_bool rfl) ⟨?_, _, _, h9, K9, hnb8⟩
    simp only [decide_eq_true hA16, decide_eq_true hSz, Bool.true_and, Bool.false_and]
   ·
    refine W_seq ?_
    refine W_any 29 [[], [0], [1, 0], [2, 1, 0], [3, 2, 1, 0], [4, 3, 2, 1, 0], [5, 4, 3, 2, 1, 0], [6, 5, 4, 3, 2, 1, 0], [7, 6, 5, 4, 3, 2, 1, 0], [8, 7, 6, 5, 4, 3, 2, 1, 0], [9, 8, 7, 6, 5, 4, 3, 2, 1, 0], [10, 9, 8, 7, 6, 5, 4], [11, 10, 9, 8, 7, 6, 5, 4, 3, 2, 1, 0], [12, 11, 10, 9, 8, 7, 6, 5, 4, 3, 2, 1, 0], [13, 12, 11, 10, 9, 8, 7, 6, 5, 4, 3, 2, 1, 0], [14, 13, 12, 11, 10, 9, 8], [15, 14, 13, 12, 11, 10, 9, 0], [16, 15, 14, 13, 12, 11, 10, 1, 0], [17, 16, 15, 14, 13, 12, 11, 2, 1, 0], [18, 17, 16, 15, 14, 13, 12, 11, 10, 9, 8, 7, 6, 5, 4, 3, 2, 1, 0], [19, 18, 17, 16, 15, 14, 13, 12, 11, 10, 9, 8, 7, 6, 5, 4, 3, 2, 1, 0], [20, 19, 18, 17, 16, 15, 14, 13, 12, 11, 10, 9, 8, 7, 6, 5, 4, 3, 2, 1, 0], [21, 20, 19, 18, 17, 16, 15, 14, 13, 12, 11, 10, 9, 8, 7, 6, 5, 4, 3, 2, 1, 0], [22, 21, 20, 19, 18, 17, 16, 15, 14, 13, 12, 11, 10, 9, 8, 7, 6, 5, 4, 3, 2, 1, 0], [23, 22, 21, 20, 19, 18, 17, 16, 15, 14, 13, 12, 11, 10, 9, 8, 7, 6, 5, 4, 3, 2, 1, 0], [24, 23, 22, 21, 20, 19, 18, 17, 16, 15, 14, 13, 12, 11, 10, 9, 8, 7, 6, 5, 4, 3, 2, 1, 0], [25, 24, 23, 22, 21, 20, 19, 18, 17, 16, 15, 14, 13, 12, 11, 10, 9, 8, 7, 6, 5, 4, 3, 2, 1, 0], [26, 25, 24, 23, 22, 21, 20, 19, 18, 17, 16, 15, 14, 13, 12, 11, 10, 9, 8, 7, 6, 5, 4, 3, 2, 1, 0], [27, 26, 25, 24, 23, 22, 21, 20, 19, 18, 17, 16, 15, 14, 13, 12, 11, 10, 9, 8, 7, 6, 5, 4, 3, 2, 1, 0]] mixed (by kernel_rfl) (by kernel_rfl) (by kernel_rfl) ?_
    intro w10 g11
    replace hb9 := g11.heap hb9
    replace hgo9 := g11.heap hgo9
    replace h9 := h9.grow g11
    replace K9 := K9.tr g11.kp
    clear g11
    apply AO_ex
    ·intro w_ g_; refine og rfl ?_; (first | refine r_move_ptr rfl ?_ | refine r_move rfl ?_); exact ⟨Grow.rfl' _, rfl⟩
    apply AO_ex
    ·intro w_ g_; refine og rfl ?_; refine r_nilCheck rfl ?_; exact ⟨Grow.rfl' _, rfl⟩
    apply AO_ex
    ·intro w_ g_; refine og rfl ?_; refine r_fieldAddr rfl ?_; exact ⟨Grow.rfl' _, rfl⟩
    apply AO_ex
    ·intro w_ g_
     refine og rfl ?_
     refine r_load rfl (Grow.heap g_ hb9) (by rfl) ?_
     exact ⟨Grow.rfl' _, rfl⟩
    apply AO_ex
    ·intro w_ g_; refine og rfl ?_; refine r_len rfl rfl rfl ?_; exact ⟨Grow.rfl' _, rfl⟩
    apply AO_ex
    ·intro w_ g_; refine og rfl ?_; (first | (refine r_leq_t rfl rfl ?_ ?_; (first | assumption | omega)) | (refine r_leq_f rfl rfl ?_ ?_; (first | assumption | omega)) | refine r_leq rfl rfl ?_); exact ⟨Grow.rfl' _, rfl⟩
    apply AO_ex
    ·intro w_ g_; refine og rfl ?_; (first | refine r_move_bool rfl ?_ | refine r_move rfl ?_); exact ⟨Grow.rfl' _, rfl⟩
    apply AO_ex
    ·intro w_ g_; refine og rfl ?_; (first | refine r_move_ptr rfl ?_ | refine r_move rfl ?_); exact ⟨Grow.rfl' _, rfl⟩
    apply AO_ex
    ·intro w_ g_; refine og rfl ?_; refine r_nilCheck rfl ?_; exact ⟨Grow.rfl' _, rfl⟩
    apply AO_ex
    ·intro w_ g_; refine og rfl ?_; refine r_fieldAddr rfl ?_; exact ⟨Grow.rfl' _, rfl⟩
    apply AO_ex
    ·intro w_ g_
     refine og rfl ?_
     refine r_load rfl (Grow.heap g_ hb9) (by rfl) ?_
     exact ⟨Grow.rfl' _, rfl⟩
    apply AO_ex
    ·intro w_ g_; refine og rfl ?_; (first | refine r_move_int rfl ?_ | refine r_move rfl ?_); exact ⟨Grow.rfl' _, rfl⟩
    apply AO_ex
    ·intro w_ g_
     refine og rfl ?_
     refine r_indexAddr rfl rfl (by omega) (by omega) ?_
     rw [Int.toNat_natCast]
     exact ⟨Grow.rfl' _, rfl⟩
    apply AO_ex
    ·intro w_ g_
     refine og rfl ?_
     refine r_load (v := .slice adv (ws ++ l).length cv) rfl (Grow.heap g_ hgo9) hcell9 ?_
     exact ⟨Grow.rfl' _, rfl⟩
    apply AO_ex
    ·intro w_ g_; refine og rfl ?_; refine r_len rfl rfl rfl ?_; exact ⟨Grow.rfl' _, rfl⟩
    apply AO_ex
    ·intro w_ g_; refine og rfl ?_; (first | refine r_move_ptr rfl ?_ | refine r_move rfl ?_); exact ⟨Grow.rfl' _, rfl⟩
    apply AO_ex
    ·intro w_ g_; refine og rfl ?_; refine r_nilCheck rfl ?_; exact ⟨Grow.rfl' _, rfl⟩
    apply AO_ex
    ·intro w_ g_; refine og rfl ?_; refine r_fieldAddr rfl ?_; exact ⟨Grow.rfl' _, rfl⟩
    apply AO_ex
    ·intro w_ g_
     refine og rfl ?_
     refine r_load rfl (Grow.heap g_ hb9) (by rfl) ?_
     exact ⟨Grow.rfl' _, rfl⟩
    apply AO_ex
    ·intro w_ g_; refine og rfl ?_; (first | (refine r_leq_t rfl rfl ?_ ?_; (first | assumption | omega)) | (refine r_leq_f rfl rfl ?_ ?_; (first | assumption | omega)) | refine r_leq rfl rfl ?_); exact ⟨Grow.rfl' _, rfl⟩
    apply AO_ex
    ·intro w_ g_
     refine og rfl ?_
     refine r_pick_t rfl rfl rfl ?_
     exact ⟨Grow.rfl' _, rfl⟩
    apply AO_ex
    ·intro w_ g_; refine og rfl ?_; (first | refine r_move_bool rfl ?_ | refine r_move rfl ?_); exact ⟨Grow.rfl' _, rfl⟩
    apply AO_ex
    ·intro w_ g_; refine og_no rfl ?_; exact ⟨Grow.rfl' _, rfl⟩
    apply AO_ex
    ·intro w_ g_; refine og_no rfl ?_; exact ⟨Grow.rfl' _, rfl⟩
    apply AO_ex
    ·intro w_ g_; refine og_no rfl ?_; exact ⟨Grow.rfl' _, rfl⟩
    apply AO_ex
    ·intro w_ g_; refine og_no rfl ?_; exact ⟨Grow.rfl' _, rfl⟩
    apply AO_ex
    ·intro w_ g_; refine og_no rfl ?_; exact ⟨Grow.rfl' _, rfl⟩
    apply AO_ex
    ·intro w_ g_
     refine og rfl ?_
     refine r_pick_f rfl rfl rfl ?_
     exact ⟨Grow.rfl' _, rfl⟩
    apply AO_ex
    ·intro w_ g_; refine og rfl ?_; (first | refine r_assign_bool rfl ?_ | refine r_assign rfl ?_); exact ⟨Grow.rfl' _, rfl⟩
    refine AO_nil ?_
    intro w12 g13
    replace hb9 := g13.heap hb9
    replace hgo9 := g13.heap hgo9
    replace h9 := h9.grow g13
    replace K9 := K9.tr g13.kp
    clear g13
    refine WL_nil ?_
    refine W_ret ?_
    refine ret1 (res_bool rfl) ⟨?_, _, _, h9, K9, hnb8⟩
    simp only [decide_eq_true hA16, decide_eq_false hSz, Bool.true_and, Bool.false_and]
  ·
   by_cases hSz : ((ws ++ l).length : Int) ≤ size
   ·
    refine W_seq ?_
    refine W_any 29 [[], [0], [1, 0], [2, 1, 0], [3, 2, 1, 0], [4, 3, 2, 1, 0], [5, 4, 3, 2, 1, 0], [6, 5, 4, 3, 2, 1, 0], [7, 6, 5, 4, 3, 2, 1, 0], [8, 7, 6, 5, 4, 3, 2, 1, 0], [9, 8, 7, 6, 5, 4, 3, 2, 1, 0], [10, 9, 8, 7, 6, 5, 4], [11, 10, 9, 8, 7, 6, 5, 4, 3, 2, 1, 0], [12, 11, 10, 9, 8, 7, 6, 5, 4, 3, 2, 1, 0], [13, 12, 11, 10, 9, 8, 7, 6, 5, 4, 3, 2, 1, 0], [14, 13, 12, 11, 10, 9, 8], [15, 14, 13, 12, 11, 10, 9, 0], [16, 15, 14, 13, 12, 11, 10, 1, 0], [17, 16, 15, 14, 13, 12, 11, 2, 1, 0], [18, 17, 16, 15, 14, 13, 12, 11, 10, 9, 8, 7, 6, 5, 4, 3, 2, 1, 0], [19, 18, 17, 16, 15, 14, 13, 12, 11, 10, 9, 8, 7, 6, 5, 4, 3, 2, 1, 0], [20, 19, 18, 17, 16, 15, 14, 13, 12, 11, 10, 9, 8, 7, 6, 5, 4, 3, 2, 1, 0], [21, 20, 19, 18, 17, 16, 15, 14, 13, 12, 11, 10, 9, 8, 7, 6, 5, 4, 3, 2, 1, 0], [22, 21, 20, 19, 18, 17, 16, 15, 14, 13, 12, 11, 10, 9, 8, 7, 6, 5, 4, 3, 2, 1, 0], [23, 22, 21, 20, 19, 18, 17, 16, 15, 14, 13, 12, 11, 10, 9, 8, 7, 6, 5, 4, 3, 2, 1, 0], [24, 23, 22, 21, 20, 19, 18, 17, 16, 15, 14, 13, 12, 11, 10, 9, 8, 7, 6, 5, 4, 3, 2, 1, 0], [25, 24, 23, 22, 21, 20, 19, 18, 17, 16, 15, 14, 13, 12, 11, 10, 9, 8, 7, 6, 5, 4, 3, 2, 1, 0], [26, 25, 24, 23, 22, 21, 20, 19, 18, 17, 16, 15, 14, 13, 12, 11, 10, 9, 8, 7, 6, 5, 4, 3, 2, 1, 0], [27, 26, 25, 24, 23, 22, 21, 20, 19, 18, 17, 16, 15, 14, 13, 12, 11, 10, 9, 8, 7, 6, 5, 4, 3, 2, 1, 0]] mixed (by kernel_rfl) (by kernel_rfl) (by kernel_rfl) ?_
    intro w14 g15
    replace hb9 := g15.heap hb9
    replace hgo9 := g15.heap hgo9
    replace h9 := h9.grow g15
    replace K9 := K9.tr g15.kp
    clear g15
    apply AO_ex
    ·intro w_ g_; refine og rfl ?_; (first | refine r_move_ptr rfl ?_ | refine r_move rfl ?_); exact ⟨Grow.rfl' _, rfl⟩
    apply AO_ex
    ·intro w_ g_; refine og rfl ?_; refine r_nilCheck rfl ?_; exact ⟨Grow.rfl' _, rfl⟩
    apply AO_ex
    ·intro w_ g_; refine og rfl ?_; refine r_fieldAddr rfl ?_; exact ⟨Grow.rfl' _, rfl⟩
    apply AO_ex
    ·intro w_ g_
     refine og rfl ?_
     refine r_load rfl (Grow.heap g_ hb9) (by rfl) ?_
     exact ⟨Grow.rfl' _, rfl⟩
    apply AO_ex
    ·intro w_ g_; refine og rfl ?_; refine r_len rfl rfl rfl ?_; exact ⟨Grow.rfl' _, rfl⟩
    apply AO_ex
    ·intro w_ g_; refine og rfl ?_; (first | (refine r_leq_t rfl rfl ?_ ?_; (first | assumption | omega)) | (refine r_leq_f rfl rfl ?_ ?_; (first | assumption | omega)) | refine r_leq rfl rfl ?_); exact ⟨Grow.rfl' _, rfl⟩
    apply AO_ex
    ·intro w_ g_; refine og rfl ?_; (first | refine r_move_bool rfl ?_ | refine r_move rfl ?_); exact ⟨Grow.rfl' _, rfl⟩
    apply AO_ex
    ·intro w_ g_; refine og_no rfl ?_; exact ⟨Grow.rfl' _, rfl⟩
    apply AO_ex
    ·intro w_ g_; refine og_no rfl ?_; exact ⟨Grow.rfl' _, rfl⟩
    apply AO_ex
    ·intro w_ g_; refine og_no rfl ?_; exact ⟨Grow.rfl' _, rfl⟩
    apply AO_ex
    ·intro w_ g_; refine og_no rfl ?_; exact ⟨Grow.rfl' _, rfl⟩
    apply AO_ex
    ·intro w_ g_; refine og_no rfl ?_; exact ⟨Grow.rfl' _, rfl⟩
    apply AO_ex
    ·intro w_ g_; refine og_no rfl ?_; exact ⟨Grow.rfl' _, rfl⟩
    apply AO_ex
    ·intro w_ g_; refine og_no rfl ?_; exact ⟨Grow.rfl' _, rfl⟩
    apply AO_ex
    ·intro w_ g_; refine og_no rfl ?_; exact ⟨Grow.rfl' _, rfl⟩
    apply AO_ex
    ·intro w_ g_; refine og_no rfl ?_; exact ⟨Grow.rfl' _, rfl⟩
    apply AO_ex
    ·intro w_ g_; refine og_no rfl ?_; exact ⟨Grow.rfl' _, rfl⟩
    apply AO_ex
    ·intro w_ g_; refine og_no rfl ?_; exact ⟨Grow.rfl' _, rfl⟩
    apply AO_ex
    ·intro w_ g_; refine og_no rfl ?_; exact ⟨Grow.rfl' _, rfl⟩
    apply AO_ex
    ·intro w_ g_; refine og_no rfl ?_; exact ⟨Grow.rfl' _, rfl⟩
    apply AO_ex
    ·intro w_ g_
     refine og rfl ?_
     refine r_pick_f rfl rfl rfl ?_
     exact ⟨Grow.rfl' _, rfl⟩
    apply AO_ex
    ·intro w_ g_; refine og rfl ?_; (first | refine r_move_bool rfl ?_ | refine r_move rfl ?_); exact ⟨Grow.rfl' _, rfl⟩
    apply AO_ex
    ·intro w_ g_; refine og_no rfl ?_; exact ⟨Grow.rfl' _, rfl⟩
    apply AO_ex
    ·intro w_ g_; refine og_no rfl ?_; exact ⟨Grow.rfl' _, rfl⟩
    apply AO_ex
    ·intro w_ g_; refine og_no rfl ?_; exact ⟨Grow.rfl' _, rfl⟩
    apply AO_ex
    ·intro w_ g_; refine og_no rfl ?_; exact ⟨Grow.rfl' _, rfl⟩
    apply AO_ex
    ·intro w_ g_; refine og_no rfl ?_; exact ⟨Grow.rfl' _, rfl⟩
    apply AO_ex
    ·intro w_ g_
     refine og rfl ?_
     refine r_pick_f rfl rfl rfl ?_
     exact ⟨Grow.rfl' _, rfl⟩
    apply AO_ex
    ·intro w_ g_; refine og rfl ?_; (first | refine r_assign_bool rfl ?_ | refine r_assign rfl ?_); exact ⟨Grow.rfl' _, rfl⟩
    refine AO_nil ?_
    intro w16 g17
    replace hb9 := g17.heap hb9
    replace hgo9 := g17.heap hgo9
    replace h9 := h9.grow g17
    replace K9 := K9.tr g17.kp
    clear g17
    refine WL_nil ?_
    refine W_ret ?_
    refine ret1 (res_bool rfl) ⟨?_, _, _, h9, K9, hnb8⟩
    simp only [decide_eq_false hA16, Bool.true_and, Bool.false_and]
   ·
    refine W_seq ?_
    refine W_any 29 [[], [0], [1, 0], [2, 1, 0], [3, 2, 1, 0], [4, 3, 2, 1, 0], [5, 4, 3, 2, 1, 0], [6, 5, 4, 3, 2, 1, 0], [7, 6, 5, 4, 3, 2, 1, 0], [8, 7, 6, 5, 4, 3, 2, 1, 0], [9, 8, 7, 6, 5, 4, 3, 2, 1, 0], [10, 9, 8, 7, 6, 5, 4], [11, 10, 9, 8, 7, 6, 5, 4, 3, 2, 1, 0], [12, 11, 10, 9, 8, 7, 6, 5, 4, 3, 2, 1, 0], [13, 12, 11, 10, 9, 8, 7, 6, 5, 4, 3, 2, 1, 0], [14, 13, 12, 11, 10, 9, 8], [15, 14, 13, 12, 11, 10, 9, 0], [16, 15, 14, 13, 12, 11, 10, 1, 0], [17, 16, 15, 14, 13, 12, 11, 2, 1, 0], [18, 17, 16, 15, 14, 13, 12, 11, 10, 9, 8, 7, 6, 5, 4, 3, 2, 1, 0], [19, 18, 17, 16, 15, 14, 13, 12, 11, 10, 9, 8, 7, 6, 5, 4, 3, 2, 1, 0], [20, 19, 18, 17, 16, 15, 14, 13, 12, 11, 10, 9, 8, 7, 6, 5, 4, 3, 2, 1, 0], [21, 20, 19, 18, 17, 16, 15, 14, 13, 12, 11, 10, 9, 8, 7, 6, 5, 4, 3, 2, 1, 0], [22, 21, 20, 19, 18, 17, 16, 15, 14, 13, 12, 11, 10, 9, 8, 7, 6, 5, 4, 3, 2, 1, 0], [23, 22, 21, 20, 19, 18, 17, 16, 15, 14, 13, 12, 11, 10, 9, 8, 7, 6, 5, 4, 3, 2, 1, 0], [24, 23, 22, 21, 20, 19, 18, 17, 16, 15, 14, 13, 12, 11, 10, 9, 8, 7, 6, 5, 4, 3, 2, 1, 0], [25, 24, 23, 22, 21, 20, 19, 18, 17, 16, 15, 14, 13, 12, 11, 10, 9, 8, 7, 6, 5, 4, 3, 2, 1, 0], [26, 25, 24, 23, 22, 21, 20, 19, 18, 17, 16, 15, 14, 13, 12, 11, 10, 9, 8, 7, 6, 5, 4, 3, 2, 1, 0], [27, 26, 25, 24, 23, 22, 21, 20, 19, 18, 17, 16, 15, 14, 13, 12, 11, 10, 9, 8, 7, 6, 5, 4, 3, 2, 1, 0]] mixed (by kernel_rfl) (by kernel_rfl) (by kernel_rfl) ?_
    intro w18 g19
    replace hb9 := g19.heap hb9
    replace hgo9 := g19.heap hgo9
    replace h9 := h9.grow g19
    replace K9 := K9.tr g19.kp
    clear g19
    apply AO_ex
    ·intro w_ g_; refine og rfl ?_; (first | refine r_move_ptr rfl ?_ | refine r_move rfl ?_); exact ⟨Grow.rfl' _, rfl⟩
    apply AO_ex
    ·intro w_ g_; refine og rfl ?_; refine r_nilCheck rfl ?_; exact ⟨Grow.rfl' _, rfl⟩
    apply AO_ex
    ·intro w_ g_; refine og rfl ?_; refine r_fieldAddr rfl ?_; exact ⟨Grow.rfl' _, rfl⟩
    apply AO_ex
    ·intro w_ g_
     refine og rfl ?_
     refine r_load rfl (Grow.heap g_ hb9) (by rfl) ?_
     exact ⟨Grow.rfl' _, rfl⟩
    apply AO_ex
    ·intro w_ g_; refine og rfl ?_; refine r_len rfl rfl rfl ?_; exact ⟨Grow.rfl' _, rfl⟩
    apply AO_ex
    ·intro w_ g_; refine og rfl ?_; (first | (refine r_leq_t rfl rfl ?_ ?_; (first | assumption | omega)) | (refine r_leq_f rfl rfl ?_ ?_; (first | assumption | omega)) | refine r_leq rfl rfl ?_); exact ⟨Grow.rfl' _, rfl⟩
    apply AO_ex
    ·intro w_ g_; refine og rfl ?_; (first | refine r_move_bool rfl ?_ | refine r_move rfl ?_); exact ⟨Grow.rfl' _, rfl⟩
    apply AO_ex
    ·intro w_ g_; refine og_no rfl ?_; exact ⟨Grow.rfl' _, rfl⟩
    apply AO_ex
    ·intro w_ g_; refine og_no rfl ?_; exact ⟨Grow.rfl' _, rfl⟩
    apply AO_ex
    ·intro w_ g_; refine og_no rfl ?_; exact ⟨Grow.rfl' _, rfl⟩
    apply AO_ex
    ·intro w_ g_; refine og_no rfl ?_; exact ⟨Grow.rfl' _, rfl⟩
    apply AO_ex
    ·intro w_ g_; refine og_no rfl ?_; exact ⟨Grow.rfl' _, rfl⟩
    apply AO_ex
    ·intro w_ g_; refine og_no rfl ?_; exact ⟨Grow.rfl' _, rfl⟩
    apply AO_ex
    ·intro w_ g_; refine og_no rfl ?_; exact ⟨Grow.rfl' _, rfl⟩
    apply AO_ex
    ·intro w_ g_; refine og_no rfl ?_; exact ⟨Grow.rfl' _, rfl⟩
    apply AO_ex
    ·intro w_ g_; refine og_no rfl ?_; exact ⟨Grow.rfl' _, rfl⟩
    apply AO_ex
    ·intro w_ g_; refine og_no rfl ?_; exact ⟨Grow.rfl' _, rfl⟩
    apply AO_ex
    ·intro w_ g_; refine og_no rfl ?_; exact ⟨Grow.rfl' _, rfl⟩
    apply AO_ex
    ·intro w_ g_; refine og_no rfl ?_; exact ⟨Grow.rfl' _, rfl⟩
    apply AO_ex
    ·intro w_ g_; refine og_no rfl ?_; exact ⟨Grow.rfl' _, rfl⟩
    apply AO_ex
    ·intro w_ g_
     refine og rfl ?_
     refine r_pick_f rfl rfl rfl ?_
     exact ⟨Grow.rfl' _, rfl⟩
    apply AO_ex
    ·intro w_ g_; refine og rfl ?_; (first | refine r_move_bool rfl ?_ | refine r_move rfl ?_); exact ⟨Grow.rfl' _, rfl⟩
    apply AO_ex
    ·intro w_ g_; refine og_no rfl ?_; exact ⟨Grow.rfl' _, rfl⟩
    apply AO_ex
    ·intro w_ g_; refine og_no rfl ?_; exact ⟨Grow.rfl' _, rfl⟩
    apply AO_ex
    ·intro w_ g_; refine og_no rfl ?_; exact ⟨Grow.rfl' _, rfl⟩
    apply AO_ex
    ·intro w_ g_; refine og_no rfl ?_; exact ⟨Grow.rfl' _, rfl⟩
    apply AO_ex
    ·intro w_ g_; refine og_no rfl ?_; exact ⟨Grow.rfl' _, rfl⟩
    apply AO_ex
    ·intro w_ g_
     refine og rfl ?_
     refine r_pick_f rfl rfl rfl ?_
     exact ⟨Grow.rfl' _, rfl⟩
    apply AO_ex
    ·intro w_ g_; refine og rfl ?_; (first | refine r_assign_bool rfl ?_ | refine r_assign rfl ?_); exact ⟨Grow.rfl' _, rfl⟩
    refine AO_nil ?_
    intro w20 g21
    replace hb9 := g21.heap hb9
    replace hgo9 := g21.heap hgo9
    replace h9 := h9.grow g21
    replace K9 := K9.tr g21.kp
    clear g21
    refine WL_nil ?_
    refine W_ret ?_
    refine ret1 (res_bool rfl) ⟨?_, _, _, h9, K9, hnb8⟩
    simp only [decide_eq_false hA16, Bool.true_and, Bool.false_and]
end Go.Proofs.Ythbcgfmoakokiaa.K
