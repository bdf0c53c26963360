/- Contracts of chapter 08's functions (printed by build08.py). -/
import Derived.Test.YtfhfecepcnapfaaT
import Derived.Test.YtfhfecepcnapfaaM08
import Derived.Test.YtfhfecepcnapfaaB08
import Derived.Test.YtfhfecepcnapfaaPtr
import Derived.Test.YtfhfecepcnapfaaBA
import Derived.Test.YtfhfecepcnapfaaBB
set_option linter.unusedVariables false
set_option linter.unusedSimpArgs false
namespace Go.Proofs.Ytfhfecepcnapfaa.K
open Go Go.RowKit Go.Proofs
attribute [local irreducible] Run1 OpG WL W AO Gives
set_option maxRecDepth 100000 in
theorem rnear_calls (w : World) {c : List Value} {t : Nd} (T : NodeR w c t) (off : Int) (hk12 : t.kind = 1 ∨ t.kind = 2) : Gives Try.prog 57 #[.agg c.toArray, .int .i64 off] w (.int .u64 (t.near off)) := by
 obtain @⟨kind, size, words, bytes, kids, ws, bs, ks, kc, hk, hs, hW, hwr, hB, hbr, hK, hKs⟩ := T
 obtain ⟨aw, cw, rfl, hcw, hcw2, RW⟩ := hW
 obtain ⟨ab, cb, rfl, hcb, hcb2, RB⟩ := hB
 obtain ⟨ak, ck, rfl, hck, hck2, RK⟩ := hK
 have lw := RW.lim
 have lb := RB.lim
 have lk := RK.lim
 simp only [inR] at hk hs
 simp only [Nd.kind] at hk12
 have G := Grow.rfl' w
 refine gives_of Try.func57 Try.ntmps57 Try.results57 rfl rfl ?_
 refine W_seq (W_region rfl ?_)
 refine WL_some (og rfl ?_)
 (first | refine r_box_agg rfl ?_ | refine r_box_int rfl ?_ | refine r_box_slice rfl ?_ | refine r_box rfl rfl ?_)
 intro b1 w2 hb3 hc4 g5
 have hge6 := Nat.le_trans G.size hb3
 replace G := G.tr g5
 clear g5 hb3
 refine WL_some (og rfl ?_)
 (first | refine r_assign_int rfl ?_ | refine r_assign rfl ?_)
 refine WL_nil ?_
 refine W_seq (W_region rfl ?_)
 refine stp (r_fieldAddr rfl ?_)
 refine stp (r_load rfl (by assumption) (by rfl) ?_)
 refine WL_some (og rfl ?_)
 (first | refine r_move_int rfl ?_ | refine r_move rfl ?_)
 refine stp (r_fieldAddr rfl ?_)
 refine stp (r_load rfl (by assumption) (by rfl) ?_)
 refine stp (r_len rfl rfl rfl ?_)
 refine stp (r_fieldAddr rfl ?_)
 refine stp (r_load rfl (by assumption) (by rfl) ?_)
 refine stp (r_len rfl rfl rfl ?_)
 refine stp (r_build (v := .agg #[.int .i64 (kind), .int .i64 (off), .int .i64 ((words.length : Int)), .int .i64 ((kids.length : Int)), .int .i64 (0), .int .i64 (0), .int .i64 (0), .bool false]) (fun w => by kernel_rfl) ?_)
 refine stp (r_alloc ?_)
 intro b7 w8 hb9 hc10 g11
 refine stn (r_storeAll rfl rfl hc10 (by rfl) (by rfl) (by rfl) ?_)
 intro w12 hc13 u14
 have g15 := g11.upd u14 hb9
 have hge16 := Nat.le_trans G.size hb9
 have ne17 := Nat.ne_of_lt (Nat.lt_of_lt_of_le (lt_of_heap hc4) hb9)
 replace hc4 := g15.heap hc4
 replace G := G.tr g15
 clear u14 g11 hb9 hc10
 refine WL_nil ?_
 refine W_seq ?_
 refine W_seq (W_region rfl ?_)
 refine stp (r_fieldAddr rfl ?_)
 refine stp (r_load rfl (by assumption) (by rfl) ?_)
 refine WL_some (og rfl ?_)
 (first | (refine r_eql_t rfl rfl ?_ ?_; (first | assumption | omega)) | (refine r_eql_f rfl rfl ?_ ?_; (first | assumption | omega)) | refine r_eql rfl rfl ?_)
 refine WL_nil ?_
 refine W_cond2 rfl (fun k2 => ?_) (fun k2 => ?_)
 ·-- true
  first | (replace k2 := of_decide_eq_true k2) | (replace k2 := of_decide_eq_false k2) | skip
  refine W_region rfl ?_
  refine WL_some (og rfl ?_)
  (first | refine r_move_int rfl ?_ | refine r_move rfl ?_)
  refine stp (r_fieldAddr rfl ?_)
  refine stp (r_load rfl (by assumption) (by rfl) ?_)
  refine stp (r_fieldAddr rfl ?_)
  refine stp (r_load rfl (by assumption) (by rfl) ?_)
  refine stp (r_len rfl rfl rfl ?_)
  refine stp (r_fieldAddr rfl ?_)
  refine stp (r_load rfl (by assumption) (by rfl) ?_)
  refine stp (r_len rfl rfl rfl ?_)
  refine WL_some (og rfl ?_)
  (first | (refine r_add rfl rfl ?_ ?_; (constructor <;> omega)) | refine r_addw rfl rfl ?_)
  refine stp (r_fieldAddr rfl ?_)
  refine stp (r_load rfl (by assumption) (by rfl) ?_)
  refine stp (r_len rfl rfl rfl ?_)
  refine WL_some (og rfl ?_)
  (first | (refine r_add rfl rfl ?_ ?_; (constructor <;> omega)) | refine r_addw rfl rfl ?_)
  refine stp (r_build (v := .agg #[.int .i64 (2), .int .i64 (off), .int .i64 (0), .int .i64 (0), .int .i64 (size), .int .i64 (((words.length : Int) + kids.length + bytes.length)), .int .i64 (0), .bool false]) (fun w => by kernel_rfl) ?_)
  refine stn (r_storeAll rfl rfl hc13 (by rfl) (by rfl) (by rfl) ?_)
  intro w21 hc22 u23
  replace hc4 := u23.heap hc4 ne17
  replace G := G.upd u23 hge16
  clear u23 hc13
  refine WL_nil ?_
  refine W_seq (W_region rfl ?_)
  refine WL_some (og rfl ?_)
  (first | refine r_loadAll rfl (by assumption) (by rfl) ?_ | refine r_loadN rfl (by assumption) (by rfl) (by rfl) ?_)
  refine stp (r_gives rfl (rencode_calls _ ⟨2, off, 0, 0, size, ((words.length : Int) + kids.length + bytes.length), 0, false⟩) ?_)
  intro w24 g25
  replace hc4 := g25.heap hc4
  replace hc22 := g25.heap hc22
  replace G := G.tr g25
  clear g25
  refine WL_some (og rfl ?_)
  (first | refine r_move_tuple rfl ?_ | refine r_move rfl ?_)
  refine stp (r_extract rfl rfl ?_)
  refine stp (r_extract rfl rfl ?_)
  refine WL_some (og rfl ?_)
  (first | refine r_assign_int rfl ?_ | refine r_assign rfl ?_)
  refine WL_some (og rfl ?_)
  (first | refine r_assign_int rfl ?_ | refine r_assign rfl ?_)
  refine WL_nil ?_
  refine W_seq (W_region rfl ?_)
  refine WL_some (og rfl ?_)
  (first | refine r_move_int rfl ?_ | refine r_move rfl ?_)
  refine WL_some (og rfl ?_)
  (first | refine r_assign_int rfl ?_ | refine r_assign rfl ?_)
  refine WL_nil ?_
  refine W_ret ?_
  refine ret1 (res_int rfl) ⟨?_, G⟩
  subst k2
  simp [Nd.near, Nd.ptr]
 ·-- false
  first | (replace k2 := of_decide_eq_true k2) | (replace k2 := of_decide_eq_false k2) | skip
  have k1 : kind = 1 := by omega
  refine W_skip ?_
  refine W_seq (W_region rfl ?_)
  refine WL_some (og rfl ?_)
  (first | refine r_loadAll rfl (by assumption) (by rfl) ?_ | refine r_loadN rfl (by assumption) (by rfl) (by rfl) ?_)
  refine stp (r_gives rfl (rencode_calls _ ⟨kind, off, (words.length : Int), (kids.length : Int), 0, 0, 0, false⟩) ?_)
  intro w26 g27
  replace hc4 := g27.heap hc4
  replace hc13 := g27.heap hc13
  replace G := G.tr g27
  clear g27
  refine WL_some (og rfl ?_)
  (first | refine r_move_tuple rfl ?_ | refine r_move rfl ?_)
  refine stp (r_extract rfl rfl ?_)
  refine stp (r_extract rfl rfl ?_)
  refine WL_some (og rfl ?_)
  (first | refine r_assign_int rfl ?_ | refine r_assign rfl ?_)
  refine WL_some (og rfl ?_)
  (first | refine r_assign_int rfl ?_ | refine r_assign rfl ?_)
  refine WL_nil ?_
  refine W_seq (W_region rfl ?_)
  refine WL_some (og rfl ?_)
  (first | refine r_move_int rfl ?_ | refine r_move rfl ?_)
  refine WL_some (og rfl ?_)
  (first | refine r_assign_int rfl ?_ | refine r_assign rfl ?_)
  refine WL_nil ?_
  refine W_ret ?_
  refine ret1 (res_int rfl) ⟨?_, G⟩
  simp [Nd.near, Nd.ptr, k1]

set_option maxRecDepth 100000 in
theorem rfar_calls (w : World) (seg at_ : Int) : Gives Try.prog 59 #[.int .i64 seg, .int .i64 at_] w (.int .u64 (farP seg at_)) := by
 have G := Grow.rfl' w
 refine gives_of Try.func59 Try.ntmps59 Try.results59 rfl rfl ?_
 refine W_seq (W_region rfl ?_)
 refine WL_some (og rfl ?_)
 (first | refine r_assign_int rfl ?_ | refine r_assign rfl ?_)
 refine WL_nil ?_
 refine W_seq (W_region rfl ?_)
 refine WL_some (og rfl ?_)
 (first | refine r_move_int rfl ?_ | refine r_move rfl ?_)
 refine WL_some (og rfl ?_)
 (first | refine r_move_int rfl ?_ | refine r_move rfl ?_)
 refine stp (r_build (v := .agg #[.int .i64 (3), .int .i64 (at_), .int .i64 (0), .int .i64 (0), .int .i64 (0), .int .i64 (0), .int .i64 (seg), .bool false]) (fun w => by kernel_rfl) ?_)
 refine stp (r_gives rfl (rencode_calls _ ⟨3, at_, 0, 0, 0, 0, seg, false⟩) ?_)
 intro w1 g2
 replace G := G.tr g2
 clear g2
 refine WL_some (og rfl ?_)
 (first | refine r_move_tuple rfl ?_ | refine r_move rfl ?_)
 refine stp (r_extract rfl rfl ?_)
 refine stp (r_extract rfl rfl ?_)
 refine WL_some (og rfl ?_)
 (first | refine r_assign_int rfl ?_ | refine r_assign rfl ?_)
 refine WL_some (og rfl ?_)
 (first | refine r_assign_int rfl ?_ | refine r_assign rfl ?_)
 refine WL_nil ?_
 refine W_seq (W_region rfl ?_)
 refine WL_some (og rfl ?_)
 (first | refine r_move_int rfl ?_ | refine r_move rfl ?_)
 refine WL_some (og rfl ?_)
 (first | refine r_assign_int rfl ?_ | refine r_assign rfl ?_)
 refine WL_nil ?_
 refine W_ret ?_
 exact ret1 (res_int rfl) ⟨rfl, G⟩
end Go.Proofs.Ytfhfecepcnapfaa.K
