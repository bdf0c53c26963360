/- The walks of package tree (printed by t10.py). -/
import Derived.Test.YtfhfecepcnapfaaT
import Derived.Test.YtfhfecepcnapfaaJ14
import Derived.Test.YtfhfecepcnapfaaT10
import Derived.Test.YtfhfecepcnapfaaP08
import Derived.Test.YtfhfecepcnapfaaPtr
import Derived.Test.YtfhfecepcnapfaaBD
import Derived.Test.YtfhfecepcnapfaaBF
import Derived.Test.YtfhfecepcnapfaaBR
set_option linter.unusedVariables false
set_option linter.unusedSimpArgs false
namespace Go.Proofs.Ytfhfecepcnapfaa.K
open Go Go.RowKit Go.Proofs
attribute [local irreducible] Run1 OpG WL W AO Gives
set_option maxRecDepth 100000 in
theorem tstep_calls (w : World) {w0 : World} {c : List Value} {t : Nd} (T : NodeR w0 c t) (g0 : Grow w0 w) {k : Int} (k0 : 0 ≤ k) : Calls Try.prog 43 #[.agg c.toArray, .int .i64 k] w (Ret fun v w' => ∃ cells, v = .tuple #[.agg cells.toArray, .int .u16 (tstep t k).2] ∧ NodeR w0 cells (tstep t k).1 ∧ Grow w w') := by
 obtain @⟨kind, size, words, bytes, kids, ws, bs, ks, kc, hk, hs, hW, hwr, hB, hbr, hK, hKs⟩ := T
 obtain ⟨aw, cw, rfl, hcw, hcw2, RW⟩ := hW
 obtain ⟨ab, cb, rfl, hcb, hcb2, RB⟩ := hB
 obtain ⟨ak, ck, rfl, hck, hck2, RK⟩ := hK
 have lw := RW.lim
 have lb := RB.lim
 have lk := RK.lim
 simp only [inR] at hk hs
 have G := Grow.rfl' w
 refine calls_ret Try.func43 Try.ntmps43 Try.results43 rfl rfl ?_
 refine W_seq (W_region rfl ?_)
 refine WL_some (og rfl ?_)
 (first | refine r_box_agg rfl ?_ | refine r_box_int rfl ?_ | refine r_box_slice rfl ?_ | refine r_box rfl rfl ?_)
 intro b1 w2 hb3 hc4 g5
 have hge6 := Nat.le_trans G.size hb3
 replace G := G.tr g5
 clear g5 hb3
 refine stp (r_alloc ?_)
 intro b7 w8 hb9 hc10 g11
 refine stp (r_assign_int rfl ?_)
 refine WL_nil ?_
 refine W_seq (W_region rfl ?_)
 refine stp (r_fieldAddr rfl ?_)
 have hge12 := Nat.le_trans G.size hb9
 have ne13 := Nat.ne_of_lt (Nat.lt_of_lt_of_le (lt_of_heap hc4) hb9)
 replace hc4 := g11.heap hc4
 replace G := G.tr g11
 clear g11 hb9
 refine stp (r_load (v := .int .i64 kind) rfl hc4 rfl ?_)
 refine stp (r_neq rfl rfl ?_)
 refine stp (r_move_bool rfl ?_)
 refine WL_some (og_if (s := .bool (decide (kind ≠ 0))) (b := true) (v := .pointer (some ⟨b1, 0, none⟩)) rfl (wgb_t _) (fun hc14 => ?_) ?_)
 ·
  have hc14_ := of_decide_eq_true hc14
  refine r_fieldAddr rfl ?_
  exact ⟨rfl, rfl⟩
 refine WL_some (og_if (s := .bool (decide (kind ≠ 0))) (b := true) (v := .int .i64 kind) rfl (wgb_t _) (fun hc15 => ?_) ?_)
 ·
  have hc15_ := of_decide_eq_true hc15
  refine r_load (v := .int .i64 kind) (gvt hc15) hc4 rfl ?_
  exact ⟨rfl, rfl⟩
 refine WL_some (og_if (s := .bool (decide (kind ≠ 0))) (b := true) (v := .bool (decide (kind ≠ 1))) rfl (wgb_t _) (fun hc16 => ?_) ?_)
 ·
  have hc16_ := of_decide_eq_true hc16
  refine r_neq (gvt hc16) rfl ?_
  exact ⟨rfl, rfl⟩
 refine stp (r_and2 rfl rfl rfl ?_)
 refine stp (r_assign_bool rfl ?_)
 refine WL_nil ?_
 refine W_seq ?_
 refine W_block ?_
 refine W_seq (W_region rfl ?_)
 refine stp (r_move_bool rfl ?_)
 refine stp (r_move_bool rfl ?_)
 refine WL_some (og_if (s := .bool ((decide (kind ≠ 0)) && (decide (kind ≠ 1)))) (b := true) (v := .pointer (some ⟨b1, 1, none⟩)) rfl (wgb_t _) (fun hc17 => ?_) ?_)
 ·
  obtain ⟨hc17a, hc17b⟩ := and_t hc17
  have hc17a_ := of_decide_eq_true hc17a
  have hc17b_ := of_decide_eq_true hc17b
  refine r_fieldAddr rfl ?_
  exact ⟨rfl, rfl⟩
 refine WL_some (og_if (s := .bool ((decide (kind ≠ 0)) && (decide (kind ≠ 1)))) (b := true) (v := .int .i64 size) rfl (wgb_t _) (fun hc18 => ?_) ?_)
 ·
  obtain ⟨hc18a, hc18b⟩ := and_t hc18
  have hc18a_ := of_decide_eq_true hc18a
  have hc18b_ := of_decide_eq_true hc18b
  refine r_load (v := .int .i64 size) (gvt hc18) hc4 rfl ?_
  exact ⟨rfl, rfl⟩
 refine WL_some (og_if (s := .bool ((decide (kind ≠ 0)) && (decide (kind ≠ 1)))) (b := true) (v := .bool (decide (size ≠ 6))) rfl (wgb_t _) (fun hc19 => ?_) ?_)
 ·
  obtain ⟨hc19a, hc19b⟩ := and_t hc19
  have hc19a_ := of_decide_eq_true hc19a
  have hc19b_ := of_decide_eq_true hc19b
  refine r_neq (gvt hc19) rfl ?_
  exact ⟨rfl, rfl⟩
 refine stp (r_and2 rfl rfl rfl ?_)
 refine stp (r_assign_bool rfl ?_)
 refine WL_nil ?_
 refine W_cond2 (b := (((decide (kind ≠ 0)) && (decide (kind ≠ 1))) && (decide (size ≠ 6)))) rfl (fun h1 => ?_) (fun h1 => ?_)
 ·-- true
  simp only [Bool.and_eq_true, Bool.or_eq_true, Bool.not_eq_true', Bool.and_eq_false_iff, Bool.or_eq_false_iff, Bool.not_eq_false', decide_eq_true_eq, decide_eq_false_iff_not, Bool.not_true, Bool.not_false, Bool.not_eq_eq_eq_not, Bool.or_false, Bool.and_true, Bool.or_true, Bool.and_false, Bool.false_or, Bool.true_and, Bool.true_or, Bool.false_and, Bool.false_eq_true, Bool.true_eq_false] at h1
  refine W_seq (W_region rfl ?_)
  refine stp (r_build (v := .agg #[.int .i64 0, .int .i64 0, .slice none 0 0, .slice none 0 0, .slice none 0 0]) (fun w => by kernel_rfl) ?_)
  refine stn (r_storeAll rfl rfl hc10 (by rfl) (by rfl) (by rfl) ?_)
  intro w20 hc21 u22
  replace hc4 := u22.heap hc4 ne13
  replace G := G.upd u22 hge12
  clear u22 hc10
  refine stp (r_assign_int rfl ?_)
  refine WL_nil ?_
  refine W_ret ?_
  have h9 : tstep (Nd.mk kind size words bytes kids) k = (.nil, 23) := by rw [tstep_mk]; rw [if_pos (by first | assumption | omega | simp_all)]
  rw [h9]
  refine ret2 (res_all rfl hc21 (by rfl)) (res_tmp (v := .int .u16 23) rfl) ⟨[_, _, _, _, _], rfl, NodeR.zero _, G⟩
 ·-- false
  simp only [Bool.and_eq_true, Bool.or_eq_true, Bool.not_eq_true', Bool.and_eq_false_iff, Bool.or_eq_false_iff, Bool.not_eq_false', decide_eq_true_eq, decide_eq_false_iff_not, Bool.not_true, Bool.not_false, Bool.not_eq_eq_eq_not, Bool.or_false, Bool.and_true, Bool.or_true, Bool.and_false, Bool.false_or, Bool.true_and, Bool.true_or, Bool.false_and, Bool.false_eq_true, Bool.true_eq_false] at h1
  refine W_seq (W_region rfl ?_)
  refine stp (r_fieldAddr rfl ?_)
  refine stp (r_load (v := .int .i64 kind) rfl hc4 rfl ?_)
  refine stp (r_neq rfl rfl ?_)
  refine stp (r_move_bool rfl ?_)
  refine WL_some (og_if (s := .bool (decide (kind ≠ 0))) (b := true) (v := .int .i64 k) rfl (wgb_t _) (fun hc23 => ?_) ?_)
  ·
   have hc23_ := of_decide_eq_true hc23
   refine r_move_int rfl ?_
   exact ⟨rfl, rfl⟩
  refine WL_some (og_if (s := .bool (decide (kind ≠ 0))) (b := true) (v := .pointer (some ⟨b1, 4, none⟩)) rfl (wgb_t _) (fun hc24 => ?_) ?_)
  ·
   have hc24_ := of_decide_eq_true hc24
   refine r_fieldAddr rfl ?_
   exact ⟨rfl, rfl⟩
  refine WL_some (og_if (s := .bool (decide (kind ≠ 0))) (b := true) (v := .slice ak kids.length ck) rfl (wgb_t _) (fun hc25 => ?_) ?_)
  ·
   have hc25_ := of_decide_eq_true hc25
   refine r_load (v := .slice ak kids.length ck) (gvt hc25) hc4 rfl ?_
   exact ⟨rfl, rfl⟩
  refine WL_some (og_if (s := .bool (decide (kind ≠ 0))) (b := true) (v := .int .i64 (kids.length : Int)) rfl (wgb_t _) (fun hc26 => ?_) ?_)
  ·
   have hc26_ := of_decide_eq_true hc26
   refine r_len rfl rfl (gvt hc26) ?_
   exact ⟨rfl, rfl⟩
  refine WL_some (og_if (s := .bool (decide (kind ≠ 0))) (b := true) (v := .bool (decide (k < (kids.length : Int)))) rfl (wgb_t _) (fun hc27 => ?_) ?_)
  ·
   have hc27_ := of_decide_eq_true hc27
   refine r_lss (gvt hc27) (gvt hc27) ?_
   exact ⟨rfl, rfl⟩
  refine stp (r_and2 rfl rfl rfl ?_)
  refine stp (r_assign_bool rfl ?_)
  refine WL_nil ?_
  refine W_cond2 (b := ((decide (kind ≠ 0)) && (decide (k < (kids.length : Int))))) rfl (fun h2 => ?_) (fun h2 => ?_)
  ·-- true
   simp only [Bool.and_eq_true, Bool.or_eq_true, Bool.not_eq_true', Bool.and_eq_false_iff, Bool.or_eq_false_iff, Bool.not_eq_false', decide_eq_true_eq, decide_eq_false_iff_not, Bool.not_true, Bool.not_false, Bool.not_eq_eq_eq_not, Bool.or_false, Bool.and_true, Bool.or_true, Bool.and_false, Bool.false_or, Bool.true_and, Bool.true_or, Bool.false_and, Bool.false_eq_true, Bool.true_eq_false] at h2
   obtain ⟨j, rfl⟩ : ∃ j : Nat, k = (j : Int) := ⟨k.toNat, by omega⟩
   have hj : j < kids.length := by omega
   have hat := KidsR.at_ j kids[j] hKs (by simp [hj])
   obtain ⟨y0, y1, ya, yn, yc, za, zn, zc, ua, un, uc, hy⟩ := hat.cells
   rw [hy] at hat
   refine W_seq (W_region rfl ?_)
   refine stp (r_fieldAddr rfl ?_)
   refine stp (r_load (v := .slice ak kids.length ck) rfl hc4 rfl ?_)
   refine stp (r_move_int rfl ?_)
   refine stp (r_indexN ((RK.grow g0).grow G) rfl rfl ?_ ?_); omega
   refine stp (r_loadNR ((RK.grow g0).grow G) rfl (by decide) (by rw [RK.len]; omega) hy ?_)
   refine stn (r_storeAll rfl rfl hc10 (by rfl) (by rfl) (by rfl) ?_)
   intro w28 hc29 u30
   replace hc4 := u30.heap hc4 ne13
   replace G := G.upd u30 hge12
   clear u30 hc10
   refine stp (r_assign_int rfl ?_)
   refine WL_nil ?_
   refine W_ret ?_
   have h9 : tstep (Nd.mk kind size words bytes kids) (j : Int) = (kids[j], 0) := by rw [tstep_mk]; rw [if_neg (by first | assumption | omega | simp_all), if_pos (by first | assumption | omega | simp_all), Int.toNat_natCast, List.getD_eq_getElem?_getD, List.getElem?_eq_getElem hj]; rfl
   rw [h9]
   refine ret2 (res_all rfl hc29 (by rfl)) (res_tmp (v := .int .u16 0) rfl) ⟨[_, _, _, _, _], rfl, hat, G⟩
  ·-- false
   simp only [Bool.and_eq_true, Bool.or_eq_true, Bool.not_eq_true', Bool.and_eq_false_iff, Bool.or_eq_false_iff, Bool.not_eq_false', decide_eq_true_eq, decide_eq_false_iff_not, Bool.not_true, Bool.not_false, Bool.not_eq_eq_eq_not, Bool.or_false, Bool.and_true, Bool.or_true, Bool.and_false, Bool.false_or, Bool.true_and, Bool.true_or, Bool.false_and, Bool.false_eq_true, Bool.true_eq_false] at h2
   refine W_seq (W_region rfl ?_)
   refine stp (r_move_bool rfl ?_)
   refine stp (r_assign_bool rfl ?_)
   refine WL_nil ?_
   refine W_cond2 (b := ((decide (kind ≠ 0)) && (decide (kind ≠ 1)))) rfl (fun h3 => ?_) (fun h3 => ?_)
   ·-- true
    simp only [Bool.and_eq_true, Bool.or_eq_true, Bool.not_eq_true', Bool.and_eq_false_iff, Bool.or_eq_false_iff, Bool.not_eq_false', decide_eq_true_eq, decide_eq_false_iff_not, Bool.not_true, Bool.not_false, Bool.not_eq_eq_eq_not, Bool.or_false, Bool.and_true, Bool.or_true, Bool.and_false, Bool.false_or, Bool.true_and, Bool.true_or, Bool.false_and, Bool.false_eq_true, Bool.true_eq_false] at h3
    refine W_seq (W_region rfl ?_)
    refine stp (r_build (v := .agg #[.int .i64 0, .int .i64 0, .slice none 0 0, .slice none 0 0, .slice none 0 0]) (fun w => by kernel_rfl) ?_)
    refine stn (r_storeAll rfl rfl hc10 (by rfl) (by rfl) (by rfl) ?_)
    intro w31 hc32 u33
    replace hc4 := u33.heap hc4 ne13
    replace G := G.upd u33 hge12
    clear u33 hc10
    refine stp (r_assign_int rfl ?_)
    refine WL_nil ?_
    refine W_ret ?_
    have h9 : tstep (Nd.mk kind size words bytes kids) k = (.nil, 20) := by rw [tstep_mk]; rw [if_neg (by first | assumption | omega | simp_all), if_neg (by first | assumption | omega | simp_all), if_pos (by first | assumption | omega | simp_all)]
    rw [h9]
    refine ret2 (res_all rfl hc32 (by rfl)) (res_tmp (v := .int .u16 20) rfl) ⟨[_, _, _, _, _], rfl, NodeR.zero _, G⟩
   ·-- false
    simp only [Bool.and_eq_true, Bool.or_eq_true, Bool.not_eq_true', Bool.and_eq_false_iff, Bool.or_eq_false_iff, Bool.not_eq_false', decide_eq_true_eq, decide_eq_false_iff_not, Bool.not_true, Bool.not_false, Bool.not_eq_eq_eq_not, Bool.or_false, Bool.and_true, Bool.or_true, Bool.and_false, Bool.false_or, Bool.true_and, Bool.true_or, Bool.false_and, Bool.false_eq_true, Bool.true_eq_false] at h3
    refine W_skip ?_
    refine W_seq (W_region rfl ?_)
    refine stp (r_build (v := .agg #[.int .i64 0, .int .i64 0, .slice none 0 0, .slice none 0 0, .slice none 0 0]) (fun w => by kernel_rfl) ?_)
    refine stn (r_storeAll rfl rfl hc10 (by rfl) (by rfl) (by rfl) ?_)
    intro w34 hc35 u36
    replace hc4 := u36.heap hc4 ne13
    replace G := G.upd u36 hge12
    clear u36 hc10
    refine stp (r_assign_int rfl ?_)
    refine WL_nil ?_
    refine W_ret ?_
    have h9 : tstep (Nd.mk kind size words bytes kids) k = (.nil, 0) := by rw [tstep_mk]; rw [if_neg (by first | assumption | omega | simp_all), if_neg (by first | assumption | omega | simp_all), if_neg (by first | assumption | omega | simp_all)]
    rw [h9]
    refine ret2 (res_all rfl hc35 (by rfl)) (res_tmp (v := .int .u16 0) rfl) ⟨[_, _, _, _, _], rfl, NodeR.zero _, G⟩

set_option maxRecDepth 100000 in
theorem tat_calls (w : World) {c : List Value} {t : Nd} (T : NodeR w c t) {k : Int} (k0 : 0 ≤ k) : Gives Try.prog 44 #[.agg c.toArray, .int .i64 k] w (.tuple #[.int .u64 ((tat t k).1), .int .u16 ((tat t k).2)]) := by
 obtain @⟨kind, size, words, bytes, kids, ws, bs, ks, kc, hk, hs, hW, hwr, hB, hbr, hK, hKs⟩ := T
 obtain ⟨aw, cw, rfl, hcw, hcw2, RW⟩ := hW
 obtain ⟨ab, cb, rfl, hcb, hcb2, RB⟩ := hB
 obtain ⟨ak, ck, rfl, hck, hck2, RK⟩ := hK
 have lw := RW.lim
 have lb := RB.lim
 have lk := RK.lim
 simp only [inR] at hk hs
 obtain ⟨k, rfl⟩ : ∃ j : Nat, k = (j : Int) := ⟨k.toNat, by omega⟩
 have hgb := getD_u8 hbr k
 have G := Grow.rfl' w
 refine gives_of Try.func44 Try.ntmps44 Try.results44 rfl rfl ?_
 refine W_seq (W_region rfl ?_)
 refine WL_some (og rfl ?_)
 (first | refine r_box_agg rfl ?_ | refine r_box_int rfl ?_ | refine r_box_slice rfl ?_ | refine r_box rfl rfl ?_)
 intro b1 w2 hb3 hc4 g5
 have hge6 := Nat.le_trans G.size hb3
 replace G := G.tr g5
 clear g5 hb3
 refine stp (r_assign_int rfl ?_)
 refine stp (r_assign_int rfl ?_)
 refine WL_nil ?_
 refine W_seq (W_region rfl ?_)
 refine stp (r_fieldAddr rfl ?_)
 refine stp (r_load (v := .int .i64 kind) rfl hc4 rfl ?_)
 refine stp (r_neq rfl rfl ?_)
 refine stp (r_move_bool rfl ?_)
 refine WL_some (og_if (s := .bool (decide (kind ≠ 0))) (b := true) (v := .pointer (some ⟨b1, 0, none⟩)) rfl (wgb_t _) (fun hc7 => ?_) ?_)
 ·
  have hc7_ := of_decide_eq_true hc7
  refine r_fieldAddr rfl ?_
  exact ⟨rfl, rfl⟩
 refine WL_some (og_if (s := .bool (decide (kind ≠ 0))) (b := true) (v := .int .i64 kind) rfl (wgb_t _) (fun hc8 => ?_) ?_)
 ·
  have hc8_ := of_decide_eq_true hc8
  refine r_load (v := .int .i64 kind) (gvt hc8) hc4 rfl ?_
  exact ⟨rfl, rfl⟩
 refine WL_some (og_if (s := .bool (decide (kind ≠ 0))) (b := true) (v := .bool (decide (kind ≠ 1))) rfl (wgb_t _) (fun hc9 => ?_) ?_)
 ·
  have hc9_ := of_decide_eq_true hc9
  refine r_neq (gvt hc9) rfl ?_
  exact ⟨rfl, rfl⟩
 refine stp (r_and2 rfl rfl rfl ?_)
 refine stp (r_assign_bool rfl ?_)
 refine WL_nil ?_
 refine W_seq ?_
 refine W_block ?_
 refine W_seq (W_region rfl ?_)
 refine stp (r_move_bool rfl ?_)
 refine stp (r_move_bool rfl ?_)
 refine WL_some (og_if (s := .bool ((decide (kind ≠ 0)) && (decide (kind ≠ 1)))) (b := true) (v := .pointer (some ⟨b1, 1, none⟩)) rfl (wgb_t _) (fun hc10 => ?_) ?_)
 ·
  obtain ⟨hc10a, hc10b⟩ := and_t hc10
  have hc10a_ := of_decide_eq_true hc10a
  have hc10b_ := of_decide_eq_true hc10b
  refine r_fieldAddr rfl ?_
  exact ⟨rfl, rfl⟩
 refine WL_some (og_if (s := .bool ((decide (kind ≠ 0)) && (decide (kind ≠ 1)))) (b := true) (v := .int .i64 size) rfl (wgb_t _) (fun hc11 => ?_) ?_)
 ·
  obtain ⟨hc11a, hc11b⟩ := and_t hc11
  have hc11a_ := of_decide_eq_true hc11a
  have hc11b_ := of_decide_eq_true hc11b
  refine r_load (v := .int .i64 size) (gvt hc11) hc4 rfl ?_
  exact ⟨rfl, rfl⟩
 refine WL_some (og_if (s := .bool ((decide (kind ≠ 0)) && (decide (kind ≠ 1)))) (b := true) (v := .bool (decide (size = 6))) rfl (wgb_t _) (fun hc12 => ?_) ?_)
 ·
  obtain ⟨hc12a, hc12b⟩ := and_t hc12
  have hc12a_ := of_decide_eq_true hc12a
  have hc12b_ := of_decide_eq_true hc12b
  refine r_eql (gvt hc12) rfl ?_
  exact ⟨rfl, rfl⟩
 refine stp (r_and2 rfl rfl rfl ?_)
 refine stp (r_assign_bool rfl ?_)
 refine WL_nil ?_
 refine W_cond2 (b := (((decide (kind ≠ 0)) && (decide (kind ≠ 1))) && (decide (size = 6)))) rfl (fun h1 => ?_) (fun h1 => ?_)
 ·-- true
  simp only [Bool.and_eq_true, Bool.or_eq_true, Bool.not_eq_true', Bool.and_eq_false_iff, Bool.or_eq_false_iff, Bool.not_eq_false', decide_eq_true_eq, decide_eq_false_iff_not, Bool.not_true, Bool.not_false, Bool.not_eq_eq_eq_not, Bool.or_false, Bool.and_true, Bool.or_true, Bool.and_false, Bool.false_or, Bool.true_and, Bool.true_or, Bool.false_and, Bool.false_eq_true, Bool.true_eq_false] at h1
  refine W_seq (W_region rfl ?_)
  refine stp (r_assign_int rfl ?_)
  refine stp (r_assign_int rfl ?_)
  refine WL_nil ?_
  refine W_ret ?_
  have h9 : tat (Nd.mk kind size words bytes kids) (k : Int) = (0, 23) := by rw [tat_mk]; (repeat' split) <;> first | rfl | (exfalso; omega) | (exfalso; simp_all; done) | (exfalso; simp_all; omega)
  refine ret2 (res_tmp (v := .int .u64 0) rfl) (res_tmp (v := .int .u16 23) rfl) ⟨?_, G⟩
  rw [h9]
 ·-- false
  simp only [Bool.and_eq_true, Bool.or_eq_true, Bool.not_eq_true', Bool.and_eq_false_iff, Bool.or_eq_false_iff, Bool.not_eq_false', decide_eq_true_eq, decide_eq_false_iff_not, Bool.not_true, Bool.not_false, Bool.not_eq_eq_eq_not, Bool.or_false, Bool.and_true, Bool.or_true, Bool.and_false, Bool.false_or, Bool.true_and, Bool.true_or, Bool.false_and, Bool.false_eq_true, Bool.true_eq_false] at h1
  refine W_seq (W_region rfl ?_)
  refine stp (r_fieldAddr rfl ?_)
  refine stp (r_load (v := .int .i64 kind) rfl hc4 rfl ?_)
  refine stp (r_neq rfl rfl ?_)
  refine stp (r_move_bool rfl ?_)
  refine WL_some (og_if (s := .bool (decide (kind ≠ 0))) (b := true) (v := .int .i64 (k : Int)) rfl (wgb_t _) (fun hc13 => ?_) ?_)
  ·
   have hc13_ := of_decide_eq_true hc13
   refine r_move_int rfl ?_
   exact ⟨rfl, rfl⟩
  refine WL_some (og_if (s := .bool (decide (kind ≠ 0))) (b := true) (v := .pointer (some ⟨b1, 2, none⟩)) rfl (wgb_t _) (fun hc14 => ?_) ?_)
  ·
   have hc14_ := of_decide_eq_true hc14
   refine r_fieldAddr rfl ?_
   exact ⟨rfl, rfl⟩
  refine WL_some (og_if (s := .bool (decide (kind ≠ 0))) (b := true) (v := .slice aw words.length cw) rfl (wgb_t _) (fun hc15 => ?_) ?_)
  ·
   have hc15_ := of_decide_eq_true hc15
   refine r_load (v := .slice aw words.length cw) (gvt hc15) hc4 rfl ?_
   exact ⟨rfl, rfl⟩
  refine WL_some (og_if (s := .bool (decide (kind ≠ 0))) (b := true) (v := .int .i64 (words.length : Int)) rfl (wgb_t _) (fun hc16 => ?_) ?_)
  ·
   have hc16_ := of_decide_eq_true hc16
   refine r_len rfl rfl (gvt hc16) ?_
   exact ⟨rfl, rfl⟩
  refine WL_some (og_if (s := .bool (decide (kind ≠ 0))) (b := true) (v := .bool (decide ((k : Int) < (words.length : Int)))) rfl (wgb_t _) (fun hc17 => ?_) ?_)
  ·
   have hc17_ := of_decide_eq_true hc17
   refine r_lss (gvt hc17) (gvt hc17) ?_
   exact ⟨rfl, rfl⟩
  refine stp (r_and2 rfl rfl rfl ?_)
  refine stp (r_assign_bool rfl ?_)
  refine WL_nil ?_
  refine W_cond2 (b := ((decide (kind ≠ 0)) && (decide ((k : Int) < (words.length : Int))))) rfl (fun h2 => ?_) (fun h2 => ?_)
  ·-- true
   simp only [Bool.and_eq_true, Bool.or_eq_true, Bool.not_eq_true', Bool.and_eq_false_iff, Bool.or_eq_false_iff, Bool.not_eq_false', decide_eq_true_eq, decide_eq_false_iff_not, Bool.not_true, Bool.not_false, Bool.not_eq_eq_eq_not, Bool.or_false, Bool.and_true, Bool.or_true, Bool.and_false, Bool.false_or, Bool.true_and, Bool.true_or, Bool.false_and, Bool.false_eq_true, Bool.true_eq_false] at h2
   refine W_seq (W_region rfl ?_)
   refine stp (r_fieldAddr rfl ?_)
   refine stp (r_load (v := .slice aw words.length cw) rfl hc4 rfl ?_)
   refine stp (r_move_int rfl ?_)
   refine stp (r_indexN (RW.grow G) rfl rfl ?_ ?_); omega
   refine stp (r_loadR (v := .int .u64 (words.getD k 0)) (m := 0) (RW.grow G) rfl (map_get1 0 (by omega)) ?_)
   refine stp (r_assign_int rfl ?_)
   refine stp (r_assign_int rfl ?_)
   refine WL_nil ?_
   refine W_ret ?_
   have h9 : tat (Nd.mk kind size words bytes kids) (k : Int) = (words.getD k 0, 0) := by rw [tat_mk]; (repeat' split) <;> first | rfl | (exfalso; omega) | (exfalso; simp_all; done) | (exfalso; simp_all; omega)
   refine ret2 (res_tmp (v := .int .u64 (words.getD k 0)) rfl) (res_tmp (v := .int .u16 0) rfl) ⟨?_, G⟩
   rw [h9]
  ·-- false
   simp only [Bool.and_eq_true, Bool.or_eq_true, Bool.not_eq_true', Bool.and_eq_false_iff, Bool.or_eq_false_iff, Bool.not_eq_false', decide_eq_true_eq, decide_eq_false_iff_not, Bool.not_true, Bool.not_false, Bool.not_eq_eq_eq_not, Bool.or_false, Bool.and_true, Bool.or_true, Bool.and_false, Bool.false_or, Bool.true_and, Bool.true_or, Bool.false_and, Bool.false_eq_true, Bool.true_eq_false] at h2
   refine W_seq (W_region rfl ?_)
   refine stp (r_move_bool rfl ?_)
   refine stp (r_move_bool rfl ?_)
   refine WL_some (og_if (s := .bool ((decide (kind ≠ 0)) && (decide (kind ≠ 1)))) (b := true) (v := .pointer (some ⟨b1, 1, none⟩)) rfl (wgb_t _) (fun hc18 => ?_) ?_)
   ·
    obtain ⟨hc18a, hc18b⟩ := and_t hc18
    have hc18a_ := of_decide_eq_true hc18a
    have hc18b_ := of_decide_eq_true hc18b
    refine r_fieldAddr rfl ?_
    exact ⟨rfl, rfl⟩
   refine WL_some (og_if (s := .bool ((decide (kind ≠ 0)) && (decide (kind ≠ 1)))) (b := true) (v := .int .i64 size) rfl (wgb_t _) (fun hc19 => ?_) ?_)
   ·
    obtain ⟨hc19a, hc19b⟩ := and_t hc19
    have hc19a_ := of_decide_eq_true hc19a
    have hc19b_ := of_decide_eq_true hc19b
    refine r_load (v := .int .i64 size) (gvt hc19) hc4 rfl ?_
    exact ⟨rfl, rfl⟩
   refine WL_some (og_if (s := .bool ((decide (kind ≠ 0)) && (decide (kind ≠ 1)))) (b := true) (v := .bool (decide (size = 2))) rfl (wgb_t _) (fun hc20 => ?_) ?_)
   ·
    obtain ⟨hc20a, hc20b⟩ := and_t hc20
    have hc20a_ := of_decide_eq_true hc20a
    have hc20b_ := of_decide_eq_true hc20b
    refine r_eql (gvt hc20) rfl ?_
    exact ⟨rfl, rfl⟩
   refine stp (r_and2 rfl rfl rfl ?_)
   refine stp (r_move_bool rfl ?_)
   refine WL_some (og_if (s := .bool (((decide (kind ≠ 0)) && (decide (kind ≠ 1))) && (decide (size = 2)))) (b := true) (v := .int .i64 (k : Int)) rfl (wgb_t _) (fun hc21 => ?_) ?_)
   ·
    obtain ⟨hc21a, hc21b⟩ := and_t hc21
    obtain ⟨hc21aa, hc21ab⟩ := and_t hc21a
    have hc21aa_ := of_decide_eq_true hc21aa
    have hc21ab_ := of_decide_eq_true hc21ab
    have hc21b_ := of_decide_eq_true hc21b
    refine r_move_int rfl ?_
    exact ⟨rfl, rfl⟩
   refine WL_some (og_if (s := .bool (((decide (kind ≠ 0)) && (decide (kind ≠ 1))) && (decide (size = 2)))) (b := true) (v := .pointer (some ⟨b1, 3, none⟩)) rfl (wgb_t _) (fun hc22 => ?_) ?_)
   ·
    obtain ⟨hc22a, hc22b⟩ := and_t hc22
    obtain ⟨hc22aa, hc22ab⟩ := and_t hc22a
    have hc22aa_ := of_decide_eq_true hc22aa
    have hc22ab_ := of_decide_eq_true hc22ab
    have hc22b_ := of_decide_eq_true hc22b
    refine r_fieldAddr rfl ?_
    exact ⟨rfl, rfl⟩
   refine WL_some (og_if (s := .bool (((decide (kind ≠ 0)) && (decide (kind ≠ 1))) && (decide (size = 2)))) (b := true) (v := .slice ab bytes.length cb) rfl (wgb_t _) (fun hc23 => ?_) ?_)
   ·
    obtain ⟨hc23a, hc23b⟩ := and_t hc23
    obtain ⟨hc23aa, hc23ab⟩ := and_t hc23a
    have hc23aa_ := of_decide_eq_true hc23aa
    have hc23ab_ := of_decide_eq_true hc23ab
    have hc23b_ := of_decide_eq_true hc23b
    refine r_load (v := .slice ab bytes.length cb) (gvt hc23) hc4 rfl ?_
    exact ⟨rfl, rfl⟩
   refine WL_some (og_if (s := .bool (((decide (kind ≠ 0)) && (decide (kind ≠ 1))) && (decide (size = 2)))) (b := true) (v := .int .i64 (bytes.length : Int)) rfl (wgb_t _) (fun hc24 => ?_) ?_)
   ·
    obtain ⟨hc24a, hc24b⟩ := and_t hc24
    obtain ⟨hc24aa, hc24ab⟩ := and_t hc24a
    have hc24aa_ := of_decide_eq_true hc24aa
    have hc24ab_ := of_decide_eq_true hc24ab
    have hc24b_ := of_decide_eq_true hc24b
    refine r_len rfl rfl (gvt hc24) ?_
    exact ⟨rfl, rfl⟩
   refine WL_some (og_if (s := .bool (((decide (kind ≠ 0)) && (decide (kind ≠ 1))) && (decide (size = 2)))) (b := true) (v := .bool (decide ((k : Int) < (bytes.length : Int)))) rfl (wgb_t _) (fun hc25 => ?_) ?_)
   ·
    obtain ⟨hc25a, hc25b⟩ := and_t hc25
    obtain ⟨hc25aa, hc25ab⟩ := and_t hc25a
    have hc25aa_ := of_decide_eq_true hc25aa
    have hc25ab_ := of_decide_eq_true hc25ab
    have hc25b_ := of_decide_eq_true hc25b
    refine r_lss (gvt hc25) (gvt hc25) ?_
    exact ⟨rfl, rfl⟩
   refine stp (r_and2 rfl rfl rfl ?_)
   refine stp (r_assign_bool rfl ?_)
   refine WL_nil ?_
   refine W_cond2 (b := ((((decide (kind ≠ 0)) && (decide (kind ≠ 1))) && (decide (size = 2))) && (decide ((k : Int) < (bytes.length : Int))))) rfl (fun h3 => ?_) (fun h3 => ?_)
   ·-- true
    simp only [Bool.and_eq_true, Bool.or_eq_true, Bool.not_eq_true', Bool.and_eq_false_iff, Bool.or_eq_false_iff, Bool.not_eq_false', decide_eq_true_eq, decide_eq_false_iff_not, Bool.not_true, Bool.not_false, Bool.not_eq_eq_eq_not, Bool.or_false, Bool.and_true, Bool.or_true, Bool.and_false, Bool.false_or, Bool.true_and, Bool.true_or, Bool.false_and, Bool.false_eq_true, Bool.true_eq_false] at h3
    refine W_seq (W_region rfl ?_)
    refine stp (r_fieldAddr rfl ?_)
    refine stp (r_load (v := .slice ab bytes.length cb) rfl hc4 rfl ?_)
    refine stp (r_move_int rfl ?_)
    refine stp (r_indexN (RB.grow G) rfl rfl ?_ ?_); omega
    refine stp (r_loadR (v := .int .u8 (bytes.getD k 0)) (m := 0) (RB.grow G) rfl (map_get1 0 (by omega)) ?_)
    refine stp (r_conv rfl ?_ ?_); constructor <;> omega
    refine stp (r_assign_int rfl ?_)
    refine stp (r_assign_int rfl ?_)
    refine WL_nil ?_
    refine W_ret ?_
    have h9 : tat (Nd.mk kind size words bytes kids) (k : Int) = (bytes.getD k 0, 0) := by rw [tat_mk]; (repeat' split) <;> first | rfl | (exfalso; omega) | (exfalso; simp_all; done) | (exfalso; simp_all; omega)
    refine ret2 (res_tmp (v := .int .u64 (bytes.getD k 0)) rfl) (res_tmp (v := .int .u16 0) rfl) ⟨?_, G⟩
    rw [h9]
   ·-- false
    simp only [Bool.and_eq_true, Bool.or_eq_true, Bool.not_eq_true', Bool.and_eq_false_iff, Bool.or_eq_false_iff, Bool.not_eq_false', decide_eq_true_eq, decide_eq_false_iff_not, Bool.not_true, Bool.not_false, Bool.not_eq_eq_eq_not, Bool.or_false, Bool.and_true, Bool.or_true, Bool.and_false, Bool.false_or, Bool.true_and, Bool.true_or, Bool.false_and, Bool.false_eq_true, Bool.true_eq_false] at h3
    refine W_seq (W_region rfl ?_)
    refine stp (r_move_bool rfl ?_)
    refine stp (r_assign_bool rfl ?_)
    refine WL_nil ?_
    refine W_cond2 (b := ((decide (kind ≠ 0)) && (decide (kind ≠ 1)))) rfl (fun h4 => ?_) (fun h4 => ?_)
    ·-- true
     simp only [Bool.and_eq_true, Bool.or_eq_true, Bool.not_eq_true', Bool.and_eq_false_iff, Bool.or_eq_false_iff, Bool.not_eq_false', decide_eq_true_eq, decide_eq_false_iff_not, Bool.not_true, Bool.not_false, Bool.not_eq_eq_eq_not, Bool.or_false, Bool.and_true, Bool.or_true, Bool.and_false, Bool.false_or, Bool.true_and, Bool.true_or, Bool.false_and, Bool.false_eq_true, Bool.true_eq_false] at h4
     refine W_seq (W_region rfl ?_)
     refine stp (r_assign_int rfl ?_)
     refine stp (r_assign_int rfl ?_)
     refine WL_nil ?_
     refine W_ret ?_
     have h9 : tat (Nd.mk kind size words bytes kids) (k : Int) = (0, 20) := by rw [tat_mk]; (repeat' split) <;> first | rfl | (exfalso; omega) | (exfalso; simp_all; done) | (exfalso; simp_all; omega)
     refine ret2 (res_tmp (v := .int .u64 0) rfl) (res_tmp (v := .int .u16 20) rfl) ⟨?_, G⟩
     rw [h9]
    ·-- false
     simp only [Bool.and_eq_true, Bool.or_eq_true, Bool.not_eq_true', Bool.and_eq_false_iff, Bool.or_eq_false_iff, Bool.not_eq_false', decide_eq_true_eq, decide_eq_false_iff_not, Bool.not_true, Bool.not_false, Bool.not_eq_eq_eq_not, Bool.or_false, Bool.and_true, Bool.or_true, Bool.and_false, Bool.false_or, Bool.true_and, Bool.true_or, Bool.false_and, Bool.false_eq_true, Bool.true_eq_false] at h4
     refine W_skip ?_
     refine W_seq (W_region rfl ?_)
     refine stp (r_assign_int rfl ?_)
     refine stp (r_assign_int rfl ?_)
     refine WL_nil ?_
     refine W_ret ?_
     have h9 : tat (Nd.mk kind size words bytes kids) (k : Int) = (0, 0) := by rw [tat_mk]; (repeat' split) <;> first | rfl | (exfalso; omega) | (exfalso; simp_all; done) | (exfalso; simp_all; omega)
     refine ret2 (res_tmp (v := .int .u64 0) rfl) (res_tmp (v := .int .u16 0) rfl) ⟨?_, G⟩
     rw [h9]

set_option maxRecDepth 100000 in
theorem indexI_calls (w : World) {ad : Option Addr} {c n fid : Nat} {fst cap : Array Value} {xs : List Int} [FuncI Try.prog fid] (R : RowAt w 1 ad n (xs.map (.int .i64))) (hn : n = xs.length) (p : Nat → Bool) (hf : ∀ i, i < n → ∀ w', Grow w w' → Gives Try.prog fid (fst.toList ++ ([Value.int .i64 (xs.getD i 0)] ++ cap.toList)).toArray w' (.bool (p i))) : Gives Try.prog 69 #[.slice ad n c, .func (.func fid) fst cap] w (.int .i64 (findI p n 0)) := by
 have ln := R.lim
 have G := Grow.rfl' w
 refine gives_of Try.func69 Try.ntmps69 Try.results69 rfl rfl ?_
 refine W_seq (W_region rfl ?_)
 refine stp (r_assign_int rfl ?_)
 refine WL_nil ?_
 refine W_seq ?_
 refine W_seq (W_region rfl ?_)
 refine stp (r_move_slice rfl ?_)
 refine stp (r_len rfl rfl rfl ?_)
 refine stp (r_move_int rfl ?_)
 refine WL_nil ?_
 refine W_block ?_
 refine W_loop (fun m_ e_ w_ => ∃ (k : Nat), m_ = n - k ∧ Fr [(0, .slice ad n c), (1, .func (.func fid) fst cap), (7, .int .i64 (n : Int)), (8, .int .i64 (k : Int))] e_ ∧ (k ≤ n) ∧ (∀ j, j < k → p j = false) ∧ Grow w w_) _ ⟨0, rfl, fr_of ⟨rfl, rfl, rfl, rfl, trivial⟩, by omega, fun j hj => by omega, G⟩ ?_
 clear G
 rintro m_ e_ w1 ⟨k, rfl, ⟨e2, rfl⟩, hk, hno, G⟩
 refine W_seq (W_region rfl ?_)
 refine stp (r_lss rfl rfl ?_)
 refine WL_nil ?_
 refine W_seq ?_
 refine W_cond2 (b := (decide ((k : Int) < (n : Int)))) rfl (fun hlt => ?_) (fun hlt => ?_)
 ·-- true
  replace hlt := of_decide_eq_true hlt
  refine W_skip ?_
  refine W_seq ?_
  refine W_block ?_
  refine W_seq (W_region rfl ?_)
  refine stp (r_move_int rfl ?_)
  refine stp (r_assign_int rfl ?_)
  refine WL_nil ?_
  refine W_seq (W_region rfl ?_)
  refine stp (r_move (v := .func (.func fid) fst cap) rfl ?_)
  refine stp (r_move_slice rfl ?_)
  refine stp (r_move_int rfl ?_)
  refine stp (r_indexN (R.grow G) rfl rfl ?_ ?_); omega
  refine stp (r_loadR (v := .int .i64 (xs.getD k 0)) (m := 0) (R.grow G) rfl (map_get1 0 (by omega)) ?_)
  refine stp (r_gives (v := .bool (p k)) rfl (hf k (by omega) _ G) ?_)
  intro w3 g4
  replace G := G.tr g4
  clear g4
  refine WL_nil ?_
  refine W_cond2 (b := (p k)) rfl (fun hpk => ?_) (fun hpk => ?_)
  ·-- true
   refine W_seq (W_region rfl ?_)
   refine stp (r_move_int rfl ?_)
   refine stp (r_assign_int rfl ?_)
   refine WL_nil ?_
   refine W_ret ?_
   refine ret1 (res_tmp (v := .int .i64 (k : Int)) rfl) ⟨?_, G⟩
   rw [findI_some n 0 k (by omega) (by omega) hpk (fun j _ hj => hno j hj)]
  ·-- false
   refine W_skip ?_
   refine W_region rfl ?_
   refine stp (r_add rfl rfl ?_ ?_); constructor <;> omega
   refine stp (r_move_int rfl ?_)
   refine WL_nil ?_
   refine ⟨_, ?_, k + 1, rfl, fr_of ⟨rfl, rfl, rfl, rfl, trivial⟩, by omega, fun j hj => by rcases Nat.lt_succ_iff_lt_or_eq.1 hj with h | h; exact hno j h; subst h; exact hpk, G⟩
   omega
 ·-- false
  replace hlt := of_decide_eq_false hlt
  have hk2 : k = n := by omega
  subst hk2
  refine W_exit ?_
  refine W_seq (W_region rfl ?_)
  refine stp (r_assign_int rfl ?_)
  refine WL_nil ?_
  refine W_ret ?_
  refine ret1 (res_tmp (v := .int .i64 (-1)) rfl) ⟨?_, G⟩
  rw [findI_none _ _ (fun j _ hj => hno j (by omega))]

set_option maxRecDepth 100000 in
theorem containsI_calls (w : World) {ad : Option Addr} {c n fid : Nat} {fst cap : Array Value} {xs : List Int} [FuncI Try.prog fid] (R : RowAt w 1 ad n (xs.map (.int .i64))) (hn : n = xs.length) (p : Nat → Bool) (hf : ∀ i, i < n → ∀ w', Grow w w' → Gives Try.prog fid (fst.toList ++ ([Value.int .i64 (xs.getD i 0)] ++ cap.toList)).toArray w' (.bool (p i))) : Gives Try.prog 41 #[.slice ad n c, .func (.func fid) fst cap] w (.bool ((List.range' 0 n).any p)) := by
 have G := Grow.rfl' w
 refine gives_of Try.func41 Try.ntmps41 Try.results41 rfl rfl ?_
 refine W_seq (W_region rfl ?_)
 refine stp (r_assign (v := .bool false) rfl ?_)
 refine WL_nil ?_
 refine W_seq (W_region rfl ?_)
 refine stp (r_move_slice rfl ?_)
 refine stp (r_move (v := .func (.func fid) fst cap) rfl ?_)
 refine stp (r_gives (v := .int .i64 (findI p n 0)) rfl (indexI_calls _ (R.grow G) hn p (fun i hi w' g' => hf i hi w' (G.tr g'))) ?_)
 intro w1 g2
 replace G := G.tr g2
 clear g2
 refine stp (r_geq rfl rfl ?_)
 refine stp (r_assign_bool rfl ?_)
 refine WL_nil ?_
 refine W_ret ?_
 refine ret1 (res_tmp (v := .bool (decide ((findI p n 0) ≥ 0))) rfl) ⟨?_, G⟩
 rw [← findI_any]

set_option maxRecDepth 100000 in
theorem ask1_calls (w : World) (x : Int) : Gives Try.prog 42 #[.int .i64 x] w (.bool (decide (x < 0))) := by
 have G := Grow.rfl' w
 refine gives_of Try.func42 Try.ntmps42 Try.results42 rfl rfl ?_
 refine W_seq (W_region rfl ?_)
 refine stp (r_assign (v := .bool false) rfl ?_)
 refine WL_nil ?_
 refine W_seq (W_region rfl ?_)
 refine stp (r_move_int rfl ?_)
 refine stp (r_lss rfl rfl ?_)
 refine stp (r_assign_bool rfl ?_)
 refine WL_nil ?_
 refine W_ret ?_
 refine ret1 (res_tmp (v := .bool (decide (x < 0))) rfl) ⟨?_, G⟩
 rfl

set_option maxRecDepth 100000 in
theorem cost_calls : ∀ (n_ : Nat) (w : World) {c : List Value} {t : Nd} (T : NodeR w c t), t.sz ≤ n_ → Gives Try.prog 19 #[.agg c.toArray] w (.int .i64 t.cost) := by
 intro n_
 induction n_ with
 | zero => intro w c t T hm_; exact absurd hm_ (by have := t.sz_pos; omega)
 | succ n_ ih_ =>
 intro w c t T hm_
 have T0 := T
 have hnd := T.need_le
 obtain @⟨kind, size, words, bytes, kids, ws, bs, ks, kc, hk, hs, hW, hwr, hB, hbr, hK, hKs⟩ := T
 obtain ⟨aw, cw, rfl, hcw, hcw2, RW⟩ := hW
 obtain ⟨ab, cb, rfl, hcb, hcb2, RB⟩ := hB
 obtain ⟨ak, ck, rfl, hck, hck2, RK⟩ := hK
 have lw := RW.lim
 have lb := RB.lim
 have lk := RK.lim
 simp only [inR] at hk hs
 have hn0 := Nd.need_nn (Nd.mk kind size words bytes kids)
 have G := Grow.rfl' w
 refine gives_of Try.func19 Try.ntmps19 Try.results19 rfl rfl ?_
 refine W_seq (W_region rfl ?_)
 refine WL_some (og rfl ?_)
 (first | refine r_box_agg rfl ?_ | refine r_box_int rfl ?_ | refine r_box_slice rfl ?_ | refine r_box rfl rfl ?_)
 intro b1 w2 hb3 hc4 g5
 have hge6 := Nat.le_trans G.size hb3
 replace G := G.tr g5
 clear g5 hb3
 refine stp (r_assign_int rfl ?_)
 refine WL_nil ?_
 refine W_seq (W_region rfl ?_)
 refine stp (r_loadAll rfl hc4 (by rfl) ?_)
 refine stp (r_gives (v := .int .i64 ((Nd.mk kind size words bytes kids).need)) rfl (need_calls _ (T0.grow G)) ?_)
 intro w7 g8
 replace hc4 := g8.heap hc4
 replace G := G.tr g8
 clear g8
 refine stp (r_add rfl rfl ?_ ?_); constructor <;> omega
 refine stp (r_assign_int rfl ?_)
 refine WL_nil ?_
 refine W_seq ?_
 refine W_seq (W_region rfl ?_)
 refine stp (r_fieldAddr rfl ?_)
 refine stp (r_load (v := .slice ak kids.length ck) rfl hc4 rfl ?_)
 refine stp (r_len rfl rfl rfl ?_)
 refine stp (r_move_int rfl ?_)
 refine WL_nil ?_
 refine W_block ?_
 refine W_loop (fun m_ e_ w_ => ∃ (k : Nat), m_ = kids.length - k ∧ Fr [(2, .int .i64 0), (10, .slice ak kids.length ck), (11, .int .i64 (kids.length : Int)), (3, .int .i64 (Nd.costL (kids.take k) (1 + (Nd.mk kind size words bytes kids).need))), (12, .int .i64 (k : Int))] e_ ∧ (k ≤ kids.length) ∧ (w_.heap[b1]? = some (.cells #[.int .i64 kind, .int .i64 size, .slice aw words.length cw, .slice ab bytes.length cb, .slice ak kids.length ck] 37 (0, 0))) ∧ Grow w w_) _ ⟨0, rfl, fr_of ⟨rfl, rfl, rfl, congrArg (Value.int .i64) (by simp [Nd.costL]), rfl, trivial⟩, by omega, hc4, G⟩ ?_
 clear hc4
 clear G
 rintro m_ e_ w9 ⟨k, rfl, ⟨e10, rfl⟩, hk2, hc4, G⟩
 refine W_seq (W_region rfl ?_)
 refine stp (r_lss rfl rfl ?_)
 refine WL_nil ?_
 refine W_seq ?_
 refine W_cond2 (b := (decide ((k : Int) < (kids.length : Int)))) rfl (fun hlt => ?_) (fun hlt => ?_)
 ·-- true
  replace hlt := of_decide_eq_true hlt
  have hi : k < kids.length := by omega
  have hat := KidsR.at_ k kids[k] hKs (by simp [hi])
  obtain ⟨y0, y1, ya, yn, yc, za, zn, zc, ua, un, uc, hy⟩ := hat.cells
  rw [hy] at hat
  have hsz := Nd.szs_at kids k kids[k] (by simp [hi])
  simp only [Nd.sz] at hm_
  have c0 := Nd.costL_pos (kids.take k) (1 + (Nd.mk kind size words bytes kids).need) (by omega)
  have c1 := Nd.costL_le (kids.take k) (1 + (Nd.mk kind size words bytes kids).need) (by omega)
  have c2 := kids[k].cost_pos
  have c3 := Nd.cost_le hat.need_le
  refine W_skip ?_
  refine W_seq ?_
  refine W_block ?_
  refine W_seq (W_region rfl ?_)
  refine stp (r_indexN (RK.grow G) rfl rfl ?_ ?_); omega
  refine stp (r_loadNR (RK.grow G) rfl (by decide) (by rw [RK.len]; omega) hy ?_)
  refine stp (r_alloc ?_)
  intro b11 w12 hb13 hc14 g15
  refine stn (r_storeAll rfl rfl hc14 (by rfl) (by rfl) (by rfl) ?_)
  intro w16 hc17 u18
  have g19 := g15.upd u18 hb13
  have hge20 := Nat.le_trans G.size hb13
  have ne21 := Nat.ne_of_lt (Nat.lt_of_lt_of_le (lt_of_heap hc4) hb13)
  replace hc4 := g19.heap hc4
  replace G := G.tr g19
  clear u18 g15 hb13 hc14
  refine WL_nil ?_
  refine W_region rfl ?_
  refine stp (r_move_int rfl ?_)
  refine stp (r_loadAll rfl hc17 (by rfl) ?_)
  refine stp (r_gives (v := .int .i64 (kids[k].cost)) rfl ((by have h := ih_ _ (hat.grow G) (by omega); exact h)) ?_)
  intro w22 g23
  replace hc4 := g23.heap hc4
  replace hc17 := g23.heap hc17
  replace G := G.tr g23
  clear g23
  refine stp (r_add rfl rfl ?_ ?_); constructor <;> omega
  refine stp (r_min rfl rfl rfl ?_)
  refine stp (r_assign_int rfl ?_)
  refine WL_nil ?_
  refine W_region rfl ?_
  refine stp (r_add rfl rfl ?_ ?_); constructor <;> omega
  refine stp (r_move_int rfl ?_)
  refine WL_nil ?_
  refine ⟨_, ?_, k + 1, rfl, fr_of ⟨rfl, rfl, rfl, congrArg (Value.int .i64) (by rw [Nd.costL_take _ hi]; rfl), rfl, trivial⟩, by omega, hc4, G⟩
  omega
 ·-- false
  replace hlt := of_decide_eq_false hlt
  have hk3 : k = kids.length := by omega
  refine W_exit ?_
  refine W_seq (W_region rfl ?_)
  refine stp (r_move_int rfl ?_)
  refine stp (r_assign_int rfl ?_)
  refine WL_nil ?_
  refine W_ret ?_
  refine ret1 (res_tmp (v := .int .i64 (Nd.costL (kids.take k) (1 + (Nd.mk kind size words bytes kids).need))) rfl) ⟨?_, G⟩
  rw [Nd.cost, hk3, List.take_length]

set_option maxRecDepth 100000 in
theorem ask_calls (w : World) {c : List Value} {t : Nd} (T : NodeR w c t) {ad : Option Addr} {c2 : Nat} {steps : List Int} {a : Int} (R : RowAt w 1 ad steps.length (steps.map (.int .i64))) (ha : inR .i64 a) : Gives Try.prog 25 #[.agg c.toArray, .agg #[.slice ad steps.length c2, .int .i64 a]] w (.tuple #[.agg #[.int .i64 ((askT t steps a).1.kind), .int .i64 ((askT t steps a).1.size), .int .i64 ((askT t steps a).1.words), .int .i64 ((askT t steps a).1.kids), .int .u64 ((askT t steps a).1.word)], .int .u16 ((askT t steps a).2)]) := by
 have T0 := T
 have ll := R.lim
 simp only [inR] at ha
 obtain @⟨kind, size, words, bytes, kids, ws, bs, ks, kc, hk, hs, hW, hwr, hB, hbr, hK, hKs⟩ := T
 obtain ⟨aw, cw, rfl, hcw, hcw2, RW⟩ := hW
 obtain ⟨ab, cb, rfl, hcb, hcb2, RB⟩ := hB
 obtain ⟨ak, ck, rfl, hck, hck2, RK⟩ := hK
 have lw := RW.lim
 have lb := RB.lim
 have lk := RK.lim
 simp only [inR] at hk hs
 have G := Grow.rfl' w
 refine gives_of Try.func25 Try.ntmps25 Try.results25 rfl rfl ?_
 refine W_seq (W_region rfl ?_)
 refine WL_some (og rfl ?_)
 (first | refine r_box_agg rfl ?_ | refine r_box_int rfl ?_ | refine r_box_slice rfl ?_ | refine r_box rfl rfl ?_)
 intro b1 w2 hb3 hc4 g5
 have hge6 := Nat.le_trans G.size hb3
 replace G := G.tr g5
 clear g5 hb3
 refine WL_some (og rfl ?_)
 (first | refine r_box_agg rfl ?_ | refine r_box_int rfl ?_ | refine r_box_slice rfl ?_ | refine r_box rfl rfl ?_)
 intro b7 w8 hb9 hc10 g11
 have hge12 := Nat.le_trans G.size hb9
 have ne13 := Nat.ne_of_lt (Nat.lt_of_lt_of_le (lt_of_heap hc4) hb9)
 replace hc4 := g11.heap hc4
 replace G := G.tr g11
 clear g11 hb9
 refine stp (r_alloc ?_)
 intro b14 w15 hb16 hc17 g18
 refine stp (r_assign_int rfl ?_)
 refine WL_nil ?_
 refine W_seq ?_
 refine W_block ?_
 refine W_seq (W_region rfl ?_)
 refine stp (r_fieldAddr rfl ?_)
 have hge19 := Nat.le_trans G.size hb16
 have ne20 := Nat.ne_of_lt (Nat.lt_of_lt_of_le (lt_of_heap hc4) hb16)
 have ne21 := Nat.ne_of_lt (Nat.lt_of_lt_of_le (lt_of_heap hc10) hb16)
 replace hc4 := g18.heap hc4
 replace hc10 := g18.heap hc10
 replace G := G.tr g18
 clear g18 hb16
 refine stp (r_load (v := .slice ad steps.length c2) rfl hc10 rfl ?_)
 refine stp (r_gives (v := .bool ((List.range' 0 steps.length).any fun i => decide (steps.getD i 0 < 0))) rfl (containsI_calls _ (R.grow G) rfl (fun i => decide (steps.getD i 0 < 0)) (fun i hi w' g' => ask1_calls _ _)) ?_)
 intro w22 g23
 replace hc4 := g23.heap hc4
 replace hc10 := g23.heap hc10
 replace hc17 := g23.heap hc17
 replace G := G.tr g23
 clear g23
 refine stp (r_assign_bool rfl ?_)
 refine WL_nil ?_
 refine W_cond2 (b := ((List.range' 0 steps.length).any fun i => decide (steps.getD i 0 < 0))) rfl (fun h1 => ?_) (fun h1 => ?_)
 ·-- true
  refine W_seq (W_region rfl ?_)
  refine stp (r_build (v := .agg #[.int .i64 0, .int .i64 0, .int .i64 0, .int .i64 0, .int .u64 0]) (fun w => by kernel_rfl) ?_)
  refine stn (r_storeAll rfl rfl hc17 (by rfl) (by rfl) (by rfl) ?_)
  intro w24 hc25 u26
  replace hc4 := u26.heap hc4 ne20
  replace hc10 := u26.heap hc10 ne21
  replace G := G.upd u26 hge19
  clear u26 hc17
  refine stp (r_assign_int rfl ?_)
  refine WL_nil ?_
  refine W_ret ?_
  have h9 : (askT (Nd.mk kind size words bytes kids) steps a) = (Vl0, 1) := by unfold askT; rw [if_pos (any_neg.1 h1)]
  refine ret2 (res_all rfl hc25 (by rfl)) (res_tmp (v := .int .u16 1) rfl) ⟨?_, G⟩
  rw [h9] <;> rfl
 ·-- false
  have hno : ¬ ∃ k ∈ steps, k < 0 := fun h_ => by rw [any_neg.2 h_] at h1; cases h1
  refine W_seq (W_region rfl ?_)
  refine stp (r_fieldAddr rfl ?_)
  refine stp (r_load (v := .slice ad steps.length c2) rfl hc10 rfl ?_)
  refine stp (r_len rfl rfl rfl ?_)
  refine stp (r_gtr rfl rfl ?_)
  refine stp (r_assign_bool rfl ?_)
  refine WL_nil ?_
  refine W_cond2 (b := (decide ((steps.length : Int) > 32))) rfl (fun h2 => ?_) (fun h2 => ?_)
  ·-- true
   replace h2 := of_decide_eq_true h2
   refine W_seq (W_region rfl ?_)
   refine stp (r_build (v := .agg #[.int .i64 0, .int .i64 0, .int .i64 0, .int .i64 0, .int .u64 0]) (fun w => by kernel_rfl) ?_)
   refine stn (r_storeAll rfl rfl hc17 (by rfl) (by rfl) (by rfl) ?_)
   intro w27 hc28 u29
   replace hc4 := u29.heap hc4 ne20
   replace hc10 := u29.heap hc10 ne21
   replace G := G.upd u29 hge19
   clear u29 hc17
   refine stp (r_assign_int rfl ?_)
   refine WL_nil ?_
   refine W_ret ?_
   have h9 : (askT (Nd.mk kind size words bytes kids) steps a) = (Vl0, 3) := by unfold askT; rw [if_neg hno, if_pos h2]
   refine ret2 (res_all rfl hc28 (by rfl)) (res_tmp (v := .int .u16 3) rfl) ⟨?_, G⟩
   rw [h9] <;> rfl
  ·-- false
   replace h2 := of_decide_eq_false h2
   refine W_skip ?_
   refine W_seq ?_
   refine W_seq (W_region rfl ?_)
   refine stp (r_fieldAddr rfl ?_)
   refine stp (r_load (v := .slice ad steps.length c2) rfl hc10 rfl ?_)
   refine stp (r_len rfl rfl rfl ?_)
   refine stp (r_move_int rfl ?_)
   refine WL_nil ?_
   refine W_block ?_
   refine W_loop (fun m_ e_ w_ => ∃ (k : Nat) (y0 : Int) (y1 : Int) (ya : Option Addr) (yn : Nat) (yc : Nat) (za : Option Addr) (zn : Nat) (zc : Nat) (ua : Option Addr) (un : Nat) (uc : Nat) (u : Nd), m_ = steps.length - k ∧ Fr [(2, .pointer (some ⟨b1, 0, none⟩)), (3, .pointer (some ⟨b7, 0, none⟩)), (4, .pointer (some ⟨b14, 0, none⟩)), (24, .slice ad steps.length c2), (25, .int .i64 (steps.length : Int)), (26, .int .i64 (k : Int))] e_ ∧ (k ≤ steps.length) ∧ (NodeR w [.int .i64 y0, .int .i64 y1, .slice ya yn yc, .slice za zn zc, .slice ua un uc] u) ∧ (tgo steps (Nd.mk kind size words bytes kids) = tgo (steps.drop k) u) ∧ (w_.heap[b7]? = some (.cells #[.slice ad steps.length c2, .int .i64 a] 33 (0, 0))) ∧ (w_.heap[b14]? = some (.cells #[.int .i64 0, .int .i64 0, .int .i64 0, .int .i64 0, .int .u64 0] 57 (0, 0))) ∧ (w_.heap[b1]? = some (.cells #[.int .i64 y0, .int .i64 y1, .slice ya yn yc, .slice za zn zc, .slice ua un uc] 37 (0, 0))) ∧ Grow w w_) _ ⟨0, kind, size, aw, words.length, cw, ab, bytes.length, cb, ak, kids.length, ck, (Nd.mk kind size words bytes kids), rfl, fr_of ⟨rfl, rfl, rfl, rfl, rfl, rfl, trivial⟩, by omega, T0, rfl, hc10, hc17, hc4, G⟩ ?_
   clear hc4 hc10 hc17
   clear G
   rintro m_ e_ w30 ⟨k, y0, y1, ya, yn, yc, za, zn, zc, ua, un, uc, u, rfl, ⟨e31, rfl⟩, hk2, hT, hw, hc10, hc17, hc4, G⟩
   refine W_seq (W_region rfl ?_)
   refine stp (r_lss rfl rfl ?_)
   refine WL_nil ?_
   refine W_seq ?_
   refine W_cond2 (b := (decide ((k : Int) < (steps.length : Int)))) rfl (fun hlt => ?_) (fun hlt => ?_)
   ·-- true
    replace hlt := of_decide_eq_true hlt
    have hi : k < steps.length := by omega
    have hkk : 0 ≤ (steps.getD k 0) := Int.not_lt.1 fun h_ => hno ⟨_, getD_mem hi, h_⟩
    have hd := tgo_drop hi u
    refine W_skip ?_
    refine W_seq ?_
    refine W_block ?_
    refine W_seq (W_region rfl ?_)
    refine stp (r_indexN (R.grow G) rfl rfl ?_ ?_); omega
    refine stp (r_loadR (v := .int .i64 (steps.getD k 0)) (m := 0) (R.grow G) rfl (map_get1 0 (by omega)) ?_)
    refine stp (r_assign_int rfl ?_)
    refine WL_nil ?_
    refine W_seq (W_region rfl ?_)
    refine stp (r_loadAll rfl hc4 (by rfl) ?_)
    refine stp (r_move_int rfl ?_)
    refine WL_some (og rfl ?_)
    refine r_call rfl (tstep_calls _ hT G hkk) ?_
    rintro v_ w32 ⟨cells, rfl, hT9, g_⟩
    replace hc10 := g_.heap hc10
    replace hc17 := g_.heap hc17
    replace hc4 := g_.heap hc4
    replace G := G.tr g_
    clear g_
    obtain ⟨x0, x1, xa, xn, xc, pa, pn, pc, qa, qn, qc, rfl⟩ := hT9.cells
    refine stp (r_move (v := .tuple #[.agg #[.int .i64 x0, .int .i64 x1, .slice xa xn xc, .slice pa pn pc, .slice qa qn qc], .int .u16 ((tstep u (steps.getD k 0)).2)]) rfl ?_)
    refine stp (r_extract (v := .agg #[.int .i64 x0, .int .i64 x1, .slice xa xn xc, .slice pa pn pc, .slice qa qn qc]) rfl rfl ?_)
    refine stp (r_extract (v := .int .u16 ((tstep u (steps.getD k 0)).2)) rfl rfl ?_)
    refine stp (r_alloc ?_)
    intro b33 w34 hb35 hc36 g37
    refine stn (r_storeAll rfl rfl hc36 (by rfl) (by rfl) (by rfl) ?_)
    intro w38 hc39 u40
    have g41 := g37.upd u40 hb35
    have hge42 := Nat.le_trans G.size hb35
    have ne43 := Nat.ne_of_lt (Nat.lt_of_lt_of_le (lt_of_heap hc10) hb35)
    have ne44 := Nat.ne_of_lt (Nat.lt_of_lt_of_le (lt_of_heap hc17) hb35)
    have ne45 := Nat.ne_of_lt (Nat.lt_of_lt_of_le (lt_of_heap hc4) hb35)
    replace hc10 := g41.heap hc10
    replace hc17 := g41.heap hc17
    replace hc4 := g41.heap hc4
    replace G := G.tr g41
    clear u40 g37 hb35 hc36
    refine stp (r_assign_int rfl ?_)
    refine WL_nil ?_
    refine W_seq ?_
    refine W_seq (W_region rfl ?_)
    refine stp (r_move_int rfl ?_)
    refine stp (r_neq rfl rfl ?_)
    refine WL_nil ?_
    refine W_cond2 (b := (decide (((tstep u (steps.getD k 0)).2) ≠ 0))) rfl (fun h4 => ?_) (fun h4 => ?_)
    ·-- true
     replace h4 := of_decide_eq_true h4
     refine W_seq (W_region rfl ?_)
     refine stp (r_build (v := .agg #[.int .i64 0, .int .i64 0, .int .i64 0, .int .i64 0, .int .u64 0]) (fun w => by kernel_rfl) ?_)
     refine stp (r_move_int rfl ?_)
     refine stn (r_storeAll rfl rfl hc17 (by rfl) (by rfl) (by rfl) ?_)
     intro w46 hc47 u48
     replace hc10 := u48.heap hc10 ne21
     replace hc4 := u48.heap hc4 ne20
     replace hc39 := u48.heap hc39 ne44.symm
     replace G := G.upd u48 hge19
     clear u48 hc17
     refine stp (r_assign_int rfl ?_)
     refine WL_nil ?_
     refine W_ret ?_
     have h9 : (askT (Nd.mk kind size words bytes kids) steps a) = (Vl0, (tstep u (steps.getD k 0)).2) := by unfold askT; rw [if_neg hno, if_neg h2, hw, hd, if_pos h4, if_pos h4]
     refine ret2 (res_all rfl hc47 (by rfl)) (res_tmp (v := .int .u16 ((tstep u (steps.getD k 0)).2)) rfl) ⟨?_, G⟩
     rw [h9] <;> rfl
    ·-- false
     replace h4 := of_decide_eq_false h4
     refine W_skip ?_
     refine W_region rfl ?_
     refine stp (r_loadAll rfl hc39 (by rfl) ?_)
     refine stn (r_storeAll rfl rfl hc4 (by rfl) (by rfl) (by rfl) ?_)
     intro w49 hc50 u51
     replace hc10 := u51.heap hc10 ne13.symm
     replace hc17 := u51.heap hc17 ne20.symm
     replace hc39 := u51.heap hc39 ne45.symm
     replace G := G.upd u51 hge6
     clear u51 hc4
     refine WL_nil ?_
     refine W_region rfl ?_
     refine stp (r_add rfl rfl ?_ ?_); constructor <;> omega
     refine stp (r_move_int rfl ?_)
     refine WL_nil ?_
     refine ⟨_, ?_, k + 1, x0, x1, xa, xn, xc, pa, pn, pc, qa, qn, qc, (tstep u (steps.getD k 0)).1, rfl, fr_of ⟨rfl, rfl, rfl, rfl, rfl, rfl, trivial⟩, by omega, hT9, (by rw [hw, hd, if_neg h4]), hc10, hc17, hc50, G⟩
     omega
   ·-- false
    replace hlt := of_decide_eq_false hlt
    have hk9 : k = steps.length := by omega
    rw [hk9, List.drop_length, tgo] at hw
    obtain ⟨hl1, hl2, hl3, hl4, hl5, hl6, hl7, hl8⟩ := hT.lens
    have hv : (askT (Nd.mk kind size words bytes kids) steps a) = tval u a := by unfold askT; rw [if_neg hno, if_neg h2, hw, if_neg (by simp)]
    refine W_exit ?_
    refine W_seq ?_
    refine W_seq (W_region rfl ?_)
    refine stp (r_fieldAddr rfl ?_)
    refine stp (r_load (v := .int .i64 a) rfl hc10 rfl ?_)
    refine stp (r_lss rfl rfl ?_)
    refine WL_nil ?_
    refine W_cond2 (b := (decide (a < 0))) rfl (fun h3 => ?_) (fun h3 => ?_)
    ·-- true
     replace h3 := of_decide_eq_true h3
     refine W_seq (W_region rfl ?_)
     refine stp (r_fieldAddr rfl ?_)
     refine stp (r_load (v := .int .i64 y0) rfl hc4 rfl ?_)
     refine stp (r_fieldAddr rfl ?_)
     refine stp (r_load (v := .int .i64 y1) rfl hc4 rfl ?_)
     refine stp (r_fieldAddr rfl ?_)
     refine stp (r_load (v := .slice ya yn yc) rfl hc4 rfl ?_)
     refine stp (r_len rfl rfl rfl ?_)
     refine stp (r_fieldAddr rfl ?_)
     refine stp (r_load (v := .slice za zn zc) rfl hc4 rfl ?_)
     refine stp (r_len rfl rfl rfl ?_)
     refine stp (r_add rfl rfl ?_ ?_); constructor <;> omega
     refine stp (r_fieldAddr rfl ?_)
     refine stp (r_load (v := .slice ua un uc) rfl hc4 rfl ?_)
     refine stp (r_len rfl rfl rfl ?_)
     refine stp (r_build (v := .agg #[.int .i64 y0, .int .i64 y1, .int .i64 ((yn : Int) + (zn : Int)), .int .i64 (un : Int), .int .u64 0]) (fun w => by kernel_rfl) ?_)
     refine stn (r_storeAll rfl rfl hc17 (by rfl) (by rfl) (by rfl) ?_)
     intro w52 hc53 u54
     replace hc10 := u54.heap hc10 ne21
     replace hc4 := u54.heap hc4 ne20
     replace G := G.upd u54 hge19
     clear u54 hc17
     refine stp (r_assign_int rfl ?_)
     refine WL_nil ?_
     refine W_ret ?_
     have h9 : (askT (Nd.mk kind size words bytes kids) steps a) = (⟨y0, y1, (yn : Int) + zn, un, 0⟩, 0) := by rw [hv, tval, if_pos h3, hl1, hl2, hl3, hl4, hl5]
     refine ret2 (res_all rfl hc53 (by rfl)) (res_tmp (v := .int .u16 0) rfl) ⟨?_, G⟩
     rw [h9] <;> rfl
    ·-- false
     replace h3 := of_decide_eq_false h3
     refine W_skip ?_
     refine W_seq (W_region rfl ?_)
     refine stp (r_loadAll rfl hc4 (by rfl) ?_)
     refine stp (r_fieldAddr rfl ?_)
     refine stp (r_load (v := .int .i64 a) rfl hc10 rfl ?_)
     refine stp (r_gives (v := .tuple #[.int .u64 ((tat u a).1), .int .u16 ((tat u a).2)]) rfl (tat_calls _ (hT.grow G) (by omega)) ?_)
     intro w55 g56
     replace hc10 := g56.heap hc10
     replace hc17 := g56.heap hc17
     replace hc4 := g56.heap hc4
     replace G := G.tr g56
     clear g56
     refine stp (r_move (v := .tuple #[.int .u64 ((tat u a).1), .int .u16 ((tat u a).2)]) rfl ?_)
     refine stp (r_extract (v := .int .u64 ((tat u a).1)) rfl rfl ?_)
     refine stp (r_extract (v := .int .u16 ((tat u a).2)) rfl rfl ?_)
     refine stp (r_assign_int rfl ?_)
     refine stp (r_assign_int rfl ?_)
     refine WL_nil ?_
     refine W_seq ?_
     refine W_seq (W_region rfl ?_)
     refine stp (r_move_int rfl ?_)
     refine stp (r_neq rfl rfl ?_)
     refine WL_nil ?_
     refine W_cond2 (b := (decide (((tat u a).2) ≠ 0))) rfl (fun h4 => ?_) (fun h4 => ?_)
     ·-- true
      replace h4 := of_decide_eq_true h4
      refine W_seq (W_region rfl ?_)
      refine stp (r_build (v := .agg #[.int .i64 0, .int .i64 0, .int .i64 0, .int .i64 0, .int .u64 0]) (fun w => by kernel_rfl) ?_)
      refine stp (r_move_int rfl ?_)
      refine stn (r_storeAll rfl rfl hc17 (by rfl) (by rfl) (by rfl) ?_)
      intro w57 hc58 u59
      replace hc10 := u59.heap hc10 ne21
      replace hc4 := u59.heap hc4 ne20
      replace G := G.upd u59 hge19
      clear u59 hc17
      refine stp (r_assign_int rfl ?_)
      refine WL_nil ?_
      refine W_ret ?_
      have h9 : (askT (Nd.mk kind size words bytes kids) steps a) = (Vl0, (tat u a).2) := by rw [hv, tval, if_neg h3, if_pos h4]
      refine ret2 (res_all rfl hc58 (by rfl)) (res_tmp (v := .int .u16 ((tat u a).2)) rfl) ⟨?_, G⟩
      rw [h9] <;> rfl
     ·-- false
      replace h4 := of_decide_eq_false h4
      refine W_skip ?_
      refine W_seq (W_region rfl ?_)
      refine stp (r_fieldAddr rfl ?_)
      refine stp (r_load (v := .int .i64 y0) rfl hc4 rfl ?_)
      refine stp (r_move_int rfl ?_)
      refine stp (r_build (v := .agg #[.int .i64 y0, .int .i64 0, .int .i64 0, .int .i64 0, .int .u64 ((tat u a).1)]) (fun w => by kernel_rfl) ?_)
      refine stn (r_storeAll rfl rfl hc17 (by rfl) (by rfl) (by rfl) ?_)
      intro w60 hc61 u62
      replace hc10 := u62.heap hc10 ne21
      replace hc4 := u62.heap hc4 ne20
      replace G := G.upd u62 hge19
      clear u62 hc17
      refine stp (r_assign_int rfl ?_)
      refine WL_nil ?_
      refine W_ret ?_
      have h9 : (askT (Nd.mk kind size words bytes kids) steps a) = (⟨y0, 0, 0, 0, (tat u a).1⟩, 0) := by rw [hv, tval, if_neg h3, if_neg h4, hl1]
      refine ret2 (res_all rfl hc61 (by rfl)) (res_tmp (v := .int .u16 0) rfl) ⟨?_, G⟩
      rw [h9] <;> rfl

set_option maxRecDepth 100000 in
theorem dwords_calls (w : World) {t_ : TypeId} {u_ : Value} {s : Src} (H : SrcOk Try.prog w (.iface t_ u_) s) {bd : Nat} {paid : Int} (hb : w.heap[bd]? = some (.cells #[.iface t_ u_, .int .i64 paid] 85 (0, 0))) (seg : Int) {a : Int} (a0 : 0 ≤ a) (a1 : a ≤ 140737488355328) {n : Nat} (hn : n ≤ 10000) : Calls Try.prog 65 #[.pointer (some ⟨bd, 0, none⟩), .int .i64 seg, .int .i64 a, .int .i64 (n : Int)] w (Ret fun v w' => Row (hide w.heap.size w') 1 v n ((wordsS s seg a n).map (.int .u64)) ∧ Grow w w') := by
 have G := Grow.rfl' w
 refine calls_ret Try.func65 Try.ntmps65 Try.results65 rfl rfl ?_
 refine W_seq (W_region rfl ?_)
 refine stp (r_assign_slice rfl ?_)
 refine WL_nil ?_
 refine W_seq (W_region rfl ?_)
 refine stp (r_assign_slice rfl ?_)
 refine WL_nil ?_
 refine W_seq ?_
 refine W_seq (W_region rfl ?_)
 refine stp (r_move_int rfl ?_)
 refine stp (r_move_int rfl ?_)
 refine WL_nil ?_
 refine W_block ?_
 refine W_loop (fun m_ e_ w_ => ∃ (m : Nat) (ad3 : Option Addr) (n3 : Nat) (c3 : Nat), m_ = n - m ∧ Fr [(0, .pointer (some ⟨bd, 0, none⟩)), (1, .int .i64 seg), (2, .int .i64 a), (8, .slice none 0 0), (13, .int .i64 (n : Int)), (9, .slice ad3 n3 c3), (14, .int .i64 (m : Int))] e_ ∧ (m ≤ n) ∧ (w_.heap[bd]? = some (.cells #[.iface t_ u_, .int .i64 paid] 85 (0, 0))) ∧ (w_.ownsRow w.heap.size 55 1 (.slice ad3 n3 c3) m ((wordsS s seg a m).map (.int .u64))) ∧ Grow w w_) _ ⟨0, none, 0, 0, rfl, fr_of ⟨rfl, rfl, rfl, rfl, rfl, rfl, rfl, trivial⟩, by omega, hb, World.ownsRow_nil _ _ _ _, G⟩ ?_
 clear hb
 clear G
 rintro m_ e_ w1 ⟨m, ad3, n3, c3, rfl, ⟨e2, rfl⟩, hm, hb, own, G⟩
 refine W_seq (W_region rfl ?_)
 refine stp (r_lss rfl rfl ?_)
 refine WL_nil ?_
 refine W_seq ?_
 refine W_cond2 (b := (decide ((m : Int) < (n : Int)))) rfl (fun hlt => ?_) (fun hlt => ?_)
 ·-- true
  replace hlt := of_decide_eq_true hlt
  have hnum := H.num seg (a + (m : Int))
  refine W_skip ?_
  refine W_seq ?_
  refine W_block ?_
  refine W_seq (W_region rfl ?_)
  refine stp (r_move_int rfl ?_)
  refine stp (r_assign_int rfl ?_)
  refine WL_nil ?_
  refine W_seq (W_region rfl ?_)
  refine stp (r_move_ptr rfl ?_)
  refine stp (r_nilCheck rfl ?_)
  refine stp (r_fieldAddr rfl ?_)
  refine stp (r_load (v := .iface t_ u_) rfl hb rfl ?_)
  refine stp (r_move_int rfl ?_)
  refine stp (r_move_int rfl ?_)
  refine stp (r_move_int rfl ?_)
  refine stp (r_add rfl rfl ?_ ?_); constructor <;> omega
  refine stp (r_srcWord H G rfl rfl rfl ?_)
  intro w3 g4
  replace hb := g4.heap hb
  replace own := own_grow own g4
  replace G := G.tr g4
  clear g4
  refine stp (r_move (v := .tuple #[.int .u64 ((s.word seg (a + (m : Int))).1), .int .u16 ((s.word seg (a + (m : Int))).2)]) rfl ?_)
  refine stp (r_extract (v := .int .u64 ((s.word seg (a + (m : Int))).1)) rfl rfl ?_)
  refine stp (r_extract (v := .int .u16 ((s.word seg (a + (m : Int))).2)) rfl rfl ?_)
  refine stp (r_assign_int rfl ?_)
  refine stp (r_assign_int rfl ?_)
  refine WL_nil ?_
  refine W_region rfl ?_
  refine stp (r_move_slice rfl ?_)
  refine stp (r_move_int rfl ?_)
  refine stp (r_buildSlice (cs := #[.int .u64 ((s.word seg (a + (m : Int))).1)]) (el := 55) (fun w => by kernel_rfl) ?_)
  intro bs5 w6 hb7 hc8 g9
  have hge10 := Nat.le_trans G.size hb7
  replace hb := g9.heap hb
  replace own := own_grow own g9
  replace G := G.tr g9
  clear g9
  refine stp (r_append rfl rfl rfl rfl own (Row.of_block (n := 1) hc8 rfl rfl (by omega)) (fun q_ hq_ => by simp at hq_; subst hq_; rfl) (by simp only [maxLen]; omega) (by omega) G.size ?_)
  intro v11 w12 own6 gr6
  replace G := G.grown gr6 (own_ge own)
  replace hb := gr_heap gr6 hb (own_ne own hb (by decide))
  clear own gr6
  obtain ⟨ad4, n4, c4, rfl⟩ := own_slice own6
  refine stp (r_assign_slice rfl ?_)
  refine WL_nil ?_
  refine W_region rfl ?_
  refine stp (r_add rfl rfl ?_ ?_); constructor <;> omega
  refine stp (r_move_int rfl ?_)
  refine WL_nil ?_
  refine ⟨_, ?_, m + 1, ad4, n4, c4, rfl, fr_of ⟨rfl, rfl, rfl, rfl, rfl, rfl, congrArg (Value.int .i64) (by omega), trivial⟩, by omega, hb, (by rw [wordsS_succ, List.map_append]; exact own6), G⟩
  omega
 ·-- false
  replace hlt := of_decide_eq_false hlt
  have hm2 : m = n := by omega
  subst hm2
  refine W_exit ?_
  refine W_seq (W_region rfl ?_)
  refine stp (r_move_slice rfl ?_)
  refine stp (r_assign_slice rfl ?_)
  refine WL_nil ?_
  refine W_ret ?_
  refine ret1 (res_tmp (v := .slice ad3 n3 c3) rfl) ⟨own_hide_range own (wordsS_len _ _ _ _) (by omega), G⟩

set_option maxRecDepth 100000 in
theorem put8_calls (w : World) {x : Int} (h0 : 0 ≤ x) (h1 : x ≤ 18446744073709551615) : Calls Try.prog 93 #[.int .u64 x, .int .i64 8] w (Ret fun v w' => Row w' 1 v 8 ((byt8 x).map (.int .u8)) ∧ Grow w w') := by
 have G := Grow.rfl' w
 refine calls_ret Try.func93 Try.ntmps93 Try.results93 rfl rfl ?_
 refine W_seq (W_region rfl ?_)
 refine stp (r_assign_slice rfl ?_)
 refine WL_nil ?_
 refine W_seq (W_region rfl ?_)
 refine stp (r_move_int rfl ?_)
 refine WL_some (og rfl ?_)
 refine r_min rfl rfl rfl ?_
 rw [show (if (8 : Int) < 8 then 8 else 8) = (8 : Int) from rfl]
 refine WL_some (og rfl ?_)
 refine r_max rfl rfl rfl ?_
 rw [show (if (8 : Int) > 0 then 8 else 0) = (8 : Int) from rfl]
 refine stp (r_make (n := 8) (base := w.heap.size) rfl rfl (by first | omega | (simp only [maxLen]; omega)) (by first | omega | (simp only [maxLen]; omega)) G.size ?_)
 intro bm4 w1 hb2 own5 g3
 rw [show (madeCells (Value.cells (.int .u8 0 : Value)) (8 * 1)).toList = List.replicate 8 (.int .u8 0) from by rw [Nat.mul_one]; exact toList_madeCells_one _ _] at own5
 replace G := G.tr g3
 clear g3
 refine stp (r_assign_slice rfl ?_)
 refine WL_nil ?_
 refine W_seq ?_
 refine W_seq (W_region rfl ?_)
 refine stp (r_move_slice rfl ?_)
 refine stp (r_len rfl rfl rfl ?_)
 refine stp (r_move_int rfl ?_)
 refine WL_nil ?_
 refine W_block ?_
 obtain ⟨hge_, cur0, hc0_, hsz0, hcur0⟩ := own_made' own5
 clear own5
 refine W_loop (fun m_ e_ w_ => ∃ (k : Nat) (cur : Array Value), m_ = 8 - k ∧ Fr [(0, .int .u64 x), (4, .slice none 0 0), (5, .slice (some ⟨bm4, 0, none⟩) 8 8), (12, .int .i64 8), (13, .int .i64 (k : Int))] e_ ∧ (k ≤ 8) ∧ (cur.toList = putCells x k) ∧ (w_.heap[bm4]? = some (.cells cur 5 (0, 0))) ∧ Grow w w_) _ ⟨0, cur0, rfl, fr_of ⟨rfl, rfl, rfl, rfl, rfl, trivial⟩, by omega, hcur0, hc0_, G⟩ ?_
 clear G
 rintro m_ e_ w6 ⟨k, cur, rfl, ⟨e7, rfl⟩, hk, hcur, hc_, G⟩
 refine W_seq (W_region rfl ?_)
 refine stp (r_lss rfl rfl ?_)
 refine WL_nil ?_
 refine W_seq ?_
 refine W_cond2 (b := (decide ((k : Int) < 8))) rfl (fun hlt => ?_) (fun hlt => ?_)
 ·-- true
  replace hlt := of_decide_eq_true hlt
  have hszc : cur.size = 8 := by rw [← Array.length_toList, hcur]; exact putCells_len x k (by omega)
  refine W_skip ?_
  refine W_seq ?_
  refine W_block ?_
  refine W_seq (W_region rfl ?_)
  refine stp (r_move_int rfl ?_)
  refine stp (r_assign_int rfl ?_)
  refine WL_nil ?_
  refine W_region rfl ?_
  refine stp (r_move_slice rfl ?_)
  refine stp (r_move_int rfl ?_)
  refine stp (r_move_int rfl ?_)
  refine stp (r_move_int rfl ?_)
  refine stp (r_mul rfl rfl ?_ ?_); constructor <;> omega
  refine stp (r_shr rfl rfl ?_ ?_); omega
  refine WL_some (og rfl ?_)
  refine r_convw rfl ?_
  rw [put_byte x k h0 h1 (by omega)]
  refine WL_some (og rfl ?_)
  refine r_indexAddr rfl rfl (by omega) (by omega) ?_
  rw [show 0 + ((k : Int)).toNat * 1 = k from by omega]
  refine stn (r_store1 (v := .int .u8 (byt1 x k)) rfl rfl (by rfl) hc_ (Nat.ble_eq_true_of_le (by omega)) (by rfl) ?_)
  intro w8 hc9 u10
  replace G := G.upd u10 hge_
  clear u10 hc_
  refine WL_nil ?_
  refine W_region rfl ?_
  refine stp (r_add rfl rfl ?_ ?_); constructor <;> omega
  refine stp (r_move_int rfl ?_)
  refine WL_nil ?_
  refine ⟨_, ?_, k + 1, _, rfl, fr_of ⟨rfl, rfl, rfl, rfl, congrArg (Value.int .i64) (by omega), trivial⟩, by omega, (by simp only [hcur]; exact putCells_set x k (by omega)), hc9, G⟩
  omega
 ·-- false
  replace hlt := of_decide_eq_false hlt
  have hk8 : k = 8 := by omega
  subst hk8
  refine W_exit ?_
  refine W_seq (W_region rfl ?_)
  refine stp (r_move_slice rfl ?_)
  refine stp (r_assign_slice rfl ?_)
  refine WL_nil ?_
  refine W_ret ?_
  refine ret1 (res_tmp (v := .slice (some ⟨bm4, 0, none⟩) 8 8) rfl) ⟨Row.of_block (n := 8) hc_ (by rw [hcur]; exact putCells_all x) (by simp [byt8]) (by omega), G⟩

set_option maxRecDepth 100000 in
theorem dbytes_calls (w : World) {t_ : TypeId} {u_ : Value} {s : Src} (H : SrcOk Try.prog w (.iface t_ u_) s) {bd : Nat} {paid : Int} (hb : w.heap[bd]? = some (.cells #[.iface t_ u_, .int .i64 paid] 85 (0, 0))) (seg : Int) {a : Int} (a0 : 0 ≤ a) (a1 : a ≤ 140737488355328) {n : Nat} (hn : n ≤ 80000) : Calls Try.prog 66 #[.pointer (some ⟨bd, 0, none⟩), .int .i64 seg, .int .i64 a, .int .i64 (n : Int)] w (Ret fun v w' => Row (hide w.heap.size w') 1 v n ((bytesS s seg a n).map (.int .u8)) ∧ Grow w w') := by
 have G := Grow.rfl' w
 refine calls_ret Try.func66 Try.ntmps66 Try.results66 rfl rfl ?_
 refine W_seq (W_region rfl ?_)
 refine stp (r_assign_slice rfl ?_)
 refine WL_nil ?_
 refine W_seq (W_region rfl ?_)
 refine stp (r_assign_slice rfl ?_)
 refine WL_nil ?_
 refine W_seq ?_
 refine W_seq (W_region rfl ?_)
 refine stp (r_move_ptr rfl ?_)
 refine stp (r_move_int rfl ?_)
 refine stp (r_move_int rfl ?_)
 refine stp (r_move_int rfl ?_)
 refine stp (r_gives (v := .int .i64 (((n + 7) / 8 : Nat) : Int)) rfl (gives_eq (ceil_calls _ _ (by omega) (by omega)) (y := .int .i64 (((n + 7) / 8 : Nat) : Int)) (by congr 1 <;> omega)) ?_)
 intro w1 g2
 replace hb := g2.heap hb
 replace G := G.tr g2
 clear g2
 refine WL_some (og rfl ?_)
 refine r_call rfl (dwords_calls _ (H.grow G) hb seg a0 a1 (n := (n + 7) / 8) (by omega)) ?_
 rintro v_ w3 ⟨⟨ad5, c5, rfl, -, -, R5⟩, g_⟩
 have RW := R5.sees (Sees.seen _ _)
 clear R5
 replace hb := g_.heap hb
 replace G := G.tr g_
 clear g_
 have hB5 := G.size
 have G5 := Grow.rfl' w3
 have hB6 : w3.heap.size ≤ w3.heap.size := Nat.le_refl _
 refine stp (r_len rfl rfl rfl ?_)
 refine stp (r_move_int rfl ?_)
 refine WL_nil ?_
 refine W_block ?_
 refine W_loop (fun m_ e_ w_ => ∃ (m : Nat) (ad3 : Option Addr) (n3 : Nat) (c3 : Nat), m_ = (n + 7) / 8 - m ∧ Fr [(3, .int .i64 (n : Int)), (8, .slice none 0 0), (17, .slice ad5 ((n + 7) / 8) c5), (18, .int .i64 (((n + 7) / 8 : Nat) : Int)), (9, .slice ad3 n3 c3), (19, .int .i64 (m : Int))] e_ ∧ (m ≤ (n + 7) / 8) ∧ (w_.heap[bd]? = some (.cells #[.iface t_ u_, .int .i64 paid] 85 (0, 0))) ∧ (Grow w3 w_) ∧ (w_.ownsRow w3.heap.size 5 1 (.slice ad3 n3 c3) (8 * m) ((((wordsS s seg a ((n + 7) / 8)).take m).flatMap byt8).map (.int .u8))) ∧ Grow w w_) _ ⟨0, none, 0, 0, rfl, fr_of ⟨rfl, rfl, rfl, rfl, rfl, rfl, trivial⟩, by omega, hb, G5, World.ownsRow_nil _ _ _ _, G⟩ ?_
 clear hb G5
 clear G
 rintro m_ e_ w4 ⟨m, ad3, n3, c3, rfl, ⟨e5, rfl⟩, hm, hb, G5, own, G⟩
 refine W_seq (W_region rfl ?_)
 refine stp (r_lss rfl rfl ?_)
 refine WL_nil ?_
 refine W_seq ?_
 refine W_cond2 (b := (decide ((m : Int) < (((n + 7) / 8 : Nat) : Int)))) rfl (fun hlt => ?_) (fun hlt => ?_)
 ·-- true
  replace hlt := of_decide_eq_true hlt
  have hm5 : m < (n + 7) / 8 := by omega
  have hml : m < (wordsS s seg a ((n + 7) / 8)).length := by rw [wordsS_len]; exact hm5
  have hr := wordsS_u64 H seg a ((n + 7) / 8) _ (getD_mem hml)
  simp only [inR] at hr
  refine W_skip ?_
  refine W_seq ?_
  refine W_block ?_
  refine W_seq (W_region rfl ?_)
  refine stp (r_indexN (RW.grow G5) rfl rfl ?_ ?_); omega
  refine stp (r_loadR (v := .int .u64 ((wordsS s seg a ((n + 7) / 8)).getD m 0)) (m := 0) (RW.grow G5) rfl (map_get1 0 (by omega)) ?_)
  refine stp (r_assign_int rfl ?_)
  refine WL_nil ?_
  refine W_region rfl ?_
  refine stp (r_move_slice rfl ?_)
  refine stp (r_move_int rfl ?_)
  refine WL_some (og rfl ?_)
  refine r_call rfl (put8_calls _ hr.1 hr.2) ?_
  rintro v8 w6 ⟨R8, g_⟩
  replace hb := g_.heap hb
  replace G5 := G5.tr g_
  replace own := own_grow own g_
  replace G := G.tr g_
  clear g_
  refine stp (r_append rfl rfl rfl rfl own R8 (fun q_ hq_ => by obtain ⟨z_, -, rfl⟩ := List.mem_map.1 hq_; rfl) (by simp only [maxLen]; omega) (by omega) G5.size ?_)
  intro v7 w8 own6 gr6
  clear R8
  replace G := G.grown gr6 (fun k_ hk_ => Nat.le_trans hB5 (own_ge own k_ hk_))
  replace G5 := G5.grown gr6 (own_ge own)
  replace hb := gr_heap gr6 hb (own_ne own hb (by decide))
  clear own gr6
  obtain ⟨ad4, n4, c4, rfl⟩ := own_slice own6
  refine stp (r_assign_slice rfl ?_)
  refine WL_nil ?_
  refine W_region rfl ?_
  refine stp (r_add rfl rfl ?_ ?_); constructor <;> omega
  refine stp (r_move_int rfl ?_)
  refine WL_nil ?_
  refine ⟨_, ?_, m + 1, ad4, n4, c4, rfl, fr_of ⟨rfl, rfl, rfl, rfl, rfl, congrArg (Value.int .i64) (by omega), trivial⟩, by omega, hb, G5, (by rw [Nat.mul_succ, List.take_add_one, List.getElem?_eq_getElem hml, Option.toList_some, List.flatMap_append, List.map_append, List.flatMap_singleton]; rw [getD_at hml] at own6; exact own6), G⟩
  omega
 ·-- false
  replace hlt := of_decide_eq_false hlt
  have hm2 : m = (n + 7) / 8 := by omega
  rw [hm2, List.take_of_length_le (by rw [wordsS_len]; exact Nat.le_refl _)] at own
  have hfl := flat8_len (wordsS s seg a ((n + 7) / 8))
  rw [wordsS_len] at hfl
  have hR9 := (own_hide own (by omega)).sees (Sees.low hB5 _)
  obtain ⟨ad9, c9, hs9, hc9, hc92, R9⟩ := hR9
  simp only [Value.slice.injEq] at hs9
  obtain ⟨rfl, rfl, rfl⟩ := hs9
  refine W_exit ?_
  refine W_seq (W_region rfl ?_)
  refine stp (r_move_slice rfl ?_)
  refine stp (r_move_int rfl ?_)
  refine stp (r_sliceH rfl rfl (by omega) (by omega) ?_)
  refine stp (r_assign_slice rfl ?_)
  refine WL_nil ?_
  refine W_ret ?_
  have R10 := R9.sliceH (m := n) hc9 (by omega) (by decide)
  rw [← List.map_take, show n * 1 = n from Nat.mul_one n] at R10
  refine ret1 (res_tmp (v := .slice (if c3 = 0 then ad3 else ad3.map (·.add (0 * 1))) (((n : Int)).toNat) c3) rfl) ⟨⟨_, _, rfl, by omega, hc92, R10⟩, G⟩
end Go.Proofs.Ytfhfecepcnapfaa.K
