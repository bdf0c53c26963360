/- Laid together: CA, CI, J12, CH, CD, CQ, CJ. Each part is plain law, a rule, or a walk of the functions that its names tell. -/
import Derived.Test.YtfhfecepcnapfaaX5
import Derived.Laws.BytesArg
set_option linter.unusedVariables false
set_option linter.unusedSimpArgs false
namespace Go.Proofs.Ytfhfecepcnapfaa.K
open Go Go.RowKit Go.Proofs
attribute [local irreducible] Run1 OpG WL W AO Gives
set_option maxRecDepth 100000 in
theorem tstep_calls (w : World) {w0 : World} {c : List Value} {t : Nd} (T : NodeR w0 c t) (g0 : Grow w0 w) {k : Int} (k0 : 0 ≤ k) : Calls Try.prog 43 #[.agg c.toArray, .int .i64 k] w (Ret fun v w' => ∃ cells, v = .tuple #[.agg cells.toArray, .int .u16 (tstep t k).2] ∧ NodeR w0 cells (tstep t k).1 ∧ Grow w w') := by
 obtain @⟨kind, size, words, bytes, kids, ws, bs, ks, kc, hk, hs, hW, hwr, hB, hbr, hK, hKs⟩ := T
 obtain ⟨aw, cw, rfl, hcw, hcw2, RW⟩ := hW
 obtain ⟨ab, cb, rfl, hcb, hcb2, RB⟩ := hB
 obtain ⟨ak, ck, rfl, hck, hck2, RK⟩ := hK
 have lw := RW.lim
 have lb := RB.lim
 have lk := RK.lim
 simp only [inR] at hk hs
 have G := Grow.rfl' w
 refine calls_ret Try.func43 Try.ntmps43 Try.results43 rfl rfl ?_
 refine W_seq (W_region rfl ?_)
 refine WL_some (og rfl ?_)
 (first | refine r_box_agg rfl ?_ | refine r_box_int rfl ?_ | refine r_box_slice rfl ?_ | refine r_box rfl rfl ?_)
 intro b1 w2 hb3 hc4 g5
 have hge6 := Nat.le_trans G.size hb3
 replace G := G.tr g5
 clear g5 hb3
 refine stp (r_alloc ?_)
 intro b7 w8 hb9 hc10 g11
 refine stp (r_assign_int rfl ?_)
 refine WL_nil ?_
 refine W_seq (W_region rfl ?_)
 refine stp (r_fieldAddr rfl ?_)
 have hge12 := Nat.le_trans G.size hb9
 have ne13 := Nat.ne_of_lt (Nat.lt_of_lt_of_le (lt_of_heap hc4) hb9)
 replace hc4 := g11.heap hc4
 replace G := G.tr g11
 clear g11 hb9
 refine stp (r_load (v := .int .i64 kind) rfl hc4 rfl ?_)
 refine stp (r_neq rfl rfl ?_)
 refine stp (r_move_bool rfl ?_)
 refine WL_some (og_if (s := .bool (decide (kind ≠ 0))) (b := true) (v := .pointer (some ⟨b1, 0, none⟩)) rfl (wgb_t _) (fun hc14 => ?_) ?_)
 ·
  have hc14_ := of_decide_eq_true hc14
  refine r_fieldAddr rfl ?_
  exact ⟨rfl, rfl⟩
 refine WL_some (og_if (s := .bool (decide (kind ≠ 0))) (b := true) (v := .int .i64 kind) rfl (wgb_t _) (fun hc15 => ?_) ?_)
 ·
  have hc15_ := of_decide_eq_true hc15
  refine r_load (v := .int .i64 kind) (gvt hc15) hc4 rfl ?_
  exact ⟨rfl, rfl⟩
 refine WL_some (og_if (s := .bool (decide (kind ≠ 0))) (b := true) (v := .bool (decide (kind ≠ 1))) rfl (wgb_t _) (fun hc16 => ?_) ?_)
 ·
  have hc16_ := of_decide_eq_true hc16
  refine r_neq (gvt hc16) rfl ?_
  exact ⟨rfl, rfl⟩
 refine stp (r_and2 rfl rfl rfl ?_)
 refine stp (r_assign_bool rfl ?_)
 refine WL_nil ?_
 refine W_seq ?_
 refine W_block ?_
 refine W_seq (W_region rfl ?_)
 refine stp (r_move_bool rfl ?_)
 refine stp (r_move_bool rfl ?_)
 refine WL_some (og_if (s := .bool ((decide (kind ≠ 0)) && (decide (kind ≠ 1)))) (b := true) (v := .pointer (some ⟨b1, 1, none⟩)) rfl (wgb_t _) (fun hc17 => ?_) ?_)
 ·
  obtain ⟨hc17a, hc17b⟩ := and_t hc17
  have hc17a_ := of_decide_eq_true hc17a
  have hc17b_ := of_decide_eq_true hc17b
  refine r_fieldAddr rfl ?_
  exact ⟨rfl, rfl⟩
 refine WL_some (og_if (s := .bool ((decide (kind ≠ 0)) && (decide (kind ≠ 1)))) (b := true) (v := .int .i64 size) rfl (wgb_t _) (fun hc18 => ?_) ?_)
 ·
  obtain ⟨hc18a, hc18b⟩ := and_t hc18
  have hc18a_ := of_decide_eq_true hc18a
  have hc18b_ := of_decide_eq_true hc18b
  refine r_load (v := .int .i64 size) (gvt hc18) hc4 rfl ?_
  exact ⟨rfl, rfl⟩
 refine WL_some (og_if (s := .bool ((decide (kind ≠ 0)) && (decide (kind ≠ 1)))) (b := true) (v := .bool (decide (size ≠ 6))) rfl (wgb_t _) (fun hc19 => ?_) ?_)
 ·
  obtain ⟨hc19a, hc19b⟩ := and_t hc19
  have hc19a_ := of_decide_eq_true hc19a
  have hc19b_ := of_decide_eq_true hc19b
  refine r_neq (gvt hc19) rfl ?_
  exact ⟨rfl, rfl⟩
 refine stp (r_and2 rfl rfl rfl ?_)
 refine stp (r_assign_bool rfl ?_)
 refine WL_nil ?_
 refine W_cond2 (b := (((decide (kind ≠ 0)) && (decide (kind ≠ 1))) && (decide (size ≠ 6)))) rfl (fun h1 => ?_) (fun h1 => ?_)
 ·-- true
  simp only [Bool.and_eq_true, Bool.or_eq_true, Bool.not_eq_true', Bool.and_eq_false_iff, Bool.or_eq_false_iff, Bool.not_eq_false', decide_eq_true_eq, decide_eq_false_iff_not, Bool.not_true, Bool.not_false, Bool.not_eq_eq_eq_not, Bool.or_false, Bool.and_true, Bool.or_true, Bool.and_false, Bool.false_or, Bool.true_and, Bool.true_or, Bool.false_and, Bool.false_eq_true, Bool.true_eq_false] at h1
  refine W_seq (W_region rfl ?_)
  refine stp (r_build (v := .agg #[.int .i64 0, .int .i64 0, .slice none 0 0, .slice none 0 0, .slice none 0 0]) (fun w => by kernel_rfl) ?_)
  refine stn (r_storeAll rfl rfl hc10 (by rfl) (by rfl) (by rfl) ?_)
  intro w20 hc21 u22
  replace hc4 := u22.heap hc4 ne13
  replace G := G.upd u22 hge12
  clear u22 hc10
  refine stp (r_assign_int rfl ?_)
  refine WL_nil ?_
  refine W_ret ?_
  have h9 : tstep (Nd.mk kind size words bytes kids) k = (.nil, 23) := by rw [tstep_mk]; rw [if_pos (by first | assumption | omega | simp_all)]
  rw [h9]
  refine ret2 (res_all rfl hc21 (by rfl)) (res_tmp (v := .int .u16 23) rfl) ⟨[_, _, _, _, _], rfl, NodeR.zero _, G⟩
 ·-- false
  simp only [Bool.and_eq_true, Bool.or_eq_true, Bool.not_eq_true', Bool.and_eq_false_iff, Bool.or_eq_false_iff, Bool.not_eq_false', decide_eq_true_eq, decide_eq_false_iff_not, Bool.not_true, Bool.not_false, Bool.not_eq_eq_eq_not, Bool.or_false, Bool.and_true, Bool.or_true, Bool.and_false, Bool.false_or, Bool.true_and, Bool.true_or, Bool.false_and, Bool.false_eq_true, Bool.true_eq_false] at h1
  refine W_seq (W_region rfl ?_)
  refine stp (r_fieldAddr rfl ?_)
  refine stp (r_load (v := .int .i64 kind) rfl hc4 rfl ?_)
  refine stp (r_neq rfl rfl ?_)
  refine stp (r_move_bool rfl ?_)
  refine WL_some (og_if (s := .bool (decide (kind ≠ 0))) (b := true) (v := .int .i64 k) rfl (wgb_t _) (fun hc23 => ?_) ?_)
  ·
   have hc23_ := of_decide_eq_true hc23
   refine r_move_int rfl ?_
   exact ⟨rfl, rfl⟩
  refine WL_some (og_if (s := .bool (decide (kind ≠ 0))) (b := true) (v := .pointer (some ⟨b1, 4, none⟩)) rfl (wgb_t _) (fun hc24 => ?_) ?_)
  ·
   have hc24_ := of_decide_eq_true hc24
   refine r_fieldAddr rfl ?_
   exact ⟨rfl, rfl⟩
  refine WL_some (og_if (s := .bool (decide (kind ≠ 0))) (b := true) (v := .slice ak kids.length ck) rfl (wgb_t _) (fun hc25 => ?_) ?_)
  ·
   have hc25_ := of_decide_eq_true hc25
   refine r_load (v := .slice ak kids.length ck) (gvt hc25) hc4 rfl ?_
   exact ⟨rfl, rfl⟩
  refine WL_some (og_if (s := .bool (decide (kind ≠ 0))) (b := true) (v := .int .i64 (kids.length : Int)) rfl (wgb_t _) (fun hc26 => ?_) ?_)
  ·
   have hc26_ := of_decide_eq_true hc26
   refine r_len rfl rfl (gvt hc26) ?_
   exact ⟨rfl, rfl⟩
  refine WL_some (og_if (s := .bool (decide (kind ≠ 0))) (b := true) (v := .bool (decide (k < (kids.length : Int)))) rfl (wgb_t _) (fun hc27 => ?_) ?_)
  ·
   have hc27_ := of_decide_eq_true hc27
   refine r_lss (gvt hc27) (gvt hc27) ?_
   exact ⟨rfl, rfl⟩
  refine stp (r_and2 rfl rfl rfl ?_)
  refine stp (r_assign_bool rfl ?_)
  refine WL_nil ?_
  refine W_cond2 (b := ((decide (kind ≠ 0)) && (decide (k < (kids.length : Int))))) rfl (fun h2 => ?_) (fun h2 => ?_)
  ·-- true
   simp only [Bool.and_eq_true, Bool.or_eq_true, Bool.not_eq_true', Bool.and_eq_false_iff, Bool.or_eq_false_iff, Bool.not_eq_false', decide_eq_true_eq, decide_eq_false_iff_not, Bool.not_true, Bool.not_false, Bool.not_eq_eq_eq_not, Bool.or_false, Bool.and_true, Bool.or_true, Bool.and_false, Bool.false_or, Bool.true_and, Bool.true_or, Bool.false_and, Bool.false_eq_true, Bool.true_eq_false] at h2
   obtain ⟨j, rfl⟩ : ∃ j : Nat, k = (j : Int) := ⟨k.toNat, by omega⟩
   have hj : j < kids.length := by omega
   have hat := KidsR.at_ j kids[j] hKs (by simp [hj])
   obtain ⟨y0, y1, ya, yn, yc, za, zn, zc, ua, un, uc, hy⟩ := hat.cells
   rw [hy] at hat
   refine W_seq (W_region rfl ?_)
   refine stp (r_fieldAddr rfl ?_)
   refine stp (r_load (v := .slice ak kids.length ck) rfl hc4 rfl ?_)
   refine stp (r_move_int rfl ?_)
   refine stp (r_indexN ((RK.grow g0).grow G) rfl rfl ?_ ?_); omega
   refine stp (r_loadNR ((RK.grow g0).grow G) rfl (by decide) (by rw [RK.len]; omega) hy ?_)
   refine stn (r_storeAll rfl rfl hc10 (by rfl) (by rfl) (by rfl) ?_)
   intro w28 hc29 u30
   replace hc4 := u30.heap hc4 ne13
   replace G := G.upd u30 hge12
   clear u30 hc10
   refine stp (r_assign_int rfl ?_)
   refine WL_nil ?_
   refine W_ret ?_
   have h9 : tstep (Nd.mk kind size words bytes kids) (j : Int) = (kids[j], 0) := by rw [tstep_mk]; rw [if_neg (by first | assumption | omega | simp_all), if_pos (by first | assumption | omega | simp_all), Int.toNat_natCast, List.getD_eq_getElem?_getD, List.getElem?_eq_getElem hj]; rfl
   rw [h9]
   refine ret2 (res_all rfl hc29 (by rfl)) (res_tmp (v := .int .u16 0) rfl) ⟨[_, _, _, _, _], rfl, hat, G⟩
  ·-- false
   simp only [Bool.and_eq_true, Bool.or_eq_true, Bool.not_eq_true', Bool.and_eq_false_iff, Bool.or_eq_false_iff, Bool.not_eq_false', decide_eq_true_eq, decide_eq_false_iff_not, Bool.not_true, Bool.not_false, Bool.not_eq_eq_eq_not, Bool.or_false, Bool.and_true, Bool.or_true, Bool.and_false, Bool.false_or, Bool.true_and, Bool.true_or, Bool.false_and, Bool.false_eq_true, Bool.true_eq_false] at h2
   refine W_seq (W_region rfl ?_)
   refine stp (r_move_bool rfl ?_)
   refine stp (r_assign_bool rfl ?_)
   refine WL_nil ?_
   refine W_cond2 (b := ((decide (kind ≠ 0)) && (decide (kind ≠ 1)))) rfl (fun h3 => ?_) (fun h3 => ?_)
   ·-- true
    simp only [Bool.and_eq_true, Bool.or_eq_true, Bool.not_eq_true', Bool.and_eq_false_iff, Bool.or_eq_false_iff, Bool.not_eq_false', decide_eq_true_eq, decide_eq_false_iff_not, Bool.not_true, Bool.not_false, Bool.not_eq_eq_eq_not, Bool.or_false, Bool.and_true, Bool.or_true, Bool.and_false, Bool.false_or, Bool.true_and, Bool.true_or, Bool.false_and, Bool.false_eq_true, Bool.true_eq_false] at h3
    refine W_seq (W_region rfl ?_)
    refine stp (r_build (v := .agg #[.int .i64 0, .int .i64 0, .slice none 0 0, .slice none 0 0, .slice none 0 0]) (fun w => by kernel_rfl) ?_)
    refine stn (r_storeAll rfl rfl hc10 (by rfl) (by rfl) (by rfl) ?_)
    intro w31 hc32 u33
    replace hc4 := u33.heap hc4 ne13
    replace G := G.upd u33 hge12
    clear u33 hc10
    refine stp (r_assign_int rfl ?_)
    refine WL_nil ?_
    refine W_ret ?_
    have h9 : tstep (Nd.mk kind size words bytes kids) k = (.nil, 20) := by rw [tstep_mk]; rw [if_neg (by first | assumption | omega | simp_all), if_neg (by first | assumption | omega | simp_all), if_pos (by first | assumption | omega | simp_all)]
    rw [h9]
    refine ret2 (res_all rfl hc32 (by rfl)) (res_tmp (v := .int .u16 20) rfl) ⟨[_, _, _, _, _], rfl, NodeR.zero _, G⟩
   ·-- false
    simp only [Bool.and_eq_true, Bool.or_eq_true, Bool.not_eq_true', Bool.and_eq_false_iff, Bool.or_eq_false_iff, Bool.not_eq_false', decide_eq_true_eq, decide_eq_false_iff_not, Bool.not_true, Bool.not_false, Bool.not_eq_eq_eq_not, Bool.or_false, Bool.and_true, Bool.or_true, Bool.and_false, Bool.false_or, Bool.true_and, Bool.true_or, Bool.false_and, Bool.false_eq_true, Bool.true_eq_false] at h3
    refine W_skip ?_
    refine W_seq (W_region rfl ?_)
    refine stp (r_build (v := .agg #[.int .i64 0, .int .i64 0, .slice none 0 0, .slice none 0 0, .slice none 0 0]) (fun w => by kernel_rfl) ?_)
    refine stn (r_storeAll rfl rfl hc10 (by rfl) (by rfl) (by rfl) ?_)
    intro w34 hc35 u36
    replace hc4 := u36.heap hc4 ne13
    replace G := G.upd u36 hge12
    clear u36 hc10
    refine stp (r_assign_int rfl ?_)
    refine WL_nil ?_
    refine W_ret ?_
    have h9 : tstep (Nd.mk kind size words bytes kids) k = (.nil, 0) := by rw [tstep_mk]; rw [if_neg (by first | assumption | omega | simp_all), if_neg (by first | assumption | omega | simp_all), if_neg (by first | assumption | omega | simp_all)]
    rw [h9]
    refine ret2 (res_all rfl hc35 (by rfl)) (res_tmp (v := .int .u16 0) rfl) ⟨[_, _, _, _, _], rfl, NodeR.zero _, G⟩

set_option maxRecDepth 100000 in
theorem tat_calls (w : World) {c : List Value} {t : Nd} (T : NodeR w c t) {k : Int} (k0 : 0 ≤ k) : Gives Try.prog 44 #[.agg c.toArray, .int .i64 k] w (.tuple #[.int .u64 ((tat t k).1), .int .u16 ((tat t k).2)]) := by
 obtain @⟨kind, size, words, bytes, kids, ws, bs, ks, kc, hk, hs, hW, hwr, hB, hbr, hK, hKs⟩ := T
 obtain ⟨aw, cw, rfl, hcw, hcw2, RW⟩ := hW
 obtain ⟨ab, cb, rfl, hcb, hcb2, RB⟩ := hB
 obtain ⟨ak, ck, rfl, hck, hck2, RK⟩ := hK
 have lw := RW.lim
 have lb := RB.lim
 have lk := RK.lim
 simp only [inR] at hk hs
 obtain ⟨k, rfl⟩ : ∃ j : Nat, k = (j : Int) := ⟨k.toNat, by omega⟩
 have hgb := getD_u8 hbr k
 have G := Grow.rfl' w
 refine gives_of Try.func44 Try.ntmps44 Try.results44 rfl rfl ?_
 refine W_seq (W_region rfl ?_)
 refine WL_some (og rfl ?_)
 (first | refine r_box_agg rfl ?_ | refine r_box_int rfl ?_ | refine r_box_slice rfl ?_ | refine r_box rfl rfl ?_)
 intro b1 w2 hb3 hc4 g5
 have hge6 := Nat.le_trans G.size hb3
 replace G := G.tr g5
 clear g5 hb3
 refine stp (r_assign_int rfl ?_)
 refine stp (r_assign_int rfl ?_)
 refine WL_nil ?_
 refine W_seq (W_region rfl ?_)
 refine stp (r_fieldAddr rfl ?_)
 refine stp (r_load (v := .int .i64 kind) rfl hc4 rfl ?_)
 refine stp (r_neq rfl rfl ?_)
 refine stp (r_move_bool rfl ?_)
 refine WL_some (og_if (s := .bool (decide (kind ≠ 0))) (b := true) (v := .pointer (some ⟨b1, 0, none⟩)) rfl (wgb_t _) (fun hc7 => ?_) ?_)
 ·
  have hc7_ := of_decide_eq_true hc7
  refine r_fieldAddr rfl ?_
  exact ⟨rfl, rfl⟩
 refine WL_some (og_if (s := .bool (decide (kind ≠ 0))) (b := true) (v := .int .i64 kind) rfl (wgb_t _) (fun hc8 => ?_) ?_)
 ·
  have hc8_ := of_decide_eq_true hc8
  refine r_load (v := .int .i64 kind) (gvt hc8) hc4 rfl ?_
  exact ⟨rfl, rfl⟩
 refine WL_some (og_if (s := .bool (decide (kind ≠ 0))) (b := true) (v := .bool (decide (kind ≠ 1))) rfl (wgb_t _) (fun hc9 => ?_) ?_)
 ·
  have hc9_ := of_decide_eq_true hc9
  refine r_neq (gvt hc9) rfl ?_
  exact ⟨rfl, rfl⟩
 refine stp (r_and2 rfl rfl rfl ?_)
 refine stp (r_assign_bool rfl ?_)
 refine WL_nil ?_
 refine W_seq ?_
 refine W_block ?_
 refine W_seq (W_region rfl ?_)
 refine stp (r_move_bool rfl ?_)
 refine stp (r_move_bool rfl ?_)
 refine WL_some (og_if (s := .bool ((decide (kind ≠ 0)) && (decide (kind ≠ 1)))) (b := true) (v := .pointer (some ⟨b1, 1, none⟩)) rfl (wgb_t _) (fun hc10 => ?_) ?_)
 ·
  obtain ⟨hc10a, hc10b⟩ := and_t hc10
  have hc10a_ := of_decide_eq_true hc10a
  have hc10b_ := of_decide_eq_true hc10b
  refine r_fieldAddr rfl ?_
  exact ⟨rfl, rfl⟩
 refine WL_some (og_if (s := .bool ((decide (kind ≠ 0)) && (decide (kind ≠ 1)))) (b := true) (v := .int .i64 size) rfl (wgb_t _) (fun hc11 => ?_) ?_)
 ·
  obtain ⟨hc11a, hc11b⟩ := and_t hc11
  have hc11a_ := of_decide_eq_true hc11a
  have hc11b_ := of_decide_eq_true hc11b
  refine r_load (v := .int .i64 size) (gvt hc11) hc4 rfl ?_
  exact ⟨rfl, rfl⟩
 refine WL_some (og_if (s := .bool ((decide (kind ≠ 0)) && (decide (kind ≠ 1)))) (b := true) (v := .bool (decide (size = 6))) rfl (wgb_t _) (fun hc12 => ?_) ?_)
 ·
  obtain ⟨hc12a, hc12b⟩ := and_t hc12
  have hc12a_ := of_decide_eq_true hc12a
  have hc12b_ := of_decide_eq_true hc12b
  refine r_eql (gvt hc12) rfl ?_
  exact ⟨rfl, rfl⟩
 refine stp (r_and2 rfl rfl rfl ?_)
 refine stp (r_assign_bool rfl ?_)
 refine WL_nil ?_
 refine W_cond2 (b := (((decide (kind ≠ 0)) && (decide (kind ≠ 1))) && (decide (size = 6)))) rfl (fun h1 => ?_) (fun h1 => ?_)
 ·-- true
  simp only [Bool.and_eq_true, Bool.or_eq_true, Bool.not_eq_true', Bool.and_eq_false_iff, Bool.or_eq_false_iff, Bool.not_eq_false', decide_eq_true_eq, decide_eq_false_iff_not, Bool.not_true, Bool.not_false, Bool.not_eq_eq_eq_not, Bool.or_false, Bool.and_true, Bool.or_true, Bool.and_false, Bool.false_or, Bool.true_and, Bool.true_or, Bool.false_and, Bool.false_eq_true, Bool.true_eq_false] at h1
  refine W_seq (W_region rfl ?_)
  refine stp (r_assign_int rfl ?_)
  refine stp (r_assign_int rfl ?_)
  refine WL_nil ?_
  refine W_ret ?_
  have h9 : tat (Nd.mk kind size words bytes kids) (k : Int) = (0, 23) := by rw [tat_mk]; (repeat' split) <;> first | rfl | (exfalso; omega) | (exfalso; simp_all; done) | (exfalso; simp_all; omega)
  refine ret2 (res_tmp (v := .int .u64 0) rfl) (res_tmp (v := .int .u16 23) rfl) ⟨?_, G⟩
  rw [h9]
 ·-- false
  simp only [Bool.and_eq_true, Bool.or_eq_true, Bool.not_eq_true', Bool.and_eq_false_iff, Bool.or_eq_false_iff, Bool.not_eq_false', decide_eq_true_eq, decide_eq_false_iff_not, Bool.not_true, Bool.not_false, Bool.not_eq_eq_eq_not, Bool.or_false, Bool.and_true, Bool.or_true, Bool.and_false, Bool.false_or, Bool.true_and, Bool.true_or, Bool.false_and, Bool.false_eq_true, Bool.true_eq_false] at h1
  refine W_seq (W_region rfl ?_)
  refine stp (r_fieldAddr rfl ?_)
  refine stp (r_load (v := .int .i64 kind) rfl hc4 rfl ?_)
  refine stp (r_neq rfl rfl ?_)
  refine stp (r_move_bool rfl ?_)
  refine WL_some (og_if (s := .bool (decide (kind ≠ 0))) (b := true) (v := .int .i64 (k : Int)) rfl (wgb_t _) (fun hc13 => ?_) ?_)
  ·
   have hc13_ := of_decide_eq_true hc13
   refine r_move_int rfl ?_
   exact ⟨rfl, rfl⟩
  refine WL_some (og_if (s := .bool (decide (kind ≠ 0))) (b := true) (v := .pointer (some ⟨b1, 2, none⟩)) rfl (wgb_t _) (fun hc14 => ?_) ?_)
  ·
   have hc14_ := of_decide_eq_true hc14
   refine r_fieldAddr rfl ?_
   exact ⟨rfl, rfl⟩
  refine WL_some (og_if (s := .bool (decide (kind ≠ 0))) (b := true) (v := .slice aw words.length cw) rfl (wgb_t _) (fun hc15 => ?_) ?_)
  ·
   have hc15_ := of_decide_eq_true hc15
   refine r_load (v := .slice aw words.length cw) (gvt hc15) hc4 rfl ?_
   exact ⟨rfl, rfl⟩
  refine WL_some (og_if (s := .bool (decide (kind ≠ 0))) (b := true) (v := .int .i64 (words.length : Int)) rfl (wgb_t _) (fun hc16 => ?_) ?_)
  ·
   have hc16_ := of_decide_eq_true hc16
   refine r_len rfl rfl (gvt hc16) ?_
   exact ⟨rfl, rfl⟩
  refine WL_some (og_if (s := .bool (decide (kind ≠ 0))) (b := true) (v := .bool (decide ((k : Int) < (words.length : Int)))) rfl (wgb_t _) (fun hc17 => ?_) ?_)
  ·
   have hc17_ := of_decide_eq_true hc17
   refine r_lss (gvt hc17) (gvt hc17) ?_
   exact ⟨rfl, rfl⟩
  refine stp (r_and2 rfl rfl rfl ?_)
  refine stp (r_assign_bool rfl ?_)
  refine WL_nil ?_
  refine W_cond2 (b := ((decide (kind ≠ 0)) && (decide ((k : Int) < (words.length : Int))))) rfl (fun h2 => ?_) (fun h2 => ?_)
  ·-- true
   simp only [Bool.and_eq_true, Bool.or_eq_true, Bool.not_eq_true', Bool.and_eq_false_iff, Bool.or_eq_false_iff, Bool.not_eq_false', decide_eq_true_eq, decide_eq_false_iff_not, Bool.not_true, Bool.not_false, Bool.not_eq_eq_eq_not, Bool.or_false, Bool.and_true, Bool.or_true, Bool.and_false, Bool.false_or, Bool.true_and, Bool.true_or, Bool.false_and, Bool.false_eq_true, Bool.true_eq_false] at h2
   refine W_seq (W_region rfl ?_)
   refine stp (r_fieldAddr rfl ?_)
   refine stp (r_load (v := .slice aw words.length cw) rfl hc4 rfl ?_)
   refine stp (r_move_int rfl ?_)
   refine stp (r_indexN (RW.grow G) rfl rfl ?_ ?_); omega
   refine stp (r_loadR (v := .int .u64 (words.getD k 0)) (m := 0) (RW.grow G) rfl (map_get1 0 (by omega)) ?_)
   refine stp (r_assign_int rfl ?_)
   refine stp (r_assign_int rfl ?_)
   refine WL_nil ?_
   refine W_ret ?_
   have h9 : tat (Nd.mk kind size words bytes kids) (k : Int) = (words.getD k 0, 0) := by rw [tat_mk]; (repeat' split) <;> first | rfl | (exfalso; omega) | (exfalso; simp_all; done) | (exfalso; simp_all; omega)
   refine ret2 (res_tmp (v := .int .u64 (words.getD k 0)) rfl) (res_tmp (v := .int .u16 0) rfl) ⟨?_, G⟩
   rw [h9]
  ·-- false
   simp only [Bool.and_eq_true, Bool.or_eq_true, Bool.not_eq_true', Bool.and_eq_false_iff, Bool.or_eq_false_iff, Bool.not_eq_false', decide_eq_true_eq, decide_eq_false_iff_not, Bool.not_true, Bool.not_false, Bool.not_eq_eq_eq_not, Bool.or_false, Bool.and_true, Bool.or_true, Bool.and_false, Bool.false_or, Bool.true_and, Bool.true_or, Bool.false_and, Bool.false_eq_true, Bool.true_eq_false] at h2
   refine W_seq (W_region rfl ?_)
   refine stp (r_move_bool rfl ?_)
   refine stp (r_move_bool rfl ?_)
   refine WL_some (og_if (s := .bool ((decide (kind ≠ 0)) && (decide (kind ≠ 1)))) (b := true) (v := .pointer (some ⟨b1, 1, none⟩)) rfl (wgb_t _) (fun hc18 => ?_) ?_)
   ·
    obtain ⟨hc18a, hc18b⟩ := and_t hc18
    have hc18a_ := of_decide_eq_true hc18a
    have hc18b_ := of_decide_eq_true hc18b
    refine r_fieldAddr rfl ?_
    exact ⟨rfl, rfl⟩
   refine WL_some (og_if (s := .bool ((decide (kind ≠ 0)) && (decide (kind ≠ 1)))) (b := true) (v := .int .i64 size) rfl (wgb_t _) (fun hc19 => ?_) ?_)
   ·
    obtain ⟨hc19a, hc19b⟩ := and_t hc19
    have hc19a_ := of_decide_eq_true hc19a
    have hc19b_ := of_decide_eq_true hc19b
    refine r_load (v := .int .i64 size) (gvt hc19) hc4 rfl ?_
    exact ⟨rfl, rfl⟩
   refine WL_some (og_if (s := .bool ((decide (kind ≠ 0)) && (decide (kind ≠ 1)))) (b := true) (v := .bool (decide (size = 2))) rfl (wgb_t _) (fun hc20 => ?_) ?_)
   ·
    obtain ⟨hc20a, hc20b⟩ := and_t hc20
    have hc20a_ := of_decide_eq_true hc20a
    have hc20b_ := of_decide_eq_true hc20b
    refine r_eql (gvt hc20) rfl ?_
    exact ⟨rfl, rfl⟩
   refine stp (r_and2 rfl rfl rfl ?_)
   refine stp (r_move_bool rfl ?_)
   refine WL_some (og_if (s := .bool (((decide (kind ≠ 0)) && (decide (kind ≠ 1))) && (decide (size = 2)))) (b := true) (v := .int .i64 (k : Int)) rfl (wgb_t _) (fun hc21 => ?_) ?_)
   ·
    obtain ⟨hc21a, hc21b⟩ := and_t hc21
    obtain ⟨hc21aa, hc21ab⟩ := and_t hc21a
    have hc21aa_ := of_decide_eq_true hc21aa
    have hc21ab_ := of_decide_eq_true hc21ab
    have hc21b_ := of_decide_eq_true hc21b
    refine r_move_int rfl ?_
    exact ⟨rfl, rfl⟩
   refine WL_some (og_if (s := .bool (((decide (kind ≠ 0)) && (decide (kind ≠ 1))) && (decide (size = 2)))) (b := true) (v := .pointer (some ⟨b1, 3, none⟩)) rfl (wgb_t _) (fun hc22 => ?_) ?_)
   ·
    obtain ⟨hc22a, hc22b⟩ := and_t hc22
    obtain ⟨hc22aa, hc22ab⟩ := and_t hc22a
    have hc22aa_ := of_decide_eq_true hc22aa
    have hc22ab_ := of_decide_eq_true hc22ab
    have hc22b_ := of_decide_eq_true hc22b
    refine r_fieldAddr rfl ?_
    exact ⟨rfl, rfl⟩
   refine WL_some (og_if (s := .bool (((decide (kind ≠ 0)) && (decide (kind ≠ 1))) && (decide (size = 2)))) (b := true) (v := .slice ab bytes.length cb) rfl (wgb_t _) (fun hc23 => ?_) ?_)
   ·
    obtain ⟨hc23a, hc23b⟩ := and_t hc23
    obtain ⟨hc23aa, hc23ab⟩ := and_t hc23a
    have hc23aa_ := of_decide_eq_true hc23aa
    have hc23ab_ := of_decide_eq_true hc23ab
    have hc23b_ := of_decide_eq_true hc23b
    refine r_load (v := .slice ab bytes.length cb) (gvt hc23) hc4 rfl ?_
    exact ⟨rfl, rfl⟩
   refine WL_some (og_if (s := .bool (((decide (kind ≠ 0)) && (decide (kind ≠ 1))) && (decide (size = 2)))) (b := true) (v := .int .i64 (bytes.length : Int)) rfl (wgb_t _) (fun hc24 => ?_) ?_)
   ·
    obtain ⟨hc24a, hc24b⟩ := and_t hc24
    obtain ⟨hc24aa, hc24ab⟩ := and_t hc24a
    have hc24aa_ := of_decide_eq_true hc24aa
    have hc24ab_ := of_decide_eq_true hc24ab
    have hc24b_ := of_decide_eq_true hc24b
    refine r_len rfl rfl (gvt hc24) ?_
    exact ⟨rfl, rfl⟩
   refine WL_some (og_if (s := .bool (((decide (kind ≠ 0)) && (decide (kind ≠ 1))) && (decide (size = 2)))) (b := true) (v := .bool (decide ((k : Int) < (bytes.length : Int)))) rfl (wgb_t _) (fun hc25 => ?_) ?_)
   ·
    obtain ⟨hc25a, hc25b⟩ := and_t hc25
    obtain ⟨hc25aa, hc25ab⟩ := and_t hc25a
    have hc25aa_ := of_decide_eq_true hc25aa
    have hc25ab_ := of_decide_eq_true hc25ab
    have hc25b_ := of_decide_eq_true hc25b
    refine r_lss (gvt hc25) (gvt hc25) ?_
    exact ⟨rfl, rfl⟩
   refine stp (r_and2 rfl rfl rfl ?_)
   refine stp (r_assign_bool rfl ?_)
   refine WL_nil ?_
   refine W_cond2 (b := ((((decide (kind ≠ 0)) && (decide (kind ≠ 1))) && (decide (size = 2))) && (decide ((k : Int) < (bytes.length : Int))))) rfl (fun h3 => ?_) (fun h3 => ?_)
   ·-- true
    simp only [Bool.and_eq_true, Bool.or_eq_true, Bool.not_eq_true', Bool.and_eq_false_iff, Bool.or_eq_false_iff, Bool.not_eq_false', decide_eq_true_eq, decide_eq_false_iff_not, Bool.not_true, Bool.not_false, Bool.not_eq_eq_eq_not, Bool.or_false, Bool.and_true, Bool.or_true, Bool.and_false, Bool.false_or, Bool.true_and, Bool.true_or, Bool.false_and, Bool.false_eq_true, Bool.true_eq_false] at h3
    refine W_seq (W_region rfl ?_)
    refine stp (r_fieldAddr rfl ?_)
    refine stp (r_load (v := .slice ab bytes.length cb) rfl hc4 rfl ?_)
    refine stp (r_move_int rfl ?_)
    refine stp (r_indexN (RB.grow G) rfl rfl ?_ ?_); omega
    refine stp (r_loadR (v := .int .u8 (bytes.getD k 0)) (m := 0) (RB.grow G) rfl (map_get1 0 (by omega)) ?_)
    refine stp (r_conv rfl ?_ ?_); constructor <;> omega
    refine stp (r_assign_int rfl ?_)
    refine stp (r_assign_int rfl ?_)
    refine WL_nil ?_
    refine W_ret ?_
    have h9 : tat (Nd.mk kind size words bytes kids) (k : Int) = (bytes.getD k 0, 0) := by rw [tat_mk]; (repeat' split) <;> first | rfl | (exfalso; omega) | (exfalso; simp_all; done) | (exfalso; simp_all; omega)
    refine ret2 (res_tmp (v := .int .u64 (bytes.getD k 0)) rfl) (res_tmp (v := .int .u16 0) rfl) ⟨?_, G⟩
    rw [h9]
   ·-- false
    simp only [Bool.and_eq_true, Bool.or_eq_true, Bool.not_eq_true', Bool.and_eq_false_iff, Bool.or_eq_false_iff, Bool.not_eq_false', decide_eq_true_eq, decide_eq_false_iff_not, Bool.not_true, Bool.not_false, Bool.not_eq_eq_eq_not, Bool.or_false, Bool.and_true, Bool.or_true, Bool.and_false, Bool.false_or, Bool.true_and, Bool.true_or, Bool.false_and, Bool.false_eq_true, Bool.true_eq_false] at h3
    refine W_seq (W_region rfl ?_)
    refine stp (r_move_bool rfl ?_)
    refine stp (r_assign_bool rfl ?_)
    refine WL_nil ?_
    refine W_cond2 (b := ((decide (kind ≠ 0)) && (decide (kind ≠ 1)))) rfl (fun h4 => ?_) (fun h4 => ?_)
    ·-- true
     simp only [Bool.and_eq_true, Bool.or_eq_true, Bool.not_eq_true', Bool.and_eq_false_iff, Bool.or_eq_false_iff, Bool.not_eq_false', decide_eq_true_eq, decide_eq_false_iff_not, Bool.not_true, Bool.not_false, Bool.not_eq_eq_eq_not, Bool.or_false, Bool.and_true, Bool.or_true, Bool.and_false, Bool.false_or, Bool.true_and, Bool.true_or, Bool.false_and, Bool.false_eq_true, Bool.true_eq_false] at h4
     refine W_seq (W_region rfl ?_)
     refine stp (r_assign_int rfl ?_)
     refine stp (r_assign_int rfl ?_)
     refine WL_nil ?_
     refine W_ret ?_
     have h9 : tat (Nd.mk kind size words bytes kids) (k : Int) = (0, 20) := by rw [tat_mk]; (repeat' split) <;> first | rfl | (exfalso; omega) | (exfalso; simp_all; done) | (exfalso; simp_all; omega)
     refine ret2 (res_tmp (v := .int .u64 0) rfl) (res_tmp (v := .int .u16 20) rfl) ⟨?_, G⟩
     rw [h9]
    ·-- false
     simp only [Bool.and_eq_true, Bool.or_eq_true, Bool.not_eq_true', Bool.and_eq_false_iff, Bool.or_eq_false_iff, Bool.not_eq_false', decide_eq_true_eq, decide_eq_false_iff_not, Bool.not_true, Bool.not_false, Bool.not_eq_eq_eq_not, Bool.or_false, Bool.and_true, Bool.or_true, Bool.and_false, Bool.false_or, Bool.true_and, Bool.true_or, Bool.false_and, Bool.false_eq_true, Bool.true_eq_false] at h4
     refine W_skip ?_
     refine W_seq (W_region rfl ?_)
     refine stp (r_assign_int rfl ?_)
     refine stp (r_assign_int rfl ?_)
     refine WL_nil ?_
     refine W_ret ?_
     have h9 : tat (Nd.mk kind size words bytes kids) (k : Int) = (0, 0) := by rw [tat_mk]; (repeat' split) <;> first | rfl | (exfalso; omega) | (exfalso; simp_all; done) | (exfalso; simp_all; omega)
     refine ret2 (res_tmp (v := .int .u64 0) rfl) (res_tmp (v := .int .u16 0) rfl) ⟨?_, G⟩
     rw [h9]

set_option maxRecDepth 100000 in
theorem indexI_calls (w : World) {ad : Option Addr} {c n fid : Nat} {fst cap : Array Value} {xs : List Int} [FuncI Try.prog fid] (R : RowAt w 1 ad n (xs.map (.int .i64))) (hn : n = xs.length) (p : Nat → Bool) (hf : ∀ i, i < n → ∀ w', Grow w w' → Gives Try.prog fid (fst.toList ++ ([Value.int .i64 (xs.getD i 0)] ++ cap.toList)).toArray w' (.bool (p i))) : Gives Try.prog 69 #[.slice ad n c, .func (.func fid) fst cap] w (.int .i64 (findI p n 0)) := by
 have ln := R.lim
 have G := Grow.rfl' w
 refine gives_of Try.func69 Try.ntmps69 Try.results69 rfl rfl ?_
 refine W_seq (W_region rfl ?_)
 refine stp (r_assign_int rfl ?_)
 refine WL_nil ?_
 refine W_seq ?_
 refine W_seq (W_region rfl ?_)
 refine stp (r_move_slice rfl ?_)
 refine stp (r_len rfl rfl rfl ?_)
 refine stp (r_move_int rfl ?_)
 refine WL_nil ?_
 refine W_block ?_
 refine W_loop (fun m_ e_ w_ => ∃ (k : Nat), m_ = n - k ∧ Fr [(0, .slice ad n c), (1, .func (.func fid) fst cap), (7, .int .i64 (n : Int)), (8, .int .i64 (k : Int))] e_ ∧ (k ≤ n) ∧ (∀ j, j < k → p j = false) ∧ Grow w w_) _ ⟨0, rfl, fr_of ⟨rfl, rfl, rfl, rfl, trivial⟩, by omega, fun j hj => by omega, G⟩ ?_
 clear G
 rintro m_ e_ w1 ⟨k, rfl, ⟨e2, rfl⟩, hk, hno, G⟩
 refine W_seq (W_region rfl ?_)
 refine stp (r_lss rfl rfl ?_)
 refine WL_nil ?_
 refine W_seq ?_
 refine W_cond2 (b := (decide ((k : Int) < (n : Int)))) rfl (fun hlt => ?_) (fun hlt => ?_)
 ·-- true
  replace hlt := of_decide_eq_true hlt
  refine W_skip ?_
  refine W_seq ?_
  refine W_block ?_
  refine W_seq (W_region rfl ?_)
  refine stp (r_move_int rfl ?_)
  refine stp (r_assign_int rfl ?_)
  refine WL_nil ?_
  refine W_seq (W_region rfl ?_)
  refine stp (r_move (v := .func (.func fid) fst cap) rfl ?_)
  refine stp (r_move_slice rfl ?_)
  refine stp (r_move_int rfl ?_)
  refine stp (r_indexN (R.grow G) rfl rfl ?_ ?_); omega
  refine stp (r_loadR (v := .int .i64 (xs.getD k 0)) (m := 0) (R.grow G) rfl (map_get1 0 (by omega)) ?_)
  refine stp (r_gives (v := .bool (p k)) rfl (hf k (by omega) _ G) ?_)
  intro w3 g4
  replace G := G.tr g4
  clear g4
  refine WL_nil ?_
  refine W_cond2 (b := (p k)) rfl (fun hpk => ?_) (fun hpk => ?_)
  ·-- true
   refine W_seq (W_region rfl ?_)
   refine stp (r_move_int rfl ?_)
   refine stp (r_assign_int rfl ?_)
   refine WL_nil ?_
   refine W_ret ?_
   refine ret1 (res_tmp (v := .int .i64 (k : Int)) rfl) ⟨?_, G⟩
   rw [findI_some n 0 k (by omega) (by omega) hpk (fun j _ hj => hno j hj)]
  ·-- false
   refine W_skip ?_
   refine W_region rfl ?_
   refine stp (r_add rfl rfl ?_ ?_); constructor <;> omega
   refine stp (r_move_int rfl ?_)
   refine WL_nil ?_
   refine ⟨_, ?_, k + 1, rfl, fr_of ⟨rfl, rfl, rfl, rfl, trivial⟩, by omega, fun j hj => by rcases Nat.lt_succ_iff_lt_or_eq.1 hj with h | h; exact hno j h; subst h; exact hpk, G⟩
   omega
 ·-- false
  replace hlt := of_decide_eq_false hlt
  have hk2 : k = n := by omega
  subst hk2
  refine W_exit ?_
  refine W_seq (W_region rfl ?_)
  refine stp (r_assign_int rfl ?_)
  refine WL_nil ?_
  refine W_ret ?_
  refine ret1 (res_tmp (v := .int .i64 (-1)) rfl) ⟨?_, G⟩
  rw [findI_none _ _ (fun j _ hj => hno j (by omega))]

set_option maxRecDepth 100000 in
theorem containsI_calls (w : World) {ad : Option Addr} {c n fid : Nat} {fst cap : Array Value} {xs : List Int} [FuncI Try.prog fid] (R : RowAt w 1 ad n (xs.map (.int .i64))) (hn : n = xs.length) (p : Nat → Bool) (hf : ∀ i, i < n → ∀ w', Grow w w' → Gives Try.prog fid (fst.toList ++ ([Value.int .i64 (xs.getD i 0)] ++ cap.toList)).toArray w' (.bool (p i))) : Gives Try.prog 41 #[.slice ad n c, .func (.func fid) fst cap] w (.bool ((List.range' 0 n).any p)) := by
 have G := Grow.rfl' w
 refine gives_of Try.func41 Try.ntmps41 Try.results41 rfl rfl ?_
 refine W_seq (W_region rfl ?_)
 refine stp (r_assign (v := .bool false) rfl ?_)
 refine WL_nil ?_
 refine W_seq (W_region rfl ?_)
 refine stp (r_move_slice rfl ?_)
 refine stp (r_move (v := .func (.func fid) fst cap) rfl ?_)
 refine stp (r_gives (v := .int .i64 (findI p n 0)) rfl (indexI_calls _ (R.grow G) hn p (fun i hi w' g' => hf i hi w' (G.tr g'))) ?_)
 intro w1 g2
 replace G := G.tr g2
 clear g2
 refine stp (r_geq rfl rfl ?_)
 refine stp (r_assign_bool rfl ?_)
 refine WL_nil ?_
 refine W_ret ?_
 refine ret1 (res_tmp (v := .bool (decide ((findI p n 0) ≥ 0))) rfl) ⟨?_, G⟩
 rw [← findI_any]

set_option maxRecDepth 100000 in
theorem ask1_calls (w : World) (x : Int) : Gives Try.prog 42 #[.int .i64 x] w (.bool (decide (x < 0))) := by
 have G := Grow.rfl' w
 refine gives_of Try.func42 Try.ntmps42 Try.results42 rfl rfl ?_
 refine W_seq (W_region rfl ?_)
 refine stp (r_assign (v := .bool false) rfl ?_)
 refine WL_nil ?_
 refine W_seq (W_region rfl ?_)
 refine stp (r_move_int rfl ?_)
 refine stp (r_lss rfl rfl ?_)
 refine stp (r_assign_bool rfl ?_)
 refine WL_nil ?_
 refine W_ret ?_
 refine ret1 (res_tmp (v := .bool (decide (x < 0))) rfl) ⟨?_, G⟩
 rfl

set_option maxRecDepth 100000 in
theorem cost_calls : ∀ (n_ : Nat) (w : World) {c : List Value} {t : Nd} (T : NodeR w c t), t.sz ≤ n_ → Gives Try.prog 19 #[.agg c.toArray] w (.int .i64 t.cost) := by
 intro n_
 induction n_ with
 | zero => intro w c t T hm_; exact absurd hm_ (by have := t.sz_pos; omega)
 | succ n_ ih_ =>
 intro w c t T hm_
 have T0 := T
 have hnd := T.need_le
 obtain @⟨kind, size, words, bytes, kids, ws, bs, ks, kc, hk, hs, hW, hwr, hB, hbr, hK, hKs⟩ := T
 obtain ⟨aw, cw, rfl, hcw, hcw2, RW⟩ := hW
 obtain ⟨ab, cb, rfl, hcb, hcb2, RB⟩ := hB
 obtain ⟨ak, ck, rfl, hck, hck2, RK⟩ := hK
 have lw := RW.lim
 have lb := RB.lim
 have lk := RK.lim
 simp only [inR] at hk hs
 have hn0 := Nd.need_nn (Nd.mk kind size words bytes kids)
 have G := Grow.rfl' w
 refine gives_of Try.func19 Try.ntmps19 Try.results19 rfl rfl ?_
 refine W_seq (W_region rfl ?_)
 refine WL_some (og rfl ?_)
 (first | refine r_box_agg rfl ?_ | refine r_box_int rfl ?_ | refine r_box_slice rfl ?_ | refine r_box rfl rfl ?_)
 intro b1 w2 hb3 hc4 g5
 have hge6 := Nat.le_trans G.size hb3
 replace G := G.tr g5
 clear g5 hb3
 refine stp (r_assign_int rfl ?_)
 refine WL_nil ?_
 refine W_seq (W_region rfl ?_)
 refine stp (r_loadAll rfl hc4 (by rfl) ?_)
 refine stp (r_gives (v := .int .i64 ((Nd.mk kind size words bytes kids).need)) rfl (need_calls _ (T0.grow G)) ?_)
 intro w7 g8
 replace hc4 := g8.heap hc4
 replace G := G.tr g8
 clear g8
 refine stp (r_add rfl rfl ?_ ?_); constructor <;> omega
 refine stp (r_assign_int rfl ?_)
 refine WL_nil ?_
 refine W_seq ?_
 refine W_seq (W_region rfl ?_)
 refine stp (r_fieldAddr rfl ?_)
 refine stp (r_load (v := .slice ak kids.length ck) rfl hc4 rfl ?_)
 refine stp (r_len rfl rfl rfl ?_)
 refine stp (r_move_int rfl ?_)
 refine WL_nil ?_
 refine W_block ?_
 refine W_loop (fun m_ e_ w_ => ∃ (k : Nat), m_ = kids.length - k ∧ Fr [(2, .int .i64 0), (10, .slice ak kids.length ck), (11, .int .i64 (kids.length : Int)), (3, .int .i64 (Nd.costL (kids.take k) (1 + (Nd.mk kind size words bytes kids).need))), (12, .int .i64 (k : Int))] e_ ∧ (k ≤ kids.length) ∧ (w_.heap[b1]? = some (.cells #[.int .i64 kind, .int .i64 size, .slice aw words.length cw, .slice ab bytes.length cb, .slice ak kids.length ck] 37 (0, 0))) ∧ Grow w w_) _ ⟨0, rfl, fr_of ⟨rfl, rfl, rfl, congrArg (Value.int .i64) (by simp [Nd.costL]), rfl, trivial⟩, by omega, hc4, G⟩ ?_
 clear hc4
 clear G
 rintro m_ e_ w9 ⟨k, rfl, ⟨e10, rfl⟩, hk2, hc4, G⟩
 refine W_seq (W_region rfl ?_)
 refine stp (r_lss rfl rfl ?_)
 refine WL_nil ?_
 refine W_seq ?_
 refine W_cond2 (b := (decide ((k : Int) < (kids.length : Int)))) rfl (fun hlt => ?_) (fun hlt => ?_)
 ·-- true
  replace hlt := of_decide_eq_true hlt
  have hi : k < kids.length := by omega
  have hat := KidsR.at_ k kids[k] hKs (by simp [hi])
  obtain ⟨y0, y1, ya, yn, yc, za, zn, zc, ua, un, uc, hy⟩ := hat.cells
  rw [hy] at hat
  have hsz := Nd.szs_at kids k kids[k] (by simp [hi])
  simp only [Nd.sz] at hm_
  have c0 := Nd.costL_pos (kids.take k) (1 + (Nd.mk kind size words bytes kids).need) (by omega)
  have c1 := Nd.costL_le (kids.take k) (1 + (Nd.mk kind size words bytes kids).need) (by omega)
  have c2 := kids[k].cost_pos
  have c3 := Nd.cost_le hat.need_le
  refine W_skip ?_
  refine W_seq ?_
  refine W_block ?_
  refine W_seq (W_region rfl ?_)
  refine stp (r_indexN (RK.grow G) rfl rfl ?_ ?_); omega
  refine stp (r_loadNR (RK.grow G) rfl (by decide) (by rw [RK.len]; omega) hy ?_)
  refine stp (r_alloc ?_)
  intro b11 w12 hb13 hc14 g15
  refine stn (r_storeAll rfl rfl hc14 (by rfl) (by rfl) (by rfl) ?_)
  intro w16 hc17 u18
  have g19 := g15.upd u18 hb13
  have hge20 := Nat.le_trans G.size hb13
  have ne21 := Nat.ne_of_lt (Nat.lt_of_lt_of_le (lt_of_heap hc4) hb13)
  replace hc4 := g19.heap hc4
  replace G := G.tr g19
  clear u18 g15 hb13 hc14
  refine WL_nil ?_
  refine W_region rfl ?_
  refine stp (r_move_int rfl ?_)
  refine stp (r_loadAll rfl hc17 (by rfl) ?_)
  refine stp (r_gives (v := .int .i64 (kids[k].cost)) rfl ((by have h := ih_ _ (hat.grow G) (by omega); exact h)) ?_)
  intro w22 g23
  replace hc4 := g23.heap hc4
  replace hc17 := g23.heap hc17
  replace G := G.tr g23
  clear g23
  refine stp (r_add rfl rfl ?_ ?_); constructor <;> omega
  refine stp (r_min rfl rfl rfl ?_)
  refine stp (r_assign_int rfl ?_)
  refine WL_nil ?_
  refine W_region rfl ?_
  refine stp (r_add rfl rfl ?_ ?_); constructor <;> omega
  refine stp (r_move_int rfl ?_)
  refine WL_nil ?_
  refine ⟨_, ?_, k + 1, rfl, fr_of ⟨rfl, rfl, rfl, congrArg (Value.int .i64) (by rw [Nd.costL_take _ hi]; rfl), rfl, trivial⟩, by omega, hc4, G⟩
  omega
 ·-- false
  replace hlt := of_decide_eq_false hlt
  have hk3 : k = kids.length := by omega
  refine W_exit ?_
  refine W_seq (W_region rfl ?_)
  refine stp (r_move_int rfl ?_)
  refine stp (r_assign_int rfl ?_)
  refine WL_nil ?_
  refine W_ret ?_
  refine ret1 (res_tmp (v := .int .i64 (Nd.costL (kids.take k) (1 + (Nd.mk kind size words bytes kids).need))) rfl) ⟨?_, G⟩
  rw [Nd.cost, hk3, List.take_length]

set_option maxRecDepth 100000 in
theorem ask_calls (w : World) {c : List Value} {t : Nd} (T : NodeR w c t) {ad : Option Addr} {c2 : Nat} {steps : List Int} {a : Int} (R : RowAt w 1 ad steps.length (steps.map (.int .i64))) (ha : inR .i64 a) : Gives Try.prog 25 #[.agg c.toArray, .agg #[.slice ad steps.length c2, .int .i64 a]] w (.tuple #[.agg #[.int .i64 ((askT t steps a).1.kind), .int .i64 ((askT t steps a).1.size), .int .i64 ((askT t steps a).1.words), .int .i64 ((askT t steps a).1.kids), .int .u64 ((askT t steps a).1.word)], .int .u16 ((askT t steps a).2)]) := by
 have T0 := T
 have ll := R.lim
 simp only [inR] at ha
 obtain @⟨kind, size, words, bytes, kids, ws, bs, ks, kc, hk, hs, hW, hwr, hB, hbr, hK, hKs⟩ := T
 obtain ⟨aw, cw, rfl, hcw, hcw2, RW⟩ := hW
 obtain ⟨ab, cb, rfl, hcb, hcb2, RB⟩ := hB
 obtain ⟨ak, ck, rfl, hck, hck2, RK⟩ := hK
 have lw := RW.lim
 have lb := RB.lim
 have lk := RK.lim
 simp only [inR] at hk hs
 have G := Grow.rfl' w
 refine gives_of Try.func25 Try.ntmps25 Try.results25 rfl rfl ?_
 refine W_seq (W_region rfl ?_)
 refine WL_some (og rfl ?_)
 (first | refine r_box_agg rfl ?_ | refine r_box_int rfl ?_ | refine r_box_slice rfl ?_ | refine r_box rfl rfl ?_)
 intro b1 w2 hb3 hc4 g5
 have hge6 := Nat.le_trans G.size hb3
 replace G := G.tr g5
 clear g5 hb3
 refine WL_some (og rfl ?_)
 (first | refine r_box_agg rfl ?_ | refine r_box_int rfl ?_ | refine r_box_slice rfl ?_ | refine r_box rfl rfl ?_)
 intro b7 w8 hb9 hc10 g11
 have hge12 := Nat.le_trans G.size hb9
 have ne13 := Nat.ne_of_lt (Nat.lt_of_lt_of_le (lt_of_heap hc4) hb9)
 replace hc4 := g11.heap hc4
 replace G := G.tr g11
 clear g11 hb9
 refine stp (r_alloc ?_)
 intro b14 w15 hb16 hc17 g18
 refine stp (r_assign_int rfl ?_)
 refine WL_nil ?_
 refine W_seq ?_
 refine W_block ?_
 refine W_seq (W_region rfl ?_)
 refine stp (r_fieldAddr rfl ?_)
 have hge19 := Nat.le_trans G.size hb16
 have ne20 := Nat.ne_of_lt (Nat.lt_of_lt_of_le (lt_of_heap hc4) hb16)
 have ne21 := Nat.ne_of_lt (Nat.lt_of_lt_of_le (lt_of_heap hc10) hb16)
 replace hc4 := g18.heap hc4
 replace hc10 := g18.heap hc10
 replace G := G.tr g18
 clear g18 hb16
 refine stp (r_load (v := .slice ad steps.length c2) rfl hc10 rfl ?_)
 refine stp (r_gives (v := .bool ((List.range' 0 steps.length).any fun i => decide (steps.getD i 0 < 0))) rfl (containsI_calls _ (R.grow G) rfl (fun i => decide (steps.getD i 0 < 0)) (fun i hi w' g' => ask1_calls _ _)) ?_)
 intro w22 g23
 replace hc4 := g23.heap hc4
 replace hc10 := g23.heap hc10
 replace hc17 := g23.heap hc17
 replace G := G.tr g23
 clear g23
 refine stp (r_assign_bool rfl ?_)
 refine WL_nil ?_
 refine W_cond2 (b := ((List.range' 0 steps.length).any fun i => decide (steps.getD i 0 < 0))) rfl (fun h1 => ?_) (fun h1 => ?_)
 ·-- true
  refine W_seq (W_region rfl ?_)
  refine stp (r_build (v := .agg #[.int .i64 0, .int .i64 0, .int .i64 0, .int .i64 0, .int .u64 0]) (fun w => by kernel_rfl) ?_)
  refine stn (r_storeAll rfl rfl hc17 (by rfl) (by rfl) (by rfl) ?_)
  intro w24 hc25 u26
  replace hc4 := u26.heap hc4 ne20
  replace hc10 := u26.heap hc10 ne21
  replace G := G.upd u26 hge19
  clear u26 hc17
  refine stp (r_assign_int rfl ?_)
  refine WL_nil ?_
  refine W_ret ?_
  have h9 : (askT (Nd.mk kind size words bytes kids) steps a) = (Vl0, 1) := by unfold askT; rw [if_pos (any_neg.1 h1)]
  refine ret2 (res_all rfl hc25 (by rfl)) (res_tmp (v := .int .u16 1) rfl) ⟨?_, G⟩
  rw [h9] <;> rfl
 ·-- false
  have hno : ¬ ∃ k ∈ steps, k < 0 := fun h_ => by rw [any_neg.2 h_] at h1; cases h1
  refine W_seq (W_region rfl ?_)
  refine stp (r_fieldAddr rfl ?_)
  refine stp (r_load (v := .slice ad steps.length c2) rfl hc10 rfl ?_)
  refine stp (r_len rfl rfl rfl ?_)
  refine stp (r_gtr rfl rfl ?_)
  refine stp (r_assign_bool rfl ?_)
  refine WL_nil ?_
  refine W_cond2 (b := (decide ((steps.length : Int) > 32))) rfl (fun h2 => ?_) (fun h2 => ?_)
  ·-- true
   replace h2 := of_decide_eq_true h2
   refine W_seq (W_region rfl ?_)
   refine stp (r_build (v := .agg #[.int .i64 0, .int .i64 0, .int .i64 0, .int .i64 0, .int .u64 0]) (fun w => by kernel_rfl) ?_)
   refine stn (r_storeAll rfl rfl hc17 (by rfl) (by rfl) (by rfl) ?_)
   intro w27 hc28 u29
   replace hc4 := u29.heap hc4 ne20
   replace hc10 := u29.heap hc10 ne21
   replace G := G.upd u29 hge19
   clear u29 hc17
   refine stp (r_assign_int rfl ?_)
   refine WL_nil ?_
   refine W_ret ?_
   have h9 : (askT (Nd.mk kind size words bytes kids) steps a) = (Vl0, 3) := by unfold askT; rw [if_neg hno, if_pos h2]
   refine ret2 (res_all rfl hc28 (by rfl)) (res_tmp (v := .int .u16 3) rfl) ⟨?_, G⟩
   rw [h9] <;> rfl
  ·-- false
   replace h2 := of_decide_eq_false h2
   refine W_skip ?_
   refine W_seq ?_
   refine W_seq (W_region rfl ?_)
   refine stp (r_fieldAddr rfl ?_)
   refine stp (r_load (v := .slice ad steps.length c2) rfl hc10 rfl ?_)
   refine stp (r_len rfl rfl rfl ?_)
   refine stp (r_move_int rfl ?_)
   refine WL_nil ?_
   refine W_block ?_
   refine W_loop (fun m_ e_ w_ => ∃ (k : Nat) (y0 : Int) (y1 : Int) (ya : Option Addr) (yn : Nat) (yc : Nat) (za : Option Addr) (zn : Nat) (zc : Nat) (ua : Option Addr) (un : Nat) (uc : Nat) (u : Nd), m_ = steps.length - k ∧ Fr [(2, .pointer (some ⟨b1, 0, none⟩)), (3, .pointer (some ⟨b7, 0, none⟩)), (4, .pointer (some ⟨b14, 0, none⟩)), (24, .slice ad steps.length c2), (25, .int .i64 (steps.length : Int)), (26, .int .i64 (k : Int))] e_ ∧ (k ≤ steps.length) ∧ (NodeR w [.int .i64 y0, .int .i64 y1, .slice ya yn yc, .slice za zn zc, .slice ua un uc] u) ∧ (tgo steps (Nd.mk kind size words bytes kids) = tgo (steps.drop k) u) ∧ (w_.heap[b7]? = some (.cells #[.slice ad steps.length c2, .int .i64 a] 33 (0, 0))) ∧ (w_.heap[b14]? = some (.cells #[.int .i64 0, .int .i64 0, .int .i64 0, .int .i64 0, .int .u64 0] 57 (0, 0))) ∧ (w_.heap[b1]? = some (.cells #[.int .i64 y0, .int .i64 y1, .slice ya yn yc, .slice za zn zc, .slice ua un uc] 37 (0, 0))) ∧ Grow w w_) _ ⟨0, kind, size, aw, words.length, cw, ab, bytes.length, cb, ak, kids.length, ck, (Nd.mk kind size words bytes kids), rfl, fr_of ⟨rfl, rfl, rfl, rfl, rfl, rfl, trivial⟩, by omega, T0, rfl, hc10, hc17, hc4, G⟩ ?_
   clear hc4 hc10 hc17
   clear G
   rintro m_ e_ w30 ⟨k, y0, y1, ya, yn, yc, za, zn, zc, ua, un, uc, u, rfl, ⟨e31, rfl⟩, hk2, hT, hw, hc10, hc17, hc4, G⟩
   refine W_seq (W_region rfl ?_)
   refine stp (r_lss rfl rfl ?_)
   refine WL_nil ?_
   refine W_seq ?_
   refine W_cond2 (b := (decide ((k : Int) < (steps.length : Int)))) rfl (fun hlt => ?_) (fun hlt => ?_)
   ·-- true
    replace hlt := of_decide_eq_true hlt
    have hi : k < steps.length := by omega
    have hkk : 0 ≤ (steps.getD k 0) := Int.not_lt.1 fun h_ => hno ⟨_, getD_mem hi, h_⟩
    have hd := tgo_drop hi u
    refine W_skip ?_
    refine W_seq ?_
    refine W_block ?_
    refine W_seq (W_region rfl ?_)
    refine stp (r_indexN (R.grow G) rfl rfl ?_ ?_); omega
    refine stp (r_loadR (v := .int .i64 (steps.getD k 0)) (m := 0) (R.grow G) rfl (map_get1 0 (by omega)) ?_)
    refine stp (r_assign_int rfl ?_)
    refine WL_nil ?_
    refine W_seq (W_region rfl ?_)
    refine stp (r_loadAll rfl hc4 (by rfl) ?_)
    refine stp (r_move_int rfl ?_)
    refine WL_some (og rfl ?_)
    refine r_call rfl (tstep_calls _ hT G hkk) ?_
    rintro v_ w32 ⟨cells, rfl, hT9, g_⟩
    replace hc10 := g_.heap hc10
    replace hc17 := g_.heap hc17
    replace hc4 := g_.heap hc4
    replace G := G.tr g_
    clear g_
    obtain ⟨x0, x1, xa, xn, xc, pa, pn, pc, qa, qn, qc, rfl⟩ := hT9.cells
    refine stp (r_move (v := .tuple #[.agg #[.int .i64 x0, .int .i64 x1, .slice xa xn xc, .slice pa pn pc, .slice qa qn qc], .int .u16 ((tstep u (steps.getD k 0)).2)]) rfl ?_)
    refine stp (r_extract (v := .agg #[.int .i64 x0, .int .i64 x1, .slice xa xn xc, .slice pa pn pc, .slice qa qn qc]) rfl rfl ?_)
    refine stp (r_extract (v := .int .u16 ((tstep u (steps.getD k 0)).2)) rfl rfl ?_)
    refine stp (r_alloc ?_)
    intro b33 w34 hb35 hc36 g37
    refine stn (r_storeAll rfl rfl hc36 (by rfl) (by rfl) (by rfl) ?_)
    intro w38 hc39 u40
    have g41 := g37.upd u40 hb35
    have hge42 := Nat.le_trans G.size hb35
    have ne43 := Nat.ne_of_lt (Nat.lt_of_lt_of_le (lt_of_heap hc10) hb35)
    have ne44 := Nat.ne_of_lt (Nat.lt_of_lt_of_le (lt_of_heap hc17) hb35)
    have ne45 := Nat.ne_of_lt (Nat.lt_of_lt_of_le (lt_of_heap hc4) hb35)
    replace hc10 := g41.heap hc10
    replace hc17 := g41.heap hc17
    replace hc4 := g41.heap hc4
    replace G := G.tr g41
    clear u40 g37 hb35 hc36
    refine stp (r_assign_int rfl ?_)
    refine WL_nil ?_
    refine W_seq ?_
    refine W_seq (W_region rfl ?_)
    refine stp (r_move_int rfl ?_)
    refine stp (r_neq rfl rfl ?_)
    refine WL_nil ?_
    refine W_cond2 (b := (decide (((tstep u (steps.getD k 0)).2) ≠ 0))) rfl (fun h4 => ?_) (fun h4 => ?_)
    ·-- true
     replace h4 := of_decide_eq_true h4
     refine W_seq (W_region rfl ?_)
     refine stp (r_build (v := .agg #[.int .i64 0, .int .i64 0, .int .i64 0, .int .i64 0, .int .u64 0]) (fun w => by kernel_rfl) ?_)
     refine stp (r_move_int rfl ?_)
     refine stn (r_storeAll rfl rfl hc17 (by rfl) (by rfl) (by rfl) ?_)
     intro w46 hc47 u48
     replace hc10 := u48.heap hc10 ne21
     replace hc4 := u48.heap hc4 ne20
     replace hc39 := u48.heap hc39 ne44.symm
     replace G := G.upd u48 hge19
     clear u48 hc17
     refine stp (r_assign_int rfl ?_)
     refine WL_nil ?_
     refine W_ret ?_
     have h9 : (askT (Nd.mk kind size words bytes kids) steps a) = (Vl0, (tstep u (steps.getD k 0)).2) := by unfold askT; rw [if_neg hno, if_neg h2, hw, hd, if_pos h4, if_pos h4]
     refine ret2 (res_all rfl hc47 (by rfl)) (res_tmp (v := .int .u16 ((tstep u (steps.getD k 0)).2)) rfl) ⟨?_, G⟩
     rw [h9] <;> rfl
    ·-- false
     replace h4 := of_decide_eq_false h4
     refine W_skip ?_
     refine W_region rfl ?_
     refine stp (r_loadAll rfl hc39 (by rfl) ?_)
     refine stn (r_storeAll rfl rfl hc4 (by rfl) (by rfl) (by rfl) ?_)
     intro w49 hc50 u51
     replace hc10 := u51.heap hc10 ne13.symm
     replace hc17 := u51.heap hc17 ne20.symm
     replace hc39 := u51.heap hc39 ne45.symm
     replace G := G.upd u51 hge6
     clear u51 hc4
     refine WL_nil ?_
     refine W_region rfl ?_
     refine stp (r_add rfl rfl ?_ ?_); constructor <;> omega
     refine stp (r_move_int rfl ?_)
     refine WL_nil ?_
     refine ⟨_, ?_, k + 1, x0, x1, xa, xn, xc, pa, pn, pc, qa, qn, qc, (tstep u (steps.getD k 0)).1, rfl, fr_of ⟨rfl, rfl, rfl, rfl, rfl, rfl, trivial⟩, by omega, hT9, (by rw [hw, hd, if_neg h4]), hc10, hc17, hc50, G⟩
     omega
   ·-- false
    replace hlt := of_decide_eq_false hlt
    have hk9 : k = steps.length := by omega
    rw [hk9, List.drop_length, tgo] at hw
    obtain ⟨hl1, hl2, hl3, hl4, hl5, hl6, hl7, hl8⟩ := hT.lens
    have hv : (askT (Nd.mk kind size words bytes kids) steps a) = tval u a := by unfold askT; rw [if_neg hno, if_neg h2, hw, if_neg (by simp)]
    refine W_exit ?_
    refine W_seq ?_
    refine W_seq (W_region rfl ?_)
    refine stp (r_fieldAddr rfl ?_)
    refine stp (r_load (v := .int .i64 a) rfl hc10 rfl ?_)
    refine stp (r_lss rfl rfl ?_)
    refine WL_nil ?_
    refine W_cond2 (b := (decide (a < 0))) rfl (fun h3 => ?_) (fun h3 => ?_)
    ·-- true
     replace h3 := of_decide_eq_true h3
     refine W_seq (W_region rfl ?_)
     refine stp (r_fieldAddr rfl ?_)
     refine stp (r_load (v := .int .i64 y0) rfl hc4 rfl ?_)
     refine stp (r_fieldAddr rfl ?_)
     refine stp (r_load (v := .int .i64 y1) rfl hc4 rfl ?_)
     refine stp (r_fieldAddr rfl ?_)
     refine stp (r_load (v := .slice ya yn yc) rfl hc4 rfl ?_)
     refine stp (r_len rfl rfl rfl ?_)
     refine stp (r_fieldAddr rfl ?_)
     refine stp (r_load (v := .slice za zn zc) rfl hc4 rfl ?_)
     refine stp (r_len rfl rfl rfl ?_)
     refine stp (r_add rfl rfl ?_ ?_); constructor <;> omega
     refine stp (r_fieldAddr rfl ?_)
     refine stp (r_load (v := .slice ua un uc) rfl hc4 rfl ?_)
     refine stp (r_len rfl rfl rfl ?_)
     refine stp (r_build (v := .agg #[.int .i64 y0, .int .i64 y1, .int .i64 ((yn : Int) + (zn : Int)), .int .i64 (un : Int), .int .u64 0]) (fun w => by kernel_rfl) ?_)
     refine stn (r_storeAll rfl rfl hc17 (by rfl) (by rfl) (by rfl) ?_)
     intro w52 hc53 u54
     replace hc10 := u54.heap hc10 ne21
     replace hc4 := u54.heap hc4 ne20
     replace G := G.upd u54 hge19
     clear u54 hc17
     refine stp (r_assign_int rfl ?_)
     refine WL_nil ?_
     refine W_ret ?_
     have h9 : (askT (Nd.mk kind size words bytes kids) steps a) = (⟨y0, y1, (yn : Int) + zn, un, 0⟩, 0) := by rw [hv, tval, if_pos h3, hl1, hl2, hl3, hl4, hl5]
     refine ret2 (res_all rfl hc53 (by rfl)) (res_tmp (v := .int .u16 0) rfl) ⟨?_, G⟩
     rw [h9] <;> rfl
    ·-- false
     replace h3 := of_decide_eq_false h3
     refine W_skip ?_
     refine W_seq (W_region rfl ?_)
     refine stp (r_loadAll rfl hc4 (by rfl) ?_)
     refine stp (r_fieldAddr rfl ?_)
     refine stp (r_load (v := .int .i64 a) rfl hc10 rfl ?_)
     refine stp (r_gives (v := .tuple #[.int .u64 ((tat u a).1), .int .u16 ((tat u a).2)]) rfl (tat_calls _ (hT.grow G) (by omega)) ?_)
     intro w55 g56
     replace hc10 := g56.heap hc10
     replace hc17 := g56.heap hc17
     replace hc4 := g56.heap hc4
     replace G := G.tr g56
     clear g56
     refine stp (r_move (v := .tuple #[.int .u64 ((tat u a).1), .int .u16 ((tat u a).2)]) rfl ?_)
     refine stp (r_extract (v := .int .u64 ((tat u a).1)) rfl rfl ?_)
     refine stp (r_extract (v := .int .u16 ((tat u a).2)) rfl rfl ?_)
     refine stp (r_assign_int rfl ?_)
     refine stp (r_assign_int rfl ?_)
     refine WL_nil ?_
     refine W_seq ?_
     refine W_seq (W_region rfl ?_)
     refine stp (r_move_int rfl ?_)
     refine stp (r_neq rfl rfl ?_)
     refine WL_nil ?_
     refine W_cond2 (b := (decide (((tat u a).2) ≠ 0))) rfl (fun h4 => ?_) (fun h4 => ?_)
     ·-- true
      replace h4 := of_decide_eq_true h4
      refine W_seq (W_region rfl ?_)
      refine stp (r_build (v := .agg #[.int .i64 0, .int .i64 0, .int .i64 0, .int .i64 0, .int .u64 0]) (fun w => by kernel_rfl) ?_)
      refine stp (r_move_int rfl ?_)
      refine stn (r_storeAll rfl rfl hc17 (by rfl) (by rfl) (by rfl) ?_)
      intro w57 hc58 u59
      replace hc10 := u59.heap hc10 ne21
      replace hc4 := u59.heap hc4 ne20
      replace G := G.upd u59 hge19
      clear u59 hc17
      refine stp (r_assign_int rfl ?_)
      refine WL_nil ?_
      refine W_ret ?_
      have h9 : (askT (Nd.mk kind size words bytes kids) steps a) = (Vl0, (tat u a).2) := by rw [hv, tval, if_neg h3, if_pos h4]
      refine ret2 (res_all rfl hc58 (by rfl)) (res_tmp (v := .int .u16 ((tat u a).2)) rfl) ⟨?_, G⟩
      rw [h9] <;> rfl
     ·-- false
      replace h4 := of_decide_eq_false h4
      refine W_skip ?_
      refine W_seq (W_region rfl ?_)
      refine stp (r_fieldAddr rfl ?_)
      refine stp (r_load (v := .int .i64 y0) rfl hc4 rfl ?_)
      refine stp (r_move_int rfl ?_)
      refine stp (r_build (v := .agg #[.int .i64 y0, .int .i64 0, .int .i64 0, .int .i64 0, .int .u64 ((tat u a).1)]) (fun w => by kernel_rfl) ?_)
      refine stn (r_storeAll rfl rfl hc17 (by rfl) (by rfl) (by rfl) ?_)
      intro w60 hc61 u62
      replace hc10 := u62.heap hc10 ne21
      replace hc4 := u62.heap hc4 ne20
      replace G := G.upd u62 hge19
      clear u62 hc17
      refine stp (r_assign_int rfl ?_)
      refine WL_nil ?_
      refine W_ret ?_
      have h9 : (askT (Nd.mk kind size words bytes kids) steps a) = (⟨y0, 0, 0, 0, (tat u a).1⟩, 0) := by rw [hv, tval, if_neg h3, if_neg h4, hl1]
      refine ret2 (res_all rfl hc61 (by rfl)) (res_tmp (v := .int .u16 0) rfl) ⟨?_, G⟩
      rw [h9] <;> rfl

set_option maxRecDepth 100000 in
theorem dwords_calls (w : World) {t_ : TypeId} {u_ : Value} {s : Src} (H : SrcOk Try.prog w (.iface t_ u_) s) {bd : Nat} {paid : Int} (hb : w.heap[bd]? = some (.cells #[.iface t_ u_, .int .i64 paid] 85 (0, 0))) (seg : Int) {a : Int} (a0 : 0 ≤ a) (a1 : a ≤ 140737488355328) {n : Nat} (hn : n ≤ 10000) : Calls Try.prog 65 #[.pointer (some ⟨bd, 0, none⟩), .int .i64 seg, .int .i64 a, .int .i64 (n : Int)] w (Ret fun v w' => Row (hide w.heap.size w') 1 v n ((wordsS s seg a n).map (.int .u64)) ∧ Grow w w') := by
 have G := Grow.rfl' w
 refine calls_ret Try.func65 Try.ntmps65 Try.results65 rfl rfl ?_
 refine W_seq (W_region rfl ?_)
 refine stp (r_assign_slice rfl ?_)
 refine WL_nil ?_
 refine W_seq (W_region rfl ?_)
 refine stp (r_assign_slice rfl ?_)
 refine WL_nil ?_
 refine W_seq ?_
 refine W_seq (W_region rfl ?_)
 refine stp (r_move_int rfl ?_)
 refine stp (r_move_int rfl ?_)
 refine WL_nil ?_
 refine W_block ?_
 refine W_loop (fun m_ e_ w_ => ∃ (m : Nat) (ad3 : Option Addr) (n3 : Nat) (c3 : Nat), m_ = n - m ∧ Fr [(0, .pointer (some ⟨bd, 0, none⟩)), (1, .int .i64 seg), (2, .int .i64 a), (8, .slice none 0 0), (13, .int .i64 (n : Int)), (9, .slice ad3 n3 c3), (14, .int .i64 (m : Int))] e_ ∧ (m ≤ n) ∧ (w_.heap[bd]? = some (.cells #[.iface t_ u_, .int .i64 paid] 85 (0, 0))) ∧ (w_.ownsRow w.heap.size 55 1 (.slice ad3 n3 c3) m ((wordsS s seg a m).map (.int .u64))) ∧ Grow w w_) _ ⟨0, none, 0, 0, rfl, fr_of ⟨rfl, rfl, rfl, rfl, rfl, rfl, rfl, trivial⟩, by omega, hb, World.ownsRow_nil _ _ _ _, G⟩ ?_
 clear hb
 clear G
 rintro m_ e_ w1 ⟨m, ad3, n3, c3, rfl, ⟨e2, rfl⟩, hm, hb, own, G⟩
 refine W_seq (W_region rfl ?_)
 refine stp (r_lss rfl rfl ?_)
 refine WL_nil ?_
 refine W_seq ?_
 refine W_cond2 (b := (decide ((m : Int) < (n : Int)))) rfl (fun hlt => ?_) (fun hlt => ?_)
 ·-- true
  replace hlt := of_decide_eq_true hlt
  have hnum := H.num seg (a + (m : Int))
  refine W_skip ?_
  refine W_seq ?_
  refine W_block ?_
  refine W_seq (W_region rfl ?_)
  refine stp (r_move_int rfl ?_)
  refine stp (r_assign_int rfl ?_)
  refine WL_nil ?_
  refine W_seq (W_region rfl ?_)
  refine stp (r_move_ptr rfl ?_)
  refine stp (r_nilCheck rfl ?_)
  refine stp (r_fieldAddr rfl ?_)
  refine stp (r_load (v := .iface t_ u_) rfl hb rfl ?_)
  refine stp (r_move_int rfl ?_)
  refine stp (r_move_int rfl ?_)
  refine stp (r_move_int rfl ?_)
  refine stp (r_add rfl rfl ?_ ?_); constructor <;> omega
  refine stp (r_srcWord H G rfl rfl rfl ?_)
  intro w3 g4
  replace hb := g4.heap hb
  replace own := own_grow own g4
  replace G := G.tr g4
  clear g4
  refine stp (r_move (v := .tuple #[.int .u64 ((s.word seg (a + (m : Int))).1), .int .u16 ((s.word seg (a + (m : Int))).2)]) rfl ?_)
  refine stp (r_extract (v := .int .u64 ((s.word seg (a + (m : Int))).1)) rfl rfl ?_)
  refine stp (r_extract (v := .int .u16 ((s.word seg (a + (m : Int))).2)) rfl rfl ?_)
  refine stp (r_assign_int rfl ?_)
  refine stp (r_assign_int rfl ?_)
  refine WL_nil ?_
  refine W_region rfl ?_
  refine stp (r_move_slice rfl ?_)
  refine stp (r_move_int rfl ?_)
  refine stp (r_buildSlice (cs := #[.int .u64 ((s.word seg (a + (m : Int))).1)]) (el := 55) (fun w => by kernel_rfl) ?_)
  intro bs5 w6 hb7 hc8 g9
  have hge10 := Nat.le_trans G.size hb7
  replace hb := g9.heap hb
  replace own := own_grow own g9
  replace G := G.tr g9
  clear g9
  refine stp (r_append rfl rfl rfl rfl own (Row.of_block (n := 1) hc8 rfl rfl (by omega)) (fun q_ hq_ => by simp at hq_; subst hq_; rfl) (by simp only [maxLen]; omega) (by omega) G.size ?_)
  intro v11 w12 own6 gr6
  replace G := G.grown gr6 (own_ge own)
  replace hb := gr_heap gr6 hb (own_ne own hb (by decide))
  clear own gr6
  obtain ⟨ad4, n4, c4, rfl⟩ := own_slice own6
  refine stp (r_assign_slice rfl ?_)
  refine WL_nil ?_
  refine W_region rfl ?_
  refine stp (r_add rfl rfl ?_ ?_); constructor <;> omega
  refine stp (r_move_int rfl ?_)
  refine WL_nil ?_
  refine ⟨_, ?_, m + 1, ad4, n4, c4, rfl, fr_of ⟨rfl, rfl, rfl, rfl, rfl, rfl, congrArg (Value.int .i64) (by omega), trivial⟩, by omega, hb, (by rw [wordsS_succ, List.map_append]; exact own6), G⟩
  omega
 ·-- false
  replace hlt := of_decide_eq_false hlt
  have hm2 : m = n := by omega
  subst hm2
  refine W_exit ?_
  refine W_seq (W_region rfl ?_)
  refine stp (r_move_slice rfl ?_)
  refine stp (r_assign_slice rfl ?_)
  refine WL_nil ?_
  refine W_ret ?_
  refine ret1 (res_tmp (v := .slice ad3 n3 c3) rfl) ⟨own_hide_range own (wordsS_len _ _ _ _) (by omega), G⟩

set_option maxRecDepth 100000 in
theorem put8_calls (w : World) {x : Int} (h0 : 0 ≤ x) (h1 : x ≤ 18446744073709551615) : Calls Try.prog 93 #[.int .u64 x, .int .i64 8] w (Ret fun v w' => Row w' 1 v 8 ((byt8 x).map (.int .u8)) ∧ Grow w w') := by
 have G := Grow.rfl' w
 refine calls_ret Try.func93 Try.ntmps93 Try.results93 rfl rfl ?_
 refine W_seq (W_region rfl ?_)
 refine stp (r_assign_slice rfl ?_)
 refine WL_nil ?_
 refine W_seq (W_region rfl ?_)
 refine stp (r_move_int rfl ?_)
 refine WL_some (og rfl ?_)
 refine r_min rfl rfl rfl ?_
 rw [show (if (8 : Int) < 8 then 8 else 8) = (8 : Int) from rfl]
 refine WL_some (og rfl ?_)
 refine r_max rfl rfl rfl ?_
 rw [show (if (8 : Int) > 0 then 8 else 0) = (8 : Int) from rfl]
 refine stp (r_make (n := 8) (base := w.heap.size) rfl rfl (by first | omega | (simp only [maxLen]; omega)) (by first | omega | (simp only [maxLen]; omega)) G.size ?_)
 intro bm4 w1 hb2 own5 g3
 rw [show (madeCells (Value.cells (.int .u8 0 : Value)) (8 * 1)).toList = List.replicate 8 (.int .u8 0) from by rw [Nat.mul_one]; exact toList_madeCells_one _ _] at own5
 replace G := G.tr g3
 clear g3
 refine stp (r_assign_slice rfl ?_)
 refine WL_nil ?_
 refine W_seq ?_
 refine W_seq (W_region rfl ?_)
 refine stp (r_move_slice rfl ?_)
 refine stp (r_len rfl rfl rfl ?_)
 refine stp (r_move_int rfl ?_)
 refine WL_nil ?_
 refine W_block ?_
 obtain ⟨hge_, cur0, hc0_, hsz0, hcur0⟩ := own_made' own5
 clear own5
 refine W_loop (fun m_ e_ w_ => ∃ (k : Nat) (cur : Array Value), m_ = 8 - k ∧ Fr [(0, .int .u64 x), (4, .slice none 0 0), (5, .slice (some ⟨bm4, 0, none⟩) 8 8), (12, .int .i64 8), (13, .int .i64 (k : Int))] e_ ∧ (k ≤ 8) ∧ (cur.toList = putCells x k) ∧ (w_.heap[bm4]? = some (.cells cur 5 (0, 0))) ∧ Grow w w_) _ ⟨0, cur0, rfl, fr_of ⟨rfl, rfl, rfl, rfl, rfl, trivial⟩, by omega, hcur0, hc0_, G⟩ ?_
 clear G
 rintro m_ e_ w6 ⟨k, cur, rfl, ⟨e7, rfl⟩, hk, hcur, hc_, G⟩
 refine W_seq (W_region rfl ?_)
 refine stp (r_lss rfl rfl ?_)
 refine WL_nil ?_
 refine W_seq ?_
 refine W_cond2 (b := (decide ((k : Int) < 8))) rfl (fun hlt => ?_) (fun hlt => ?_)
 ·-- true
  replace hlt := of_decide_eq_true hlt
  have hszc : cur.size = 8 := by rw [← Array.length_toList, hcur]; exact putCells_len x k (by omega)
  refine W_skip ?_
  refine W_seq ?_
  refine W_block ?_
  refine W_seq (W_region rfl ?_)
  refine stp (r_move_int rfl ?_)
  refine stp (r_assign_int rfl ?_)
  refine WL_nil ?_
  refine W_region rfl ?_
  refine stp (r_move_slice rfl ?_)
  refine stp (r_move_int rfl ?_)
  refine stp (r_move_int rfl ?_)
  refine stp (r_move_int rfl ?_)
  refine stp (r_mul rfl rfl ?_ ?_); constructor <;> omega
  refine stp (r_shr rfl rfl ?_ ?_); omega
  refine WL_some (og rfl ?_)
  refine r_convw rfl ?_
  rw [put_byte x k h0 h1 (by omega)]
  refine WL_some (og rfl ?_)
  refine r_indexAddr rfl rfl (by omega) (by omega) ?_
  rw [show 0 + ((k : Int)).toNat * 1 = k from by omega]
  refine stn (r_store1 (v := .int .u8 (byt1 x k)) rfl rfl (by rfl) hc_ (Nat.ble_eq_true_of_le (by omega)) (by rfl) ?_)
  intro w8 hc9 u10
  replace G := G.upd u10 hge_
  clear u10 hc_
  refine WL_nil ?_
  refine W_region rfl ?_
  refine stp (r_add rfl rfl ?_ ?_); constructor <;> omega
  refine stp (r_move_int rfl ?_)
  refine WL_nil ?_
  refine ⟨_, ?_, k + 1, _, rfl, fr_of ⟨rfl, rfl, rfl, rfl, congrArg (Value.int .i64) (by omega), trivial⟩, by omega, (by simp only [hcur]; exact putCells_set x k (by omega)), hc9, G⟩
  omega
 ·-- false
  replace hlt := of_decide_eq_false hlt
  have hk8 : k = 8 := by omega
  subst hk8
  refine W_exit ?_
  refine W_seq (W_region rfl ?_)
  refine stp (r_move_slice rfl ?_)
  refine stp (r_assign_slice rfl ?_)
  refine WL_nil ?_
  refine W_ret ?_
  refine ret1 (res_tmp (v := .slice (some ⟨bm4, 0, none⟩) 8 8) rfl) ⟨Row.of_block (n := 8) hc_ (by rw [hcur]; exact putCells_all x) (by simp [byt8]) (by omega), G⟩

set_option maxRecDepth 100000 in
theorem dbytes_calls (w : World) {t_ : TypeId} {u_ : Value} {s : Src} (H : SrcOk Try.prog w (.iface t_ u_) s) {bd : Nat} {paid : Int} (hb : w.heap[bd]? = some (.cells #[.iface t_ u_, .int .i64 paid] 85 (0, 0))) (seg : Int) {a : Int} (a0 : 0 ≤ a) (a1 : a ≤ 140737488355328) {n : Nat} (hn : n ≤ 80000) : Calls Try.prog 66 #[.pointer (some ⟨bd, 0, none⟩), .int .i64 seg, .int .i64 a, .int .i64 (n : Int)] w (Ret fun v w' => Row (hide w.heap.size w') 1 v n ((bytesS s seg a n).map (.int .u8)) ∧ Grow w w') := by
 have G := Grow.rfl' w
 refine calls_ret Try.func66 Try.ntmps66 Try.results66 rfl rfl ?_
 refine W_seq (W_region rfl ?_)
 refine stp (r_assign_slice rfl ?_)
 refine WL_nil ?_
 refine W_seq (W_region rfl ?_)
 refine stp (r_assign_slice rfl ?_)
 refine WL_nil ?_
 refine W_seq ?_
 refine W_seq (W_region rfl ?_)
 refine stp (r_move_ptr rfl ?_)
 refine stp (r_move_int rfl ?_)
 refine stp (r_move_int rfl ?_)
 refine stp (r_move_int rfl ?_)
 refine stp (r_gives (v := .int .i64 (((n + 7) / 8 : Nat) : Int)) rfl (gives_eq (ceil_calls _ _ (by omega) (by omega)) (y := .int .i64 (((n + 7) / 8 : Nat) : Int)) (by congr 1 <;> omega)) ?_)
 intro w1 g2
 replace hb := g2.heap hb
 replace G := G.tr g2
 clear g2
 refine WL_some (og rfl ?_)
 refine r_call rfl (dwords_calls _ (H.grow G) hb seg a0 a1 (n := (n + 7) / 8) (by omega)) ?_
 rintro v_ w3 ⟨⟨ad5, c5, rfl, -, -, R5⟩, g_⟩
 have RW := R5.sees (Sees.seen _ _)
 clear R5
 replace hb := g_.heap hb
 replace G := G.tr g_
 clear g_
 have hB5 := G.size
 have G5 := Grow.rfl' w3
 have hB6 : w3.heap.size ≤ w3.heap.size := Nat.le_refl _
 refine stp (r_len rfl rfl rfl ?_)
 refine stp (r_move_int rfl ?_)
 refine WL_nil ?_
 refine W_block ?_
 refine W_loop (fun m_ e_ w_ => ∃ (m : Nat) (ad3 : Option Addr) (n3 : Nat) (c3 : Nat), m_ = (n + 7) / 8 - m ∧ Fr [(3, .int .i64 (n : Int)), (8, .slice none 0 0), (17, .slice ad5 ((n + 7) / 8) c5), (18, .int .i64 (((n + 7) / 8 : Nat) : Int)), (9, .slice ad3 n3 c3), (19, .int .i64 (m : Int))] e_ ∧ (m ≤ (n + 7) / 8) ∧ (w_.heap[bd]? = some (.cells #[.iface t_ u_, .int .i64 paid] 85 (0, 0))) ∧ (Grow w3 w_) ∧ (w_.ownsRow w3.heap.size 5 1 (.slice ad3 n3 c3) (8 * m) ((((wordsS s seg a ((n + 7) / 8)).take m).flatMap byt8).map (.int .u8))) ∧ Grow w w_) _ ⟨0, none, 0, 0, rfl, fr_of ⟨rfl, rfl, rfl, rfl, rfl, rfl, trivial⟩, by omega, hb, G5, World.ownsRow_nil _ _ _ _, G⟩ ?_
 clear hb G5
 clear G
 rintro m_ e_ w4 ⟨m, ad3, n3, c3, rfl, ⟨e5, rfl⟩, hm, hb, G5, own, G⟩
 refine W_seq (W_region rfl ?_)
 refine stp (r_lss rfl rfl ?_)
 refine WL_nil ?_
 refine W_seq ?_
 refine W_cond2 (b := (decide ((m : Int) < (((n + 7) / 8 : Nat) : Int)))) rfl (fun hlt => ?_) (fun hlt => ?_)
 ·-- true
  replace hlt := of_decide_eq_true hlt
  have hm5 : m < (n + 7) / 8 := by omega
  have hml : m < (wordsS s seg a ((n + 7) / 8)).length := by rw [wordsS_len]; exact hm5
  have hr := wordsS_u64 H seg a ((n + 7) / 8) _ (getD_mem hml)
  simp only [inR] at hr
  refine W_skip ?_
  refine W_seq ?_
  refine W_block ?_
  refine W_seq (W_region rfl ?_)
  refine stp (r_indexN (RW.grow G5) rfl rfl ?_ ?_); omega
  refine stp (r_loadR (v := .int .u64 ((wordsS s seg a ((n + 7) / 8)).getD m 0)) (m := 0) (RW.grow G5) rfl (map_get1 0 (by omega)) ?_)
  refine stp (r_assign_int rfl ?_)
  refine WL_nil ?_
  refine W_region rfl ?_
  refine stp (r_move_slice rfl ?_)
  refine stp (r_move_int rfl ?_)
  refine WL_some (og rfl ?_)
  refine r_call rfl (put8_calls _ hr.1 hr.2) ?_
  rintro v8 w6 ⟨R8, g_⟩
  replace hb := g_.heap hb
  replace G5 := G5.tr g_
  replace own := own_grow own g_
  replace G := G.tr g_
  clear g_
  refine stp (r_append rfl rfl rfl rfl own R8 (fun q_ hq_ => by obtain ⟨z_, -, rfl⟩ := List.mem_map.1 hq_; rfl) (by simp only [maxLen]; omega) (by omega) G5.size ?_)
  intro v7 w8 own6 gr6
  clear R8
  replace G := G.grown gr6 (fun k_ hk_ => Nat.le_trans hB5 (own_ge own k_ hk_))
  replace G5 := G5.grown gr6 (own_ge own)
  replace hb := gr_heap gr6 hb (own_ne own hb (by decide))
  clear own gr6
  obtain ⟨ad4, n4, c4, rfl⟩ := own_slice own6
  refine stp (r_assign_slice rfl ?_)
  refine WL_nil ?_
  refine W_region rfl ?_
  refine stp (r_add rfl rfl ?_ ?_); constructor <;> omega
  refine stp (r_move_int rfl ?_)
  refine WL_nil ?_
  refine ⟨_, ?_, m + 1, ad4, n4, c4, rfl, fr_of ⟨rfl, rfl, rfl, rfl, rfl, congrArg (Value.int .i64) (by omega), trivial⟩, by omega, hb, G5, (by rw [Nat.mul_succ, List.take_add_one, List.getElem?_eq_getElem hml, Option.toList_some, List.flatMap_append, List.map_append, List.flatMap_singleton]; rw [getD_at hml] at own6; exact own6), G⟩
  omega
 ·-- false
  replace hlt := of_decide_eq_false hlt
  have hm2 : m = (n + 7) / 8 := by omega
  rw [hm2, List.take_of_length_le (by rw [wordsS_len]; exact Nat.le_refl _)] at own
  have hfl := flat8_len (wordsS s seg a ((n + 7) / 8))
  rw [wordsS_len] at hfl
  have hR9 := (own_hide own (by omega)).sees (Sees.low hB5 _)
  obtain ⟨ad9, c9, hs9, hc9, hc92, R9⟩ := hR9
  simp only [Value.slice.injEq] at hs9
  obtain ⟨rfl, rfl, rfl⟩ := hs9
  refine W_exit ?_
  refine W_seq (W_region rfl ?_)
  refine stp (r_move_slice rfl ?_)
  refine stp (r_move_int rfl ?_)
  refine stp (r_sliceH rfl rfl (by omega) (by omega) ?_)
  refine stp (r_assign_slice rfl ?_)
  refine WL_nil ?_
  refine W_ret ?_
  have R10 := R9.sliceH (m := n) hc9 (by omega) (by decide)
  rw [← List.map_take, show n * 1 = n from Nat.mul_one n] at R10
  refine ret1 (res_tmp (v := .slice (if c3 = 0 then ad3 else ad3.map (·.add (0 * 1))) (((n : Int)).toNat) c3) rfl) ⟨⟨_, _, rfl, by omega, hc92, R10⟩, G⟩
end Go.Proofs.Ytfhfecepcnapfaa.K
namespace Go.Proofs.Ytfhfecepcnapfaa.K
open Go Go.RowKit Go.Proofs
attribute [local irreducible] Run1 OpG WL W AO Gives
set_option maxRecDepth 100000 in
theorem rtstep_calls (w : World) {w0 : World} {y0 y1 : Int} {ya za ua : Option Addr} {yn yc zn zc un uc : Nat} {t : Nd} {kc : List Value} (T : NodeR w0 [.int .i64 y0, .int .i64 y1, .slice ya yn yc, .slice za zn zc, .slice ua un uc] t) (RK : RowAt w0 5 ua un kc) (hK : KidsR w0 kc t.kids) (g0 : Grow w0 w) {k : Int} (k0 : 0 ≤ k) : Gives Try.prog 51 #[.agg #[.int .i64 y0, .int .i64 y1, .slice ya yn yc, .slice za zn zc, .slice ua un uc], .int .i64 k] w (.tuple #[.agg ((stepC kc t k).toArray), .int .i64 ((tstep t k).2)]) := by
 obtain ⟨hl1, hl2, -, -, hl5, -, -, hl8⟩ := T.lens
 have G := Grow.rfl' w
 refine gives_of Try.func51 Try.ntmps51 Try.results51 rfl rfl ?_
 refine W_seq (W_region rfl ?_)
 refine WL_some (og rfl ?_)
 (first | refine r_box_agg rfl ?_ | refine r_box_int rfl ?_ | refine r_box_slice rfl ?_ | refine r_box rfl rfl ?_)
 intro b1 w2 hb3 hc4 g5
 have hge6 := Nat.le_trans G.size hb3
 replace G := G.tr g5
 clear g5 hb3
 refine stp (r_alloc ?_)
 intro b7 w8 hb9 hc10 g11
 refine stp (r_assign_int rfl ?_)
 refine WL_nil ?_
 refine W_seq ?_
 refine W_seq (W_region rfl ?_)
 refine stp (r_fieldAddr rfl ?_)
 have hge12 := Nat.le_trans G.size hb9
 have ne13 := Nat.ne_of_lt (Nat.lt_of_lt_of_le (lt_of_heap hc4) hb9)
 replace hc4 := g11.heap hc4
 replace G := G.tr g11
 clear g11 hb9
 refine stp (r_load (v := .int .i64 y0) rfl hc4 rfl ?_)
 refine stp (r_eql rfl rfl ?_)
 refine stp (r_move_bool rfl ?_)
 refine WL_some (og_if (s := .bool (decide (y0 = 0))) (b := false) (v := .pointer (some ⟨b1, 0, none⟩)) rfl (wgb_f _) (fun hc14 => ?_) ?_)
 ·
  have hc14_ := hc14
  try simp only [Bool.and_eq_true, Bool.or_eq_true, Bool.not_eq_true', Bool.and_eq_false_iff, Bool.or_eq_false_iff, Bool.not_eq_false', decide_eq_true_eq, decide_eq_false_iff_not, Bool.not_true, Bool.not_false, Bool.not_eq_eq_eq_not, Bool.or_false, Bool.and_true, Bool.or_true, Bool.and_false, Bool.false_or, Bool.true_and, Bool.true_or, Bool.false_and, Bool.false_eq_true, Bool.true_eq_false] at hc14_
  refine r_fieldAddr rfl ?_
  exact ⟨rfl, rfl⟩
 refine WL_some (og_if (s := .bool (decide (y0 = 0))) (b := false) (v := .int .i64 y0) rfl (wgb_f _) (fun hc15 => ?_) ?_)
 ·
  have hc15_ := hc15
  try simp only [Bool.and_eq_true, Bool.or_eq_true, Bool.not_eq_true', Bool.and_eq_false_iff, Bool.or_eq_false_iff, Bool.not_eq_false', decide_eq_true_eq, decide_eq_false_iff_not, Bool.not_true, Bool.not_false, Bool.not_eq_eq_eq_not, Bool.or_false, Bool.and_true, Bool.or_true, Bool.and_false, Bool.false_or, Bool.true_and, Bool.true_or, Bool.false_and, Bool.false_eq_true, Bool.true_eq_false] at hc15_
  refine r_load (v := .int .i64 y0) (gvt hc15) hc4 rfl ?_
  exact ⟨rfl, rfl⟩
 refine WL_some (og_if (s := .bool (decide (y0 = 0))) (b := false) (v := .bool (decide (y0 = 1))) rfl (wgb_f _) (fun hc16 => ?_) ?_)
 ·
  have hc16_ := hc16
  try simp only [Bool.and_eq_true, Bool.or_eq_true, Bool.not_eq_true', Bool.and_eq_false_iff, Bool.or_eq_false_iff, Bool.not_eq_false', decide_eq_true_eq, decide_eq_false_iff_not, Bool.not_true, Bool.not_false, Bool.not_eq_eq_eq_not, Bool.or_false, Bool.and_true, Bool.or_true, Bool.and_false, Bool.false_or, Bool.true_and, Bool.true_or, Bool.false_and, Bool.false_eq_true, Bool.true_eq_false] at hc16_
  refine r_eql (gvt hc16) rfl ?_
  exact ⟨rfl, rfl⟩
 refine WL_some (og_if (s := .bool (decide (y0 = 0))) (b := false) (v := .bool (decide (y0 = 1))) rfl (wgb_f _) (fun hc17 => ?_) ?_)
 ·
  have hc17_ := hc17
  try simp only [Bool.and_eq_true, Bool.or_eq_true, Bool.not_eq_true', Bool.and_eq_false_iff, Bool.or_eq_false_iff, Bool.not_eq_false', decide_eq_true_eq, decide_eq_false_iff_not, Bool.not_true, Bool.not_false, Bool.not_eq_eq_eq_not, Bool.or_false, Bool.and_true, Bool.or_true, Bool.and_false, Bool.false_or, Bool.true_and, Bool.true_or, Bool.false_and, Bool.false_eq_true, Bool.true_eq_false] at hc17_
  refine r_move (v := .bool (decide (y0 = 1))) (gvt hc17) ?_
  exact ⟨rfl, rfl⟩
 refine WL_some (og_if (s := gv (!(decide (y0 = 0))) (.bool (decide (y0 = 1)))) (b := true) (v := .int .i64 k) rfl (wgb_gt _ _) (fun hc18 => ?_) ?_)
 ·
  obtain ⟨hc18a, hc18b⟩ := and_t hc18
  have hc18a_ := hc18a
  try simp only [Bool.and_eq_true, Bool.or_eq_true, Bool.not_eq_true', Bool.and_eq_false_iff, Bool.or_eq_false_iff, Bool.not_eq_false', decide_eq_true_eq, decide_eq_false_iff_not, Bool.not_true, Bool.not_false, Bool.not_eq_eq_eq_not, Bool.or_false, Bool.and_true, Bool.or_true, Bool.and_false, Bool.false_or, Bool.true_and, Bool.true_or, Bool.false_and, Bool.false_eq_true, Bool.true_eq_false] at hc18a_
  have hc18b_ := of_decide_eq_true hc18b
  refine r_move_int rfl ?_
  exact ⟨rfl, rfl⟩
 refine WL_some (og_if (s := gv (!(decide (y0 = 0))) (.bool (decide (y0 = 1)))) (b := true) (v := .pointer (some ⟨b1, 4, none⟩)) rfl (wgb_gt _ _) (fun hc19 => ?_) ?_)
 ·
  obtain ⟨hc19a, hc19b⟩ := and_t hc19
  have hc19a_ := hc19a
  try simp only [Bool.and_eq_true, Bool.or_eq_true, Bool.not_eq_true', Bool.and_eq_false_iff, Bool.or_eq_false_iff, Bool.not_eq_false', decide_eq_true_eq, decide_eq_false_iff_not, Bool.not_true, Bool.not_false, Bool.not_eq_eq_eq_not, Bool.or_false, Bool.and_true, Bool.or_true, Bool.and_false, Bool.false_or, Bool.true_and, Bool.true_or, Bool.false_and, Bool.false_eq_true, Bool.true_eq_false] at hc19a_
  have hc19b_ := of_decide_eq_true hc19b
  refine r_fieldAddr rfl ?_
  exact ⟨rfl, rfl⟩
 refine WL_some (og_if (s := gv (!(decide (y0 = 0))) (.bool (decide (y0 = 1)))) (b := true) (v := .slice ua un uc) rfl (wgb_gt _ _) (fun hc20 => ?_) ?_)
 ·
  obtain ⟨hc20a, hc20b⟩ := and_t hc20
  have hc20a_ := hc20a
  try simp only [Bool.and_eq_true, Bool.or_eq_true, Bool.not_eq_true', Bool.and_eq_false_iff, Bool.or_eq_false_iff, Bool.not_eq_false', decide_eq_true_eq, decide_eq_false_iff_not, Bool.not_true, Bool.not_false, Bool.not_eq_eq_eq_not, Bool.or_false, Bool.and_true, Bool.or_true, Bool.and_false, Bool.false_or, Bool.true_and, Bool.true_or, Bool.false_and, Bool.false_eq_true, Bool.true_eq_false] at hc20a_
  have hc20b_ := of_decide_eq_true hc20b
  refine r_load (v := .slice ua un uc) (gvt hc20) hc4 rfl ?_
  exact ⟨rfl, rfl⟩
 refine WL_some (og_if (s := gv (!(decide (y0 = 0))) (.bool (decide (y0 = 1)))) (b := true) (v := .int .i64 (un : Int)) rfl (wgb_gt _ _) (fun hc21 => ?_) ?_)
 ·
  obtain ⟨hc21a, hc21b⟩ := and_t hc21
  have hc21a_ := hc21a
  try simp only [Bool.and_eq_true, Bool.or_eq_true, Bool.not_eq_true', Bool.and_eq_false_iff, Bool.or_eq_false_iff, Bool.not_eq_false', decide_eq_true_eq, decide_eq_false_iff_not, Bool.not_true, Bool.not_false, Bool.not_eq_eq_eq_not, Bool.or_false, Bool.and_true, Bool.or_true, Bool.and_false, Bool.false_or, Bool.true_and, Bool.true_or, Bool.false_and, Bool.false_eq_true, Bool.true_eq_false] at hc21a_
  have hc21b_ := of_decide_eq_true hc21b
  refine r_len rfl rfl (gvt hc21) ?_
  exact ⟨rfl, rfl⟩
 refine WL_some (og_if (s := gv (!(decide (y0 = 0))) (.bool (decide (y0 = 1)))) (b := true) (v := .bool (decide (k ≥ (un : Int)))) rfl (wgb_gt _ _) (fun hc22 => ?_) ?_)
 ·
  obtain ⟨hc22a, hc22b⟩ := and_t hc22
  have hc22a_ := hc22a
  try simp only [Bool.and_eq_true, Bool.or_eq_true, Bool.not_eq_true', Bool.and_eq_false_iff, Bool.or_eq_false_iff, Bool.not_eq_false', decide_eq_true_eq, decide_eq_false_iff_not, Bool.not_true, Bool.not_false, Bool.not_eq_eq_eq_not, Bool.or_false, Bool.and_true, Bool.or_true, Bool.and_false, Bool.false_or, Bool.true_and, Bool.true_or, Bool.false_and, Bool.false_eq_true, Bool.true_eq_false] at hc22a_
  have hc22b_ := of_decide_eq_true hc22b
  refine r_geq (gvt hc22) (gvt hc22) ?_
  exact ⟨rfl, rfl⟩
 refine WL_some (og_if (s := .bool (decide (y0 = 0))) (b := false) (v := .bool ((decide (y0 = 1)) && (decide (k ≥ (un : Int))))) rfl (wgb_f _) (fun hc23 => ?_) ?_)
 ·
  have hc23_ := hc23
  try simp only [Bool.and_eq_true, Bool.or_eq_true, Bool.not_eq_true', Bool.and_eq_false_iff, Bool.or_eq_false_iff, Bool.not_eq_false', decide_eq_true_eq, decide_eq_false_iff_not, Bool.not_true, Bool.not_false, Bool.not_eq_eq_eq_not, Bool.or_false, Bool.and_true, Bool.or_true, Bool.and_false, Bool.false_or, Bool.true_and, Bool.true_or, Bool.false_and, Bool.false_eq_true, Bool.true_eq_false] at hc23_
  refine r_and3 hc23 (gvt hc23) rfl rfl ?_
  exact ⟨rfl, rfl⟩
 refine stp (r_or2 rfl rfl rfl ?_)
 refine WL_nil ?_
 refine W_cond2 (b := ((decide (y0 = 0)) || ((decide (y0 = 1)) && (decide (k ≥ (un : Int)))))) rfl (fun h1 => ?_) (fun h1 => ?_)
 ·-- true
  simp only [Bool.and_eq_true, Bool.or_eq_true, Bool.not_eq_true', Bool.and_eq_false_iff, Bool.or_eq_false_iff, Bool.not_eq_false', decide_eq_true_eq, decide_eq_false_iff_not, Bool.not_true, Bool.not_false, Bool.not_eq_eq_eq_not, Bool.or_false, Bool.and_true, Bool.or_true, Bool.and_false, Bool.false_or, Bool.true_and, Bool.true_or, Bool.false_and, Bool.false_eq_true, Bool.true_eq_false] at h1
  refine W_seq (W_region rfl ?_)
  refine stp (r_build (v := .agg #[.int .i64 0, .int .i64 0, .slice none 0 0, .slice none 0 0, .slice none 0 0]) (fun w => by kernel_rfl) ?_)
  refine stn (r_storeAll rfl rfl hc10 (by rfl) (by rfl) (by rfl) ?_)
  intro w24 hc25 u26
  replace hc4 := u26.heap hc4 ne13
  replace G := G.upd u26 hge12
  clear u26 hc10
  refine stp (r_assign_int rfl ?_)
  refine WL_nil ?_
  refine W_ret ?_
  have hs : stepC kc t k = zeroC := by unfold stepC; rw [hl1, hl2, hl5]; (repeat' split) <;> first | rfl | (exfalso; omega)
  have ht : (tstep t k).2 = 0 := by unfold tstep; rw [hl1, hl2, hl5]; (repeat' split) <;> first | rfl | (exfalso; omega)
  refine ret2 (res_all rfl hc25 (by rfl)) (res_tmp (v := .int .i64 0) rfl) ⟨?_, G⟩
  rw [hs, ht] <;> rfl
 ·-- false
  simp only [Bool.and_eq_true, Bool.or_eq_true, Bool.not_eq_true', Bool.and_eq_false_iff, Bool.or_eq_false_iff, Bool.not_eq_false', decide_eq_true_eq, decide_eq_false_iff_not, Bool.not_true, Bool.not_false, Bool.not_eq_eq_eq_not, Bool.or_false, Bool.and_true, Bool.or_true, Bool.and_false, Bool.false_or, Bool.true_and, Bool.true_or, Bool.false_and, Bool.false_eq_true, Bool.true_eq_false] at h1
  refine W_skip ?_
  refine W_seq ?_
  refine W_seq (W_region rfl ?_)
  refine stp (r_fieldAddr rfl ?_)
  refine stp (r_load (v := .int .i64 y0) rfl hc4 rfl ?_)
  refine stp (r_neq rfl rfl ?_)
  refine stp (r_move_bool rfl ?_)
  refine WL_some (og_if (s := .bool (decide (y0 ≠ 1))) (b := true) (v := .pointer (some ⟨b1, 1, none⟩)) rfl (wgb_t _) (fun hc27 => ?_) ?_)
  ·
   have hc27_ := of_decide_eq_true hc27
   refine r_fieldAddr rfl ?_
   exact ⟨rfl, rfl⟩
  refine WL_some (og_if (s := .bool (decide (y0 ≠ 1))) (b := true) (v := .int .i64 y1) rfl (wgb_t _) (fun hc28 => ?_) ?_)
  ·
   have hc28_ := of_decide_eq_true hc28
   refine r_load (v := .int .i64 y1) (gvt hc28) hc4 rfl ?_
   exact ⟨rfl, rfl⟩
  refine WL_some (og_if (s := .bool (decide (y0 ≠ 1))) (b := true) (v := .bool (decide (y1 ≠ 6))) rfl (wgb_t _) (fun hc29 => ?_) ?_)
  ·
   have hc29_ := of_decide_eq_true hc29
   refine r_neq (gvt hc29) rfl ?_
   exact ⟨rfl, rfl⟩
  refine stp (r_and2 rfl rfl rfl ?_)
  refine WL_nil ?_
  refine W_cond2 (b := ((decide (y0 ≠ 1)) && (decide (y1 ≠ 6)))) rfl (fun h2 => ?_) (fun h2 => ?_)
  ·-- true
   simp only [Bool.and_eq_true, Bool.or_eq_true, Bool.not_eq_true', Bool.and_eq_false_iff, Bool.or_eq_false_iff, Bool.not_eq_false', decide_eq_true_eq, decide_eq_false_iff_not, Bool.not_true, Bool.not_false, Bool.not_eq_eq_eq_not, Bool.or_false, Bool.and_true, Bool.or_true, Bool.and_false, Bool.false_or, Bool.true_and, Bool.true_or, Bool.false_and, Bool.false_eq_true, Bool.true_eq_false] at h2
   refine W_seq (W_region rfl ?_)
   refine stp (r_build (v := .agg #[.int .i64 0, .int .i64 0, .slice none 0 0, .slice none 0 0, .slice none 0 0]) (fun w => by kernel_rfl) ?_)
   refine stn (r_storeAll rfl rfl hc10 (by rfl) (by rfl) (by rfl) ?_)
   intro w30 hc31 u32
   replace hc4 := u32.heap hc4 ne13
   replace G := G.upd u32 hge12
   clear u32 hc10
   refine stp (r_assign_int rfl ?_)
   refine WL_nil ?_
   refine W_ret ?_
   have hs : stepC kc t k = zeroC := by unfold stepC; rw [hl1, hl2, hl5]; (repeat' split) <;> first | rfl | (exfalso; omega)
   have ht : (tstep t k).2 = 23 := by unfold tstep; rw [hl1, hl2, hl5]; (repeat' split) <;> first | rfl | (exfalso; omega)
   refine ret2 (res_all rfl hc31 (by rfl)) (res_tmp (v := .int .i64 23) rfl) ⟨?_, G⟩
   rw [hs, ht] <;> rfl
  ·-- false
   simp only [Bool.and_eq_true, Bool.or_eq_true, Bool.not_eq_true', Bool.and_eq_false_iff, Bool.or_eq_false_iff, Bool.not_eq_false', decide_eq_true_eq, decide_eq_false_iff_not, Bool.not_true, Bool.not_false, Bool.not_eq_eq_eq_not, Bool.or_false, Bool.and_true, Bool.or_true, Bool.and_false, Bool.false_or, Bool.true_and, Bool.true_or, Bool.false_and, Bool.false_eq_true, Bool.true_eq_false] at h2
   refine W_skip ?_
   refine W_seq ?_
   refine W_seq (W_region rfl ?_)
   refine stp (r_move_int rfl ?_)
   refine stp (r_fieldAddr rfl ?_)
   refine stp (r_load (v := .slice ua un uc) rfl hc4 rfl ?_)
   refine stp (r_len rfl rfl rfl ?_)
   refine stp (r_geq rfl rfl ?_)
   refine WL_nil ?_
   refine W_cond2 (b := (decide (k ≥ (un : Int)))) rfl (fun h3 => ?_) (fun h3 => ?_)
   ·-- true
    replace h3 := of_decide_eq_true h3
    refine W_seq (W_region rfl ?_)
    refine stp (r_build (v := .agg #[.int .i64 0, .int .i64 0, .slice none 0 0, .slice none 0 0, .slice none 0 0]) (fun w => by kernel_rfl) ?_)
    refine stn (r_storeAll rfl rfl hc10 (by rfl) (by rfl) (by rfl) ?_)
    intro w33 hc34 u35
    replace hc4 := u35.heap hc4 ne13
    replace G := G.upd u35 hge12
    clear u35 hc10
    refine stp (r_assign_int rfl ?_)
    refine WL_nil ?_
    refine W_ret ?_
    have hs : stepC kc t k = zeroC := by unfold stepC; rw [hl1, hl2, hl5]; (repeat' split) <;> first | rfl | (exfalso; omega)
    have ht : (tstep t k).2 = 20 := by unfold tstep; rw [hl1, hl2, hl5]; (repeat' split) <;> first | rfl | (exfalso; omega)
    refine ret2 (res_all rfl hc34 (by rfl)) (res_tmp (v := .int .i64 20) rfl) ⟨?_, G⟩
    rw [hs, ht] <;> rfl
   ·-- false
    replace h3 := of_decide_eq_false h3
    have hj : k.toNat < t.kids.length := by omega
    have hat := KidsR.at_ k.toNat t.kids[k.toNat] hK (List.getElem?_eq_getElem hj)
    obtain ⟨x0, x1, xa, xn, xc, pa, pn, pc, qa, qn, qc, hx⟩ := hat.cells
    refine W_skip ?_
    refine W_seq (W_region rfl ?_)
    refine stp (r_fieldAddr rfl ?_)
    refine stp (r_load (v := .slice ua un uc) rfl hc4 rfl ?_)
    refine stp (r_move_int rfl ?_)
    refine stp (r_indexR ((RK.grow g0).grow G) rfl rfl ?_ ?_ ?_); omega; omega
    refine stp (r_loadNR ((RK.grow g0).grow G) rfl (by decide) (by rw [RK.len]; omega) hx ?_)
    refine stn (r_storeAll rfl rfl hc10 (by rfl) (by rfl) (by rfl) ?_)
    intro w36 hc37 u38
    replace hc4 := u38.heap hc4 ne13
    replace G := G.upd u38 hge12
    clear u38 hc10
    refine stp (r_assign_int rfl ?_)
    refine WL_nil ?_
    refine W_ret ?_
    have hs : stepC kc t k = [.int .i64 x0, .int .i64 x1, .slice xa xn xc, .slice pa pn pc, .slice qa qn qc] := by unfold stepC; rw [hl1, hl2, hl5]; ((repeat' split) <;> first | exact hx | rfl | (exfalso; omega))
    have ht : (tstep t k).2 = 0 := by unfold tstep; rw [hl1, hl2, hl5]; ((repeat' split) <;> first | exact hx | rfl | (exfalso; omega))
    refine ret2 (res_all rfl hc37 (by rfl)) (res_tmp (v := .int .i64 0) rfl) ⟨?_, G⟩
    rw [hs, ht] <;> rfl

set_option maxRecDepth 100000 in
theorem rtat_calls (w : World) {c : List Value} {t : Nd} (T : NodeR w c t) {k : Int} (k0 : 0 ≤ k) : Gives Try.prog 52 #[.agg c.toArray, .int .i64 k] w (.tuple #[.int .u64 ((tat t k).1), .int .i64 ((tat t k).2)]) := by
 obtain @⟨kind, size, words, bytes, kids, ws, bs, ks, kc, hk, hs, hW, hwr, hB, hbr, hK, hKs⟩ := T
 obtain ⟨aw, cw, rfl, hcw, hcw2, RW⟩ := hW
 obtain ⟨ab, cb, rfl, hcb, hcb2, RB⟩ := hB
 obtain ⟨ak, ck, rfl, hck, hck2, RK⟩ := hK
 have lw := RW.lim
 have lb := RB.lim
 have lk := RK.lim
 simp only [inR] at hk hs
 obtain ⟨k, rfl⟩ : ∃ j : Nat, k = (j : Int) := ⟨k.toNat, by omega⟩
 have hgb := getD_u8 hbr k
 have G := Grow.rfl' w
 refine gives_of Try.func52 Try.ntmps52 Try.results52 rfl rfl ?_
 refine W_seq (W_region rfl ?_)
 refine WL_some (og rfl ?_)
 (first | refine r_box_agg rfl ?_ | refine r_box_int rfl ?_ | refine r_box_slice rfl ?_ | refine r_box rfl rfl ?_)
 intro b1 w2 hb3 hc4 g5
 have hge6 := Nat.le_trans G.size hb3
 replace G := G.tr g5
 clear g5 hb3
 refine stp (r_assign_int rfl ?_)
 refine stp (r_assign_int rfl ?_)
 refine WL_nil ?_
 refine W_seq ?_
 refine W_seq (W_region rfl ?_)
 refine stp (r_fieldAddr rfl ?_)
 refine stp (r_load (v := .int .i64 kind) rfl hc4 rfl ?_)
 refine stp (r_eql rfl rfl ?_)
 refine stp (r_move_bool rfl ?_)
 refine WL_some (og_if (s := .bool (decide (kind = 0))) (b := false) (v := .pointer (some ⟨b1, 0, none⟩)) rfl (wgb_f _) (fun hc7 => ?_) ?_)
 ·
  have hc7_ := hc7
  try simp only [Bool.and_eq_true, Bool.or_eq_true, Bool.not_eq_true', Bool.and_eq_false_iff, Bool.or_eq_false_iff, Bool.not_eq_false', decide_eq_true_eq, decide_eq_false_iff_not, Bool.not_true, Bool.not_false, Bool.not_eq_eq_eq_not, Bool.or_false, Bool.and_true, Bool.or_true, Bool.and_false, Bool.false_or, Bool.true_and, Bool.true_or, Bool.false_and, Bool.false_eq_true, Bool.true_eq_false] at hc7_
  refine r_fieldAddr rfl ?_
  exact ⟨rfl, rfl⟩
 refine WL_some (og_if (s := .bool (decide (kind = 0))) (b := false) (v := .int .i64 kind) rfl (wgb_f _) (fun hc8 => ?_) ?_)
 ·
  have hc8_ := hc8
  try simp only [Bool.and_eq_true, Bool.or_eq_true, Bool.not_eq_true', Bool.and_eq_false_iff, Bool.or_eq_false_iff, Bool.not_eq_false', decide_eq_true_eq, decide_eq_false_iff_not, Bool.not_true, Bool.not_false, Bool.not_eq_eq_eq_not, Bool.or_false, Bool.and_true, Bool.or_true, Bool.and_false, Bool.false_or, Bool.true_and, Bool.true_or, Bool.false_and, Bool.false_eq_true, Bool.true_eq_false] at hc8_
  refine r_load (v := .int .i64 kind) (gvt hc8) hc4 rfl ?_
  exact ⟨rfl, rfl⟩
 refine WL_some (og_if (s := .bool (decide (kind = 0))) (b := false) (v := .bool (decide (kind = 1))) rfl (wgb_f _) (fun hc9 => ?_) ?_)
 ·
  have hc9_ := hc9
  try simp only [Bool.and_eq_true, Bool.or_eq_true, Bool.not_eq_true', Bool.and_eq_false_iff, Bool.or_eq_false_iff, Bool.not_eq_false', decide_eq_true_eq, decide_eq_false_iff_not, Bool.not_true, Bool.not_false, Bool.not_eq_eq_eq_not, Bool.or_false, Bool.and_true, Bool.or_true, Bool.and_false, Bool.false_or, Bool.true_and, Bool.true_or, Bool.false_and, Bool.false_eq_true, Bool.true_eq_false] at hc9_
  refine r_eql (gvt hc9) rfl ?_
  exact ⟨rfl, rfl⟩
 refine WL_some (og_if (s := .bool (decide (kind = 0))) (b := false) (v := .bool (decide (kind = 1))) rfl (wgb_f _) (fun hc10 => ?_) ?_)
 ·
  have hc10_ := hc10
  try simp only [Bool.and_eq_true, Bool.or_eq_true, Bool.not_eq_true', Bool.and_eq_false_iff, Bool.or_eq_false_iff, Bool.not_eq_false', decide_eq_true_eq, decide_eq_false_iff_not, Bool.not_true, Bool.not_false, Bool.not_eq_eq_eq_not, Bool.or_false, Bool.and_true, Bool.or_true, Bool.and_false, Bool.false_or, Bool.true_and, Bool.true_or, Bool.false_and, Bool.false_eq_true, Bool.true_eq_false] at hc10_
  refine r_move (v := .bool (decide (kind = 1))) (gvt hc10) ?_
  exact ⟨rfl, rfl⟩
 refine WL_some (og_if (s := gv (!(decide (kind = 0))) (.bool (decide (kind = 1)))) (b := true) (v := .int .i64 (k : Int)) rfl (wgb_gt _ _) (fun hc11 => ?_) ?_)
 ·
  obtain ⟨hc11a, hc11b⟩ := and_t hc11
  have hc11a_ := hc11a
  try simp only [Bool.and_eq_true, Bool.or_eq_true, Bool.not_eq_true', Bool.and_eq_false_iff, Bool.or_eq_false_iff, Bool.not_eq_false', decide_eq_true_eq, decide_eq_false_iff_not, Bool.not_true, Bool.not_false, Bool.not_eq_eq_eq_not, Bool.or_false, Bool.and_true, Bool.or_true, Bool.and_false, Bool.false_or, Bool.true_and, Bool.true_or, Bool.false_and, Bool.false_eq_true, Bool.true_eq_false] at hc11a_
  have hc11b_ := of_decide_eq_true hc11b
  refine r_move_int rfl ?_
  exact ⟨rfl, rfl⟩
 refine WL_some (og_if (s := gv (!(decide (kind = 0))) (.bool (decide (kind = 1)))) (b := true) (v := .pointer (some ⟨b1, 2, none⟩)) rfl (wgb_gt _ _) (fun hc12 => ?_) ?_)
 ·
  obtain ⟨hc12a, hc12b⟩ := and_t hc12
  have hc12a_ := hc12a
  try simp only [Bool.and_eq_true, Bool.or_eq_true, Bool.not_eq_true', Bool.and_eq_false_iff, Bool.or_eq_false_iff, Bool.not_eq_false', decide_eq_true_eq, decide_eq_false_iff_not, Bool.not_true, Bool.not_false, Bool.not_eq_eq_eq_not, Bool.or_false, Bool.and_true, Bool.or_true, Bool.and_false, Bool.false_or, Bool.true_and, Bool.true_or, Bool.false_and, Bool.false_eq_true, Bool.true_eq_false] at hc12a_
  have hc12b_ := of_decide_eq_true hc12b
  refine r_fieldAddr rfl ?_
  exact ⟨rfl, rfl⟩
 refine WL_some (og_if (s := gv (!(decide (kind = 0))) (.bool (decide (kind = 1)))) (b := true) (v := .slice aw words.length cw) rfl (wgb_gt _ _) (fun hc13 => ?_) ?_)
 ·
  obtain ⟨hc13a, hc13b⟩ := and_t hc13
  have hc13a_ := hc13a
  try simp only [Bool.and_eq_true, Bool.or_eq_true, Bool.not_eq_true', Bool.and_eq_false_iff, Bool.or_eq_false_iff, Bool.not_eq_false', decide_eq_true_eq, decide_eq_false_iff_not, Bool.not_true, Bool.not_false, Bool.not_eq_eq_eq_not, Bool.or_false, Bool.and_true, Bool.or_true, Bool.and_false, Bool.false_or, Bool.true_and, Bool.true_or, Bool.false_and, Bool.false_eq_true, Bool.true_eq_false] at hc13a_
  have hc13b_ := of_decide_eq_true hc13b
  refine r_load (v := .slice aw words.length cw) (gvt hc13) hc4 rfl ?_
  exact ⟨rfl, rfl⟩
 refine WL_some (og_if (s := gv (!(decide (kind = 0))) (.bool (decide (kind = 1)))) (b := true) (v := .int .i64 (words.length : Int)) rfl (wgb_gt _ _) (fun hc14 => ?_) ?_)
 ·
  obtain ⟨hc14a, hc14b⟩ := and_t hc14
  have hc14a_ := hc14a
  try simp only [Bool.and_eq_true, Bool.or_eq_true, Bool.not_eq_true', Bool.and_eq_false_iff, Bool.or_eq_false_iff, Bool.not_eq_false', decide_eq_true_eq, decide_eq_false_iff_not, Bool.not_true, Bool.not_false, Bool.not_eq_eq_eq_not, Bool.or_false, Bool.and_true, Bool.or_true, Bool.and_false, Bool.false_or, Bool.true_and, Bool.true_or, Bool.false_and, Bool.false_eq_true, Bool.true_eq_false] at hc14a_
  have hc14b_ := of_decide_eq_true hc14b
  refine r_len rfl rfl (gvt hc14) ?_
  exact ⟨rfl, rfl⟩
 refine WL_some (og_if (s := gv (!(decide (kind = 0))) (.bool (decide (kind = 1)))) (b := true) (v := .bool (decide ((k : Int) ≥ (words.length : Int)))) rfl (wgb_gt _ _) (fun hc15 => ?_) ?_)
 ·
  obtain ⟨hc15a, hc15b⟩ := and_t hc15
  have hc15a_ := hc15a
  try simp only [Bool.and_eq_true, Bool.or_eq_true, Bool.not_eq_true', Bool.and_eq_false_iff, Bool.or_eq_false_iff, Bool.not_eq_false', decide_eq_true_eq, decide_eq_false_iff_not, Bool.not_true, Bool.not_false, Bool.not_eq_eq_eq_not, Bool.or_false, Bool.and_true, Bool.or_true, Bool.and_false, Bool.false_or, Bool.true_and, Bool.true_or, Bool.false_and, Bool.false_eq_true, Bool.true_eq_false] at hc15a_
  have hc15b_ := of_decide_eq_true hc15b
  refine r_geq (gvt hc15) (gvt hc15) ?_
  exact ⟨rfl, rfl⟩
 refine WL_some (og_if (s := .bool (decide (kind = 0))) (b := false) (v := .bool ((decide (kind = 1)) && (decide ((k : Int) ≥ (words.length : Int))))) rfl (wgb_f _) (fun hc16 => ?_) ?_)
 ·
  have hc16_ := hc16
  try simp only [Bool.and_eq_true, Bool.or_eq_true, Bool.not_eq_true', Bool.and_eq_false_iff, Bool.or_eq_false_iff, Bool.not_eq_false', decide_eq_true_eq, decide_eq_false_iff_not, Bool.not_true, Bool.not_false, Bool.not_eq_eq_eq_not, Bool.or_false, Bool.and_true, Bool.or_true, Bool.and_false, Bool.false_or, Bool.true_and, Bool.true_or, Bool.false_and, Bool.false_eq_true, Bool.true_eq_false] at hc16_
  refine r_and3 hc16 (gvt hc16) rfl rfl ?_
  exact ⟨rfl, rfl⟩
 refine stp (r_or2 rfl rfl rfl ?_)
 refine WL_nil ?_
 refine W_cond2 (b := ((decide (kind = 0)) || ((decide (kind = 1)) && (decide ((k : Int) ≥ (words.length : Int)))))) rfl (fun h1 => ?_) (fun h1 => ?_)
 ·-- true
  simp only [Bool.and_eq_true, Bool.or_eq_true, Bool.not_eq_true', Bool.and_eq_false_iff, Bool.or_eq_false_iff, Bool.not_eq_false', decide_eq_true_eq, decide_eq_false_iff_not, Bool.not_true, Bool.not_false, Bool.not_eq_eq_eq_not, Bool.or_false, Bool.and_true, Bool.or_true, Bool.and_false, Bool.false_or, Bool.true_and, Bool.true_or, Bool.false_and, Bool.false_eq_true, Bool.true_eq_false] at h1
  refine W_seq (W_region rfl ?_)
  refine stp (r_assign_int rfl ?_)
  refine stp (r_assign_int rfl ?_)
  refine WL_nil ?_
  refine W_ret ?_
  have h9 : tat (Nd.mk kind size words bytes kids) (k : Int) = (0, 0) := by rw [tat_mk]; (repeat' split) <;> first | rfl | (exfalso; omega) | (exfalso; simp_all; done) | (exfalso; simp_all; omega)
  refine ret2 (res_tmp (v := .int .u64 0) rfl) (res_tmp (v := .int .i64 0) rfl) ⟨?_, G⟩
  rw [h9]
 ·-- false
  simp only [Bool.and_eq_true, Bool.or_eq_true, Bool.not_eq_true', Bool.and_eq_false_iff, Bool.or_eq_false_iff, Bool.not_eq_false', decide_eq_true_eq, decide_eq_false_iff_not, Bool.not_true, Bool.not_false, Bool.not_eq_eq_eq_not, Bool.or_false, Bool.and_true, Bool.or_true, Bool.and_false, Bool.false_or, Bool.true_and, Bool.true_or, Bool.false_and, Bool.false_eq_true, Bool.true_eq_false] at h1
  refine W_skip ?_
  refine W_seq ?_
  refine W_seq (W_region rfl ?_)
  refine stp (r_fieldAddr rfl ?_)
  refine stp (r_load (v := .int .i64 kind) rfl hc4 rfl ?_)
  refine stp (r_neq rfl rfl ?_)
  refine stp (r_move_bool rfl ?_)
  refine WL_some (og_if (s := .bool (decide (kind ≠ 1))) (b := true) (v := .pointer (some ⟨b1, 1, none⟩)) rfl (wgb_t _) (fun hc17 => ?_) ?_)
  ·
   have hc17_ := of_decide_eq_true hc17
   refine r_fieldAddr rfl ?_
   exact ⟨rfl, rfl⟩
  refine WL_some (og_if (s := .bool (decide (kind ≠ 1))) (b := true) (v := .int .i64 size) rfl (wgb_t _) (fun hc18 => ?_) ?_)
  ·
   have hc18_ := of_decide_eq_true hc18
   refine r_load (v := .int .i64 size) (gvt hc18) hc4 rfl ?_
   exact ⟨rfl, rfl⟩
  refine WL_some (og_if (s := .bool (decide (kind ≠ 1))) (b := true) (v := .bool (decide (size = 6))) rfl (wgb_t _) (fun hc19 => ?_) ?_)
  ·
   have hc19_ := of_decide_eq_true hc19
   refine r_eql (gvt hc19) rfl ?_
   exact ⟨rfl, rfl⟩
  refine stp (r_and2 rfl rfl rfl ?_)
  refine WL_nil ?_
  refine W_cond2 (b := ((decide (kind ≠ 1)) && (decide (size = 6)))) rfl (fun h2 => ?_) (fun h2 => ?_)
  ·-- true
   simp only [Bool.and_eq_true, Bool.or_eq_true, Bool.not_eq_true', Bool.and_eq_false_iff, Bool.or_eq_false_iff, Bool.not_eq_false', decide_eq_true_eq, decide_eq_false_iff_not, Bool.not_true, Bool.not_false, Bool.not_eq_eq_eq_not, Bool.or_false, Bool.and_true, Bool.or_true, Bool.and_false, Bool.false_or, Bool.true_and, Bool.true_or, Bool.false_and, Bool.false_eq_true, Bool.true_eq_false] at h2
   refine W_seq (W_region rfl ?_)
   refine stp (r_assign_int rfl ?_)
   refine stp (r_assign_int rfl ?_)
   refine WL_nil ?_
   refine W_ret ?_
   have h9 : tat (Nd.mk kind size words bytes kids) (k : Int) = (0, 23) := by rw [tat_mk]; (repeat' split) <;> first | rfl | (exfalso; omega) | (exfalso; simp_all; done) | (exfalso; simp_all; omega)
   refine ret2 (res_tmp (v := .int .u64 0) rfl) (res_tmp (v := .int .i64 23) rfl) ⟨?_, G⟩
   rw [h9]
  ·-- false
   simp only [Bool.and_eq_true, Bool.or_eq_true, Bool.not_eq_true', Bool.and_eq_false_iff, Bool.or_eq_false_iff, Bool.not_eq_false', decide_eq_true_eq, decide_eq_false_iff_not, Bool.not_true, Bool.not_false, Bool.not_eq_eq_eq_not, Bool.or_false, Bool.and_true, Bool.or_true, Bool.and_false, Bool.false_or, Bool.true_and, Bool.true_or, Bool.false_and, Bool.false_eq_true, Bool.true_eq_false] at h2
   refine W_skip ?_
   refine W_seq ?_
   refine W_seq (W_region rfl ?_)
   refine stp (r_move_int rfl ?_)
   refine stp (r_fieldAddr rfl ?_)
   refine stp (r_load (v := .slice aw words.length cw) rfl hc4 rfl ?_)
   refine stp (r_len rfl rfl rfl ?_)
   refine stp (r_lss rfl rfl ?_)
   refine WL_nil ?_
   refine W_cond2 (b := (decide ((k : Int) < (words.length : Int)))) rfl (fun h3 => ?_) (fun h3 => ?_)
   ·-- true
    replace h3 := of_decide_eq_true h3
    refine W_seq (W_region rfl ?_)
    refine stp (r_fieldAddr rfl ?_)
    refine stp (r_load (v := .slice aw words.length cw) rfl hc4 rfl ?_)
    refine stp (r_move_int rfl ?_)
    refine stp (r_indexN (RW.grow G) rfl rfl ?_ ?_); omega
    refine stp (r_loadR (v := .int .u64 (words.getD k 0)) (m := 0) (RW.grow G) rfl (map_get1 0 (by omega)) ?_)
    refine stp (r_assign_int rfl ?_)
    refine stp (r_assign_int rfl ?_)
    refine WL_nil ?_
    refine W_ret ?_
    have h9 : tat (Nd.mk kind size words bytes kids) (k : Int) = (words.getD k 0, 0) := by rw [tat_mk]; (repeat' split) <;> first | rfl | (exfalso; omega) | (exfalso; simp_all; done) | (exfalso; simp_all; omega)
    refine ret2 (res_tmp (v := .int .u64 (words.getD k 0)) rfl) (res_tmp (v := .int .i64 0) rfl) ⟨?_, G⟩
    rw [h9]
   ·-- false
    replace h3 := of_decide_eq_false h3
    refine W_skip ?_
    refine W_seq ?_
    refine W_seq (W_region rfl ?_)
    refine stp (r_fieldAddr rfl ?_)
    refine stp (r_load (v := .int .i64 kind) rfl hc4 rfl ?_)
    refine stp (r_neq rfl rfl ?_)
    refine stp (r_move_bool rfl ?_)
    refine WL_some (og_if (s := .bool (decide (kind ≠ 1))) (b := true) (v := .pointer (some ⟨b1, 1, none⟩)) rfl (wgb_t _) (fun hc20 => ?_) ?_)
    ·
     have hc20_ := of_decide_eq_true hc20
     refine r_fieldAddr rfl ?_
     exact ⟨rfl, rfl⟩
    refine WL_some (og_if (s := .bool (decide (kind ≠ 1))) (b := true) (v := .int .i64 size) rfl (wgb_t _) (fun hc21 => ?_) ?_)
    ·
     have hc21_ := of_decide_eq_true hc21
     refine r_load (v := .int .i64 size) (gvt hc21) hc4 rfl ?_
     exact ⟨rfl, rfl⟩
    refine WL_some (og_if (s := .bool (decide (kind ≠ 1))) (b := true) (v := .bool (decide (size = 2))) rfl (wgb_t _) (fun hc22 => ?_) ?_)
    ·
     have hc22_ := of_decide_eq_true hc22
     refine r_eql (gvt hc22) rfl ?_
     exact ⟨rfl, rfl⟩
    refine stp (r_and2 rfl rfl rfl ?_)
    refine stp (r_move_bool rfl ?_)
    refine WL_some (og_if (s := .bool ((decide (kind ≠ 1)) && (decide (size = 2)))) (b := true) (v := .int .i64 (k : Int)) rfl (wgb_t _) (fun hc23 => ?_) ?_)
    ·
     obtain ⟨hc23a, hc23b⟩ := and_t hc23
     have hc23a_ := of_decide_eq_true hc23a
     have hc23b_ := of_decide_eq_true hc23b
     refine r_move_int rfl ?_
     exact ⟨rfl, rfl⟩
    refine WL_some (og_if (s := .bool ((decide (kind ≠ 1)) && (decide (size = 2)))) (b := true) (v := .pointer (some ⟨b1, 3, none⟩)) rfl (wgb_t _) (fun hc24 => ?_) ?_)
    ·
     obtain ⟨hc24a, hc24b⟩ := and_t hc24
     have hc24a_ := of_decide_eq_true hc24a
     have hc24b_ := of_decide_eq_true hc24b
     refine r_fieldAddr rfl ?_
     exact ⟨rfl, rfl⟩
    refine WL_some (og_if (s := .bool ((decide (kind ≠ 1)) && (decide (size = 2)))) (b := true) (v := .slice ab bytes.length cb) rfl (wgb_t _) (fun hc25 => ?_) ?_)
    ·
     obtain ⟨hc25a, hc25b⟩ := and_t hc25
     have hc25a_ := of_decide_eq_true hc25a
     have hc25b_ := of_decide_eq_true hc25b
     refine r_load (v := .slice ab bytes.length cb) (gvt hc25) hc4 rfl ?_
     exact ⟨rfl, rfl⟩
    refine WL_some (og_if (s := .bool ((decide (kind ≠ 1)) && (decide (size = 2)))) (b := true) (v := .int .i64 (bytes.length : Int)) rfl (wgb_t _) (fun hc26 => ?_) ?_)
    ·
     obtain ⟨hc26a, hc26b⟩ := and_t hc26
     have hc26a_ := of_decide_eq_true hc26a
     have hc26b_ := of_decide_eq_true hc26b
     refine r_len rfl rfl (gvt hc26) ?_
     exact ⟨rfl, rfl⟩
    refine WL_some (og_if (s := .bool ((decide (kind ≠ 1)) && (decide (size = 2)))) (b := true) (v := .bool (decide ((k : Int) < (bytes.length : Int)))) rfl (wgb_t _) (fun hc27 => ?_) ?_)
    ·
     obtain ⟨hc27a, hc27b⟩ := and_t hc27
     have hc27a_ := of_decide_eq_true hc27a
     have hc27b_ := of_decide_eq_true hc27b
     refine r_lss (gvt hc27) (gvt hc27) ?_
     exact ⟨rfl, rfl⟩
    refine stp (r_and2 rfl rfl rfl ?_)
    refine WL_nil ?_
    refine W_cond2 (b := (((decide (kind ≠ 1)) && (decide (size = 2))) && (decide ((k : Int) < (bytes.length : Int))))) rfl (fun h4 => ?_) (fun h4 => ?_)
    ·-- true
     simp only [Bool.and_eq_true, Bool.or_eq_true, Bool.not_eq_true', Bool.and_eq_false_iff, Bool.or_eq_false_iff, Bool.not_eq_false', decide_eq_true_eq, decide_eq_false_iff_not, Bool.not_true, Bool.not_false, Bool.not_eq_eq_eq_not, Bool.or_false, Bool.and_true, Bool.or_true, Bool.and_false, Bool.false_or, Bool.true_and, Bool.true_or, Bool.false_and, Bool.false_eq_true, Bool.true_eq_false] at h4
     refine W_seq (W_region rfl ?_)
     refine stp (r_fieldAddr rfl ?_)
     refine stp (r_load (v := .slice ab bytes.length cb) rfl hc4 rfl ?_)
     refine stp (r_move_int rfl ?_)
     refine stp (r_indexN (RB.grow G) rfl rfl ?_ ?_); omega
     refine stp (r_loadR (v := .int .u8 (bytes.getD k 0)) (m := 0) (RB.grow G) rfl (map_get1 0 (by omega)) ?_)
     refine stp (r_conv rfl ?_ ?_); constructor <;> omega
     refine stp (r_assign_int rfl ?_)
     refine stp (r_assign_int rfl ?_)
     refine WL_nil ?_
     refine W_ret ?_
     have h9 : tat (Nd.mk kind size words bytes kids) (k : Int) = (bytes.getD k 0, 0) := by rw [tat_mk]; (repeat' split) <;> first | rfl | (exfalso; omega) | (exfalso; simp_all; done) | (exfalso; simp_all; omega)
     refine ret2 (res_tmp (v := .int .u64 (bytes.getD k 0)) rfl) (res_tmp (v := .int .i64 0) rfl) ⟨?_, G⟩
     rw [h9]
    ·-- false
     simp only [Bool.and_eq_true, Bool.or_eq_true, Bool.not_eq_true', Bool.and_eq_false_iff, Bool.or_eq_false_iff, Bool.not_eq_false', decide_eq_true_eq, decide_eq_false_iff_not, Bool.not_true, Bool.not_false, Bool.not_eq_eq_eq_not, Bool.or_false, Bool.and_true, Bool.or_true, Bool.and_false, Bool.false_or, Bool.true_and, Bool.true_or, Bool.false_and, Bool.false_eq_true, Bool.true_eq_false] at h4
     refine W_skip ?_
     refine W_seq (W_region rfl ?_)
     refine stp (r_assign_int rfl ?_)
     refine stp (r_assign_int rfl ?_)
     refine WL_nil ?_
     refine W_ret ?_
     have h9 : tat (Nd.mk kind size words bytes kids) (k : Int) = (0, 20) := by rw [tat_mk]; (repeat' split) <;> first | rfl | (exfalso; omega) | (exfalso; simp_all; done) | (exfalso; simp_all; omega)
     refine ret2 (res_tmp (v := .int .u64 0) rfl) (res_tmp (v := .int .i64 20) rfl) ⟨?_, G⟩
     rw [h9]

set_option maxRecDepth 100000 in
theorem rask_calls (w : World) {c : List Value} {t : Nd} (T : NodeR w c t) {ad : Option Addr} {c2 : Nat} {steps : List Int} {a : Int} (R : RowAt w 1 ad steps.length (steps.map (.int .i64))) (ha : inR .i64 a) : Gives Try.prog 31 #[.agg c.toArray, .agg #[.slice ad steps.length c2, .int .i64 a]] w (.tuple #[.agg #[.int .i64 ((askT t steps a).1.kind), .int .i64 ((askT t steps a).1.size), .int .i64 ((askT t steps a).1.words), .int .i64 ((askT t steps a).1.kids), .int .u64 ((askT t steps a).1.word)], .int .i64 ((askT t steps a).2)]) := by
 have T0 := T
 have ll := R.lim
 simp only [inR] at ha
 obtain @⟨kind, size, words, bytes, kids, ws, bs, ks, kc, hk, hs, hW, hwr, hB, hbr, hK, hKs⟩ := T
 obtain ⟨aw, cw, rfl, hcw, hcw2, RW⟩ := hW
 obtain ⟨ab, cb, rfl, hcb, hcb2, RB⟩ := hB
 obtain ⟨ak, ck, rfl, hck, hck2, RK⟩ := hK
 have lw := RW.lim
 have lb := RB.lim
 have lk := RK.lim
 simp only [inR] at hk hs
 have G := Grow.rfl' w
 refine gives_of Try.func31 Try.ntmps31 Try.results31 rfl rfl ?_
 refine W_seq (W_region rfl ?_)
 refine WL_some (og rfl ?_)
 (first | refine r_box_agg rfl ?_ | refine r_box_int rfl ?_ | refine r_box_slice rfl ?_ | refine r_box rfl rfl ?_)
 intro b1 w2 hb3 hc4 g5
 have hge6 := Nat.le_trans G.size hb3
 replace G := G.tr g5
 clear g5 hb3
 refine WL_some (og rfl ?_)
 (first | refine r_box_agg rfl ?_ | refine r_box_int rfl ?_ | refine r_box_slice rfl ?_ | refine r_box rfl rfl ?_)
 intro b7 w8 hb9 hc10 g11
 have hge12 := Nat.le_trans G.size hb9
 have ne13 := Nat.ne_of_lt (Nat.lt_of_lt_of_le (lt_of_heap hc4) hb9)
 replace hc4 := g11.heap hc4
 replace G := G.tr g11
 clear g11 hb9
 refine stp (r_alloc ?_)
 intro b14 w15 hb16 hc17 g18
 refine stp (r_assign_int rfl ?_)
 refine WL_nil ?_
 refine W_seq ?_
 refine W_seq (W_region rfl ?_)
 refine stp (r_assign_int rfl ?_)
 refine WL_nil ?_
 refine W_block ?_
 have hge19 := Nat.le_trans G.size hb16
 have ne20 := Nat.ne_of_lt (Nat.lt_of_lt_of_le (lt_of_heap hc4) hb16)
 have ne21 := Nat.ne_of_lt (Nat.lt_of_lt_of_le (lt_of_heap hc10) hb16)
 replace hc4 := g18.heap hc4
 replace hc10 := g18.heap hc10
 replace G := G.tr g18
 clear g18 hb16
 refine W_loop (fun m_ e_ w_ => ∃ (k : Nat), m_ = steps.length - k ∧ Fr [(2, .pointer (some ⟨b1, 0, none⟩)), (3, .pointer (some ⟨b7, 0, none⟩)), (4, .pointer (some ⟨b14, 0, none⟩)), (6, .int .i64 (k : Int))] e_ ∧ (k ≤ steps.length) ∧ (∀ j, j < k → 0 ≤ steps.getD j 0) ∧ (w_.heap[b1]? = some (.cells #[.int .i64 kind, .int .i64 size, .slice aw words.length cw, .slice ab bytes.length cb, .slice ak kids.length ck] 37 (0, 0))) ∧ (w_.heap[b7]? = some (.cells #[.slice ad steps.length c2, .int .i64 a] 33 (0, 0))) ∧ (w_.heap[b14]? = some (.cells #[.int .i64 0, .int .i64 0, .int .i64 0, .int .i64 0, .int .u64 0] 57 (0, 0))) ∧ Grow w w_) _ ⟨0, rfl, fr_of ⟨rfl, rfl, rfl, rfl, trivial⟩, by omega, fun j hj => by omega, hc4, hc10, hc17, G⟩ ?_
 clear hc4 hc10 hc17
 clear G
 rintro m_ e_ w22 ⟨k, rfl, ⟨e23, rfl⟩, hk2, hnn, hc4, hc10, hc17, G⟩
 refine W_seq ?_
 refine W_seq (W_region rfl ?_)
 refine stp (r_move_int rfl ?_)
 refine stp (r_fieldAddr rfl ?_)
 refine stp (r_load (v := .slice ad steps.length c2) rfl hc10 rfl ?_)
 refine stp (r_len rfl rfl rfl ?_)
 refine stp (r_lss rfl rfl ?_)
 refine WL_nil ?_
 refine W_cond2 (b := (decide ((k : Int) < (steps.length : Int)))) rfl (fun hlt1 => ?_) (fun hlt1 => ?_)
 ·-- true
  replace hlt1 := of_decide_eq_true hlt1
  have hi : k < steps.length := by omega
  refine W_skip ?_
  refine W_seq ?_
  refine W_block ?_
  refine W_seq (W_region rfl ?_)
  refine stp (r_fieldAddr rfl ?_)
  refine stp (r_load (v := .slice ad steps.length c2) rfl hc10 rfl ?_)
  refine stp (r_move_int rfl ?_)
  refine stp (r_indexN (R.grow G) rfl rfl ?_ ?_); omega
  refine stp (r_loadR (v := .int .i64 (steps.getD k 0)) (m := 0) (R.grow G) rfl (map_get1 0 (by omega)) ?_)
  refine stp (r_lss rfl rfl ?_)
  refine WL_nil ?_
  refine W_cond2 (b := (decide ((steps.getD k 0) < 0))) rfl (fun h2 => ?_) (fun h2 => ?_)
  ·-- true
   replace h2 := of_decide_eq_true h2
   refine W_seq (W_region rfl ?_)
   refine stp (r_build (v := .agg #[.int .i64 0, .int .i64 0, .int .i64 0, .int .i64 0, .int .u64 0]) (fun w => by kernel_rfl) ?_)
   refine stn (r_storeAll rfl rfl hc17 (by rfl) (by rfl) (by rfl) ?_)
   intro w24 hc25 u26
   replace hc4 := u26.heap hc4 ne20
   replace hc10 := u26.heap hc10 ne21
   replace G := G.upd u26 hge19
   clear u26 hc17
   refine stp (r_assign_int rfl ?_)
   refine WL_nil ?_
   refine W_ret ?_
   have h9 : (askT (Nd.mk kind size words bytes kids) steps a) = (Vl0, 1) := by unfold askT; rw [if_pos ⟨_, getD_mem hi, h2⟩]
   refine ret2 (res_all rfl hc25 (by rfl)) (res_tmp (v := .int .i64 1) rfl) ⟨?_, G⟩
   rw [h9] <;> rfl
  ·-- false
   replace h2 := of_decide_eq_false h2
   refine W_skip ?_
   refine W_region rfl ?_
   refine stp (r_move_int rfl ?_)
   refine stp (r_add rfl rfl ?_ ?_); constructor <;> omega
   refine stp (r_assign_int rfl ?_)
   refine WL_nil ?_
   refine ⟨_, ?_, k + 1, rfl, fr_of ⟨rfl, rfl, rfl, rfl, trivial⟩, by omega, fun j hj => by rcases Nat.lt_succ_iff_lt_or_eq.1 hj with h_ | h_; exact hnn j h_; subst h_; omega, hc4, hc10, hc17, G⟩
   omega
 ·-- false
  replace hlt1 := of_decide_eq_false hlt1
  replace hnn : ∀ j, j < steps.length → 0 ≤ steps.getD j 0 := fun j hj => hnn j (by omega)
  have hno : ¬ ∃ k ∈ steps, k < 0 := fun ⟨x_, hx_, hlt_⟩ => by obtain ⟨j_, hj_, he_⟩ := List.getElem_of_mem hx_; have := hnn j_ hj_; rw [getD_at hj_] at this; omega
  refine W_exit ?_
  refine W_seq ?_
  refine W_seq (W_region rfl ?_)
  refine stp (r_fieldAddr rfl ?_)
  refine stp (r_load (v := .slice ad steps.length c2) rfl hc10 rfl ?_)
  refine stp (r_len rfl rfl rfl ?_)
  refine stp (r_gtr rfl rfl ?_)
  refine WL_nil ?_
  refine W_cond2 (b := (decide ((steps.length : Int) > 32))) rfl (fun h3 => ?_) (fun h3 => ?_)
  ·-- true
   replace h3 := of_decide_eq_true h3
   refine W_seq (W_region rfl ?_)
   refine stp (r_build (v := .agg #[.int .i64 0, .int .i64 0, .int .i64 0, .int .i64 0, .int .u64 0]) (fun w => by kernel_rfl) ?_)
   refine stn (r_storeAll rfl rfl hc17 (by rfl) (by rfl) (by rfl) ?_)
   intro w27 hc28 u29
   replace hc4 := u29.heap hc4 ne20
   replace hc10 := u29.heap hc10 ne21
   replace G := G.upd u29 hge19
   clear u29 hc17
   refine stp (r_assign_int rfl ?_)
   refine WL_nil ?_
   refine W_ret ?_
   have h9 : (askT (Nd.mk kind size words bytes kids) steps a) = (Vl0, 3) := by unfold askT; rw [if_neg hno, if_pos h3]
   refine ret2 (res_all rfl hc28 (by rfl)) (res_tmp (v := .int .i64 3) rfl) ⟨?_, G⟩
   rw [h9] <;> rfl
  ·-- false
   replace h3 := of_decide_eq_false h3
   refine W_skip ?_
   refine W_seq ?_
   refine W_seq (W_region rfl ?_)
   refine stp (r_assign_int rfl ?_)
   refine WL_nil ?_
   refine W_block ?_
   refine W_loop (fun m_ e_ w_ => ∃ (k : Nat) (y0 : Int) (y1 : Int) (ya : Option Addr) (yn : Nat) (yc : Nat) (za : Option Addr) (zn : Nat) (zc : Nat) (ua : Option Addr) (un : Nat) (uc : Nat) (u : Nd), m_ = steps.length - k ∧ Fr [(2, .pointer (some ⟨b1, 0, none⟩)), (3, .pointer (some ⟨b7, 0, none⟩)), (4, .pointer (some ⟨b14, 0, none⟩)), (7, .int .i64 (k : Int))] e_ ∧ (k ≤ steps.length) ∧ (NodeR w [.int .i64 y0, .int .i64 y1, .slice ya yn yc, .slice za zn zc, .slice ua un uc] u) ∧ (tgo steps (Nd.mk kind size words bytes kids) = tgo (steps.drop k) u) ∧ (w_.heap[b7]? = some (.cells #[.slice ad steps.length c2, .int .i64 a] 33 (0, 0))) ∧ (w_.heap[b14]? = some (.cells #[.int .i64 0, .int .i64 0, .int .i64 0, .int .i64 0, .int .u64 0] 57 (0, 0))) ∧ (w_.heap[b1]? = some (.cells #[.int .i64 y0, .int .i64 y1, .slice ya yn yc, .slice za zn zc, .slice ua un uc] 37 (0, 0))) ∧ Grow w w_) _ ⟨0, kind, size, aw, words.length, cw, ab, bytes.length, cb, ak, kids.length, ck, (Nd.mk kind size words bytes kids), rfl, fr_of ⟨rfl, rfl, rfl, rfl, trivial⟩, by omega, T0, rfl, hc10, hc17, hc4, G⟩ ?_
   clear hc4 hc10 hc17
   clear G
   rintro m_ e_ w30 ⟨k, y0, y1, ya, yn, yc, za, zn, zc, ua, un, uc, u, rfl, ⟨e31, rfl⟩, hk2, hT, hw, hc10, hc17, hc4, G⟩
   refine W_seq ?_
   refine W_seq (W_region rfl ?_)
   refine stp (r_move_int rfl ?_)
   refine stp (r_fieldAddr rfl ?_)
   refine stp (r_load (v := .slice ad steps.length c2) rfl hc10 rfl ?_)
   refine stp (r_len rfl rfl rfl ?_)
   refine stp (r_lss rfl rfl ?_)
   refine WL_nil ?_
   refine W_cond2 (b := (decide ((k : Int) < (steps.length : Int)))) rfl (fun hlt => ?_) (fun hlt => ?_)
   ·-- true
    replace hlt := of_decide_eq_true hlt
    have hi : k < steps.length := by omega
    have hkk := hnn k hi
    have hd := tgo_drop hi u
    obtain ⟨kc2, RKu, hKu⟩ := hT.kidsrow2
    have hTn := stepC_node hKu hkk
    obtain ⟨x0, x1, xa, xn, xc, pa, pn, pc, qa, qn, qc, hxs⟩ := hTn.cells
    rw [hxs] at hTn
    refine W_skip ?_
    refine W_seq ?_
    refine W_block ?_
    have hsz32 : w30.heap.size ≤ w30.heap.size := Nat.le_refl _
    have ltf32_hc10 := lt_of_heap hc10
    have ltf32_hc17 := lt_of_heap hc17
    have ltf32_hc4 := lt_of_heap hc4
    have hgz32 := G.size
    refine W_seq ?_
    have kb_hc10 : ∀ w_, (ktR 37 w30.heap.size).r w30 w_ → w_.heap[b7]? = some (.cells #[.slice ad steps.length c2, .int .i64 a] 33 (0, 0)) := fun w_ k_ => (KtP.to_grow k_ (Grow.rfl' _)).heap hc10
    have kb_hc17 : ∀ w_, (ktR 37 w30.heap.size).r w30 w_ → w_.heap[b14]? = some (.cells #[.int .i64 0, .int .i64 0, .int .i64 0, .int .i64 0, .int .u64 0] 57 (0, 0)) := fun w_ k_ => (KtP.to_grow k_ (Grow.rfl' _)).heap hc17
    have kb_hc4 : ∀ w_, (ktR 37 w30.heap.size).r w30 w_ → w_.heap[b1]? = some (.cells #[.int .i64 y0, .int .i64 y1, .slice ya yn yc, .slice za zn zc, .slice ua un uc] 37 (0, 0)) := fun w_ k_ => (KtP.to_grow k_ (Grow.rfl' _)).heap hc4
    have kb_hsz32 : ∀ w_, (ktR 37 w30.heap.size).r w30 w_ → w30.heap.size ≤ w_.heap.size := fun w_ k_ => Nat.le_trans hsz32 (KtP.to_grow k_ (Grow.rfl' _)).size
    have kb_G : ∀ w_, (ktR 37 w30.heap.size).r w30 w_ → Grow w w_ := fun w_ k_ => G.tr (KtP.to_grow k_ (Grow.rfl' _))
    refine W_anyU 12 [[], [], [0], [], [2, 1, 0], [3, 2, 1, 0], [5, 4, 3, 2, 1, 0], [6, 5, 4, 3, 2, 1, 0], [7, 6, 5, 4, 3, 2, 1, 0], [8, 7, 6, 5, 4, 3, 2, 1], [], [10, 9, 8, 7, 6, 5, 4, 3, 2, 0]] [11] [8] (grQ (ktR 37 w30.heap.size)) (fun k_ e_ w_ => match k_ with | 0 => True | _ => ∃ b : Nat, e_ 8 = .pointer (some ⟨b, 0, none⟩) ∧ w30.heap.size ≤ b ∧ w_.heap[b]? = some (.cells #[.int .i64 x0, .int .i64 x1, .slice xa xn xc, .slice pa pn pc, .slice qa qn qc] 37 (0, 0))) mixed (by kernel_rfl) (by kernel_rfl) (by kernel_rfl) (by kernel_rfl) (by kernel_rfl) (fun k_ _ _ _ g_ h_ => match k_, h_ with | 0, _ => trivial | _ + 1, ⟨b_, h1_, h2_, h3_⟩ => ⟨b_, h1_, h2_, g_.heap h3_⟩) (fun k_ _ _ _ hu_ h_ => match k_, h_ with | 0, _ => trivial | _ + 1, ⟨b_, h1_, h2_, h3_⟩ => ⟨b_, (hu_ _ (by simp)).symm.trans h1_, h2_, h3_⟩) (fun _ _ _ h_ => h_) (fun _ _ => trivial) ?_
    intro w33 g34
    replace kb_hc10 : ∀ w_, (ktR 37 w30.heap.size).r w33 w_ → w_.heap[b7]? = some (.cells #[.slice ad steps.length c2, .int .i64 a] 33 (0, 0)) := fun w_ k_ => kb_hc10 w_ ((ktR 37 w30.heap.size).tr ((ktR 37 w30.heap.size).grow g34) k_)
    replace kb_hc17 : ∀ w_, (ktR 37 w30.heap.size).r w33 w_ → w_.heap[b14]? = some (.cells #[.int .i64 0, .int .i64 0, .int .i64 0, .int .i64 0, .int .u64 0] 57 (0, 0)) := fun w_ k_ => kb_hc17 w_ ((ktR 37 w30.heap.size).tr ((ktR 37 w30.heap.size).grow g34) k_)
    replace kb_hc4 : ∀ w_, (ktR 37 w30.heap.size).r w33 w_ → w_.heap[b1]? = some (.cells #[.int .i64 y0, .int .i64 y1, .slice ya yn yc, .slice za zn zc, .slice ua un uc] 37 (0, 0)) := fun w_ k_ => kb_hc4 w_ ((ktR 37 w30.heap.size).tr ((ktR 37 w30.heap.size).grow g34) k_)
    replace kb_hsz32 : ∀ w_, (ktR 37 w30.heap.size).r w33 w_ → w30.heap.size ≤ w_.heap.size := fun w_ k_ => kb_hsz32 w_ ((ktR 37 w30.heap.size).tr ((ktR 37 w30.heap.size).grow g34) k_)
    replace kb_G : ∀ w_, (ktR 37 w30.heap.size).r w33 w_ → Grow w w_ := fun w_ k_ => kb_G w_ ((ktR 37 w30.heap.size).tr ((ktR 37 w30.heap.size).grow g34) k_)
    have k0_ : (ktR 37 w30.heap.size).r w30 w33 := ((ktR 37 w30.heap.size).grow g34)
    apply AOU_ex (hm := by rfl)
    ·intro w_ g_; refine og rfl ?_; refine r_loadAll rfl (kb_hc4 _ g_) (by rfl) ?_; exact ⟨Grow.rfl' _, rfl⟩
    apply AOU_ex (hm := by rfl)
    ·intro w_ g_; refine og rfl ?_; refine r_fieldAddr rfl ?_; exact ⟨Grow.rfl' _, rfl⟩
    apply AOU_ex (hm := by rfl)
    ·intro w_ g_; refine og rfl ?_; refine r_load (v := .slice ad steps.length c2) rfl (kb_hc10 _ g_) rfl ?_; exact ⟨Grow.rfl' _, rfl⟩
    apply AOU_ex (hm := by rfl)
    ·intro w_ g_; refine og rfl ?_; refine r_move_int rfl ?_; exact ⟨Grow.rfl' _, rfl⟩
    apply AOU_ex (hm := by rfl)
    ·intro w_ g_; refine og rfl ?_; refine r_indexN (R.grow (kb_G _ g_)) rfl rfl ?_ ?_; omega; exact ⟨Grow.rfl' _, rfl⟩
    apply AOU_ex (hm := by rfl)
    ·intro w_ g_; refine og rfl ?_; refine r_loadR (v := .int .i64 (steps.getD k 0)) (m := 0) (R.grow (kb_G _ g_)) rfl (map_get1 0 (by omega)) ?_; exact ⟨Grow.rfl' _, rfl⟩
    apply AOU_ex (hm := by rfl)
    ·intro w_ g_; refine og rfl ?_; exact r_gives (v := .tuple #[.agg #[.int .i64 x0, .int .i64 x1, .slice xa xn xc, .slice pa pn pc, .slice qa qn qc], .int .i64 ((tstep u (steps.getD k 0)).2)]) rfl (gives_eq (rtstep_calls _ hT RKu hKu (kb_G _ g_) hkk) (y := .tuple #[.agg #[.int .i64 x0, .int .i64 x1, .slice xa xn xc, .slice pa pn pc, .slice qa qn qc], .int .i64 ((tstep u (steps.getD k 0)).2)]) (by rw [hxs])) (fun w2_ g2_ => ⟨g2_, rfl⟩)
    apply AOU_ex (hm := by rfl)
    ·intro w_ g_; refine og rfl ?_; refine r_move (v := .tuple #[.agg #[.int .i64 x0, .int .i64 x1, .slice xa xn xc, .slice pa pn pc, .slice qa qn qc], .int .i64 ((tstep u (steps.getD k 0)).2)]) rfl ?_; exact ⟨Grow.rfl' _, rfl⟩
    apply AOU_ex (hm := by rfl)
    ·intro w_ g_; refine og rfl ?_; refine r_extract (v := .agg #[.int .i64 x0, .int .i64 x1, .slice xa xn xc, .slice pa pn pc, .slice qa qn qc]) rfl rfl ?_; exact ⟨Grow.rfl' _, rfl⟩
    apply AOU_ex (hm := by rfl)
    ·intro w_ g_; refine og rfl ?_; refine r_extract (v := .int .i64 ((tstep u (steps.getD k 0)).2)) rfl rfl ?_; exact ⟨Grow.rfl' _, rfl⟩
    refine AOU_so (fun w_ v_ => ∃ b cs, v_ = .pointer (some ⟨b, 0, none⟩) ∧ w30.heap.size ≤ b ∧ cs.size = 5 ∧ w_.heap[b]? = some (.cells cs 37 (0, 0))) (fun _ _ _ g_ ⟨b, cs, h1_, h2_, h3_, h4_⟩ => by obtain ⟨cs2, h5_, h6_⟩ := KtP.new g_ b cs h4_; exact ⟨b, cs2, h1_, h2_, h5_.trans h3_, h6_⟩) (by rfl) ?_ ?_
    ·intro w_ g_
     refine og rfl ?_
     refine r_alloc ?_
     intro b_ w2_ hb_ hc_ g2_
     exact ⟨g2_, b_, _, rfl, Nat.le_trans (kb_hsz32 _ g_) hb_, rfl, hc_⟩
    apply AOU_mut 0 (hm := by rfl)
    ·intro w_ g_
     intro v10_ hv10_
     intro s_
     show OpG _ _ _ _ _ _
     refine og rfl ?_
     obtain ⟨b_, cs_, rfl, hge_, hsz_, hb_⟩ := hv10_
     refine r_storeAll rfl rfl hb_ (by rfl) hsz_ (by rfl) ?_
     intro w2_ s2_ u_
     exact ⟨KtP.of_upd u_ hge_ hb_ s2_ hsz_.symm, ⟨b_, rfl, hge_, s2_⟩, rfl⟩
    refine AOU_nil ?_
    intro w35 g36
    replace k0_ := ((ktR 37 w30.heap.size).tr k0_ g36)
    replace hc10 := kb_hc10 _ g36
    clear kb_hc10
    replace hc17 := kb_hc17 _ g36
    clear kb_hc17
    replace hc4 := kb_hc4 _ g36
    clear kb_hc4
    replace hsz32 := kb_hsz32 _ g36
    clear kb_hsz32
    replace G := kb_G _ g36
    clear kb_G
    intro v_x32 hv_x32
    rintro ⟨bx32, hbe32, hge32, hc32⟩
    have hbv32 : v_x32 = .pointer (some ⟨bx32, 0, none⟩) := hbe32
    subst hbv32
    clear hv_x32 hbe32
    have hgx32 := Nat.le_trans hgz32 hge32
    refine stp (r_assign_int rfl ?_)
    refine WL_nil ?_
    refine W_seq ?_
    refine W_seq (W_region rfl ?_)
    refine stp (r_move_int rfl ?_)
    refine stp (r_neq rfl rfl ?_)
    refine WL_nil ?_
    refine W_cond2 (b := (decide (((tstep u (steps.getD k 0)).2) ≠ 0))) rfl (fun h4 => ?_) (fun h4 => ?_)
    ·-- true
     replace h4 := of_decide_eq_true h4
     refine W_seq (W_region rfl ?_)
     refine stp (r_build (v := .agg #[.int .i64 0, .int .i64 0, .int .i64 0, .int .i64 0, .int .u64 0]) (fun w => by kernel_rfl) ?_)
     refine stp (r_move_int rfl ?_)
     refine stn (r_storeAll rfl rfl hc17 (by rfl) (by rfl) (by rfl) ?_)
     intro w37 hc38 u39
     replace hc10 := u39.heap hc10 ne21
     replace hc4 := u39.heap hc4 ne20
     replace hc32 := u39.heap hc32 (Nat.ne_of_lt (Nat.lt_of_lt_of_le ltf32_hc17 hge32)).symm
     replace G := G.upd u39 hge19
     clear u39 hc17
     refine stp (r_assign_int rfl ?_)
     refine WL_nil ?_
     refine W_ret ?_
     have h9 : (askT (Nd.mk kind size words bytes kids) steps a) = (Vl0, (tstep u (steps.getD k 0)).2) := by unfold askT; rw [if_neg hno, if_neg h3, hw, hd, if_pos h4, if_pos h4]
     refine ret2 (res_all rfl hc38 (by rfl)) (res_tmp (v := .int .i64 ((tstep u (steps.getD k 0)).2)) rfl) ⟨?_, G⟩
     rw [h9] <;> rfl
    ·-- false
     replace h4 := of_decide_eq_false h4
     refine W_skip ?_
     refine W_region rfl ?_
     refine stp (r_loadAll rfl hc32 (by rfl) ?_)
     refine stn (r_storeAll rfl rfl hc4 (by rfl) (by rfl) (by rfl) ?_)
     intro w40 hc41 u42
     replace hc10 := u42.heap hc10 ne13.symm
     replace hc17 := u42.heap hc17 ne20.symm
     replace hc32 := u42.heap hc32 (Nat.ne_of_lt (Nat.lt_of_lt_of_le ltf32_hc4 hge32)).symm
     replace G := G.upd u42 hge6
     clear u42 hc4
     refine WL_nil ?_
     refine W_region rfl ?_
     refine stp (r_move_int rfl ?_)
     refine stp (r_add rfl rfl ?_ ?_); constructor <;> omega
     refine stp (r_assign_int rfl ?_)
     refine WL_nil ?_
     refine ⟨_, ?_, k + 1, x0, x1, xa, xn, xc, pa, pn, pc, qa, qn, qc, (tstep u (steps.getD k 0)).1, rfl, fr_of ⟨rfl, rfl, rfl, congrArg (Value.int .i64) (by omega), trivial⟩, by omega, hTn, (by rw [hw, hd, if_neg h4]), hc10, hc17, hc41, G⟩
     omega
   ·-- false
    replace hlt := of_decide_eq_false hlt
    have hk9 : k = steps.length := by omega
    rw [hk9, List.drop_length, tgo] at hw
    obtain ⟨hl1, hl2, hl3, hl4, hl5, hl6, hl7, hl8⟩ := hT.lens
    have hv : (askT (Nd.mk kind size words bytes kids) steps a) = tval u a := by unfold askT; rw [if_neg hno, if_neg h3, hw, if_neg (by simp)]
    refine W_exit ?_
    refine W_seq ?_
    refine W_seq (W_region rfl ?_)
    refine stp (r_fieldAddr rfl ?_)
    refine stp (r_load (v := .int .i64 a) rfl hc10 rfl ?_)
    refine stp (r_lss rfl rfl ?_)
    refine WL_nil ?_
    refine W_cond2 (b := (decide (a < 0))) rfl (fun h5 => ?_) (fun h5 => ?_)
    ·-- true
     replace h5 := of_decide_eq_true h5
     refine W_seq (W_region rfl ?_)
     refine stp (r_fieldAddr rfl ?_)
     refine stp (r_load (v := .int .i64 y0) rfl hc4 rfl ?_)
     refine stp (r_fieldAddr rfl ?_)
     refine stp (r_load (v := .int .i64 y1) rfl hc4 rfl ?_)
     refine stp (r_fieldAddr rfl ?_)
     refine stp (r_load (v := .slice ya yn yc) rfl hc4 rfl ?_)
     refine stp (r_len rfl rfl rfl ?_)
     refine stp (r_fieldAddr rfl ?_)
     refine stp (r_load (v := .slice za zn zc) rfl hc4 rfl ?_)
     refine stp (r_len rfl rfl rfl ?_)
     refine stp (r_add rfl rfl ?_ ?_); constructor <;> omega
     refine stp (r_fieldAddr rfl ?_)
     refine stp (r_load (v := .slice ua un uc) rfl hc4 rfl ?_)
     refine stp (r_len rfl rfl rfl ?_)
     refine stp (r_build (v := .agg #[.int .i64 y0, .int .i64 y1, .int .i64 ((yn : Int) + (zn : Int)), .int .i64 (un : Int), .int .u64 0]) (fun w => by kernel_rfl) ?_)
     refine stn (r_storeAll rfl rfl hc17 (by rfl) (by rfl) (by rfl) ?_)
     intro w43 hc44 u45
     replace hc10 := u45.heap hc10 ne21
     replace hc4 := u45.heap hc4 ne20
     replace G := G.upd u45 hge19
     clear u45 hc17
     refine stp (r_assign_int rfl ?_)
     refine WL_nil ?_
     refine W_ret ?_
     have h9 : (askT (Nd.mk kind size words bytes kids) steps a) = (⟨y0, y1, (yn : Int) + zn, un, 0⟩, 0) := by rw [hv, tval, if_pos h5, hl1, hl2, hl3, hl4, hl5]
     refine ret2 (res_all rfl hc44 (by rfl)) (res_tmp (v := .int .i64 0) rfl) ⟨?_, G⟩
     rw [h9] <;> rfl
    ·-- false
     replace h5 := of_decide_eq_false h5
     refine W_skip ?_
     refine W_seq (W_region rfl ?_)
     refine stp (r_loadAll rfl hc4 (by rfl) ?_)
     refine stp (r_fieldAddr rfl ?_)
     refine stp (r_load (v := .int .i64 a) rfl hc10 rfl ?_)
     refine stp (r_gives (v := .tuple #[.int .u64 ((tat u a).1), .int .i64 ((tat u a).2)]) rfl (rtat_calls _ (hT.grow G) (by omega)) ?_)
     intro w46 g47
     replace hc10 := g47.heap hc10
     replace hc17 := g47.heap hc17
     replace hc4 := g47.heap hc4
     replace G := G.tr g47
     clear g47
     refine stp (r_move (v := .tuple #[.int .u64 ((tat u a).1), .int .i64 ((tat u a).2)]) rfl ?_)
     refine stp (r_extract (v := .int .u64 ((tat u a).1)) rfl rfl ?_)
     refine stp (r_extract (v := .int .i64 ((tat u a).2)) rfl rfl ?_)
     refine stp (r_assign_int rfl ?_)
     refine stp (r_assign_int rfl ?_)
     refine WL_nil ?_
     refine W_seq ?_
     refine W_seq (W_region rfl ?_)
     refine stp (r_move_int rfl ?_)
     refine stp (r_neq rfl rfl ?_)
     refine WL_nil ?_
     refine W_cond2 (b := (decide (((tat u a).2) ≠ 0))) rfl (fun h6 => ?_) (fun h6 => ?_)
     ·-- true
      replace h6 := of_decide_eq_true h6
      refine W_seq (W_region rfl ?_)
      refine stp (r_build (v := .agg #[.int .i64 0, .int .i64 0, .int .i64 0, .int .i64 0, .int .u64 0]) (fun w => by kernel_rfl) ?_)
      refine stp (r_move_int rfl ?_)
      refine stn (r_storeAll rfl rfl hc17 (by rfl) (by rfl) (by rfl) ?_)
      intro w48 hc49 u50
      replace hc10 := u50.heap hc10 ne21
      replace hc4 := u50.heap hc4 ne20
      replace G := G.upd u50 hge19
      clear u50 hc17
      refine stp (r_assign_int rfl ?_)
      refine WL_nil ?_
      refine W_ret ?_
      have h9 : (askT (Nd.mk kind size words bytes kids) steps a) = (Vl0, (tat u a).2) := by rw [hv, tval, if_neg h5, if_pos h6]
      refine ret2 (res_all rfl hc49 (by rfl)) (res_tmp (v := .int .i64 ((tat u a).2)) rfl) ⟨?_, G⟩
      rw [h9] <;> rfl
     ·-- false
      replace h6 := of_decide_eq_false h6
      refine W_skip ?_
      refine W_seq (W_region rfl ?_)
      refine stp (r_fieldAddr rfl ?_)
      refine stp (r_load (v := .int .i64 y0) rfl hc4 rfl ?_)
      refine stp (r_move_int rfl ?_)
      refine stp (r_build (v := .agg #[.int .i64 y0, .int .i64 0, .int .i64 0, .int .i64 0, .int .u64 ((tat u a).1)]) (fun w => by kernel_rfl) ?_)
      refine stn (r_storeAll rfl rfl hc17 (by rfl) (by rfl) (by rfl) ?_)
      intro w51 hc52 u53
      replace hc10 := u53.heap hc10 ne21
      replace hc4 := u53.heap hc4 ne20
      replace G := G.upd u53 hge19
      clear u53 hc17
      refine stp (r_assign_int rfl ?_)
      refine WL_nil ?_
      refine W_ret ?_
      have h9 : (askT (Nd.mk kind size words bytes kids) steps a) = (⟨y0, 0, 0, 0, (tat u a).1⟩, 0) := by rw [hv, tval, if_neg h5, if_neg h6, hl1]
      refine ret2 (res_all rfl hc52 (by rfl)) (res_tmp (v := .int .i64 0) rfl) ⟨?_, G⟩
      rw [h9] <;> rfl

set_option maxRecDepth 100000 in
theorem rcost_calls : ∀ (n_ : Nat) (w : World) {c : List Value} {t : Nd} (T : NodeR w c t), t.sz ≤ n_ → Gives Try.prog 20 #[.agg c.toArray] w (.int .i64 t.cost) := by
 intro n_
 induction n_ with
 | zero => intro w c t T hm_; exact absurd hm_ (by have := t.sz_pos; omega)
 | succ n_ ih_ =>
 intro w c t T hm_
 have T0 := T
 have hnd := T.need_le
 obtain @⟨kind, size, words, bytes, kids, ws, bs, ks, kc, hk, hs, hW, hwr, hB, hbr, hK, hKs⟩ := T
 obtain ⟨aw, cw, rfl, hcw, hcw2, RW⟩ := hW
 obtain ⟨ab, cb, rfl, hcb, hcb2, RB⟩ := hB
 obtain ⟨ak, ck, rfl, hck, hck2, RK⟩ := hK
 have lw := RW.lim
 have lb := RB.lim
 have lk := RK.lim
 simp only [inR] at hk hs
 have hn0 := Nd.need_nn (Nd.mk kind size words bytes kids)
 have G := Grow.rfl' w
 refine gives_of Try.func20 Try.ntmps20 Try.results20 rfl rfl ?_
 refine W_seq (W_region rfl ?_)
 refine WL_some (og rfl ?_)
 (first | refine r_box_agg rfl ?_ | refine r_box_int rfl ?_ | refine r_box_slice rfl ?_ | refine r_box rfl rfl ?_)
 intro b1 w2 hb3 hc4 g5
 have hge6 := Nat.le_trans G.size hb3
 replace G := G.tr g5
 clear g5 hb3
 refine stp (r_assign_int rfl ?_)
 refine WL_nil ?_
 refine W_seq (W_region rfl ?_)
 refine stp (r_loadAll rfl hc4 (by rfl) ?_)
 refine stp (r_gives (v := .int .i64 ((Nd.mk kind size words bytes kids).need)) rfl (rneed_calls _ (T0.grow G)) ?_)
 intro w7 g8
 replace hc4 := g8.heap hc4
 replace G := G.tr g8
 clear g8
 refine stp (r_add rfl rfl ?_ ?_); constructor <;> omega
 refine stp (r_assign_int rfl ?_)
 refine WL_nil ?_
 refine W_seq ?_
 refine W_seq (W_region rfl ?_)
 refine stp (r_assign_int rfl ?_)
 refine WL_nil ?_
 refine W_block ?_
 refine W_loop (fun m_ e_ w_ => ∃ (k : Nat), m_ = kids.length - k ∧ Fr [(1, .pointer (some ⟨b1, 0, none⟩)), (2, .int .i64 0), (3, .int .i64 (Nd.costL (kids.take k) (1 + (Nd.mk kind size words bytes kids).need))), (4, .int .i64 (k : Int))] e_ ∧ (k ≤ kids.length) ∧ (w_.heap[b1]? = some (.cells #[.int .i64 kind, .int .i64 size, .slice aw words.length cw, .slice ab bytes.length cb, .slice ak kids.length ck] 37 (0, 0))) ∧ Grow w w_) _ ⟨0, rfl, fr_of ⟨rfl, rfl, congrArg (Value.int .i64) (by simp [Nd.costL]), rfl, trivial⟩, by omega, hc4, G⟩ ?_
 clear hc4
 clear G
 rintro m_ e_ w9 ⟨k, rfl, ⟨e10, rfl⟩, hk2, hc4, G⟩
 refine W_seq ?_
 refine W_seq (W_region rfl ?_)
 refine stp (r_move_int rfl ?_)
 refine stp (r_fieldAddr rfl ?_)
 refine stp (r_load (v := .slice ak kids.length ck) rfl hc4 rfl ?_)
 refine stp (r_len rfl rfl rfl ?_)
 refine stp (r_lss rfl rfl ?_)
 refine WL_nil ?_
 refine W_cond2 (b := (decide ((k : Int) < (kids.length : Int)))) rfl (fun hlt => ?_) (fun hlt => ?_)
 ·-- true
  replace hlt := of_decide_eq_true hlt
  have hi : k < kids.length := by omega
  have hat := KidsR.at_ k kids[k] hKs (by simp [hi])
  have hsz := Nd.szs_at kids k kids[k] (by simp [hi])
  simp only [Nd.sz] at hm_
  have c0 := Nd.costL_pos (kids.take k) (1 + (Nd.mk kind size words bytes kids).need) (by omega)
  have c1 := Nd.costL_le (kids.take k) (1 + (Nd.mk kind size words bytes kids).need) (by omega)
  have c2 := kids[k].cost_pos
  have c3 := Nd.cost_le hat.need_le
  refine W_skip ?_
  refine W_seq ?_
  refine W_block ?_
  refine W_region rfl ?_
  refine stp (r_move_int rfl ?_)
  refine stp (r_fieldAddr rfl ?_)
  refine stp (r_load (v := .slice ak kids.length ck) rfl hc4 rfl ?_)
  refine stp (r_move_int rfl ?_)
  refine stp (r_indexN (RK.grow G) rfl rfl ?_ ?_); omega
  refine stp (r_loadNR (RK.grow G) rfl (by decide) (by rw [RK.len]; omega) rfl ?_)
  refine stp (r_gives (v := .int .i64 (kids[k].cost)) rfl ((by have h := ih_ _ (hat.grow G) (by omega); exact h)) ?_)
  intro w11 g12
  replace hc4 := g12.heap hc4
  replace G := G.tr g12
  clear g12
  refine stp (r_add rfl rfl ?_ ?_); constructor <;> omega
  refine stp (r_min rfl rfl rfl ?_)
  refine stp (r_assign_int rfl ?_)
  refine WL_nil ?_
  refine W_region rfl ?_
  refine stp (r_move_int rfl ?_)
  refine stp (r_add rfl rfl ?_ ?_); constructor <;> omega
  refine stp (r_assign_int rfl ?_)
  refine WL_nil ?_
  refine ⟨_, ?_, k + 1, rfl, fr_of ⟨rfl, rfl, congrArg (Value.int .i64) (by rw [Nd.costL_take _ hi]; rfl), rfl, trivial⟩, by omega, hc4, G⟩
  omega
 ·-- false
  replace hlt := of_decide_eq_false hlt
  have hk3 : k = kids.length := by omega
  refine W_exit ?_
  refine W_seq (W_region rfl ?_)
  refine stp (r_move_int rfl ?_)
  refine stp (r_assign_int rfl ?_)
  refine WL_nil ?_
  refine W_ret ?_
  refine ret1 (res_tmp (v := .int .i64 (Nd.costL (kids.take k) (1 + (Nd.mk kind size words bytes kids).need))) rfl) ⟨?_, G⟩
  rw [Nd.cost, hk3, List.take_length]
end Go.Proofs.Ytfhfecepcnapfaa.K
namespace Go.Proofs.Ytfhfecepcnapfaa.K
open Go Go.RowKit

section
variable {P : Program} {ops : Array Oper} {Q : Ex → Env → World → Prop} {e : Env} {w : World} {K : Value → World → Prop} {r : List Oper}
variable {d : Option Nat} {ty : TypeId} {pos : String} {af : Array Edge} {g : Option (Nat × Bool)}
variable {t u : TypeId} {x y z : Operand}
theorem r_bytesStr {n c : Nat} {ad : Option Addr} {el : TypeId} {xs : List Int} [hui : ElI P t el 1] [hei : IntI P el .u8] [hsi : StrI P u] (R : RowAt w 1 ad n (xs.map (.int .u8))) (hx : ev e x = .slice ad n c) (h : K (.string (strOfNums xs)) w) : Run1 P ⟨d, .convert t u x, ty, pos, af, g⟩ e w K := by
  have hn : n = xs.length := by have := R.len; simp at this; exact this.symm
  have hu := hui.h
  have ht : P.underlying t = some (.slice el) := by
    unfold elS at hu
    split at hu
    · rename_i el' hul
      split at hu
      · simp only [Option.some.injEq, Prod.mk.injEq] at hu
        obtain ⟨rfl, _⟩ := hu
        exact hul
      · cases hu
    · cases hu
  have key : (convert t u (.slice ad n c)).run P w = .ok (.string (strOfNums xs)) w := by
    rcases Nat.eq_zero_or_pos n with h0 | h0
    · have hxs : xs = [] := List.eq_nil_of_length_eq_zero (by omega)
      subst hxs
      cases ad with
      | none => exact run_convert_bytes_nil w t el ht hei.h n c u hsi.h
      | some a =>
        subst h0
        rw [run_convert_bytes_string w t u el _ 0 c ht hei.h hsi.h, run_bytesToString w a 0 c [] (by rfl)]
        rfl
    · obtain ⟨b, o, cs, T, fr, rfl, hb, hr⟩ := R.at_ h0
      refine run_convert_bytes_arg w t el ht hei.h b o n c xs hn.symm (fun i hi => ?_) u hsi.h
      rw [cell_of_row w b (o + i) cs T fr hb]
      refine row_cell hr ?_
      rw [List.getElem?_map, List.getElem?_eq_getElem (by omega), List.getD_eq_getElem?_getD, List.getElem?_eq_getElem (by omega)]
      rfl
  exact run1_ok (w' := w) (by simp only [execOp, hx, Sem.run_bind, key, Result.andThen_ok, Sem.run_pure]) h
theorem r_eqlStr {s q : ByteArray} (hx : ev e x = .string s) (hy : ev e y = .string q) (h : K (.bool (s.toList == q.toList)) w) : Run1 P ⟨d, .binOp .eql t x y u, ty, pos, af, g⟩ e w K :=
  run1_ok (w' := w) (by
    have hg : ∀ w : World, (eqGuard .eql t x y (.string s) (.string q)).run P w = .ok () w := fun _ => rfl
    simp only [execOp, hx, hy, Sem.run_bind, hg, Result.andThen_ok, binOp, Op.stringOp, Sem.run_pure]) h
theorem r_neqStr {s q : ByteArray} (hx : ev e x = .string s) (hy : ev e y = .string q) (h : K (.bool (!(s.toList == q.toList))) w) : Run1 P ⟨d, .binOp .neq t x y u, ty, pos, af, g⟩ e w K :=
  run1_ok (w' := w) (by
    have hg : ∀ w : World, (eqGuard .neq t x y (.string s) (.string q)).run P w = .ok () w := fun _ => rfl
    simp only [execOp, hx, hy, Sem.run_bind, hg, Result.andThen_ok, binOp, Op.stringOp, Sem.run_pure]) h
end
theorem strOf_inj : ∀ (xs ys : List Int), (∀ x ∈ xs, inR .u8 x) → (∀ y ∈ ys, inR .u8 y) → (strOfNums xs).data.toList = (strOfNums ys).data.toList → xs = ys := by
  intro xs ys hx hy h2
  simp only [strOfNums_data] at h2
  induction xs generalizing ys with
  | nil => cases ys with
    | nil => rfl
    | cons y ys => simp at h2
  | cons x xs ih => cases ys with
    | nil => simp at h2
    | cons y ys =>
      simp only [List.map_cons, List.cons.injEq] at h2
      have h3 := ih ys (fun z hz => hx z (by simp [hz])) (fun z hz => hy z (by simp [hz])) h2.2
      have h4 := hx x (by simp)
      have h5 := hy y (by simp)
      simp only [inR] at h4 h5
      have h6 := congrArg UInt8.toNat h2.1
      simp only [UInt8.toNat_ofNat'] at h6
      have : x = y := by omega
      rw [this, h3]
theorem strOf_eq {xs ys : List Int} (hx : ∀ x ∈ xs, inR .u8 x) (hy : ∀ y ∈ ys, inR .u8 y) : ((strOfNums xs).toList == (strOfNums ys).toList) = decide (xs = ys) := by
  rw [ByteArray.toList_eq, ByteArray.toList_eq]
  by_cases h : xs = ys
  · subst h; simp
  · rw [decide_eq_false h, beq_eq_false_iff_ne]
    exact fun hs => h (strOf_inj xs ys hx hy hs)
end Go.Proofs.Ytfhfecepcnapfaa.K
namespace Go.Proofs.Ytfhfecepcnapfaa.K
open Go Go.RowKit Go.Proofs
attribute [local irreducible] Run1 OpG WL W AO Gives
set_option maxRecDepth 100000 in
theorem sameints_calls (w : World) {ad ad2 : Option Addr} {c c2 : Nat} {xs ys : List Int} (R : RowAt w 1 ad xs.length (xs.map (.int .i64))) (R2 : RowAt w 1 ad2 ys.length (ys.map (.int .i64))) : Gives Try.prog 26 #[.slice ad xs.length c, .slice ad2 ys.length c2] w (.bool (decide (xs = ys))) := by
 have l1 := R.lim
 have l2 := R2.lim
 have G := Grow.rfl' w
 refine gives_of Try.func26 Try.ntmps26 Try.results26 rfl rfl ?_
 refine W_seq (W_region rfl ?_)
 refine stp (r_assign (v := .bool false) rfl ?_)
 refine WL_nil ?_
 refine W_seq ?_
 refine W_seq (W_region rfl ?_)
 refine stp (r_move_slice rfl ?_)
 refine stp (r_len rfl rfl rfl ?_)
 refine stp (r_move_slice rfl ?_)
 refine stp (r_len rfl rfl rfl ?_)
 refine stp (r_neq rfl rfl ?_)
 refine WL_nil ?_
 refine W_cond2 (b := (decide ((xs.length : Int) ≠ (ys.length : Int)))) rfl (fun h1 => ?_) (fun h1 => ?_)
 ·-- true
  replace h1 := of_decide_eq_true h1
  refine W_seq (W_region rfl ?_)
  refine stp (r_assign (v := .bool false) rfl ?_)
  refine WL_nil ?_
  refine W_ret ?_
  refine ret1 (res_tmp (v := .bool false) rfl) ⟨?_, G⟩
  congr 1; exact (decide_eq_false (fun he => h1 (by rw [he]))).symm
 ·-- false
  replace h1 := of_decide_eq_false h1
  have hl : xs.length = ys.length := by omega
  refine W_skip ?_
  refine W_seq ?_
  refine W_seq (W_region rfl ?_)
  refine stp (r_assign_int rfl ?_)
  refine WL_nil ?_
  refine W_block ?_
  refine W_loop (fun m_ e_ w_ => ∃ (k : Nat), m_ = xs.length - k ∧ Fr [(0, .slice ad xs.length c), (1, .slice ad2 ys.length c2), (5, .int .i64 (k : Int))] e_ ∧ (k ≤ xs.length) ∧ (∀ j, j < k → xs.getD j 0 = ys.getD j 0) ∧ Grow w w_) _ ⟨0, rfl, fr_of ⟨rfl, rfl, rfl, trivial⟩, by omega, fun j hj => by omega, G⟩ ?_
  clear G
  rintro m_ e_ w1 ⟨k, rfl, ⟨e2, rfl⟩, hk2, hk, G⟩
  refine W_seq ?_
  refine W_seq (W_region rfl ?_)
  refine stp (r_move_int rfl ?_)
  refine stp (r_move_slice rfl ?_)
  refine stp (r_len rfl rfl rfl ?_)
  refine stp (r_lss rfl rfl ?_)
  refine WL_nil ?_
  refine W_cond2 (b := (decide ((k : Int) < (xs.length : Int)))) rfl (fun hlt => ?_) (fun hlt => ?_)
  ·-- true
   replace hlt := of_decide_eq_true hlt
   have hk3 : k < ys.length := by omega
   refine W_skip ?_
   refine W_seq ?_
   refine W_block ?_
   refine W_seq ?_
   refine W_any 9 [[], [], [1, 0], [2, 1, 0], [], [], [1, 0], [2, 1, 0], [7, 6, 5, 4, 3, 2, 1, 0]] mixed (by kernel_rfl) (by kernel_rfl) (by kernel_rfl) ?_
   intro w3 g4
   replace G := G.tr g4
   clear g4
   apply AO_ex
   ·intro w_ g_; refine og rfl ?_; refine r_move_slice rfl ?_; exact ⟨Grow.rfl' _, rfl⟩
   apply AO_ex
   ·intro w_ g_; refine og rfl ?_; refine r_move_int rfl ?_; exact ⟨Grow.rfl' _, rfl⟩
   apply AO_ex
   ·intro w_ g_; refine og rfl ?_; refine r_indexN (R.grow (G.tr g_)) rfl rfl ?_ ?_; omega; exact ⟨Grow.rfl' _, rfl⟩
   apply AO_ex
   ·intro w_ g_; refine og rfl ?_; refine r_loadR (v := .int .i64 (xs.getD k 0)) (m := 0) (R.grow (G.tr g_)) rfl (map_get1 0 (by omega)) ?_; exact ⟨Grow.rfl' _, rfl⟩
   apply AO_ex
   ·intro w_ g_; refine og rfl ?_; refine r_move_slice rfl ?_; exact ⟨Grow.rfl' _, rfl⟩
   apply AO_ex
   ·intro w_ g_; refine og rfl ?_; refine r_move_int rfl ?_; exact ⟨Grow.rfl' _, rfl⟩
   apply AO_ex
   ·intro w_ g_; refine og rfl ?_; refine r_indexN (R2.grow (G.tr g_)) rfl rfl ?_ ?_; omega; exact ⟨Grow.rfl' _, rfl⟩
   apply AO_ex
   ·intro w_ g_; refine og rfl ?_; refine r_loadR (v := .int .i64 (ys.getD k 0)) (m := 0) (R2.grow (G.tr g_)) rfl (map_get1 0 (by omega)) ?_; exact ⟨Grow.rfl' _, rfl⟩
   apply AO_ex
   ·intro w_ g_; refine og rfl ?_; refine r_neq rfl rfl ?_; exact ⟨Grow.rfl' _, rfl⟩
   refine AO_nil ?_
   intro w5 g6
   replace G := G.tr g6
   clear g6
   refine WL_nil ?_
   refine W_cond2 (b := (decide ((xs.getD k 0) ≠ (ys.getD k 0)))) rfl (fun h3 => ?_) (fun h3 => ?_)
   ·-- true
    replace h3 := of_decide_eq_true h3
    refine W_seq (W_region rfl ?_)
    refine stp (r_assign (v := .bool false) rfl ?_)
    refine WL_nil ?_
    refine W_ret ?_
    refine ret1 (res_tmp (v := .bool false) rfl) ⟨?_, G⟩
    congr 1; exact (decide_eq_false (fun he => h3 (by rw [he]))).symm
   ·-- false
    replace h3 := of_decide_eq_false h3
    refine W_skip ?_
    refine W_region rfl ?_
    refine stp (r_move_int rfl ?_)
    refine stp (r_add rfl rfl ?_ ?_); constructor <;> omega
    refine stp (r_assign_int rfl ?_)
    refine WL_nil ?_
    refine ⟨_, ?_, k + 1, rfl, fr_of ⟨rfl, rfl, rfl, trivial⟩, by omega, fun j hj => by rcases Nat.lt_succ_iff_lt_or_eq.1 hj with h_ | h_; exact hk j h_; subst h_; omega, G⟩
    omega
  ·-- false
   replace hlt := of_decide_eq_false hlt
   have hk3 : k = xs.length := by omega
   refine W_exit ?_
   refine W_seq (W_region rfl ?_)
   refine stp (r_assign (v := .bool true) rfl ?_)
   refine WL_nil ?_
   refine W_ret ?_
   refine ret1 (res_tmp (v := .bool true) rfl) ⟨?_, G⟩
   congr 1; exact (decide_eq_true (lists_eq hl (fun j hj => hk j (by omega)))).symm

set_option maxRecDepth 100000 in
theorem rsizesNil_calls (w : World)  : Gives Try.prog 71 #[.slice none 0 0] w (.slice none 0 0) := by
 have G := Grow.rfl' w
 refine gives_of Try.func71 Try.ntmps71 Try.results71 rfl rfl ?_
 refine W_seq (W_region rfl ?_)
 refine stp (r_assign_slice rfl ?_)
 refine WL_nil ?_
 refine W_seq (W_region rfl ?_)
 refine stp (r_assign_slice rfl ?_)
 refine WL_nil ?_
 refine W_seq ?_
 refine W_seq (W_region rfl ?_)
 refine stp (r_assign_int rfl ?_)
 refine WL_nil ?_
 refine W_block ?_
 refine W_loop (fun m_ e_ w_ => m_ = 0 ∧ Fr [(0, .slice none 0 0), (2, .slice none 0 0), (3, .slice none 0 0), (4, .int .i64 0)] e_ ∧ Grow w w_) _ ⟨rfl, fr_of ⟨rfl, rfl, rfl, rfl, trivial⟩, G⟩ ?_
 clear G
 rintro m_ e_ w1 ⟨rfl, ⟨e2, rfl⟩, G⟩
 refine W_seq ?_
 refine W_seq (W_region rfl ?_)
 refine stp (r_move_int rfl ?_)
 refine stp (r_move_slice rfl ?_)
 refine stp (r_len rfl rfl rfl ?_)
 refine stp (r_lss_f rfl rfl (by omega) ?_)
 refine WL_nil ?_
 refine W_false rfl ?_
 refine W_exit ?_
 refine W_seq (W_region rfl ?_)
 refine stp (r_move_slice rfl ?_)
 refine stp (r_assign_slice rfl ?_)
 refine WL_nil ?_
 refine W_ret ?_
 refine ret1 (res_tmp (v := .slice none 0 0) rfl) ⟨?_, G⟩
 rfl

set_option maxRecDepth 100000 in
theorem rfitsNil_calls (w : World)  : Gives Try.prog 70 #[.slice none 0 0] w (.bool false) := by
 have G := Grow.rfl' w
 refine gives_of Try.func70 Try.ntmps70 Try.results70 rfl rfl ?_
 refine W_seq (W_region rfl ?_)
 refine stp (r_assign (v := .bool false) rfl ?_)
 refine WL_nil ?_
 refine W_seq ?_
 refine W_seq (W_region rfl ?_)
 refine stp (r_move_slice rfl ?_)
 refine stp (r_len rfl rfl rfl ?_)
 refine stp (r_lss_t rfl rfl (by decide) ?_)
 refine stp (r_move (v := .bool true) rfl ?_)
 refine WL_some (og_no rfl ?_)
 refine WL_some (og_no rfl ?_)
 refine WL_some (og_no rfl ?_)
 refine stp (r_pick_t (v := .bool true) rfl rfl rfl ?_)
 refine stp (r_move (v := .bool true) rfl ?_)
 refine WL_some (og_no rfl ?_)
 refine WL_some (og_no rfl ?_)
 refine WL_some (og_no rfl ?_)
 refine WL_some (og_no rfl ?_)
 refine stp (r_pick_t (v := .bool true) rfl rfl rfl ?_)
 refine WL_nil ?_
 refine W_true rfl ?_
 refine W_seq (W_region rfl ?_)
 refine stp (r_assign (v := .bool false) rfl ?_)
 refine WL_nil ?_
 refine W_ret ?_
 refine ret1 (res_tmp (v := .bool false) rfl) ⟨?_, G⟩
 rfl

set_option maxRecDepth 100000 in
theorem rrightNil_calls (w : World)  : Gives Try.prog 45 #[.slice none 0 0] w (.bool false) := by
 have G := Grow.rfl' w
 refine gives_of Try.func45 Try.ntmps45 Try.results45 rfl rfl ?_
 refine W_seq (W_region rfl ?_)
 refine stp (r_assign (v := .bool false) rfl ?_)
 refine WL_nil ?_
 refine W_seq (W_region rfl ?_)
 refine stp (r_move_slice rfl ?_)
 refine stp (r_gives (v := .slice none 0 0) rfl (rsizesNil_calls _) ?_)
 intro w1 g2
 replace G := G.tr g2
 clear g2
 refine stp (r_gives (v := .bool false) rfl (rfitsNil_calls _) ?_)
 intro w3 g4
 replace G := G.tr g4
 clear g4
 refine stp (r_assign (v := .bool false) rfl ?_)
 refine WL_nil ?_
 refine W_ret ?_
 refine ret1 (res_tmp (v := .bool false) rfl) ⟨?_, G⟩
 rfl

set_option maxRecDepth 100000 in
theorem rofNil_calls (w : World) {ad : Option Addr} {n c : Nat} {a cost : Int} : Gives Try.prog 27 #[.slice none 0 0, .agg #[.slice ad n c, .int .i64 a], .int .i64 cost] w (.tuple #[.agg #[.int .i64 0, .int .i64 0, .int .i64 0, .int .i64 0, .int .u64 0], .int .i64 1]) := by
 have G := Grow.rfl' w
 refine gives_of Try.func27 Try.ntmps27 Try.results27 rfl rfl ?_
 refine W_seq (W_region rfl ?_)
 refine WL_some (og rfl ?_)
 (first | refine r_box_agg rfl ?_ | refine r_box_int rfl ?_ | refine r_box_slice rfl ?_ | refine r_box rfl rfl ?_)
 intro b1 w2 hb3 hc4 g5
 have hge6 := Nat.le_trans G.size hb3
 replace G := G.tr g5
 clear g5 hb3
 refine stp (r_alloc ?_)
 intro b7 w8 hb9 hc10 g11
 refine stp (r_assign_int rfl ?_)
 refine WL_nil ?_
 refine W_seq ?_
 refine W_seq (W_region rfl ?_)
 refine stp (r_move_slice rfl ?_)
 have hge12 := Nat.le_trans G.size hb9
 have ne13 := Nat.ne_of_lt (Nat.lt_of_lt_of_le (lt_of_heap hc4) hb9)
 replace hc4 := g11.heap hc4
 replace G := G.tr g11
 clear g11 hb9
 refine stp (r_gives (v := .bool false) rfl (rrightNil_calls _) ?_)
 intro w14 g15
 replace hc4 := g15.heap hc4
 replace hc10 := g15.heap hc10
 replace G := G.tr g15
 clear g15
 refine stp (r_not_t rfl rfl ?_)
 refine WL_nil ?_
 refine W_true rfl ?_
 refine W_seq (W_region rfl ?_)
 refine stp (r_build (v := .agg #[.int .i64 0, .int .i64 0, .int .i64 0, .int .i64 0, .int .u64 0]) (fun w => by kernel_rfl) ?_)
 refine stn (r_storeAll rfl rfl hc10 (by rfl) (by rfl) (by rfl) ?_)
 intro w16 hc17 u18
 replace hc4 := u18.heap hc4 ne13
 replace G := G.upd u18 hge12
 clear u18 hc10
 refine stp (r_assign_int rfl ?_)
 refine WL_nil ?_
 refine W_ret ?_
 refine ret2 (res_all rfl hc17 (by rfl)) (res_tmp (v := .int .i64 1) rfl) ⟨?_, G⟩
 rfl
end Go.Proofs.Ytfhfecepcnapfaa.K
namespace Go.Proofs.Ytfhfecepcnapfaa.K
open Go Go.RowKit Go.Proofs
attribute [local irreducible] Run1 OpG WL W AO Gives
set_option maxRecDepth 100000 in
theorem cloneNil_calls (w : World)  : Gives Try.prog 68 #[.slice none 0 0] w (.slice none 0 0) := by
 have G := Grow.rfl' w
 refine gives_of Try.func68 Try.ntmps68 Try.results68 rfl rfl ?_
 refine W_seq (W_region rfl ?_)
 refine stp (r_assign_slice rfl ?_)
 refine WL_nil ?_
 refine W_seq ?_
 refine W_seq (W_region rfl ?_)
 refine stp (r_move_slice rfl ?_)
 refine stp (r_eqlNil rfl rfl ?_)
 refine WL_nil ?_
 refine W_true rfl ?_
 refine W_seq (W_region rfl ?_)
 refine stp (r_assign_slice rfl ?_)
 refine WL_nil ?_
 refine W_ret ?_
 refine ret1 (res_tmp (v := .slice none 0 0) rfl) ⟨?_, G⟩
 rfl

set_option maxRecDepth 100000 in
theorem each_calls (w : World) {y0 y1 : Int} {ya za ua : Option Addr} {yn yc zn zc un uc : Nat} {ad : Option Addr} {n c : Nat} : Calls Try.prog 40 #[.agg #[.int .i64 y0, .int .i64 y1, .slice ya yn yc, .slice za zn zc, .slice ua un uc], .slice ad n c] w (Ret fun v w' => ∃ b1 b2, v = .func (.func 67) #[] #[.pointer (some ⟨b1, 0, none⟩), .pointer (some ⟨b2, 0, none⟩)] ∧ w.heap.size ≤ b1 ∧ w.heap.size ≤ b2 ∧ w'.heap[b1]? = some (.cells #[.int .i64 y0, .int .i64 y1, .slice ya yn yc, .slice za zn zc, .slice ua un uc] 37 (0, 0)) ∧ w'.heap[b2]? = some (.cells #[.slice ad n c] 31 (0, 0)) ∧ Grow w w') := by
 have G := Grow.rfl' w
 refine calls_ret Try.func40 Try.ntmps40 Try.results40 rfl rfl ?_
 refine W_seq (W_region rfl ?_)
 refine WL_some (og rfl ?_)
 (first | refine r_box_agg rfl ?_ | refine r_box_int rfl ?_ | refine r_box_slice rfl ?_ | refine r_box rfl rfl ?_)
 intro b1 w2 hb3 hc4 g5
 have hge6 := Nat.le_trans G.size hb3
 replace G := G.tr g5
 clear g5 hb3
 refine WL_some (og rfl ?_)
 (first | refine r_box_agg rfl ?_ | refine r_box_int rfl ?_ | refine r_box_slice rfl ?_ | refine r_box rfl rfl ?_)
 intro b7 w8 hb9 hc10 g11
 have hge12 := Nat.le_trans G.size hb9
 replace hc4 := g11.heap hc4
 replace G := G.tr g11
 clear g11 hb9
 refine stp (r_assign (v := .nilFunc) rfl ?_)
 refine WL_nil ?_
 refine W_seq (W_region rfl ?_)
 refine stp (r_makeFunc (vs := []) (us := [.pointer (some ⟨b1, 0, none⟩), .pointer (some ⟨b7, 0, none⟩)]) rfl rfl ?_)
 refine stp (r_assign (v := .func (.func 67) #[] #[.pointer (some ⟨b1, 0, none⟩), .pointer (some ⟨b7, 0, none⟩)]) rfl ?_)
 refine WL_nil ?_
 refine W_ret ?_
 refine ret1 (res_tmp (v := .func (.func 67) #[] #[.pointer (some ⟨b1, 0, none⟩), .pointer (some ⟨b7, 0, none⟩)]) rfl) ⟨_, _, rfl, hge6, hge12, hc4, hc10, G⟩

set_option maxRecDepth 100000 in
theorem each0_calls (w : World) {q1 q2 l : Nat} {y0 y1 : Int} {ya za ua : Option Addr} {yn yc zn zc uc : Nat} (hyn : yn ≤ 1000) (hzn : zn ≤ 1000) (I : Nat → World → Prop) (hI : ∀ i w', I i w' → w'.heap[q1]? = some (.cells #[.int .i64 y0, .int .i64 y1, .slice ya yn yc, .slice za zn zc, .slice ua 0 uc] 37 (0, 0)) ∧ w'.heap[q2]? = some (.cells #[.slice none 0 0] 31 (0, 0))) (hgr : ∀ i w' w'', Grow w' w'' → I i w' → I i w'') (hy : ∀ i w', i < (1 + yn + zn) → I i w' → Yields Try.prog l #[.agg #[.slice none 0 0, .int .i64 ((i : Int) - 1)]] w' (fun v w'' => v = .bool true ∧ I (i + 1) w'' ∧ ∀ (b : Nat) (cs : Array Value) (fr : Nat × Nat), w'.heap[b]? = some (Obj.cells cs 126 fr) → w''.heap[b]? = some (Obj.cells cs 126 fr))) (h0 : I 0 w) : Calls Try.prog 67 #[.func (.yield l) #[] #[], .pointer (some ⟨q1, 0, none⟩), .pointer (some ⟨q2, 0, none⟩)] w (Ret fun v w' => I (1 + yn + zn) w') := by
 refine calls_ret Try.func67 Try.ntmps67 Try.results67 rfl rfl ?_
 have HI := h0
 refine W_seq (W_region rfl ?_)
 refine WL_some (og rfl ?_)
 (first | refine r_box_agg rfl ?_ | refine r_box_int rfl ?_ | refine r_box_slice rfl ?_ | refine r_box rfl rfl ?_)
 intro b1 w2 hb3 hc4 g5
 replace HI := hgr _ _ _ g5 HI
 clear g5 hb3
 refine WL_nil ?_
 obtain ⟨hb6, hb7⟩ := hI _ _ HI
 refine W_seq ?_
 refine W_seq (W_region rfl ?_)
 refine stp (r_fieldAddr rfl ?_)
 refine stp (r_load (v := .slice ya yn yc) rfl hb6 rfl ?_)
 refine stp (r_len rfl rfl rfl ?_)
 refine stp (r_add rfl rfl ?_ ?_); constructor <;> omega
 refine stp (r_fieldAddr rfl ?_)
 refine stp (r_load (v := .slice za zn zc) rfl hb6 rfl ?_)
 refine stp (r_len rfl rfl rfl ?_)
 refine WL_some (og rfl ?_)
 refine r_add rfl rfl ?_ ?_; constructor <;> omega
 rw [show 1 + (yn : Int) + (zn : Int) = (((1 + yn + zn) : Nat) : Int) from by omega]
 refine stp (r_move_int rfl ?_)
 refine WL_nil ?_
 refine W_block ?_
 refine W_loop (fun m_ e_ w_ => ∃ (k : Nat), m_ = (1 + yn + zn) - k ∧ Fr [(1, .pointer (some ⟨q1, 0, none⟩)), (2, .pointer (some ⟨q2, 0, none⟩)), (3, .pointer (some ⟨b1, 0, none⟩)), (15, .int .i64 (((1 + yn + zn) : Nat) : Int)), (16, .int .i64 (k : Int))] e_ ∧ (k ≤ (1 + yn + zn)) ∧ (w_.heap[b1]? = some (.cells #[.func (.yield l) #[] #[]] 126 (0, 0))) ∧ (I k w_)) _ ⟨0, rfl, fr_of ⟨rfl, rfl, rfl, rfl, rfl, trivial⟩, by omega, hc4, HI⟩ ?_
 clear HI hc4 hb6 hb7
 rintro m_ e_ w8 ⟨k, rfl, ⟨e9, rfl⟩, hk, hc4, HI⟩
 obtain ⟨hb10, hb11⟩ := hI k _ HI
 refine W_seq (W_region rfl ?_)
 refine stp (r_lss rfl rfl ?_)
 refine WL_nil ?_
 refine W_seq ?_
 refine W_cond2 (b := (decide ((k : Int) < (((1 + yn + zn) : Nat) : Int)))) rfl (fun hlt => ?_) (fun hlt => ?_)
 ·-- true
  replace hlt := of_decide_eq_true hlt
  refine W_skip ?_
  refine W_seq ?_
  refine W_block ?_
  refine W_seq (W_region rfl ?_)
  refine stp (r_move_int rfl ?_)
  refine stp (r_assign_int rfl ?_)
  refine WL_nil ?_
  refine W_seq ?_
  refine W_any 6 [[], [], [0], [], [0], [3, 2, 1, 0]] mixed (by kernel_rfl) (by kernel_rfl) (by kernel_rfl) ?_
  intro w12 g13
  replace hc4 := g13.heap hc4
  replace HI := hgr _ _ _ g13 HI
  replace hb10 := g13.heap hb10
  replace hb11 := g13.heap hb11
  clear g13
  apply AO_ex
  ·intro w_ g_; refine og rfl ?_; refine r_load (v := .func (.yield l) #[] #[]) rfl (g_.heap hc4) rfl ?_; exact ⟨Grow.rfl' _, rfl⟩
  apply AO_ex
  ·intro w_ g_; refine og rfl ?_; refine r_load (v := .slice none 0 0) rfl (g_.heap hb11) rfl ?_; exact ⟨Grow.rfl' _, rfl⟩
  apply AO_ex
  ·intro w_ g_; refine og rfl ?_; exact r_gives (v := .slice none 0 0) rfl (cloneNil_calls _) (fun w2_ g2_ => ⟨g2_, rfl⟩)
  apply AO_ex
  ·intro w_ g_; refine og rfl ?_; refine r_move_int rfl ?_; exact ⟨Grow.rfl' _, rfl⟩
  apply AO_ex
  ·intro w_ g_; refine og rfl ?_; refine r_sub rfl rfl ?_ ?_; constructor <;> omega; exact ⟨Grow.rfl' _, rfl⟩
  apply AO_ex
  ·intro w_ g_; refine og rfl ?_; refine r_build (v := .agg #[.slice none 0 0, .int .i64 ((k : Int) - 1)]) (fun w => by kernel_rfl) ?_; exact ⟨Grow.rfl' _, rfl⟩
  refine AO_nil ?_
  intro w14 g15
  replace hc4 := g15.heap hc4
  replace HI := hgr _ _ _ g15 HI
  replace hb10 := g15.heap hb10
  replace hb11 := g15.heap hb11
  clear g15
  refine stp (r_yield rfl (Yields.mono ?_ (hy k _ (by omega) HI)))
  rintro v_ w16 ⟨rfl, HI2, HF_⟩
  replace hc4 := HF_ _ _ _ hc4
  clear HI
  refine stp (r_not_f rfl rfl ?_)
  refine WL_nil ?_
  refine W_false rfl ?_
  refine W_skip ?_
  refine W_region rfl ?_
  refine stp (r_add rfl rfl ?_ ?_); constructor <;> omega
  refine stp (r_move_int rfl ?_)
  refine WL_nil ?_
  refine ⟨_, ?_, k + 1, rfl, fr_of ⟨rfl, rfl, rfl, rfl, congrArg (Value.int .i64) (by omega), trivial⟩, by omega, hc4, HI2⟩
  omega
 ·-- false
  replace hlt := of_decide_eq_false hlt
  have hk9 : (1 + yn + zn) = k := by omega
  rw [hk9]
  obtain ⟨hb17, hb18⟩ := hI k _ HI
  refine W_exit ?_
  refine W_seq (W_region rfl ?_)
  refine stp (r_fieldAddr rfl ?_)
  refine stp (r_load (v := .slice ua 0 uc) rfl hb17 rfl ?_)
  refine stp (r_len rfl rfl rfl ?_)
  refine stp (r_move_int rfl ?_)
  refine WL_nil ?_
  refine W_block ?_
  refine W_loop (fun m_ e_ w_ => m_ = 0 ∧ Fr [(2, .pointer (some ⟨q2, 0, none⟩)), (3, .pointer (some ⟨b1, 0, none⟩)), (29, .slice ua 0 uc), (30, .int .i64 0), (31, .int .i64 0)] e_ ∧ (w_.heap[b1]? = some (.cells #[.func (.yield l) #[] #[]] 126 (0, 0))) ∧ (I k w_)) _ ⟨rfl, fr_of ⟨rfl, rfl, rfl, rfl, rfl, trivial⟩, hc4, HI⟩ ?_
  clear hc4 HI hb10 hb11 hb17 hb18
  rintro m_ e_ w19 ⟨rfl, ⟨e20, rfl⟩, hc4, HI⟩
  obtain ⟨hb21, hb22⟩ := hI k _ HI
  refine W_seq (W_region rfl ?_)
  refine stp (r_lss_f rfl rfl (by omega) ?_)
  refine WL_nil ?_
  refine W_seq ?_
  refine W_false rfl ?_
  refine W_exit ?_
  exact ret0n HI

set_option maxRecDepth 100000 in
theorem paths0_calls (w : World) {y0 y1 most : Int} {ya za ua : Option Addr} {yn yc zn zc uc : Nat} (hm : (yn : Int) + zn < most) (hm2 : yn + zn ≤ 1000) : Calls Try.prog 24 #[.agg #[.int .i64 y0, .int .i64 y1, .slice ya yn yc, .slice za zn zc, .slice ua 0 uc], .int .i64 most] w (Ret fun v w' => ∃ ad c, v = .slice ad (1 + yn + zn) c ∧ Grow w w') := by
 have G := Grow.rfl' w
 refine calls_ret Try.func24 Try.ntmps24 Try.results24 rfl rfl ?_
 refine W_seq (W_region rfl ?_)
 refine WL_some (og rfl ?_)
 (first | refine r_box_agg rfl ?_ | refine r_box_int rfl ?_ | refine r_box_slice rfl ?_ | refine r_box rfl rfl ?_)
 intro b1 w2 hb3 hc4 g5
 have hge6 := Nat.le_trans G.size hb3
 replace G := G.tr g5
 clear g5 hb3
 refine WL_some (og rfl ?_)
 (first | refine r_box_agg rfl ?_ | refine r_box_int rfl ?_ | refine r_box_slice rfl ?_ | refine r_box rfl rfl ?_)
 intro b7 w8 hb9 hc10 g11
 have hge12 := Nat.le_trans G.size hb9
 replace hc4 := g11.heap hc4
 replace G := G.tr g11
 clear g11 hb9
 refine stp (r_assign_slice rfl ?_)
 refine WL_nil ?_
 refine W_seq (W_region rfl ?_)
 refine stp (r_alloc ?_)
 intro b13 w14 hb15 hc16 g17
 refine WL_nil ?_
 refine W_seq ?_
 refine W_seq (W_region rfl ?_)
 have hge18 := Nat.le_trans G.size hb15
 have ne19 := Nat.ne_of_lt (Nat.lt_of_lt_of_le (lt_of_heap hc4) hb15)
 have ne20 := Nat.ne_of_lt (Nat.lt_of_lt_of_le (lt_of_heap hc10) hb15)
 replace hc4 := g17.heap hc4
 replace hc10 := g17.heap hc10
 replace G := G.tr g17
 clear g17 hb15
 refine stp (r_loadAll rfl hc4 (by rfl) ?_)
 refine WL_some (og rfl ?_)
 have lt0_hc4 := lt_of_heap hc4
 have lt0_hc10 := lt_of_heap hc10
 have lt0_hc16 := lt_of_heap hc16
 refine r_call rfl (each_calls _) ?_
 rintro v_ w21 ⟨q1, q2, rfl, hq1, hq2, hc1, hc2, g_⟩
 replace hc4 := g_.heap hc4
 replace hc10 := g_.heap hc10
 replace hc16 := g_.heap hc16
 replace G := G.tr g_
 clear g_
 refine WL_nil ?_
 refine W_block ?_
 refine W_rangeC rfl rfl ?_
 intro rc hst hpd hps has hbd hsz hge l w6 hl hlp hmk g6 hw6
 have lt_hc4 := lt_of_heap hc4
 have lt_hc10 := lt_of_heap hc10
 have lt_hc16 := lt_of_heap hc16
 have lt_hc1 := lt_of_heap hc1
 have lt_hc2 := lt_of_heap hc2
 replace hc4 := g6.heap hc4
 replace hc10 := g6.heap hc10
 replace hc16 := g6.heap hc16
 replace hc1 := g6.heap hc1
 replace hc2 := g6.heap hc2
 have hGs := G.size
 have hg5 := hge18
 have hg3 := hge12
 replace G := G.tr g6
 generalize hmm : w21.heap.size = mk at *
 refine Calls.mono (each0_calls w6 (l := l) (q1 := q1) (q2 := q2) (by omega) (by omega) (fun j W => (∃ v xs, W.heap[b13]? = some (.cells #[v] 53 (0, 0)) ∧ W.ownsRow w.heap.size 33 2 v j xs) ∧ W.heap[b7]? = some (.cells #[.int .i64 most] 3 (0, 0)) ∧ W.heap[q1]? = some (.cells #[.int .i64 y0, .int .i64 y1, .slice ya yn yc, .slice za zn zc, .slice ua 0 uc] 37 (0, 0)) ∧ W.heap[q2]? = some (.cells #[.slice none 0 0] 31 (0, 0)) ∧ W.heap[l]? = some (.loop rc) ∧ W.heap[mk]? = some (.deferred (some [])) ∧ Grow w W) (fun i w' h => ⟨h.2.2.1, h.2.2.2.1⟩) (fun i w' w'' g ⟨⟨v, xs, h1, h2⟩, h3, h4, h5, h6, h7, h8⟩ => ⟨⟨v, xs, g.heap h1, own_grow h2 g⟩, g.heap h3, g.heap h4, g.heap h5, g.heap h6, g.heap h7, h8.tr g⟩) ?_ ⟨⟨_, [], hc16, World.ownsRow_nil _ _ _ _⟩, hc10, hc1, hc2, hlp, hmk, G⟩) ?_
 ·rintro j w7 hj ⟨⟨vc2, xs, h1, own2⟩, h3, h4, h5, h6, h7, G7⟩
  refine yields_of_W (ps := [9]) (vs := [_]) (n := 20) h6 hps rfl hsz (by rfl) hge ?_
  rw [has, hbd]
  have hF0 : ∀ (b : Nat) (cs : Array Value) (fr : Nat × Nat), w7.heap[b]? = some (Obj.cells cs 126 fr) → w7.heap[b]? = some (Obj.cells cs 126 fr) := fun _ _ _ h_ => h_
  refine W_region rfl ?_
  refine stp (r_alloc ?_)
  intro b22 w23 hb24 hc25 g26
  refine stn (r_storeAll rfl rfl hc25 (by rfl) (by rfl) (by rfl) ?_)
  intro w27 hc28 u29
  have g30 := g26.upd u29 hb24
  replace h1 := g30.heap h1
  replace h3 := g30.heap h3
  replace h4 := g30.heap h4
  replace h5 := g30.heap h5
  replace h6 := g30.heap h6
  replace h7 := g30.heap h7
  replace own2 := own_grow own2 g30
  replace G7 := G7.tr g30
  replace hF0 := (fun b_ cs_ fr_ hb_ => g30.heap (hF0 b_ cs_ fr_ hb_))
  clear u29 g26 hb24 hc25
  refine WL_nil ?_
  refine ⟨rc, h6, hst, ?_⟩
  have u1 := upd_put (o' := .loop { rc with state := .busy }) h6
  have k6 := put_same (o' := .loop { rc with state := .busy }) h6
  have lt6 := lt_of_heap hc28
  have ne6 : b22 ≠ l := fun he_ => by rw [he_, h6] at hc28; cases hc28
  have kb := u1.heap hc28 ne6
  have k1 := u1.heap h1 (by omega)
  have k2 := own_upd own2 u1 (own_ne_loop own2 h6)
  have k3 := u1.heap h3 (by omega)
  have k4 := u1.heap h4 (by omega)
  have k5 := u1.heap h5 (by omega)
  have k7 := u1.heap h7 (by omega)
  have G8 := G7.upd u1 (by omega)
  have hF1 := fun b_ cs_ fr_ hb_ => u1.heap (hF0 b_ cs_ fr_ hb_) (fun he_ => by have h_ := hF0 b_ cs_ fr_ hb_; rw [he_, h6] at h_; cases h_)
  generalize w27.putObj l (.loop { rc with state := .busy }) = w8 at *
  clear u1 h1 own2 h3 h4 h5 h7 hF0 hc28
  obtain ⟨ad2, n2, c2, rfl⟩ := own_slice k2
  have hn2 : j = n2 := (own_len k2).symm
  subst hn2
  refine W_block ?_
  refine W_seq ?_
  refine W_seq (W_region rfl ?_)
  refine stp (r_load (v := .slice ad2 j c2) rfl k1 rfl ?_)
  refine stp (r_len rfl rfl rfl ?_)
  refine stp (r_load (v := .int .i64 most) rfl k3 rfl ?_)
  refine stp (r_min rfl rfl rfl ?_)
  refine stp (r_geq_f rfl rfl (by split <;> omega) ?_)
  refine WL_nil ?_
  refine W_false rfl ?_
  refine W_skip ?_
  refine W_region rfl ?_
  refine stp (r_load (v := .slice ad2 j c2) rfl k1 rfl ?_)
  refine stp (r_loadAll rfl kb (by rfl) ?_)
  refine stp (r_buildSlice (cs := #[.slice none 0 0, .int .i64 ((j : Int) - 1)]) (el := 33) (fun w => by kernel_rfl) ?_)
  intro bs31 w32 hb33 hc34 g35
  replace k1 := g35.heap k1
  replace k3 := g35.heap k3
  replace k4 := g35.heap k4
  replace k5 := g35.heap k5
  replace k6 := g35.heap k6
  replace k7 := g35.heap k7
  replace kb := g35.heap kb
  replace k2 := own_grow k2 g35
  replace G8 := G8.tr g35
  replace hF1 := (fun b_ cs_ fr_ hb_ => g35.heap (hF1 b_ cs_ fr_ hb_))
  clear g35
  refine stp (r_append rfl rfl rfl rfl k2 (Row.of_block (n := 1) hc34 rfl rfl (by omega)) (fun q_ hq_ => by simp at hq_; rcases hq_ with rfl | rfl <;> rfl) (by simp only [maxLen]; omega) (by omega) G8.size ?_)
  intro v9 w9 own9 gr9
  have G9 := G8.grown gr9 (own_ge k2)
  have m1 := gr_heap gr9 k1 (own_ne k2 k1 (by decide))
  have m3 := gr_heap gr9 k3 (own_ne k2 k3 (by decide))
  have m4 := gr_heap gr9 k4 (own_ne k2 k4 (by decide))
  have m5 := gr_heap gr9 k5 (own_ne k2 k5 (by decide))
  have m6 := gr_heap gr9 k6 (own_ne_loop k2 k6)
  have m7 := gr_heap gr9 k7 (own_ne_def k2 k7)
  have hF2 := fun b_ cs_ fr_ hb_ => gr_heap gr9 (hF1 b_ cs_ fr_ hb_) (own_ne k2 (hF1 b_ cs_ fr_ hb_) (by decide))
  refine stn (r_store1 (v := v9) rfl rfl (own_one own9) m1 (by rfl) (by rfl) ?_)
  intro w10 n1 u10
  refine WL_nil ?_
  have n6 := u10.heap m6 (by omega)
  have u2 := upd_put (o' := .loop rc) n6
  refine ⟨_, n6, ?_⟩
  rw [loop_again hst hpd]
  have own10 := own_upd (own_upd own9 u10 (own_ne own9 m1 (by decide))) u2 (own_ne_loop (own_upd own9 u10 (own_ne own9 m1 (by decide))) n6)
  refine ⟨rfl, ⟨⟨_, _, u2.heap n1 (by omega), own10⟩, u2.heap (u10.heap m3 (by omega)) (by omega), u2.heap (u10.heap m4 (by omega)) (by omega), u2.heap (u10.heap m5 (by omega)) (by omega), put_same n6, u2.heap (u10.heap m7 (by omega)) (by omega), (G9.upd u10 (by omega)).upd u2 (by omega)⟩, fun b_ cs_ fr_ hb_ => ?_⟩
  have h9_ := hF2 b_ cs_ fr_ hb_
  have h10_ := u10.heap h9_ (fun he_ => by rw [he_, m1] at h9_; simp at h9_)
  exact u2.heap h10_ (fun he_ => by rw [he_, n6] at h10_; cases h10_)
 ·rintro r_ w7 ⟨v_, rfl, ⟨vc2, xs, h1, own2⟩, h3, h4, h5, h6, h7, G7⟩
  refine ⟨_, rc, rfl, h6, by rw [hst]; simp, ?_⟩
  simp only [hpd]
  have u1 := upd_put (o' := .loop { rc with state := .exhausted, pending := none }) h6
  have k1 := u1.heap h1 (by omega)
  have k7 := u1.heap h7 (by omega)
  have k2 := own_upd own2 u1 (own_ne_loop own2 h6)
  clear G
  have G := G7.upd u1 (by omega)
  generalize w7.putObj l _ = w8 at *
  clear u1 h1 own2
  obtain ⟨ad2, n2, c2, rfl⟩ := own_slice k2
  have hn2 : n2 = (1 + yn + zn) := own_len k2
  subst hn2
  refine W_seq (W_region rfl ?_)
  refine stp (r_load (v := .slice ad2 (1 + yn + zn) c2) rfl k1 rfl ?_)
  refine stp (r_assign_slice rfl ?_)
  refine WL_nil ?_
  refine W_ret ?_
  have u2 := upd_put (o' := .deferred none) k7
  exact retM (vs := [_]) ⟨mk, _, rfl, run_takeDeferred k7, rfl⟩ ⟨rfl, trivial⟩ ⟨_, _, rfl, G.upd u2 (by omega)⟩
end Go.Proofs.Ytfhfecepcnapfaa.K
namespace Go.Proofs.Ytfhfecepcnapfaa.K
open Go Go.RowKit Go.Proofs
attribute [local irreducible] Run1 OpG WL W AO Gives
set_option maxRecDepth 100000 in
theorem cloneI_calls (w : World) {b : Addr} {n c : Nat} {xs : List Int} (hc : n ≤ c) (hc2 : c ≤ maxLen) (R : RowAt w 1 (some b) n (xs.map (.int .i64))) (hb : n ≤ 17592186044416) : Calls Try.prog 68 #[.slice (some b) n c] w (Ret fun v w' => w'.ownsRow w.heap.size 3 1 v n (xs.map (.int .i64)) ∧ Grow w w') := by
 have G := Grow.rfl' w
 refine calls_ret Try.func68 Try.ntmps68 Try.results68 rfl rfl ?_
 refine W_seq (W_region rfl ?_)
 refine stp (r_assign_slice rfl ?_)
 refine WL_nil ?_
 refine W_seq ?_
 refine W_seq (W_region rfl ?_)
 refine stp (r_move_slice rfl ?_)
 refine stp (r_eqlNil rfl rfl ?_)
 refine WL_nil ?_
 refine W_false rfl ?_
 refine W_skip ?_
 refine W_seq (W_region rfl ?_)
 refine stp (r_buildSlice (cs := #[]) (el := 3) (fun w => by kernel_rfl) ?_)
 intro bs_ w5_ hbs_ hcs_ g5_
 replace G := G.tr g5_
 clear g5_
 have own0 := own_lit0 (base := w.heap.size) (sz := 1) hcs_ (by have := G.size; omega)
 refine stp (r_move_slice rfl ?_)
 refine stp (r_append rfl rfl rfl rfl own0 ⟨_, c, rfl, hc, hc2, R.grow G⟩ (fun q_ hq_ => by obtain ⟨z_, -, rfl⟩ := List.mem_map.1 hq_; rfl) (by simp only [maxLen]; omega) (by omega) G.size ?_)
 intro v6 w6 own6 gr6
 have G6 := G.grown gr6 (own_ge own0)
 rw [Nat.zero_add, List.nil_append] at own6
 refine stp (r_assign (v := v6) rfl ?_)
 refine WL_nil ?_
 refine W_ret ?_
 exact ret1 (res_tmp rfl) ⟨own6, G6⟩

set_option maxRecDepth 100000 in
theorem each1_calls : ∀ (n_ : Nat) (w : World) {q1 q2 l N : Nat} {y0 y1 : Int} {ya za ua ad : Option Addr} {yn yc zn zc un uc pcap : Nat} {t : Nd} {pre : List Int} {w0 : World} (hT0 : NodeR w0 [.int .i64 y0, .int .i64 y1, .slice ya yn yc, .slice za zn zc, .slice ua un uc] t) (hpe : (pre = [] → ad = none) ∧ (ad = none → pcap = 0)) (hpc : pre.length ≤ pcap) (hpc2 : pcap ≤ maxLen) (hdp : pre.length + t.dep ≤ 1000) (I : Nat → World → Prop) (Z : World → Prop) (hN : N ≤ w.heap.size) (hI : ∀ i w', I i w' → w'.heap[q1]? = some (.cells #[.int .i64 y0, .int .i64 y1, .slice ya yn yc, .slice za zn zc, .slice ua un uc] 37 (0, 0)) ∧ w'.heap[q2]? = some (.cells #[.slice ad pre.length pcap] 31 (0, 0)) ∧ Sees w0 w' ∧ RowAt w' 1 ad pre.length ((pre).map (.int .i64))) (hgr : ∀ i w' w'', Grow w' w'' → I i w' → I i w'') (hup : ∀ i w' w'' b o, I i w' → N ≤ b → w'.heap[b]? = some o → NotC o → Upd b w' w'' → I i w'') (hzp : ∀ w' w'' b o, Z w' → N ≤ b → w'.heap[b]? = some o → NotC o → Upd b w' w'' → Z w'') (hy : ∀ i p w', (t.paths pre)[i]? = some p → I i w' → ∀ ad2 c2, RowAt (seeT 3 w') 1 ad2 p.1.length (p.1.map (.int .i64)) → p.1.length ≤ c2 → c2 ≤ maxLen → Yields Try.prog l #[.agg #[.slice ad2 p.1.length c2, .int .i64 p.2]] w' (fun v w'' => Keeps 33 N w' w'' ∧ ∃ b, v = .bool b ∧ (b = true → I (i + 1) w'') ∧ (b = false → Z w''))) (h0 : I 0 w), t.sz ≤ n_ → Calls Try.prog 67 #[.func (.yield l) #[] #[], .pointer (some ⟨q1, 0, none⟩), .pointer (some ⟨q2, 0, none⟩)] w (Ret fun v w' => I (t.paths pre).length w' ∨ Z w') := by
 intro n_
 induction n_ with
 | zero => intro w q1 q2 l N y0 y1 ya za ua ad yn yc zn zc un uc pcap t pre w0 hT0 hpe hpc hpc2 hdp I Z hN hI hgr hup hzp hy h0 hm_; exact absurd hm_ (by have := t.sz_pos; omega)
 | succ n_ ih_ =>
 intro w q1 q2 l N y0 y1 ya za ua ad yn yc zn zc un uc pcap t pre w0 hT0 hpe hpc hpc2 hdp I Z hN hI hgr hup hzp hy h0 hm_
 obtain ⟨kind, size, words, bytes, kids⟩ := t
 obtain ⟨-, -, hl3, hl4, hl5, hl6, hl7, hl8⟩ := hT0.lens
 simp only [Nd.words, Nd.bytes, Nd.kids] at hl3 hl4 hl5
 obtain ⟨kc, RK0, hKs⟩ := hT0.kidsrow
 have hown : own1 words bytes ≤ 281474976710657 := by unfold own1; omega
 refine calls_ret Try.func67 Try.ntmps67 Try.results67 rfl rfl ?_
 have HI := h0
 have hwN := hN
 refine W_seq (W_region rfl ?_)
 refine WL_some (og rfl ?_)
 (first | refine r_box_agg rfl ?_ | refine r_box_int rfl ?_ | refine r_box_slice rfl ?_ | refine r_box rfl rfl ?_)
 intro b1 w2 hb3 hc4 g5
 have hN_b1 := Nat.le_trans hwN hb3
 replace HI := hgr _ _ _ g5 HI
 replace hwN := Nat.le_trans hwN g5.size
 clear g5 hb3
 refine WL_nil ?_
 obtain ⟨hb6, hb7, hS_, hP_⟩ := hI _ _ HI
 refine W_seq ?_
 refine W_seq (W_region rfl ?_)
 refine stp (r_fieldAddr rfl ?_)
 refine stp (r_load (v := .slice ya yn yc) rfl hb6 rfl ?_)
 refine stp (r_len rfl rfl rfl ?_)
 refine stp (r_add rfl rfl ?_ ?_); constructor <;> omega
 refine stp (r_fieldAddr rfl ?_)
 refine stp (r_load (v := .slice za zn zc) rfl hb6 rfl ?_)
 refine stp (r_len rfl rfl rfl ?_)
 refine WL_some (og rfl ?_)
 refine r_add rfl rfl ?_ ?_; constructor <;> omega
 rw [show 1 + (yn : Int) + (zn : Int) = ((own1 words bytes : Nat) : Int) from by unfold own1; omega]
 refine stp (r_move_int rfl ?_)
 refine WL_nil ?_
 refine W_block ?_
 refine W_loop (fun m_ e_ w_ => ∃ (k : Nat), m_ = own1 words bytes - k ∧ Fr [(1, .pointer (some ⟨q1, 0, none⟩)), (2, .pointer (some ⟨q2, 0, none⟩)), (3, .pointer (some ⟨b1, 0, none⟩)), (15, .int .i64 ((own1 words bytes : Nat) : Int)), (16, .int .i64 (k : Int))] e_ ∧ (k ≤ own1 words bytes) ∧ (N ≤ w_.heap.size) ∧ (w_.heap[b1]? = some (.cells #[.func (.yield l) #[] #[]] 126 (0, 0))) ∧ (I k w_)) _ ⟨0, rfl, fr_of ⟨rfl, rfl, rfl, rfl, rfl, trivial⟩, by omega, hwN, hc4, HI⟩ ?_
 clear HI hwN hc4 hb6 hb7 hP_ hS_
 rintro m_ e_ w8 ⟨k, rfl, ⟨e9, rfl⟩, hk, hwN, hc4, HI⟩
 obtain ⟨hb10, hb11, hS_, hP_⟩ := hI k _ HI
 refine W_seq (W_region rfl ?_)
 refine stp (r_lss rfl rfl ?_)
 refine WL_nil ?_
 refine W_seq ?_
 refine W_cond2 (b := (decide ((k : Int) < ((own1 words bytes : Nat) : Int)))) rfl (fun hlt => ?_) (fun hlt => ?_)
 ·-- true
  replace hlt := of_decide_eq_true hlt
  have hk3 : k < own1 words bytes := by omega
  refine W_skip ?_
  refine W_seq ?_
  refine W_block ?_
  refine W_seq (W_region rfl ?_)
  refine stp (r_move_int rfl ?_)
  refine stp (r_assign_int rfl ?_)
  refine WL_nil ?_
  refine W_seq ?_
  refine W_any 6 [[], [], [0], [], [0], [3, 2, 1, 0]] mixed (by kernel_rfl) (by kernel_rfl) (by kernel_rfl) ?_
  intro w12 g13
  replace hwN := Nat.le_trans hwN g13.size
  replace hc4 := g13.heap hc4
  replace HI := hgr _ _ _ g13 HI
  replace hb10 := g13.heap hb10
  replace hb11 := g13.heap hb11
  replace hP_ := hP_.grow g13
  replace hS_ := hS_.trans (Sees.of_grow g13)
  clear g13
  apply AO_ex
  ·intro w_ g_; refine og rfl ?_; refine r_load (v := .func (.yield l) #[] #[]) rfl (g_.heap hc4) rfl ?_; exact ⟨Grow.rfl' _, rfl⟩
  apply AO_ex
  ·intro w_ g_; refine og rfl ?_; refine r_load (v := .slice ad pre.length pcap) rfl (g_.heap hb11) rfl ?_; exact ⟨Grow.rfl' _, rfl⟩
  refine AO_so (fun w_ v_ => ∃ ad2 c2, v_ = .slice ad2 pre.length c2 ∧ pre.length ≤ c2 ∧ c2 ≤ maxLen ∧ RowAt (seeT 3 w_) 1 ad2 pre.length ((pre).map (.int .i64))) (fun _ _ _ g_ ⟨a_, c_, h1_, h2_, h3_, h4_⟩ => ⟨a_, c_, h1_, h2_, h3_, h4_.sees (Sees.typ_grow g_)⟩) ?_ ?_
  ·intro w_ g_
   refine og rfl ?_
   cases ad with
   | none =>
    have hpl := row_none hP_
    have hpn : pre = [] := List.eq_nil_of_length_eq_zero hpl
    have hpc0 := hpe.2 rfl
    subst hpn; subst hpc0
    exact r_gives (v := .slice none 0 0) rfl (cloneNil_calls _) (fun w2_ g2_ => ⟨g2_, _, _, rfl, Nat.le_refl _, Nat.zero_le _, RowAt.empty _ _ _⟩)
   | some bad =>
    refine r_call rfl (cloneI_calls w_ hpc hpc2 (hP_.grow g_) (by omega)) ?_
    rintro v9_ w9_ ⟨own9_, g9_⟩
    obtain ⟨a9_, c9_, rfl, h9a_, h9b_, R9_⟩ := own_typ own9_ (by omega)
    exact ⟨g9_, _, _, rfl, h9a_, h9b_, R9_⟩
  apply AO_ex
  ·intro w_ g_; refine og rfl ?_; refine r_move_int rfl ?_; exact ⟨Grow.rfl' _, rfl⟩
  apply AO_ex
  ·intro w_ g_; refine og rfl ?_; refine r_sub rfl rfl ?_ ?_; constructor <;> omega; exact ⟨Grow.rfl' _, rfl⟩
  refine AO_so (fun w_ v_ => ∃ ad2 c2, v_ = .agg #[.slice ad2 pre.length c2, .int .i64 ((k : Int) - 1)] ∧ pre.length ≤ c2 ∧ c2 ≤ maxLen ∧ RowAt (seeT 3 w_) 1 ad2 pre.length ((pre).map (.int .i64))) (fun _ _ _ g_ ⟨a_, c_, h1_, h2_, h3_, h4_⟩ => ⟨a_, c_, h1_, h2_, h3_, h4_.sees (Sees.typ_grow g_)⟩) ?_ ?_
  ·intro w_ g_
   intro v2_ hv2_; show OpG _ _ _ _ _ _
   refine og rfl ?_
   obtain ⟨a_, c_, rfl, h2_, h3_, h4_⟩ := hv2_
   refine r_build (v := .agg #[.slice a_ pre.length c_, .int .i64 ((k : Int) - 1)]) (fun w => by kernel_rfl) ?_
   exact ⟨Grow.rfl' _, a_, c_, rfl, h2_, h3_, h4_⟩
  refine AO_nil ?_
  intro w14 g15
  replace hwN := Nat.le_trans hwN g15.size
  replace hc4 := g15.heap hc4
  replace HI := hgr _ _ _ g15 HI
  replace hb10 := g15.heap hb10
  replace hb11 := g15.heap hb11
  replace hP_ := hP_.grow g15
  replace hS_ := hS_.trans (Sees.of_grow g15)
  clear g15
  intro v_c hv_c
  intro v_p hv_p
  refine WL_some (og rfl ?_)
  obtain ⟨a8_, c8_, rfl, h8a_, h8b_, R8_⟩ := hv_p
  refine r_yield rfl (Yields.mono ?_ (hy k (pre, (k : Int) - 1) _ (paths_word hk3) HI a8_ c8_ R8_ h8a_ h8b_))
  rintro v_ w16 ⟨HK_, b9, rfl, HT9, HZ9⟩
  have hc4' := HK_ _ _ hN_b1 hc4 (fun _ _ h_ => by simp at h_)
  replace hwN := Nat.le_of_lt (Nat.lt_of_le_of_lt hN_b1 (lt_of_heap hc4'))
  clear HI R8_ HK_
  refine stp (r_not rfl ?_)
  refine WL_nil ?_
  refine W_cond2 (b := (!b9)) rfl (fun h2 => ?_) (fun h2 => ?_)
  ·-- true
   simp only [Bool.and_eq_true, Bool.or_eq_true, Bool.not_eq_true', Bool.and_eq_false_iff, Bool.or_eq_false_iff, Bool.not_eq_false', decide_eq_true_eq, decide_eq_false_iff_not, Bool.not_true, Bool.not_false, Bool.not_eq_eq_eq_not, Bool.or_false, Bool.and_true, Bool.or_true, Bool.and_false, Bool.false_or, Bool.true_and, Bool.true_or, Bool.false_and, Bool.false_eq_true, Bool.true_eq_false] at h2
   have hb9 : b9 = false := by simpa using h2
   refine W_ret ?_
   obtain ⟨w9_, ht_, hJ_⟩ := marks_taken (P := Try.prog) (N := N) Z (fun W_ W2_ b_ o_ hJ_ => hzp W_ W2_ b_ o_ hJ_) [] _ List.nodup_nil (fun m_ hm_ => by simp at hm_) (HZ9 hb9)
   exact retM (vs := []) ht_ trivial (.inr hJ_)
  ·-- false
   simp only [Bool.and_eq_true, Bool.or_eq_true, Bool.not_eq_true', Bool.and_eq_false_iff, Bool.or_eq_false_iff, Bool.not_eq_false', decide_eq_true_eq, decide_eq_false_iff_not, Bool.not_true, Bool.not_false, Bool.not_eq_eq_eq_not, Bool.or_false, Bool.and_true, Bool.or_true, Bool.and_false, Bool.false_or, Bool.true_and, Bool.true_or, Bool.false_and, Bool.false_eq_true, Bool.true_eq_false] at h2
   have hb9 : b9 = true := by simpa using h2
   have HI2 := HT9 hb9
   refine W_skip ?_
   refine W_region rfl ?_
   refine stp (r_add rfl rfl ?_ ?_); constructor <;> omega
   refine stp (r_move_int rfl ?_)
   refine WL_nil ?_
   refine ⟨_, ?_, k + 1, rfl, fr_of ⟨rfl, rfl, rfl, rfl, congrArg (Value.int .i64) (by omega), trivial⟩, by omega, hwN, hc4', HI2⟩
   omega
 ·-- false
  replace hlt := of_decide_eq_false hlt
  have hk9 : k = own1 words bytes := by omega
  rw [hk9] at HI
  obtain ⟨hb17, hb18, hS_, hP_⟩ := hI _ _ HI
  refine W_exit ?_
  refine W_seq (W_region rfl ?_)
  refine stp (r_fieldAddr rfl ?_)
  refine stp (r_load (v := .slice ua un uc) rfl hb17 rfl ?_)
  refine stp (r_len rfl rfl rfl ?_)
  refine stp (r_move_int rfl ?_)
  refine WL_nil ?_
  refine W_block ?_
  refine W_loop (fun m_ e_ w_ => ∃ (j : Nat) (mk : List Nat), m_ = kids.length - j ∧ FrM (mk.map markD) none [(2, .pointer (some ⟨q2, 0, none⟩)), (3, .pointer (some ⟨b1, 0, none⟩)), (29, .slice ua un uc), (30, .int .i64 (un : Int)), (31, .int .i64 (j : Int))] e_ ∧ (j ≤ kids.length) ∧ (mk.Nodup) ∧ (N ≤ w_.heap.size) ∧ (w_.heap[b1]? = some (.cells #[.func (.yield l) #[] #[]] 126 (0, 0))) ∧ (I (own1 words bytes + (Nd.pathsL (kids.take j) pre 0).length) w_) ∧ (∀ m ∈ mk, N ≤ m ∧ w_.heap[m]? = some (.deferred (some [])))) _ ⟨0, [], rfl, fr_of ⟨rfl, rfl, rfl, rfl, rfl, trivial⟩, by omega, List.nodup_nil, hwN, hc4, (by simpa [Nd.pathsL] using HI), (fun m_ hm_ => by simp at hm_)⟩ ?_
  clear hwN hc4 HI hb10 hb11 hb17 hb18 hP_ hS_
  rintro m_ e_ w19 ⟨j, mk, rfl, ⟨e20, rfl⟩, hj2, hnd, hwN, hc4, HI, HM⟩
  obtain ⟨hb21, hb22, hS_, hP_⟩ := hI _ _ HI
  refine W_seq (W_region rfl ?_)
  refine stp (r_lss rfl rfl ?_)
  refine WL_nil ?_
  refine W_seq ?_
  refine W_cond2 (b := (decide ((j : Int) < (un : Int)))) rfl (fun hlt => ?_) (fun hlt => ?_)
  ·-- true
   replace hlt := of_decide_eq_true hlt
   have hj : j < kids.length := by omega
   have RK := RK0.sees hS_
   have hat := KidsR.at_ j kids[j] hKs (by simp [hj])
   obtain ⟨x0, x1, xa, xn, xc, pa, pn, pc, qa, qn, qc, hx⟩ := hat.cells
   rw [hx] at hat
   have hsz := Nd.szs_at kids j kids[j] (by simp [hj])
   simp only [Nd.sz] at hm_
   have hdk := depL_kid (k := kind) (s := size) (w := words) (b := bytes) hj
   refine W_skip ?_
   refine W_seq ?_
   refine W_block ?_
   refine W_seq (W_region rfl ?_)
   refine stp (r_move_int rfl ?_)
   refine stp (r_indexN RK rfl rfl ?_ ?_); omega
   refine stp (r_loadNR RK rfl (by decide) (by rw [RK.len]; omega) hx ?_)
   refine stp (r_alloc ?_)
   intro b23 w24 hb25 hc26 g27
   refine stp (r_assign_int rfl ?_)
   refine stn (r_storeAll rfl rfl hc26 (by rfl) (by rfl) (by rfl) ?_)
   intro w28 hc29 u30
   have g31 := g27.upd u30 hb25
   have hN_b23 := Nat.le_trans hwN hb25
   replace hwN := Nat.le_trans hwN g31.size
   replace hc4 := g31.heap hc4
   replace HI := hgr _ _ _ g31 HI
   replace HM := (fun m_ hm_ => And.intro (HM m_ hm_).1 (g31.heap (HM m_ hm_).2))
   replace hb21 := g31.heap hb21
   replace hb22 := g31.heap hb22
   replace hP_ := hP_.grow g31
   replace hS_ := hS_.trans (Sees.of_grow g31)
   replace RK := RK.grow g31
   clear u30 g27 hb25 hc26
   refine WL_nil ?_
   have hN0 := hwN
   clear RK
   have hsz0 : w28.heap.size ≤ w28.heap.size := Nat.le_refl _
   refine W_seq ?_
   have kb_hwN : ∀ w_, (ksR 3 w28.heap.size pre.length).r w28 w_ → N ≤ w_.heap.size := fun w_ k_ => Nat.le_trans hwN (KsP.to_grow k_ (Grow.rfl' _)).size
   have kb_hc4 : ∀ w_, (ksR 3 w28.heap.size pre.length).r w28 w_ → w_.heap[b1]? = some (.cells #[.func (.yield l) #[] #[]] 126 (0, 0)) := fun w_ k_ => (KsP.to_grow k_ (Grow.rfl' _)).heap hc4
   have kb_HI : ∀ w_, (ksR 3 w28.heap.size pre.length).r w28 w_ → I (own1 words bytes + (Nd.pathsL (kids.take j) pre 0).length) w_ := fun w_ k_ => hgr _ _ _ (KsP.to_grow k_ (Grow.rfl' _)) HI
   have kb_HM : ∀ w_, (ksR 3 w28.heap.size pre.length).r w28 w_ → ∀ m ∈ mk, N ≤ m ∧ w_.heap[m]? = some (.deferred (some [])) := fun w_ k_ => (fun m_ hm_ => And.intro (HM m_ hm_).1 ((KsP.to_grow k_ (Grow.rfl' _)).heap (HM m_ hm_).2))
   have kb_hb21 : ∀ w_, (ksR 3 w28.heap.size pre.length).r w28 w_ → w_.heap[q1]? = some (.cells #[.int .i64 y0, .int .i64 y1, .slice ya yn yc, .slice za zn zc, .slice ua un uc] 37 (0, 0)) := fun w_ k_ => (KsP.to_grow k_ (Grow.rfl' _)).heap hb21
   have kb_hb22 : ∀ w_, (ksR 3 w28.heap.size pre.length).r w28 w_ → w_.heap[q2]? = some (.cells #[.slice ad pre.length pcap] 31 (0, 0)) := fun w_ k_ => (KsP.to_grow k_ (Grow.rfl' _)).heap hb22
   have kb_hP_ : ∀ w_, (ksR 3 w28.heap.size pre.length).r w28 w_ → RowAt w_ 1 ad pre.length ((pre).map (.int .i64)) := fun w_ k_ => hP_.grow (KsP.to_grow k_ (Grow.rfl' _))
   have kb_hS_ : ∀ w_, (ksR 3 w28.heap.size pre.length).r w28 w_ → Sees w0 w_ := fun w_ k_ => hS_.trans (Sees.of_grow (KsP.to_grow k_ (Grow.rfl' _)))
   have kb_hc29 : ∀ w_, (ksR 3 w28.heap.size pre.length).r w28 w_ → w_.heap[b23]? = some (.cells #[.int .i64 x0, .int .i64 x1, .slice xa xn xc, .slice pa pn pc, .slice qa qn qc] 37 (0, 0)) := fun w_ k_ => (KsP.to_grow k_ (Grow.rfl' _)).heap hc29
   have kb_hsz0 : ∀ w_, (ksR 3 w28.heap.size pre.length).r w28 w_ → w28.heap.size ≤ w_.heap.size := fun w_ k_ => KsP.size k_
   refine W_anyR 6 [[], [], [0], [], [0], [3, 2, 1, 0]] [5] (ksR 3 w28.heap.size pre.length) (fun k_ w_ => match k_ with | 0 => True | _ => True) mixed (by kernel_rfl) (by kernel_rfl) (by kernel_rfl) (by kernel_rfl) (fun k_ _ _ _ _ => match k_ with | 0 => trivial | _ + 1 => trivial) (fun _ _ => trivial) ?_
   intro w32 g33
   replace kb_hwN : ∀ w_, (ksR 3 w28.heap.size pre.length).r w32 w_ → N ≤ w_.heap.size := fun w_ k_ => kb_hwN w_ ((ksR 3 w28.heap.size pre.length).tr ((ksR 3 w28.heap.size pre.length).grow g33) k_)
   replace kb_hc4 : ∀ w_, (ksR 3 w28.heap.size pre.length).r w32 w_ → w_.heap[b1]? = some (.cells #[.func (.yield l) #[] #[]] 126 (0, 0)) := fun w_ k_ => kb_hc4 w_ ((ksR 3 w28.heap.size pre.length).tr ((ksR 3 w28.heap.size pre.length).grow g33) k_)
   replace kb_HI : ∀ w_, (ksR 3 w28.heap.size pre.length).r w32 w_ → I (own1 words bytes + (Nd.pathsL (kids.take j) pre 0).length) w_ := fun w_ k_ => kb_HI w_ ((ksR 3 w28.heap.size pre.length).tr ((ksR 3 w28.heap.size pre.length).grow g33) k_)
   replace kb_HM : ∀ w_, (ksR 3 w28.heap.size pre.length).r w32 w_ → ∀ m ∈ mk, N ≤ m ∧ w_.heap[m]? = some (.deferred (some [])) := fun w_ k_ => kb_HM w_ ((ksR 3 w28.heap.size pre.length).tr ((ksR 3 w28.heap.size pre.length).grow g33) k_)
   replace kb_hb21 : ∀ w_, (ksR 3 w28.heap.size pre.length).r w32 w_ → w_.heap[q1]? = some (.cells #[.int .i64 y0, .int .i64 y1, .slice ya yn yc, .slice za zn zc, .slice ua un uc] 37 (0, 0)) := fun w_ k_ => kb_hb21 w_ ((ksR 3 w28.heap.size pre.length).tr ((ksR 3 w28.heap.size pre.length).grow g33) k_)
   replace kb_hb22 : ∀ w_, (ksR 3 w28.heap.size pre.length).r w32 w_ → w_.heap[q2]? = some (.cells #[.slice ad pre.length pcap] 31 (0, 0)) := fun w_ k_ => kb_hb22 w_ ((ksR 3 w28.heap.size pre.length).tr ((ksR 3 w28.heap.size pre.length).grow g33) k_)
   replace kb_hP_ : ∀ w_, (ksR 3 w28.heap.size pre.length).r w32 w_ → RowAt w_ 1 ad pre.length ((pre).map (.int .i64)) := fun w_ k_ => kb_hP_ w_ ((ksR 3 w28.heap.size pre.length).tr ((ksR 3 w28.heap.size pre.length).grow g33) k_)
   replace kb_hS_ : ∀ w_, (ksR 3 w28.heap.size pre.length).r w32 w_ → Sees w0 w_ := fun w_ k_ => kb_hS_ w_ ((ksR 3 w28.heap.size pre.length).tr ((ksR 3 w28.heap.size pre.length).grow g33) k_)
   replace kb_hc29 : ∀ w_, (ksR 3 w28.heap.size pre.length).r w32 w_ → w_.heap[b23]? = some (.cells #[.int .i64 x0, .int .i64 x1, .slice xa xn xc, .slice pa pn pc, .slice qa qn qc] 37 (0, 0)) := fun w_ k_ => kb_hc29 w_ ((ksR 3 w28.heap.size pre.length).tr ((ksR 3 w28.heap.size pre.length).grow g33) k_)
   replace kb_hsz0 : ∀ w_, (ksR 3 w28.heap.size pre.length).r w32 w_ → w28.heap.size ≤ w_.heap.size := fun w_ k_ => kb_hsz0 w_ ((ksR 3 w28.heap.size pre.length).tr ((ksR 3 w28.heap.size pre.length).grow g33) k_)
   have k0_ : (ksR 3 w28.heap.size pre.length).r w28 w32 := ((ksR 3 w28.heap.size pre.length).grow g33)
   apply AOR_ex (hm := by rfl)
   ·intro w_ g_; refine og rfl ?_; refine r_loadAll rfl (kb_hc29 _ g_) (by rfl) ?_; exact ⟨Grow.rfl' _, rfl⟩
   apply AOR_ex (hm := by rfl)
   ·intro w_ g_; refine og rfl ?_; refine r_load (v := .slice ad pre.length pcap) rfl (kb_hb22 _ g_) rfl ?_; exact ⟨Grow.rfl' _, rfl⟩
   refine AOR_so (fun w_ v_ => CopyR 3 w28.heap.size pre w_ v_) (fun _ _ _ k_ h_ => CopyR.ks k_ h_) (by rfl) ?_ ?_
   ·intro w_ g_
    refine og rfl ?_
    cases ad with
    | none =>
     have hpl := row_none (kb_hP_ _ g_)
     have hpn : pre = [] := List.eq_nil_of_length_eq_zero hpl
     have hpc0 := hpe.2 rfl
     subst hpn; subst hpc0
     exact r_gives (v := .slice none 0 0) rfl (cloneNil_calls _) (fun w2_ g2_ => ⟨g2_, .inl ⟨rfl, rfl⟩⟩)
    | some bad =>
     refine r_call rfl (cloneI_calls w_ hpc hpc2 (kb_hP_ _ g_) (by omega)) ?_
     rintro v9_ w9_ ⟨own9_, g9_⟩
     exact ⟨g9_, CopyR.of_own own9_ (kb_hsz0 _ g_) (fun he_ => by have := hpe.1 he_; cases this)⟩
   apply AOR_ex (hm := by rfl)
   ·intro w_ g_; refine og rfl ?_; refine r_move_int rfl ?_; exact ⟨Grow.rfl' _, rfl⟩
   refine AOR_so (fun w_ v_ => ∃ b, v_ = .slice (some ⟨b, 0, none⟩) 1 1 ∧ w28.heap.size ≤ b ∧ w_.heap[b]? = some (.cells #[.int .i64 (j : Int)] 3 (0, 0))) (fun _ _ _ k_ ⟨b_, h1_, h2_, h3_⟩ => ⟨b_, h1_, h2_, by obtain ⟨cs_, g1_, -, -, g4_⟩ := k_.new b_ _ h3_; rw [g4_ (.inr (by simp))] at g1_; exact g1_⟩) (by rfl) ?_ ?_
   ·intro w_ g_
    refine og rfl ?_
    refine r_buildSlice (cs := #[.int .i64 (j : Int)]) (el := 3) (fun w => by kernel_rfl) ?_
    intro b_ w2_ hb_ hc_ g2_
    exact ⟨g2_, b_, rfl, Nat.le_trans (kb_hsz0 _ g_) hb_, hc_⟩
   refine AOR_last 0 (fun w_ v_ => CopyR 3 w28.heap.size (pre ++ [(j : Int)]) w_ v_) (fun _ _ _ g_ h_ => h_.grow g_) (by rfl) (by rfl) ?_ ?_
   ·intro w_ g_ s_
    intro v2_ hv2_; intro v4_ hv4_; show OpG _ _ _ _ _ _
    refine og rfl ?_
    have ow_ := CopyR.own hv2_
    obtain ⟨bl_, rfl, hbl1_, hbl2_⟩ := hv4_
    refine r_appendK rfl rfl rfl rfl ow_ (Row.of_block (n := 1) hbl2_ rfl rfl (by omega)) (by decide) (fun q_ hq_ => by simp at hq_; subst hq_; rfl) (by simp only [maxLen]; omega) (by omega) (kb_hsz0 _ g_) ?_
    intro v9_ w9_ own9_ gr9_ hk9_
    exact ⟨CopyR.keeps hv2_ gr9_ hk9_, trivial, CopyR.of_own (base := w28.heap.size) (pre := pre ++ [(j : Int)]) (by rw [List.length_append, List.map_append]; exact own9_) (Nat.le_refl _) (by simp)⟩
   refine AOR_nil ?_
   intro w34 g35 S_
   replace k0_ := ((ksR 3 w28.heap.size pre.length).tr k0_ g35)
   clear S_
   replace hwN := kb_hwN _ g35
   clear kb_hwN
   replace hc4 := kb_hc4 _ g35
   clear kb_hc4
   replace HI := kb_HI _ g35
   clear kb_HI
   replace HM := kb_HM _ g35
   clear kb_HM
   replace hb21 := kb_hb21 _ g35
   clear kb_hb21
   replace hb22 := kb_hb22 _ g35
   clear kb_hb22
   replace hP_ := kb_hP_ _ g35
   clear kb_hP_
   replace hS_ := kb_hS_ _ g35
   clear kb_hS_
   replace hc29 := kb_hc29 _ g35
   clear kb_hc29
   replace hsz0 := kb_hsz0 _ g35
   clear kb_hsz0
   intro v_c hv_c
   intro v_l hv_l
   intro v_5 hv_5
   refine WL_some (og rfl ?_)
   clear hv_c hv_l
   obtain ⟨b5, cs5, rfl, h5b, hb5, h5a, h5m, h5t⟩ := CopyR.blk hv_5 (by simp)
   have lt0_hc4 := lt_of_heap hc4
   have lt0_hb21 := lt_of_heap hb21
   have lt0_hb22 := lt_of_heap hb22
   have lt0_hc29 := lt_of_heap hc29
   have lt0_hb5 := lt_of_heap hb5
   refine r_call rfl (each_calls _) ?_
   rintro v_ w36 ⟨q3, q4, rfl, hq3, hq4, hcq3, hcq4, g_⟩
   have hNq3 := Nat.le_trans hwN hq3
   have hNq4 := Nat.le_trans hwN hq4
   replace hwN := Nat.le_trans hwN g_.size
   replace hc4 := g_.heap hc4
   replace HI := hgr _ _ _ g_ HI
   replace HM := (fun m_ hm_ => And.intro (HM m_ hm_).1 (g_.heap (HM m_ hm_).2))
   replace hb21 := g_.heap hb21
   replace hb22 := g_.heap hb22
   replace hP_ := hP_.grow g_
   replace hS_ := hS_.trans (Sees.of_grow g_)
   replace hc29 := g_.heap hc29
   replace hsz0 := Nat.le_trans hsz0 g_.size
   replace hb5 := g_.heap hb5
   clear g_
   refine WL_nil ?_
   refine W_block ?_
   refine W_rangeC rfl rfl ?_
   intro rc hst hpd hps has hbd hsz9 hge l9 w6 hl9 hlp hmk g6 hw6
   have lt_hc4 := lt_of_heap hc4
   have lt_hb5 := lt_of_heap hb5
   have lt_hcq3 := lt_of_heap hcq3
   have lt_hcq4 := lt_of_heap hcq4
   have ltm : ∀ m ∈ mk, m < w36.heap.size := fun m_ hm_ => lt_of_heap (HM m_ hm_).2
   replace hwN := Nat.le_trans hwN g6.size
   replace hc4 := g6.heap hc4
   replace HI := hgr _ _ _ g6 HI
   replace HM := (fun m_ hm_ => And.intro (HM m_ hm_).1 (g6.heap (HM m_ hm_).2))
   clear hb21
   clear hb22
   clear hP_
   clear hS_
   clear hc29
   replace hb5 := g6.heap hb5
   replace hcq3 := g6.heap hcq3
   replace hcq4 := g6.heap hcq4
   generalize hmm : w36.heap.size = mk9 at *
   have hNm : N ≤ mk9 := by omega
   have hN6 : N ≤ w6.heap.size := hwN
   have hmm9 : ∀ m ∈ mk9 :: mk, N ≤ m ∧ m < w6.heap.size := fun m_ hm_ => by rcases List.mem_cons.1 hm_ with rfl | h_; (exact ⟨hNm, by omega⟩); (exact ⟨(HM m_ h_).1, by have := ltm m_ h_; omega⟩)
   have hmk9 : ∀ m ∈ mk9 :: mk, w6.heap[m]? = some (.deferred (some [])) := fun m_ hm_ => by rcases List.mem_cons.1 hm_ with rfl | h_; (exact hmk); (exact (HM m_ h_).2)
   obtain ⟨I2, hI2⟩ : ∃ I2 : Nat → World → Prop, I2 = fun i W => I ((own1 words bytes + (Nd.pathsL (kids.take j) pre 0).length) + i) W ∧ W.heap[q3]? = some (.cells #[.int .i64 x0, .int .i64 x1, .slice xa xn xc, .slice pa pn pc, .slice qa qn qc] 37 (0, 0)) ∧ W.heap[q4]? = some (.cells #[.slice (some ⟨b5, 0, none⟩) (pre ++ [(j : Int)]).length cs5.size] 31 (0, 0)) ∧ W.heap[b5]? = some (.cells cs5 3 (0, 0)) ∧ W.heap[b1]? = some (.cells #[.func (.yield l) #[] #[]] 126 (0, 0)) ∧ (∀ m ∈ mk9 :: mk, W.heap[m]? = some (.deferred (some []))) ∧ W.heap[l9]? = some (.loop rc) ∧ w6.heap.size ≤ W.heap.size := ⟨_, rfl⟩
   obtain ⟨Z2, hZ2⟩ : ∃ Z2 : World → Prop, Z2 = fun W => Z W ∧ (∀ m ∈ mk9 :: mk, W.heap[m]? = some (.deferred (some []))) ∧ W.heap[l9]? = some (.loop { rc with state := .done, pending := some .ret }) := ⟨_, rfl⟩
   have i0 : I2 0 w6 := by rw [hI2]; exact ⟨HI, hcq3, hcq4, hb5, hc4, hmk9, hlp, Nat.le_refl _⟩
   have iI : ∀ i W, I2 i W → W.heap[q3]? = some (.cells #[.int .i64 x0, .int .i64 x1, .slice xa xn xc, .slice pa pn pc, .slice qa qn qc] 37 (0, 0)) ∧ W.heap[q4]? = some (.cells #[.slice (some ⟨b5, 0, none⟩) (pre ++ [(j : Int)]).length cs5.size] 31 (0, 0)) ∧ Sees w0 W ∧ RowAt W 1 (some ⟨b5, 0, none⟩) (pre ++ [(j : Int)]).length ((pre ++ [(j : Int)]).map (.int .i64)) := by
    rw [hI2]; rintro i W ⟨g0, g1, g2, g3, -⟩
    exact ⟨g1, g2, (hI _ _ g0).2.2.1, ⟨by simp, by rw [List.length_append, List.length_singleton]; omega, fun _ => ⟨b5, 0, cs5, _, _, rfl, g3, by rw [List.drop_zero, Nat.mul_one]; exact h5t⟩⟩⟩
   have igr : ∀ i W W', Grow W W' → I2 i W → I2 i W' := by
    rw [hI2]; rintro i W W' g ⟨g1, g2, g3, g4, g6_, g7, g8, g9⟩
    exact ⟨hgr _ _ _ g g1, g.heap g2, g.heap g3, g.heap g4, g.heap g6_, fun m_ hm_ => g.heap (g7 m_ hm_), g.heap g8, Nat.le_trans g9 g.size⟩
   have iup : ∀ i W W' b o, I2 i W → w6.heap.size ≤ b → W.heap[b]? = some o → NotC o → Upd b W W' → I2 i W' := by
    rw [hI2]; rintro i W W' b o ⟨g1, g2, g3, g4, g6_, g7, g8, g9⟩ hb ho hn u
    have ne_ : ∀ {k : Nat} {cs : Array Value} {T : TypeId} {fr : Nat × Nat}, W.heap[k]? = some (Obj.cells cs T fr) → k ≠ b := fun hk he => by rw [he, ho] at hk; simp only [Option.some.injEq] at hk; exact hn _ _ _ hk
    exact ⟨hup _ _ _ _ _ g1 (Nat.le_trans hN6 hb) ho hn u, u.heap g2 (ne_ g2), u.heap g3 (ne_ g3), u.heap g4 (ne_ g4), u.heap g6_ (ne_ g6_), fun m_ hm_ => u.heap (g7 m_ hm_) (by have := (hmm9 m_ hm_).2; omega), u.heap g8 (by omega), by rw [u.size]; exact g9⟩
   have izp : ∀ W W' b o, Z2 W → w6.heap.size ≤ b → W.heap[b]? = some o → NotC o → Upd b W W' → Z2 W' := by
    rw [hZ2]; rintro W W' b o ⟨g1, g2, g3⟩ hb ho hn u
    exact ⟨hzp _ _ _ _ g1 (Nat.le_trans hN6 hb) ho hn u, fun m_ hm_ => u.heap (g2 m_ hm_) (by have := (hmm9 m_ hm_).2; omega), u.heap g3 (by omega)⟩
   refine Calls.mono (ih_ w6 (q1 := q3) (q2 := q4) (l := l9) (N := w6.heap.size) (t := kids[j]) (pre := pre ++ [(j : Int)]) (w0 := w0) hat ⟨fun h_ => by simp at h_, fun h_ => by cases h_⟩ h5a h5m (by rw [List.length_append, List.length_singleton]; omega) I2 Z2 (Nat.le_refl _) iI igr iup izp ?_ i0 (by omega)) ?_
   ·rintro i p w7 hp hi2 ad2 c2 R2 h2a h2b
    refine yields_of_W (ps := [43]) (vs := [_]) (n := 49) (by rw [hI2] at hi2; exact hi2.2.2.2.2.2.2.1) hps rfl hsz9 (by rfl) hge ?_
    rw [has, hbd]
    have hl7 : w7.heap[l9]? = some (.loop rc) := by rw [hI2] at hi2; exact hi2.2.2.2.2.2.2.1
    have h37 : w7.heap[b1]? = some (.cells #[.func (.yield l) #[] #[]] 126 (0, 0)) := by rw [hI2] at hi2; exact hi2.2.2.2.2.1
    have hi7 := hi2
    have hkk : Keeps 33 w6.heap.size w7 w7 := fun _ _ _ h_ _ => h_
    have hs7 : w6.heap.size ≤ w7.heap.size := by rw [hI2] at hi2; exact hi2.2.2.2.2.2.2.2
    refine W_region rfl ?_
    refine stp (r_alloc ?_)
    intro b37 w38 hb39 hc40 g41
    refine stn (r_storeAll rfl rfl hc40 (by rfl) (by rfl) (by rfl) ?_)
    intro w42 hc43 u44
    have g45 := g41.upd u44 hb39
    have hN_b37 := Nat.le_trans hs7 hb39
    replace hl7 := g45.heap hl7
    replace h37 := g45.heap h37
    replace hi7 := igr _ _ _ g45 hi7
    replace hkk := hkk.trans (Keeps.grow g45)
    replace R2 := R2.sees (Sees.typ_grow g45)
    replace hs7 := Nat.le_trans hs7 g45.size
    clear u44 g41 hb39 hc40
    refine WL_nil ?_
    refine ⟨rc, hl7, hst, ?_⟩
    have u1 := upd_put (o' := .loop { rc with state := .busy }) hl7
    have kl := put_same (o' := .loop { rc with state := .busy }) hl7
    have hlN : l9 < w6.heap.size := by omega
    have k37 := u1.heap h37 (fun he_ => by rw [he_, hl7] at h37; cases h37)
    have k7b := u1.heap hc43 (fun he_ => by rw [he_, hl7] at hc43; cases hc43)
    have kkk := hkk.trans (Keeps.upd u1 hlN)
    have kR2 := R2.sees (Sees.typ_upd u1 (fun _ _ he_ => by rw [hl7] at he_; cases he_))
    have hi8 := hi7
    rw [hI2] at hi8
    obtain ⟨j1, j2, j3, j4, j6, j7, -, j9⟩ := hi8
    have nb_ : ∀ {k : Nat} {cs : Array Value} {T : TypeId} {fr : Nat × Nat}, w42.heap[k]? = some (Obj.cells cs T fr) → k ≠ l9 := fun hk he => by rw [he, hl7] at hk; cases hk
    have m1 := hup _ _ _ _ _ j1 (by omega) hl7 (fun _ _ _ he_ => by cases he_) u1
    have m2 := u1.heap j2 (nb_ j2)
    have m3 := u1.heap j3 (nb_ j3)
    have m4 := u1.heap j4 (nb_ j4)
    have m7 : ∀ m ∈ mk9 :: mk, _ := fun m_ hm_ => u1.heap (j7 m_ hm_) (fun he_ => by have h_ := j7 m_ hm_; rw [he_, hl7] at h_; cases h_)
    have m9 : w6.heap.size ≤ _ := Nat.le_trans j9 (Nat.le_of_eq u1.size.symm)
    generalize w42.putObj l9 (.loop { rc with state := .busy }) = w8 at *
    clear hi7 hi2 j1 j2 j3 j4 j6 j7 j9 nb_ hkk R2 h37 hl7 u1 hc43 hs7
    refine W_block ?_
    refine W_seq (W_region rfl ?_)
    refine stp (r_load (v := .func (.yield l) #[] #[]) rfl k37 rfl ?_)
    refine stp (r_loadAll rfl k7b (by rfl) ?_)
    refine WL_some (og rfl ?_)
    have hilt : i < (kids[j].paths (pre ++ [(j : Int)])).length := (List.getElem?_eq_some_iff.1 hp).1
    refine r_yield rfl (Yields.mono ?_ (hy ((own1 words bytes + (Nd.pathsL (kids.take j) pre 0).length) + i) p _ (by rw [paths_kid hj hilt]; exact hp) m1 ad2 c2 kR2 h2a h2b))
    rintro v_ w46 ⟨HK_, b9, rfl, HT9, HZ9⟩
    have n2 := HK_ _ _ (by omega) m2 (fun _ _ h_ => by simp at h_)
    have n3 := HK_ _ _ (by omega) m3 (fun _ _ h_ => by simp at h_)
    have n4 := HK_ _ _ (by omega) m4 (fun _ _ h_ => by simp at h_)
    have n37 := HK_ _ _ hN_b1 k37 (fun _ _ h_ => by simp at h_)
    have nl := HK_ _ _ (by omega) kl (fun _ _ h_ => by simp at h_)
    have n7 : ∀ m ∈ mk9 :: mk, _ := fun m_ hm_ => HK_ _ _ (hmm9 m_ hm_).1 (m7 m_ hm_) (fun _ _ h_ => by simp at h_)
    have nk := kkk.trans (HK_.mono hN6)
    refine stp (r_not rfl ?_)
    refine WL_nil ?_
    refine W_cond2 (b := (!b9)) rfl (fun h2 => ?_) (fun h2 => ?_)
    ·-- true
     simp only [Bool.and_eq_true, Bool.or_eq_true, Bool.not_eq_true', Bool.and_eq_false_iff, Bool.or_eq_false_iff, Bool.not_eq_false', decide_eq_true_eq, decide_eq_false_iff_not, Bool.not_true, Bool.not_false, Bool.not_eq_eq_eq_not, Bool.or_false, Bool.and_true, Bool.or_true, Bool.and_false, Bool.false_or, Bool.true_and, Bool.true_or, Bool.false_and, Bool.false_eq_true, Bool.true_eq_false] at h2
     have hb9 : b9 = false := by simpa using h2
     refine W_ret ?_
     have u2 := upd_put (o' := .loop { ({ rc with state := .busy } : Loop) with state := .done, pending := some .ret }) nl
     refine ⟨_, nl, nk.trans (Keeps.upd u2 hlN), false, rfl, (fun h_ => by cases h_), fun _ => ?_⟩
     rw [hZ2]
     exact ⟨hzp _ _ _ _ (HZ9 hb9) (by omega) nl (fun _ _ _ he_ => by cases he_) u2, fun m_ hm_ => u2.heap (n7 m_ hm_) (fun he_ => by have h_ := n7 m_ hm_; rw [he_, nl] at h_; cases h_), put_same nl⟩
    ·-- false
     simp only [Bool.and_eq_true, Bool.or_eq_true, Bool.not_eq_true', Bool.and_eq_false_iff, Bool.or_eq_false_iff, Bool.not_eq_false', decide_eq_true_eq, decide_eq_false_iff_not, Bool.not_true, Bool.not_false, Bool.not_eq_eq_eq_not, Bool.or_false, Bool.and_true, Bool.or_true, Bool.and_false, Bool.false_or, Bool.true_and, Bool.true_or, Bool.false_and, Bool.false_eq_true, Bool.true_eq_false] at h2
     have hb9 : b9 = true := by simpa using h2
     refine W_skip ?_
     have u2 := upd_put (o' := .loop rc) nl
     have hs9 := lt_of_heap nl
     refine ⟨_, nl, ?_⟩
     rw [loop_again hst hpd]
     refine ⟨nk.trans (Keeps.upd u2 hlN), true, rfl, fun _ => ?_, (fun h_ => by cases h_)⟩
     rw [hI2]
     exact ⟨hup _ _ _ _ _ (HT9 hb9) (by omega) nl (fun _ _ _ he_ => by cases he_) u2, u2.heap n2 (fun he_ => by rw [he_, nl] at n2; cases n2), u2.heap n3 (fun he_ => by rw [he_, nl] at n3; cases n3), u2.heap n4 (fun he_ => by rw [he_, nl] at n4; cases n4), u2.heap n37 (fun he_ => by rw [he_, nl] at n37; cases n37), fun m_ hm_ => u2.heap (n7 m_ hm_) (fun he_ => by have h_ := n7 m_ hm_; rw [he_, nl] at h_; cases h_), put_same nl, by rw [u2.size]; omega⟩
   ·rintro r_ w7 ⟨v_, rfl, hI9 | hZ9⟩
    ·
     rw [hI2] at hI9
     obtain ⟨g1, -, -, -, g6_, g7, g8, g9⟩ := hI9
     refine ⟨_, rc, rfl, g8, by rw [hst]; simp, ?_⟩
     simp only [hpd]
     generalize hX : w7.putObj l9 _ = w8
     have u1 : Upd l9 w7 w8 := by rw [← hX]; exact upd_put g8
     have HI8 := hup _ _ _ _ _ g1 (by omega) g8 (fun _ _ _ he_ => by cases he_) u1
     have hc4x := u1.heap g6_ (fun he_ => by rw [he_, g8] at g6_; cases g6_)
     have HM8 : ∀ m ∈ mk9 :: mk, N ≤ m ∧ w8.heap[m]? = some (.deferred (some [])) := fun m_ hm_ => ⟨(hmm9 m_ hm_).1, u1.heap (g7 m_ hm_) (fun he_ => by have h_ := g7 m_ hm_; rw [he_, g8] at h_; cases h_)⟩
     have hwN8 : N ≤ w8.heap.size := by rw [u1.size]; omega
     clear hX u1
     refine W_region rfl ?_
     refine stp (r_add rfl rfl ?_ ?_); constructor <;> omega
     refine stp (r_move_int rfl ?_)
     refine WL_nil ?_
     refine ⟨_, ?_, j + 1, mk9 :: mk, rfl, fr_of ⟨rfl, rfl, rfl, rfl, congrArg (Value.int .i64) (by omega), trivial⟩, by omega, List.nodup_cons.2 ⟨fun h_ => Nat.lt_irrefl _ (ltm _ h_), hnd⟩, hwN8, hc4x, (by rw [pathsL_take _ _ _ hj, ← Nat.add_assoc]; exact HI8), HM8⟩
     omega
    ·
     rw [hZ2] at hZ9
     obtain ⟨g1, g2, g3⟩ := hZ9
     refine ⟨_, _, rfl, g3, by simp, ?_⟩
     simp only []
     generalize hX : w7.putObj l9 _ = w8
     have u1 : Upd l9 w7 w8 := by rw [← hX]; exact upd_put g3
     have hz8 := hzp _ _ _ _ g1 (by omega) g3 (fun _ _ _ he_ => by cases he_) u1
     obtain ⟨w9_, ht_, hJ_⟩ := marks_taken (P := Try.prog) (N := N) Z (fun W_ W2_ b_ o_ hJ_ => hzp W_ W2_ b_ o_ hJ_) (mk9 :: mk) w8 (List.nodup_cons.2 ⟨fun h_ => Nat.lt_irrefl _ (ltm _ h_), hnd⟩) (fun m_ hm_ => ⟨(hmm9 m_ hm_).1, u1.heap (g2 m_ hm_) (fun he_ => by have h_ := g2 m_ hm_; rw [he_, g3] at h_; cases h_)⟩) hz8
     exact retM (vs := []) ht_ trivial (.inr hJ_)
  ·-- false
   replace hlt := of_decide_eq_false hlt
   have hj9 : j = kids.length := by omega
   subst hj9
   rw [List.take_length] at HI
   have HI9 : I (((Nd.mk kind size words bytes kids).paths pre)).length w19 := by rw [paths_len]; exact HI
   refine W_exit ?_
   obtain ⟨w9_, ht_, hJ_⟩ := marks_taken (P := Try.prog) (N := N) (I (((Nd.mk kind size words bytes kids).paths pre)).length) (fun W_ W2_ b_ o_ hJ_ => hup _ W_ W2_ b_ o_ hJ_) mk _ hnd HM HI9
   exact retMn (vs := []) ht_ trivial (.inl hJ_)

set_option maxRecDepth 100000 in
theorem paths_calls (w : World) {y0 y1 most : Int} {ya za ua : Option Addr} {yn yc zn zc un uc : Nat} {t : Nd} (hT0 : NodeR w [.int .i64 y0, .int .i64 y1, .slice ya yn yc, .slice za zn zc, .slice ua un uc] t) (hd : t.dep ≤ 1000) (hm : inR .i64 most) : Calls Try.prog 24 #[.agg #[.int .i64 y0, .int .i64 y1, .slice ya yn yc, .slice za zn zc, .slice ua un uc], .int .i64 most] w (Ret fun v w' => ∃ ad c xs, v = .slice ad ((t.paths []).take (min most 10000).toNat).length c ∧ ((t.paths []).take (min most 10000).toNat).length ≤ c ∧ c ≤ maxLen ∧ RowAt w' 2 ad ((t.paths []).take (min most 10000).toNat).length xs ∧ PathsR w' xs ((t.paths []).take (min most 10000).toNat) ∧ Grow w w') := by
 simp only [inR] at hm
 obtain ⟨M, hM⟩ : ∃ M, M = (min most 10000).toNat := ⟨_, rfl⟩
 rw [← hM]
 have hM4 : M ≤ 10000 := by omega
 have G := Grow.rfl' w
 refine calls_ret Try.func24 Try.ntmps24 Try.results24 rfl rfl ?_
 refine W_seq (W_region rfl ?_)
 refine WL_some (og rfl ?_)
 (first | refine r_box_agg rfl ?_ | refine r_box_int rfl ?_ | refine r_box_slice rfl ?_ | refine r_box rfl rfl ?_)
 intro b1 w2 hb3 hc4 g5
 have hge6 := Nat.le_trans G.size hb3
 replace G := G.tr g5
 clear g5 hb3
 refine WL_some (og rfl ?_)
 (first | refine r_box_agg rfl ?_ | refine r_box_int rfl ?_ | refine r_box_slice rfl ?_ | refine r_box rfl rfl ?_)
 intro b7 w8 hb9 hc10 g11
 have hge12 := Nat.le_trans G.size hb9
 replace hc4 := g11.heap hc4
 replace G := G.tr g11
 clear g11 hb9
 refine stp (r_assign_slice rfl ?_)
 refine WL_nil ?_
 refine W_seq (W_region rfl ?_)
 refine stp (r_alloc ?_)
 intro b13 w14 hb15 hc16 g17
 refine WL_nil ?_
 refine W_seq ?_
 refine W_seq (W_region rfl ?_)
 have hge18 := Nat.le_trans G.size hb15
 have ne19 := Nat.ne_of_lt (Nat.lt_of_lt_of_le (lt_of_heap hc4) hb15)
 have ne20 := Nat.ne_of_lt (Nat.lt_of_lt_of_le (lt_of_heap hc10) hb15)
 replace hc4 := g17.heap hc4
 replace hc10 := g17.heap hc10
 replace G := G.tr g17
 clear g17 hb15
 refine stp (r_loadAll rfl hc4 (by rfl) ?_)
 refine WL_some (og rfl ?_)
 have lt0_hc4 := lt_of_heap hc4
 have lt0_hc10 := lt_of_heap hc10
 have lt0_hc16 := lt_of_heap hc16
 refine r_call rfl (each_calls _) ?_
 rintro v_ w21 ⟨q1, q2, rfl, hq1, hq2, hc1, hc2, g_⟩
 replace hc4 := g_.heap hc4
 replace hc10 := g_.heap hc10
 replace hc16 := g_.heap hc16
 replace G := G.tr g_
 clear g_
 refine WL_nil ?_
 refine W_block ?_
 refine W_rangeC rfl rfl ?_
 intro rc hst hpd hps has hbd hsz hge l w6 hl hlp hmk g6 hw6
 have lt_hc4 := lt_of_heap hc4
 have lt_hc10 := lt_of_heap hc10
 have lt_hc16 := lt_of_heap hc16
 have lt_hc1 := lt_of_heap hc1
 have lt_hc2 := lt_of_heap hc2
 replace hc4 := g6.heap hc4
 replace hc10 := g6.heap hc10
 replace hc16 := g6.heap hc16
 replace hc1 := g6.heap hc1
 replace hc2 := g6.heap hc2
 have hGs := G.size
 have hg5 := hge18
 have hg3 := hge12
 replace G := G.tr g6
 generalize hmm : w21.heap.size = mk at *
 obtain ⟨I, hI⟩ : ∃ I : Nat → World → Prop, I = fun j W => j ≤ M ∧ (∃ v xs, W.heap[b13]? = some (.cells #[v] 53 (0, 0)) ∧ W.ownsRow w.heap.size 33 2 v j xs ∧ PathsR (seeT 3 W) xs ((t.paths []).take j)) ∧ W.heap[b7]? = some (.cells #[.int .i64 most] 3 (0, 0)) ∧ W.heap[q1]? = some (.cells #[.int .i64 y0, .int .i64 y1, .slice ya yn yc, .slice za zn zc, .slice ua un uc] 37 (0, 0)) ∧ W.heap[q2]? = some (.cells #[.slice none 0 0] 31 (0, 0)) ∧ W.heap[l]? = some (.loop rc) ∧ W.heap[mk]? = some (.deferred (some [])) ∧ Grow w W := ⟨_, rfl⟩
 obtain ⟨Z, hZ⟩ : ∃ Z : World → Prop, Z = fun W => ((∃ v xs, W.heap[b13]? = some (.cells #[v] 53 (0, 0)) ∧ W.ownsRow w.heap.size 33 2 v M xs ∧ PathsR (seeT 3 W) xs ((t.paths []).take M)) ∧ M ≤ (t.paths []).length) ∧ W.heap[l]? = some (.loop { rc with state := .done, pending := some (.exit 0) }) ∧ W.heap[mk]? = some (.deferred (some [])) ∧ Grow w W := ⟨_, rfl⟩
 have i0 : I 0 w6 := by rw [hI]; exact ⟨Nat.zero_le _, ⟨_, [], hc16, World.ownsRow_nil _ _ _ _, by simpa using PathsR.nil⟩, hc10, hc1, hc2, hlp, hmk, G⟩
 have iI : ∀ i W, I i W → W.heap[q1]? = some (.cells #[.int .i64 y0, .int .i64 y1, .slice ya yn yc, .slice za zn zc, .slice ua un uc] 37 (0, 0)) ∧ W.heap[q2]? = some (.cells #[.slice none ([] : List Int).length 0] 31 (0, 0)) ∧ Sees w W ∧ RowAt W 1 none ([] : List Int).length (([] : List Int).map (.int .i64)) := by rw [hI]; rintro i W ⟨-, -, -, g1, g2, -, -, g3⟩; exact ⟨g1, g2, Sees.of_grow g3, RowAt.empty _ _ _⟩
 have igr : ∀ i W W', Grow W W' → I i W → I i W' := by rw [hI]; rintro i W W' g ⟨g0, ⟨v, xs, g1, g2, g3⟩, g4, g5, g6, g7, g8, g9⟩; exact ⟨g0, ⟨v, xs, g.heap g1, own_grow g2 g, g3.sees (Sees.typ_grow g)⟩, g.heap g4, g.heap g5, g.heap g6, g.heap g7, g.heap g8, g9.tr g⟩
 have iup : ∀ i W W' b o, I i W → w6.heap.size ≤ b → W.heap[b]? = some o → NotC o → Upd b W W' → I i W' := by
  rw [hI]; rintro i W W' b o ⟨g0, ⟨v, xs, g1, g2, g3⟩, g4, g5, g6, g7, g8, g9⟩ hb ho hn u
  have ne_ : ∀ {k : Nat} {cs : Array Value} {T : TypeId} {fr : Nat × Nat}, W.heap[k]? = some (Obj.cells cs T fr) → k ≠ b := fun hk he => by rw [he, ho] at hk; simp only [Option.some.injEq] at hk; exact hn _ _ _ hk
  exact ⟨g0, ⟨v, xs, u.heap g1 (ne_ g1), (own_upd g2 u (own_neC g2 fun cs T fr he => ne_ he rfl)), g3.sees (Sees.typ_upd u (fun cs fr he => ne_ he rfl))⟩, u.heap g4 (ne_ g4), u.heap g5 (ne_ g5), u.heap g6 (ne_ g6), u.heap g7 (by omega), u.heap g8 (by omega), g9.upd u (by omega)⟩
 have izp : ∀ W W' b o, Z W → w6.heap.size ≤ b → W.heap[b]? = some o → NotC o → Upd b W W' → Z W' := by
  rw [hZ]; rintro W W' b o ⟨⟨⟨v, xs, g1, g2, g3⟩, g4⟩, g7, g8, g9⟩ hb ho hn u
  have ne_ : ∀ {k : Nat} {cs : Array Value} {T : TypeId} {fr : Nat × Nat}, W.heap[k]? = some (Obj.cells cs T fr) → k ≠ b := fun hk he => by rw [he, ho] at hk; simp only [Option.some.injEq] at hk; exact hn _ _ _ hk
  exact ⟨⟨⟨v, xs, u.heap g1 (ne_ g1), (own_upd g2 u (own_neC g2 fun cs T fr he => ne_ he rfl)), g3.sees (Sees.typ_upd u (fun cs fr he => ne_ he rfl))⟩, g4⟩, u.heap g7 (by omega), u.heap g8 (by omega), g9.upd u (by omega)⟩
 refine Calls.mono (each1_calls _ w6 (q1 := q1) (q2 := q2) (l := l) (N := w6.heap.size) (t := t) (pre := []) (w0 := w) hT0 ⟨fun _ => rfl, fun _ => rfl⟩ (Nat.le_refl _) (Nat.zero_le _) (by simpa using hd) I Z (Nat.le_refl _) iI igr iup izp ?_ i0 (Nat.le_refl _)) ?_
 ·rintro i p w7 hp hi7 ad2 c2 R2 h2a h2b
  rw [hI] at hi7
  obtain ⟨hiM, ⟨vc2, xs, h1, own2, hPR⟩, h3, h4, h5, h6, h7, G7⟩ := hi7
  refine yields_of_W (ps := [9]) (vs := [_]) (n := 20) h6 hps rfl hsz (by rfl) hge ?_
  rw [has, hbd]
  have hkk : Keeps 33 w6.heap.size w7 w7 := fun _ _ _ h_ _ => h_
  refine W_region rfl ?_
  refine stp (r_alloc ?_)
  intro b22 w23 hb24 hc25 g26
  refine stn (r_storeAll rfl rfl hc25 (by rfl) (by rfl) (by rfl) ?_)
  intro w27 hc28 u29
  have g30 := g26.upd u29 hb24
  replace h1 := g30.heap h1
  replace h3 := g30.heap h3
  replace h4 := g30.heap h4
  replace h5 := g30.heap h5
  replace h6 := g30.heap h6
  replace h7 := g30.heap h7
  replace own2 := own_grow own2 g30
  replace G7 := G7.tr g30
  replace hPR := hPR.sees (Sees.typ_grow g30)
  replace R2 := R2.sees (Sees.typ_grow g30)
  replace hkk := hkk.trans (Keeps.grow g30)
  clear u29 g26 hb24 hc25
  refine WL_nil ?_
  refine ⟨rc, h6, hst, ?_⟩
  have u1 := upd_put (o' := .loop { rc with state := .busy }) h6
  have k6 := put_same (o' := .loop { rc with state := .busy }) h6
  have lt6 := lt_of_heap hc28
  have kb := u1.heap hc28 (fun he_ => by rw [he_, h6] at hc28; cases hc28)
  have k1 := u1.heap h1 (fun he_ => by rw [he_, h6] at h1; cases h1)
  have k3 := u1.heap h3 (fun he_ => by rw [he_, h6] at h3; cases h3)
  have k4 := u1.heap h4 (fun he_ => by rw [he_, h6] at h4; cases h4)
  have k5 := u1.heap h5 (fun he_ => by rw [he_, h6] at h5; cases h5)
  have k2 := own_upd own2 u1 (own_ne_loop own2 h6)
  have k7 := u1.heap h7 (by omega)
  have G8 := G7.upd u1 (by omega)
  have hlN : l < w6.heap.size := by omega
  have kk1 := hkk.trans (Keeps.upd u1 hlN)
  have kP := hPR.sees (Sees.typ_upd u1 (fun _ _ he_ => by rw [h6] at he_; cases he_))
  have kR := R2.sees (Sees.typ_upd u1 (fun _ _ he_ => by rw [h6] at he_; cases he_))
  generalize w27.putObj l (.loop { rc with state := .busy }) = w8 at *
  clear u1 h1 own2 h3 h4 h5 h7 hkk hPR R2 hc28
  obtain ⟨ado, n2, c2o, rfl⟩ := own_slice k2
  have hn2 : n2 = i := own_len k2
  rw [hn2] at k1 k2
  clear hn2
  refine W_block ?_
  refine W_seq ?_
  refine W_seq (W_region rfl ?_)
  refine stp (r_load (v := .slice ado i c2o) rfl k1 rfl ?_)
  refine stp (r_len rfl rfl rfl ?_)
  refine stp (r_load (v := .int .i64 most) rfl k3 rfl ?_)
  refine stp (r_min rfl rfl rfl ?_)
  refine stp (r_geq rfl rfl ?_)
  refine WL_nil ?_
  refine W_cond2 (b := (decide ((i : Int) ≥ (if 10000 < most then 10000 else most)))) rfl (fun h2 => ?_) (fun h2 => ?_)
  ·-- true
   replace h2 := of_decide_eq_true h2
   have hiM2 : i = M := by split at h2 <;> omega
   refine W_exit ?_
   -- exit
   have u2 := upd_put (o' := .loop { ({ rc with state := .busy } : Loop) with state := .done, pending := some (.exit 0) }) k6
   refine ⟨_, k6, kk1.trans (Keeps.upd u2 hlN), false, rfl, (fun h_ => by cases h_), fun _ => ?_⟩
   rw [hZ]
   exact ⟨⟨⟨_, xs, u2.heap k1 (fun he_ => by rw [he_, k6] at k1; cases k1), hiM2 ▸ own_upd k2 u2 (own_ne_loop k2 k6), hiM2 ▸ kP.sees (Sees.typ_upd u2 (fun _ _ he_ => by rw [k6] at he_; cases he_))⟩, by have := (List.getElem?_eq_some_iff.1 hp).1; omega⟩, put_same k6, u2.heap k7 (by omega), G8.upd u2 (by omega)⟩
  ·-- false
   replace h2 := of_decide_eq_false h2
   have hiM2 : i < M := by split at h2 <;> omega
   refine W_skip ?_
   refine W_region rfl ?_
   refine stp (r_load (v := .slice ado i c2o) rfl k1 rfl ?_)
   refine stp (r_loadAll rfl kb (by rfl) ?_)
   refine stp (r_buildSlice (cs := #[.slice ad2 p.1.length c2, .int .i64 p.2]) (el := 33) (fun w => by kernel_rfl) ?_)
   intro bs31 w32 hb33 hc34 g35
   replace k1 := g35.heap k1
   replace k3 := g35.heap k3
   replace k4 := g35.heap k4
   replace k5 := g35.heap k5
   replace k6 := g35.heap k6
   replace k7 := g35.heap k7
   replace kb := g35.heap kb
   replace k2 := own_grow k2 g35
   replace G8 := G8.tr g35
   replace kk1 := kk1.trans (Keeps.grow g35)
   replace kP := kP.sees (Sees.typ_grow g35)
   replace kR := kR.sees (Sees.typ_grow g35)
   clear g35
   refine stp (r_append rfl rfl rfl rfl k2 (Row.of_block (n := 1) hc34 rfl rfl (by omega)) (fun q_ hq_ => by simp at hq_; rcases hq_ with rfl | rfl <;> rfl) (by simp only [maxLen]; omega) (by omega) G8.size ?_)
   intro v9 w9 own9 gr9
   have G9 := G8.grown gr9 (own_ge k2)
   have m1 := gr_heap gr9 k1 (own_ne k2 k1 (by decide))
   have m3 := gr_heap gr9 k3 (own_ne k2 k3 (by decide))
   have m4 := gr_heap gr9 k4 (own_ne k2 k4 (by decide))
   have m5 := gr_heap gr9 k5 (own_ne k2 k5 (by decide))
   have m6 := gr_heap gr9 k6 (own_ne_loop k2 k6)
   have m7 := gr_heap gr9 k7 (own_ne_def k2 k7)
   have mP := kP.sees (Sees.typ_gr gr9 k2 (by decide))
   have mR := kR.sees (Sees.typ_gr gr9 k2 (by decide))
   have mk9 : Keeps 33 w6.heap.size w7 w9 := kk1.trans (Keeps.gr gr9 k2)
   refine stn (r_store1 (v := v9) rfl rfl (own_one own9) m1 (by rfl) (by rfl) ?_)
   intro w10 n1 u10
   refine WL_nil ?_
   have n6 := u10.heap m6 (by omega)
   have u2 := upd_put (o' := .loop rc) n6
   refine ⟨_, n6, ?_⟩
   rw [loop_again hst hpd]
   have own10 := own_upd (own_upd own9 u10 (own_ne own9 m1 (by decide))) u2 (own_ne_loop (own_upd own9 u10 (own_ne own9 m1 (by decide))) n6)
   refine ⟨(mk9.trans (Keeps.upd u10 (by omega))).trans (Keeps.upd u2 hlN), true, rfl, fun _ => ?_, (fun h_ => by cases h_)⟩
   rw [hI]
   exact ⟨hiM2, ⟨_, _, u2.heap n1 (by omega), own10, by rw [List.take_add_one, hp]; exact (PathsR.snoc mR h2a h2b mP).sees (Sees.trans (Sees.typ_upd u10 (fun _ _ he_ => by rw [m1] at he_; simp at he_)) (Sees.typ_upd u2 (fun _ _ he_ => by rw [n6] at he_; cases he_)))⟩, u2.heap (u10.heap m3 (by omega)) (by omega), u2.heap (u10.heap m4 (by omega)) (by omega), u2.heap (u10.heap m5 (by omega)) (by omega), put_same n6, u2.heap (u10.heap m7 (by omega)) (by omega), (G9.upd u10 (by omega)).upd u2 (by omega)⟩
 ·rintro r_ w7 ⟨v_, rfl, hI9 | hZ9⟩
  ·
   rw [hI] at hI9
   obtain ⟨g0, ⟨v, xs, g1, g2, g3⟩, -, -, -, g7, g8, g9⟩ := hI9
   refine ⟨_, rc, rfl, g7, by rw [hst]; simp, ?_⟩
   simp only [hpd]
   rw [List.take_length] at g3
   have hLL : (t.paths []).take M = (t.paths []) := List.take_of_length_le g0
   generalize hX : w7.putObj l _ = w8
   have u1 : Upd l w7 w8 := by rw [← hX]; exact upd_put g7
   have k1 := u1.heap g1 (fun he_ => by rw [he_, g7] at g1; cases g1)
   have k2 := own_upd g2 u1 (own_ne_loop g2 g7)
   have k7 := u1.heap g8 (by omega)
   have kP := g3.sees (Sees.typ_upd u1 (fun _ _ he_ => by rw [g7] at he_; cases he_))
   clear G
   have G := g9.upd u1 (by omega)
   clear u1 hX
   obtain ⟨ado, n2, c2o, rfl⟩ := own_slice k2
   have hn2 := own_len k2
   rw [hn2] at k1 k2
   clear hn2
   refine W_seq (W_region rfl ?_)
   refine stp (r_load (v := .slice ado ((t.paths []).length) c2o) rfl k1 rfl ?_)
   refine stp (r_assign_slice rfl ?_)
   refine WL_nil ?_
   refine W_ret ?_
   have u2 := upd_put (o' := .deferred none) k7
   have own9 := own_upd k2 u2 (own_ne_def k2 k7)
   have hP9 := kP.sees (Sees.trans (Sees.typ_upd u2 (fun _ _ he_ => by rw [k7] at he_; cases he_)) (Sees.typ _ _))
   obtain ⟨ad9, c9, hs9, h9a, h9b, R9⟩ := own_row own9 (by omega)
   simp only [Value.slice.injEq] at hs9
   obtain ⟨rfl, -, rfl⟩ := hs9
   rw [hLL]
   exact retM (vs := [_]) ⟨mk, _, rfl, run_takeDeferred k7, rfl⟩ ⟨rfl, trivial⟩ ⟨_, _, _, rfl, h9a, h9b, R9, hP9, G.upd u2 (by omega)⟩
  ·
   rw [hZ] at hZ9
   obtain ⟨⟨⟨v, xs, g1, g2, g3⟩, g4⟩, g7, g8, g9⟩ := hZ9
   refine ⟨_, _, rfl, g7, by simp, ?_⟩
   simp only []
   generalize hX : w7.putObj l _ = w8
   have u1 : Upd l w7 w8 := by rw [← hX]; exact upd_put g7
   have k1 := u1.heap g1 (fun he_ => by rw [he_, g7] at g1; cases g1)
   have k2 := own_upd g2 u1 (own_ne_loop g2 g7)
   have k7 := u1.heap g8 (by omega)
   have kP := g3.sees (Sees.typ_upd u1 (fun _ _ he_ => by rw [g7] at he_; cases he_))
   clear G
   have G := g9.upd u1 (by omega)
   clear u1 hX
   obtain ⟨ado, n2, c2o, rfl⟩ := own_slice k2
   have hn2 := own_len k2
   rw [hn2] at k1 k2
   clear hn2
   refine W_seq (W_region rfl ?_)
   refine stp (r_load (v := .slice ado M c2o) rfl k1 rfl ?_)
   refine stp (r_assign_slice rfl ?_)
   refine WL_nil ?_
   refine W_ret ?_
   have u2 := upd_put (o' := .deferred none) k7
   have own9 := own_upd k2 u2 (own_ne_def k2 k7)
   have hP9 := kP.sees (Sees.trans (Sees.typ_upd u2 (fun _ _ he_ => by rw [k7] at he_; cases he_)) (Sees.typ _ _))
   obtain ⟨ad9, c9, hs9, h9a, h9b, R9⟩ := own_row own9 (by omega)
   simp only [Value.slice.injEq] at hs9
   obtain ⟨rfl, -, rfl⟩ := hs9
   have hLM : ((t.paths []).take M).length = M := by rw [List.length_take]; omega
   rw [hLM]
   exact retM (vs := [_]) ⟨mk, _, rfl, run_takeDeferred k7, rfl⟩ ⟨rfl, trivial⟩ ⟨_, _, _, rfl, h9a, h9b, R9, hP9, G.upd u2 (by omega)⟩
end Go.Proofs.Ytfhfecepcnapfaa.K
namespace Go.Proofs.Ytfhfecepcnapfaa.K
open Go Go.RowKit Go.Proofs
attribute [local irreducible] Run1 OpG WL W AO Gives
set_option maxRecDepth 100000 in
theorem behind_calls (w : World) {ad : Option Addr} {c : Nat} {steps : List Int} {k a : Int} (R : RowAt w 1 ad steps.length (steps.map (.int .i64))) (hc : steps.length ≤ c) (hc2 : c ≤ maxLen) (hl : steps.length ≤ 100000) : Calls Try.prog 53 #[.int .i64 k, .agg #[.slice ad steps.length c, .int .i64 a]] w (Ret fun v w' => ∃ ad9 c9, v = .agg #[.slice ad9 (k :: steps).length c9, .int .i64 a] ∧ (k :: steps).length ≤ c9 ∧ c9 ≤ maxLen ∧ RowAt (seeT 3 w') 1 ad9 (k :: steps).length ((k :: steps).map (.int .i64)) ∧ Grow w w') := by
 have G := Grow.rfl' w
 refine calls_ret Try.func53 Try.ntmps53 Try.results53 rfl rfl ?_
 refine W_seq (W_region rfl ?_)
 refine WL_some (og rfl ?_)
 (first | refine r_box_agg rfl ?_ | refine r_box_int rfl ?_ | refine r_box_slice rfl ?_ | refine r_box rfl rfl ?_)
 intro b1 w2 hb3 hc4 g5
 have hge6 := Nat.le_trans G.size hb3
 replace G := G.tr g5
 clear g5 hb3
 refine stp (r_alloc ?_)
 intro b7 w8 hb9 hc10 g11
 refine WL_nil ?_
 refine W_seq (W_region rfl ?_)
 refine stp (r_move_int rfl ?_)
 have hge12 := Nat.le_trans G.size hb9
 have ne13 := Nat.ne_of_lt (Nat.lt_of_lt_of_le (lt_of_heap hc4) hb9)
 replace hc4 := g11.heap hc4
 replace G := G.tr g11
 clear g11 hb9
 refine stp (r_buildSlice (cs := #[.int .i64 k]) (el := 3) (fun w => by kernel_rfl) ?_)
 intro bs14 w15 hb16 hc17 g18
 have hge19 := Nat.le_trans G.size hb16
 have ne20 := Nat.ne_of_lt (Nat.lt_of_lt_of_le (lt_of_heap hc10) hb16)
 replace hc4 := g18.heap hc4
 replace hc10 := g18.heap hc10
 replace G := G.tr g18
 clear g18
 refine stp (r_assign_slice rfl ?_)
 refine WL_nil ?_
 refine W_seq (W_region rfl ?_)
 refine stp (r_move_slice rfl ?_)
 refine stp (r_fieldAddr rfl ?_)
 refine stp (r_load (v := .slice ad steps.length c) rfl hc4 rfl ?_)
 refine WL_some (og rfl ?_)
 have own0 := own_lit (n := 1) (sz := 1) hc17 hge19 rfl (by decide)
 refine r_append rfl rfl rfl rfl own0 ⟨_, c, rfl, hc, hc2, R.grow G⟩ (fun q_ hq_ => by obtain ⟨z_, -, rfl⟩ := List.mem_map.1 hq_; rfl) (by simp only [maxLen]; omega) (by omega) G.size ?_
 intro v9 w9 own9 gr9
 have G9 := G.grown gr9 (own_ge own0)
 rw [show 1 + steps.length = (k :: steps).length from by simp only [List.length_cons]; omega] at own9
 obtain ⟨ad9, c9, rfl, h9a, h9b, R9⟩ := own_typ own9 (by simp only [List.length_cons]; omega)
 have k3 := gr_heap gr9 hc4 (own_ne own0 hc4 (by decide))
 have k4 := gr_heap gr9 hc10 (own_ne own0 hc10 (by decide))
 replace G := G9
 refine stp (r_assign_slice rfl ?_)
 refine WL_nil ?_
 refine W_seq (W_region rfl ?_)
 refine stp (r_move_slice rfl ?_)
 refine stp (r_fieldAddr rfl ?_)
 refine stp (r_load (v := .int .i64 a) rfl k3 rfl ?_)
 refine stp (r_build (v := .agg #[.slice ad9 ((k :: steps).length) c9, .int .i64 a]) (fun w => by kernel_rfl) ?_)
 refine stn (r_storeAll rfl rfl k4 (by rfl) (by rfl) (by rfl) ?_)
 intro w21 hc22 u23
 replace k3 := u23.heap k3 ne13
 replace R9 := R9.sees (Sees.typ_upd u23 (fun _ _ he_ => by rw [k4] at he_; simp at he_))
 replace G := G.upd u23 hge12
 clear u23 k4
 refine WL_nil ?_
 refine W_ret ?_
 refine ret1 (res_all rfl hc22 (by rfl)) ⟨_, _, rfl, h9a, h9b, R9, G⟩

set_option maxRecDepth 100000 in
theorem rpaths_calls : ∀ (n_ : Nat) (w : World) {c : List Value} {t : Nd} {most : Int} (T : NodeR w c t) (hd : t.dep ≤ 1000) (hm : inR .i64 most), t.sz ≤ n_ → Calls Try.prog 32 #[.agg c.toArray, .int .i64 most] w (Ret fun v w' => ∃ xs, w'.ownsRow w.heap.size 33 2 v ((t.paths []).take (min most 10000).toNat).length xs ∧ PathsR (seeT 3 w') xs ((t.paths []).take (min most 10000).toNat) ∧ Grow w w') := by
 intro n_
 induction n_ with
 | zero => intro w c t most T hd hm hm_; exact absurd hm_ (by have := t.sz_pos; omega)
 | succ n_ ih_ =>
 intro w c t most T hd hm hm_
 have T0 := T
 simp only [inR] at hm
 have hshort := fun p hp => paths_short t [] p hp
 obtain @⟨kind, size, words, bytes, kids, ws, bs, ks, kc, hk, hs, hW, hwr, hB, hbr, hK, hKs⟩ := T
 obtain ⟨aw, cw, rfl, hcw, hcw2, RW⟩ := hW
 obtain ⟨ab, cb, rfl, hcb, hcb2, RB⟩ := hB
 obtain ⟨ak, ck, rfl, hck, hck2, RK⟩ := hK
 have lw := RW.lim
 have lb := RB.lim
 have lk := RK.lim
 simp only [inR] at hk hs
 obtain ⟨M, hM⟩ : ∃ M, M = (min most 10000).toNat := ⟨_, rfl⟩
 rw [← hM]
 have G := Grow.rfl' w
 refine calls_ret Try.func32 Try.ntmps32 Try.results32 rfl rfl ?_
 refine W_seq (W_region rfl ?_)
 refine WL_some (og rfl ?_)
 (first | refine r_box_agg rfl ?_ | refine r_box_int rfl ?_ | refine r_box_slice rfl ?_ | refine r_box rfl rfl ?_)
 intro b1 w2 hb3 hc4 g5
 have hge6 := Nat.le_trans G.size hb3
 replace G := G.tr g5
 clear g5 hb3
 refine stp (r_assign_slice rfl ?_)
 refine WL_nil ?_
 refine W_seq (W_region rfl ?_)
 refine stp (r_move_int rfl ?_)
 refine WL_some (og rfl ?_)
 refine r_min rfl rfl rfl ?_
 rw [show (if (10000 : Int) < most then 10000 else most) = min most 10000 from by split <;> omega]
 refine stp (r_assign_int rfl ?_)
 refine WL_nil ?_
 refine W_seq ?_
 refine W_seq (W_region rfl ?_)
 refine stp (r_move_int rfl ?_)
 refine stp (r_lss rfl rfl ?_)
 refine WL_nil ?_
 refine W_cond2 (b := (decide ((min most 10000) < 1))) rfl (fun hM0 => ?_) (fun hM0 => ?_)
 ·-- true
  replace hM0 := of_decide_eq_true hM0
  refine W_seq (W_region rfl ?_)
  refine stp (r_assign_slice rfl ?_)
  refine WL_nil ?_
  refine W_ret ?_
  have hM0 : M = 0 := by omega
  rw [hM0, List.take_zero]
  refine ret1 (res_tmp (v := .slice none 0 0) rfl) ⟨[], World.ownsRow_nil _ _ _ _, .nil, G⟩
 ·-- false
  replace hM0 := of_decide_eq_false hM0
  have hM1 : (M : Int) = min most 10000 := by omega
  have hMp : 1 ≤ M := by omega
  have hM2 : M ≤ 10000 := by omega
  have hOl := offK_all kind size words bytes kids
  have hO0 := offK_zero words bytes kids
  have hW : own1 words bytes = 1 + words.length + bytes.length := rfl
  refine W_skip ?_
  refine W_seq (W_region rfl ?_)
  refine stp (r_build (v := .agg #[.slice none 0 0, .int .i64 (-1)]) (fun w => by kernel_rfl) ?_)
  refine stp (r_buildSlice (cs := #[.slice none 0 0, .int .i64 (-1)]) (el := 33) (fun w => by kernel_rfl) ?_)
  intro bs7 w8 hb9 hc10 g11
  have hge12 := Nat.le_trans G.size hb9
  replace hc4 := g11.heap hc4
  replace G := G.tr g11
  clear g11
  refine stp (r_assign_slice rfl ?_)
  refine WL_nil ?_
  have ownO := own_lit (n := 1) (sz := 2) hc10 hge12 rfl (by decide)
  have kP : PathsR (seeT 3 w8) [.slice none 0 0, .int .i64 (-1)] ((Nd.paths (Nd.mk kind size words bytes kids) []).take 1) := by
   have h0_ := paths_word (k := kind) (s := size) (w := words) (b := bytes) (ks := kids) (pre := []) (i := 0) (by omega)
   rw [take_snoc h0_]
   exact .cons (p := ([], -1)) (RowAt.empty _ _ _) (Nat.le_refl _) (Nat.zero_le _) .nil
  have hmE : (min most 10000 : Int) = (M : Int) := hM1.symm
  refine W_seq ?_
  refine W_seq (W_region rfl ?_)
  refine stp (r_assign_int rfl ?_)
  refine WL_nil ?_
  refine W_block ?_
  refine W_loop (fun m_ e_ w_ => ∃ (k : Nat) (ado : Option Addr) (co : Nat) (xs : List Value), m_ = M - k ∧ Fr [(2, .pointer (some ⟨b1, 0, none⟩)), (4, .slice none 0 0), (6, .int .i64 (k : Int)), (5, .slice ado (k + 1) co), (1, .int .i64 (M : Int))] e_ ∧ (k + 1 ≤ M) ∧ (k + 1 ≤ own1 words bytes) ∧ (w_.heap[b1]? = some (.cells #[.int .i64 kind, .int .i64 size, .slice aw words.length cw, .slice ab bytes.length cb, .slice ak kids.length ck] 37 (0, 0))) ∧ (w_.ownsRow w.heap.size 33 2 (.slice ado (k + 1) co) (k + 1) xs) ∧ (PathsR (seeT 3 w_) xs ((Nd.paths (Nd.mk kind size words bytes kids) []).take (k + 1))) ∧ Grow w w_) _ ⟨0, _, _, _, rfl, fr_of ⟨rfl, rfl, rfl, rfl, congrArg (Value.int .i64) hmE, trivial⟩, by omega, by omega, hc4, ownO, kP, G⟩ ?_
  clear hc4 ownO kP
  clear G
  rintro m_ e_ w13 ⟨k, ado, co, xs, rfl, ⟨e14, rfl⟩, hk, hkw, hb2, ownO, kP, G⟩
  refine W_seq ?_
  refine W_seq (W_region rfl ?_)
  refine stp (r_move_int rfl ?_)
  refine stp (r_fieldAddr rfl ?_)
  refine stp (r_load (v := .slice aw words.length cw) rfl hb2 rfl ?_)
  refine stp (r_len rfl rfl rfl ?_)
  refine stp (r_fieldAddr rfl ?_)
  refine stp (r_load (v := .slice ab bytes.length cb) rfl hb2 rfl ?_)
  refine stp (r_len rfl rfl rfl ?_)
  refine stp (r_add rfl rfl ?_ ?_); constructor <;> omega
  refine stp (r_lss rfl rfl ?_)
  refine stp (r_move_bool rfl ?_)
  refine WL_some (og_if (s := .bool (decide ((k : Int) < ((words.length : Int) + (bytes.length : Int))))) (b := true) (v := .slice ado (k + 1) co) rfl (wgb_t _) (fun hc15 => ?_) ?_)
  ·
   have hc15_ := of_decide_eq_true hc15
   refine r_move_slice rfl ?_
   exact ⟨rfl, rfl⟩
  refine WL_some (og_if (s := .bool (decide ((k : Int) < ((words.length : Int) + (bytes.length : Int))))) (b := true) (v := .int .i64 ((k + 1) : Int)) rfl (wgb_t _) (fun hc16 => ?_) ?_)
  ·
   have hc16_ := of_decide_eq_true hc16
   refine r_len rfl rfl (gvt hc16) ?_
   exact ⟨rfl, rfl⟩
  refine WL_some (og_if (s := .bool (decide ((k : Int) < ((words.length : Int) + (bytes.length : Int))))) (b := true) (v := .int .i64 (M : Int)) rfl (wgb_t _) (fun hc17 => ?_) ?_)
  ·
   have hc17_ := of_decide_eq_true hc17
   refine r_move_int rfl ?_
   exact ⟨rfl, rfl⟩
  refine WL_some (og_if (s := .bool (decide ((k : Int) < ((words.length : Int) + (bytes.length : Int))))) (b := true) (v := .bool (decide (((k + 1) : Int) < (M : Int)))) rfl (wgb_t _) (fun hc18 => ?_) ?_)
  ·
   have hc18_ := of_decide_eq_true hc18
   refine r_lss (gvt hc18) (gvt hc18) ?_
   exact ⟨rfl, rfl⟩
  refine stp (r_and2 rfl rfl rfl ?_)
  refine WL_nil ?_
  refine W_cond2 (b := ((decide ((k : Int) < ((words.length : Int) + (bytes.length : Int)))) && (decide (((k + 1) : Int) < (M : Int))))) rfl (fun hlt => ?_) (fun hlt => ?_)
  ·-- true
   simp only [Bool.and_eq_true, Bool.or_eq_true, Bool.not_eq_true', Bool.and_eq_false_iff, Bool.or_eq_false_iff, Bool.not_eq_false', decide_eq_true_eq, decide_eq_false_iff_not, Bool.not_true, Bool.not_false, Bool.not_eq_eq_eq_not, Bool.or_false, Bool.and_true, Bool.or_true, Bool.and_false, Bool.false_or, Bool.true_and, Bool.true_or, Bool.false_and, Bool.false_eq_true, Bool.true_eq_false] at hlt
   have hk1 : k + 1 < own1 words bytes := by omega
   have hk2 : k + 1 < M := by omega
   have hwd := paths_word (k := kind) (s := size) (w := words) (b := bytes) (ks := kids) (pre := []) hk1
   rw [show (((k + 1 : Nat) : Int) - 1) = (k : Int) from by omega] at hwd
   refine W_skip ?_
   refine W_seq ?_
   refine W_block ?_
   refine W_region rfl ?_
   refine stp (r_move_slice rfl ?_)
   refine stp (r_move_int rfl ?_)
   refine stp (r_build (v := .agg #[.slice none 0 0, .int .i64 (k : Int)]) (fun w => by kernel_rfl) ?_)
   refine stp (r_buildSlice (cs := #[.slice none 0 0, .int .i64 (k : Int)]) (el := 33) (fun w => by kernel_rfl) ?_)
   intro bs19 w20 hb21 hc22 g23
   have hge24 := Nat.le_trans G.size hb21
   replace hb2 := g23.heap hb2
   replace ownO := own_grow ownO g23
   replace kP := kP.sees (Sees.typ_grow g23)
   replace G := G.tr g23
   clear g23
   refine stp (r_appendB rfl rfl rfl rfl ownO (Row.of_block (n := 1) hc22 rfl rfl (by omega)) (fun q_ hq_ => by simp at hq_; rcases hq_ with rfl | rfl <;> rfl) (by simp only [maxLen]; omega) (by omega) G.size ?_)
   intro v25 w25 own25 gr25 bk25
   obtain ⟨adN25, nN25, cN25, rfl⟩ := own_slice own25
   have hnN25 : nN25 = _ := own_len own25
   subst hnN25
   have G25 := G.grown gr25 (own_ge ownO)
   have hb25 := gr_heap gr25 hb2 (own_ne ownO hb2 (by decide))
   have kP25 := PathsR.snoc (w := seeT 3 w25) (p := ([], (k : Int))) (RowAt.empty _ _ (none : Option Addr)) (Nat.le_refl 0) (Nat.zero_le _) (kP.sees (Sees.typ_gr gr25 ownO (by decide)))
   rw [← take_snoc (hwd)] at kP25
   replace G := G25
   refine stp (r_assign rfl ?_)
   refine WL_nil ?_
   refine W_region rfl ?_
   refine stp (r_move_int rfl ?_)
   refine stp (r_add rfl rfl ?_ ?_); constructor <;> omega
   refine stp (r_assign_int rfl ?_)
   refine WL_nil ?_
   refine ⟨_, ?_, k + 1, adN25, cN25, _, rfl, fr_of ⟨rfl, rfl, congrArg (Value.int .i64) (by omega), rfl, rfl, trivial⟩, by omega, by omega, hb25, own25, kP25, G⟩
   omega
  ·-- false
   simp only [Bool.and_eq_true, Bool.or_eq_true, Bool.not_eq_true', Bool.and_eq_false_iff, Bool.or_eq_false_iff, Bool.not_eq_false', decide_eq_true_eq, decide_eq_false_iff_not, Bool.not_true, Bool.not_false, Bool.not_eq_eq_eq_not, Bool.or_false, Bool.and_true, Bool.or_true, Bool.and_false, Bool.false_or, Bool.true_and, Bool.true_or, Bool.false_and, Bool.false_eq_true, Bool.true_eq_false] at hlt
   have hn9 : k + 1 = min M (own1 words bytes) := by omega
   obtain ⟨n, hn⟩ : ∃ n, n = k + 1 := ⟨_, rfl⟩
   rw [← hn] at ownO kP hn9
   refine W_exit ?_
   refine W_seq ?_
   refine W_seq (W_region rfl ?_)
   refine stp (r_assign_int rfl ?_)
   refine WL_nil ?_
   refine W_block ?_
   refine W_loop (fun m_ e_ w_ => ∃ (j : Nat) (n : Nat) (ado : Option Addr) (co : Nat) (xs : List Value), m_ = kids.length - j ∧ Fr [(1, .int .i64 (M : Int)), (2, .pointer (some ⟨b1, 0, none⟩)), (4, .slice none 0 0), (7, .int .i64 (j : Int)), (5, .slice ado n co)] e_ ∧ (j ≤ kids.length) ∧ (n = min M (offK words bytes kids j)) ∧ (w_.heap[b1]? = some (.cells #[.int .i64 kind, .int .i64 size, .slice aw words.length cw, .slice ab bytes.length cb, .slice ak kids.length ck] 37 (0, 0))) ∧ (w_.ownsRow w.heap.size 33 2 (.slice ado n co) n xs) ∧ (PathsR (seeT 3 w_) xs ((Nd.paths (Nd.mk kind size words bytes kids) []).take n)) ∧ Grow w w_) _ ⟨0, n, _, _, _, rfl, fr_of ⟨rfl, rfl, rfl, rfl, by rw [hn]; rfl, trivial⟩, by omega, by rw [hO0]; exact hn9, hb2, ownO, kP, G⟩ ?_
   clear hb2 ownO kP
   clear G
   rintro m_ e_ w26 ⟨j, n, ado, co, xs, rfl, ⟨e27, rfl⟩, hj2, hn2, hb2, ownO, kP, G⟩
   refine W_seq ?_
   refine W_seq (W_region rfl ?_)
   refine stp (r_move_int rfl ?_)
   refine stp (r_fieldAddr rfl ?_)
   refine stp (r_load (v := .slice ak kids.length ck) rfl hb2 rfl ?_)
   refine stp (r_len rfl rfl rfl ?_)
   refine stp (r_lss rfl rfl ?_)
   refine stp (r_move_bool rfl ?_)
   refine WL_some (og_if (s := .bool (decide ((j : Int) < (kids.length : Int)))) (b := true) (v := .slice ado n co) rfl (wgb_t _) (fun hc28 => ?_) ?_)
   ·
    have hc28_ := of_decide_eq_true hc28
    refine r_move_slice rfl ?_
    exact ⟨rfl, rfl⟩
   refine WL_some (og_if (s := .bool (decide ((j : Int) < (kids.length : Int)))) (b := true) (v := .int .i64 (n : Int)) rfl (wgb_t _) (fun hc29 => ?_) ?_)
   ·
    have hc29_ := of_decide_eq_true hc29
    refine r_len rfl rfl (gvt hc29) ?_
    exact ⟨rfl, rfl⟩
   refine WL_some (og_if (s := .bool (decide ((j : Int) < (kids.length : Int)))) (b := true) (v := .int .i64 (M : Int)) rfl (wgb_t _) (fun hc30 => ?_) ?_)
   ·
    have hc30_ := of_decide_eq_true hc30
    refine r_move_int rfl ?_
    exact ⟨rfl, rfl⟩
   refine WL_some (og_if (s := .bool (decide ((j : Int) < (kids.length : Int)))) (b := true) (v := .bool (decide ((n : Int) < (M : Int)))) rfl (wgb_t _) (fun hc31 => ?_) ?_)
   ·
    have hc31_ := of_decide_eq_true hc31
    refine r_lss (gvt hc31) (gvt hc31) ?_
    exact ⟨rfl, rfl⟩
   refine stp (r_and2 rfl rfl rfl ?_)
   refine WL_nil ?_
   refine W_cond2 (b := ((decide ((j : Int) < (kids.length : Int))) && (decide ((n : Int) < (M : Int))))) rfl (fun hlt2 => ?_) (fun hlt2 => ?_)
   ·-- true
    simp only [Bool.and_eq_true, Bool.or_eq_true, Bool.not_eq_true', Bool.and_eq_false_iff, Bool.or_eq_false_iff, Bool.not_eq_false', decide_eq_true_eq, decide_eq_false_iff_not, Bool.not_true, Bool.not_false, Bool.not_eq_eq_eq_not, Bool.or_false, Bool.and_true, Bool.or_true, Bool.and_false, Bool.false_or, Bool.true_and, Bool.true_or, Bool.false_and, Bool.false_eq_true, Bool.true_eq_false] at hlt2
    have hj : j < kids.length := by omega
    have hnM : n < M := by omega
    have hnO : n = (offK words bytes kids j) := by omega
    have hat := KidsR.at_ j kids[j] hKs (by simp [hj])
    have hsz := Nd.szs_at kids j kids[j] (by simp [hj])
    simp only [Nd.sz] at hm_
    have hdk := depL_kid (k := kind) (s := size) (w := words) (b := bytes) hj
    have hof := offK_step (w := words) (b := bytes) hj
    refine W_skip ?_
    refine W_seq ?_
    refine W_block ?_
    refine W_seq (W_region rfl ?_)
    refine stp (r_fieldAddr rfl ?_)
    refine stp (r_load (v := .slice ak kids.length ck) rfl hb2 rfl ?_)
    refine stp (r_move_int rfl ?_)
    refine stp (r_indexN (RK.grow G) rfl rfl ?_ ?_); omega
    refine stp (r_loadNR (RK.grow G) rfl (by decide) (by rw [RK.len]; omega) rfl ?_)
    refine stp (r_move_int rfl ?_)
    refine stp (r_move_slice rfl ?_)
    refine stp (r_len rfl rfl rfl ?_)
    refine stp (r_sub rfl rfl ?_ ?_); constructor <;> omega
    refine WL_some (og rfl ?_)
    have ltO := ownO.lt
    have hih := ih_ w26 (most := (M : Int) - (n : Int)) (hat.grow G) (by omega) (by simp only [inR]; omega) (by omega)
    rw [show (min ((M : Int) - (n : Int)) 10000).toNat = M - n from by omega] at hih
    obtain ⟨LK, hLK⟩ : ∃ L, L = (kids[j].paths []).take (M - n) := ⟨_, rfl⟩
    rw [← hLK] at hih
    have hLKl : LK.length = min (M - n) (kids[j].paths []).length := by rw [hLK, List.length_take]
    refine r_call rfl hih ?_
    rintro vc wc ⟨xl, ownL, kL, gc⟩
    clear hih
    replace hb2 := gc.heap hb2
    replace ownO := own_grow ownO gc
    replace kP := kP.sees (Sees.typ_grow gc)
    replace G := G.tr gc
    obtain ⟨adl, nl, cl, rfl⟩ := own_slice ownL
    have hnl : nl = _ := own_len ownL
    subst hnl
    have K0 := Kp.refl (Value.slice ado n co).ownBlock.toList wc
    have hlo : ∀ k, (Value.slice adl LK.length cl).ownBlock = some k → (Value.slice ado n co).ownBlock ≠ some k := fun k hk he => by have := (ownL.lt k hk).1; have := (ltO k he).2; omega
    refine stp (r_assign_slice rfl ?_)
    refine WL_nil ?_
    refine W_seq (W_region rfl ?_)
    refine stp (r_assign_int rfl ?_)
    refine WL_nil ?_
    refine W_block ?_
    have hn0 : n = n + 0 := rfl
    obtain ⟨bo, hbo⟩ : ∃ bo, bo = (Value.slice ado n co).ownBlock := ⟨_, rfl⟩
    rw [← hbo] at K0 hlo
    have hob0 : (Value.slice ado (n + 0) co).ownBlock = bo ∨ ∀ q, (Value.slice ado (n + 0) co).ownBlock = some q → wc.heap.size ≤ q := .inl hbo.symm
    refine W_loop (fun m_ e_ w_ => ∃ (i : Nat) (ado3 : Option Addr) (co3 : Nat) (xs3 : List Value), m_ = LK.length - i ∧ Fr [(1, .int .i64 (M : Int)), (2, .pointer (some ⟨b1, 0, none⟩)), (4, .slice none 0 0), (7, .int .i64 (j : Int)), (8, .slice adl LK.length cl), (9, .int .i64 (i : Int)), (5, .slice ado3 (n + i) co3)] e_ ∧ (i ≤ LK.length) ∧ ((Value.slice ado3 (n + i) co3).ownBlock = bo ∨ ∀ q, (Value.slice ado3 (n + i) co3).ownBlock = some q → wc.heap.size ≤ q) ∧ (w_.heap[b1]? = some (.cells #[.int .i64 kind, .int .i64 size, .slice aw words.length cw, .slice ab bytes.length cb, .slice ak kids.length ck] 37 (0, 0))) ∧ (w_.ownsRow w.heap.size 33 2 (.slice ado3 (n + i) co3) (n + i) xs3) ∧ (PathsR (seeT 3 w_) xs3 ((Nd.paths (Nd.mk kind size words bytes kids) []).take (n + i))) ∧ (PathsR (seeT 3 w_) xl LK) ∧ (Kp bo.toList wc w_) ∧ Grow w w_) _ ⟨0, _, _, _, rfl, fr_of ⟨rfl, rfl, rfl, rfl, rfl, rfl, rfl, trivial⟩, by omega, hob0, hb2, ownO, kP, kL, K0, G⟩ ?_
    clear hb2 ownO kP kL
    clear G
    rintro m_ e_ w32 ⟨i, ado3, co3, xs3, rfl, ⟨e33, rfl⟩, hi3, hob, hb2, ownO, kP, kL, K0, G⟩
    refine W_seq ?_
    refine W_seq (W_region rfl ?_)
    refine stp (r_move_int rfl ?_)
    refine stp (r_move_slice rfl ?_)
    refine stp (r_len rfl rfl rfl ?_)
    refine stp (r_lss rfl rfl ?_)
    refine WL_nil ?_
    refine W_cond2 (b := (decide ((i : Int) < (LK.length : Int)))) rfl (fun hlt3 => ?_) (fun hlt3 => ?_)
    ·-- true
     replace hlt3 := of_decide_eq_true hlt3
     have hi : i < LK.length := by omega
     obtain ⟨p, hp⟩ : ∃ p, LK[i]? = some p := ⟨_, List.getElem?_eq_getElem hi⟩
     have hp2 : (kids[j].paths [])[i]? = some p := by rw [hLK, List.getElem?_take] at hp; split at hp; exact hp; cases hp
     have hpk := kid_at (k := kind) (s := size) (w := words) (b := bytes) hj hp2
     rw [← hnO] at hpk
     have hps := paths_short kids[j] [] p (List.mem_of_getElem? hp2)
     obtain ⟨adp, cp, hcl, hcp, hcp2, Rp⟩ := kL.at_ i p hp
     have RL0 := own_keepR ownL K0 hlo
     obtain ⟨adl', cl', hel, -, -, RL⟩ := own_row RL0 (by omega)
     simp only [Value.slice.injEq, true_and] at hel
     obtain ⟨rfl, rfl⟩ := hel
     refine W_skip ?_
     refine W_seq ?_
     refine W_block ?_
     refine W_region rfl ?_
     refine stp (r_move_slice rfl ?_)
     refine stp (r_move_int rfl ?_)
     refine stp (r_move_slice rfl ?_)
     refine stp (r_move_int rfl ?_)
     refine stp (r_indexN RL rfl rfl ?_ ?_); omega
     refine stp (r_loadNR RL rfl (by decide) (by rw [RL.len]; omega) hcl ?_)
     refine WL_some (og rfl ?_)
     have gB := Grow.rfl' w32
     refine r_call rfl (behind_calls _ (k := (j : Int)) (a := p.2) (Rp.sees (Sees.typ _ _)) hcp hcp2 (by simp only [List.length_nil] at hps; omega)) ?_
     rintro vb wb ⟨ad9, c9, rfl, h9a, h9b, R9, gb⟩
     clear RL Rp RL0
     replace hb2 := gb.heap hb2
     replace ownO := own_grow ownO gb
     replace kP := kP.sees (Sees.typ_grow gb)
     replace kL := kL.sees (Sees.typ_grow gb)
     replace K0 := K0.tr (Kp.of_grow gb)
     replace G := G.tr gb
     refine stp (r_buildSlice (cs := #[.slice ad9 (((j : Int) :: p.1).length) c9, .int .i64 p.2]) (el := 33) (fun w => by kernel_rfl) ?_)
     intro bs34 w35 hb36 hc37 g38
     have hge39 := Nat.le_trans G.size hb36
     replace hb2 := g38.heap hb2
     replace ownO := own_grow ownO g38
     replace kP := kP.sees (Sees.typ_grow g38)
     replace kL := kL.sees (Sees.typ_grow g38)
     replace K0 := K0.tr (Kp.of_grow g38)
     replace R9 := R9.sees (Sees.typ_grow g38)
     replace G := G.tr g38
     clear g38
     refine WL_some (og rfl ?_)
     have hn9 : n + i < M := by omega
     refine r_appendB rfl rfl rfl rfl ownO (Row.of_block (n := 1) hc37 rfl rfl (by omega)) (fun q_ hq_ => by simp at hq_; rcases hq_ with rfl | rfl <;> rfl) (by simp only [maxLen]; omega) (by omega) G.size ?_
     intro v40 w40 own40 gr40 bk40
     obtain ⟨adN40, nN40, cN40, rfl⟩ := own_slice own40
     have hnN40 : nN40 = _ := own_len own40
     subst hnN40
     have G40 := G.grown gr40 (own_ge ownO)
     have hb40 := gr_heap gr40 hb2 (own_ne ownO hb2 (by decide))
     have sees40 := Sees.typ_gr (T := 3) gr40 ownO (by decide)
     have kP40 := PathsR.snoc (w := seeT 3 w40) (p := ((j : Int) :: p.1, p.2)) (R9.sees sees40) h9a h9b (kP.sees sees40)
     rw [← take_snoc hpk] at kP40
     have kL40 := kL.sees sees40
     have K40 := Kp.of_app K0 gr40 (hob.imp id id)
     have hob40 : (Value.slice adN40 (n + i + 1) cN40).ownBlock = bo ∨ ∀ q, (Value.slice adN40 (n + i + 1) cN40).ownBlock = some q → wc.heap.size ≤ q := by
      rcases bk40 with h_ | h_
      ·rw [h_]; exact hob
      ·right; intro q hq; rw [h_] at hq; simp only [Option.some.injEq] at hq; have := K0.size; omega
     replace G := G40
     refine stp (r_assign rfl ?_)
     refine WL_nil ?_
     refine W_region rfl ?_
     refine stp (r_move_int rfl ?_)
     refine stp (r_add rfl rfl ?_ ?_); constructor <;> omega
     refine stp (r_assign_int rfl ?_)
     refine WL_nil ?_
     refine ⟨_, ?_, i + 1, adN40, cN40, _, rfl, fr_of ⟨rfl, rfl, rfl, rfl, rfl, congrArg (Value.int .i64) (by omega), rfl, trivial⟩, by omega, hob40, hb40, own40, kP40, kL40, K40, G⟩
     omega
    ·-- false
     replace hlt3 := of_decide_eq_false hlt3
     have hi9 : i = LK.length := by omega
     refine W_exit ?_
     refine W_region rfl ?_
     refine stp (r_move_int rfl ?_)
     refine stp (r_add rfl rfl ?_ ?_); constructor <;> omega
     refine stp (r_assign_int rfl ?_)
     refine WL_nil ?_
     -- behind the kid
     refine ⟨_, ?_, j + 1, n + i, ado3, co3, _, rfl, fr_of ⟨rfl, rfl, rfl, congrArg (Value.int .i64) (by omega), rfl, trivial⟩, by omega, by omega, hb2, ownO, kP, G⟩
     omega
   ·-- false
    simp only [Bool.and_eq_true, Bool.or_eq_true, Bool.not_eq_true', Bool.and_eq_false_iff, Bool.or_eq_false_iff, Bool.not_eq_false', decide_eq_true_eq, decide_eq_false_iff_not, Bool.not_true, Bool.not_false, Bool.not_eq_eq_eq_not, Bool.or_false, Bool.and_true, Bool.or_true, Bool.and_false, Bool.false_or, Bool.true_and, Bool.true_or, Bool.false_and, Bool.false_eq_true, Bool.true_eq_false] at hlt2
    have hpl9 := PathsR.len kP
    have hox9 := ownO.1
    rw [List.length_take] at hpl9
    have hnl : ((Nd.paths (Nd.mk kind size words bytes kids) []).take M).length = n := by
     rw [List.length_take]
     rcases (show j = kids.length ∨ M ≤ n by omega) with h_ | h_
     ·rw [h_] at hn2; omega
     ·omega
    have htk : (Nd.paths (Nd.mk kind size words bytes kids) []).take n = (Nd.paths (Nd.mk kind size words bytes kids) []).take M := by rw [← hnl, List.length_take]; exact List.take_eq_take_iff.2 (by omega)
    refine W_exit ?_
    refine W_seq (W_region rfl ?_)
    refine stp (r_move_slice rfl ?_)
    refine stp (r_assign_slice rfl ?_)
    refine WL_nil ?_
    refine W_ret ?_
    rw [hnl, ← htk]
    refine ret1 (res_tmp (v := .slice ado n co) rfl) ⟨_, ownO, kP, G⟩
end Go.Proofs.Ytfhfecepcnapfaa.K
