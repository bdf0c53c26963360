/- package span (printed by sp04.py). -/
import Derived.Test.YtldlfhodboigeaaSH
set_option linter.unusedVariables false
set_option linter.unusedSimpArgs false
namespace Go.Proofs.Ytldlfhodboigeaa.K
open Go Go.RowKit Go.Proofs
attribute [local irreducible] Run1 OpG WL W AO Gives
set_option maxRecDepth 100000 in
theorem rholes_calls (w : World) {ad : Option Addr} {c n : Nat} {L : List Spn} (s1 s2 : Int) (hc : n ≤ c) (hc2 : c ≤ maxLen) (R : RowAt w 2 ad n (encL L)) (hb : n ≤ 274877906944) : Calls Try.prog 32 #[.slice ad n c, .agg #[.int .i64 s1, .int .i64 s2]] w (Ret fun v w' => w'.ownsRow w.heap.size 26 2 v (hls L (s1, s2)).length (encL (hls L (s1, s2))) ∧ Grow w w') := by
 have G := Grow.rfl' w
 refine calls_ret Try.func32 Try.ntmps32 Try.results32 rfl rfl ?_
 have hLn := row_lenS R
 have hnl := nrm_len L
 have hhl := hls_len L (s1, s2)
 refine W_seq (W_region rfl ?_)
 refine WL_some (og rfl ?_)
 (first | refine r_box_agg rfl ?_ | refine r_box_int rfl ?_ | refine r_box_slice rfl ?_ | refine r_box rfl rfl ?_)
 intro b1 w2 hb3 hc4 g5
 have hge6 := Nat.le_trans G.size hb3
 replace G := G.tr g5
 clear g5 hb3
 refine stp (r_assign_slice rfl ?_)
 refine WL_nil ?_
 refine W_seq (W_region rfl ?_)
 refine stp (r_move_slice rfl ?_)
 refine WL_some (og rfl ?_)
 refine r_call rfl (rnorm_calls _ hc hc2 (R.grow G) (by omega)) ?_
 rintro v1 w1 ⟨⟨adn, cn, rfl, hcn, hcn2, RN⟩, g1⟩
 replace hc4 := g1.heap hc4
 replace G := G.tr g1
 clear g1
 refine stp (r_assign_slice rfl ?_)
 refine WL_nil ?_
 have ownO : w1.ownsRow w1.heap.size 26 2 (.slice none 0 0) 0 (encL []) := World.ownsRow_nil _ _ _ _
 have hB1 := Nat.le_refl w1.heap.size
 have lt3 := lt_of_heap hc4
 have hBw := G.size
 have RN0 := RN
 have GN := Grow.rfl' w1
 refine W_seq (W_region rfl ?_)
 refine stp (r_assign_slice rfl ?_)
 refine WL_nil ?_
 refine W_seq (W_region rfl ?_)
 refine stp (r_fieldAddr rfl ?_)
 refine stp (r_load (v := .int .i64 s1) rfl hc4 rfl ?_)
 refine stp (r_assign_int rfl ?_)
 refine WL_nil ?_
 refine W_seq ?_
 refine W_seq (W_region rfl ?_)
 refine stp (r_assign_int rfl ?_)
 refine WL_nil ?_
 refine W_block ?_
 refine W_loop (fun m_ e_ w_ => ∃ (k : Nat) (at' : Int) (ho : List Spn) (ado : Option Addr) (co : Nat), m_ = (nrm L).length - k ∧ Fr [(3, .pointer (some ⟨b1, 0, none⟩)), (4, .slice none 0 0), (5, .slice adn ((nrm L).length) cn), (8, .int .i64 (k : Int)), (7, .int .i64 at'), (6, .slice ado ho.length co)] e_ ∧ (k ≤ (nrm L).length) ∧ (ho ++ refH ((nrm L).drop k) at' s2 = refH (nrm L) s1 s2) ∧ ((refH (nrm L) s1 s2).length ≤ (nrm L).length + 1) ∧ (w_.heap[b1]? = some (.cells #[.int .i64 s1, .int .i64 s2] 26 (0, 0))) ∧ (w1.heap.size ≤ w_.heap.size) ∧ (Grow w1 w_) ∧ (w_.ownsRow w1.heap.size 26 2 (.slice ado ho.length co) ho.length (encL ho)) ∧ Grow w w_) _ ⟨0, s1, [], _, _, rfl, fr_of ⟨rfl, rfl, rfl, rfl, rfl, rfl, trivial⟩, by omega, rfl, by rw [refH_holes (nrm_of L).right]; exact hhl, hc4, hB1, GN, ownO, G⟩ ?_
 clear hc4 ownO hB1 GN
 clear G
 rintro m_ e_ w7 ⟨k, at', ho, ado, co, rfl, ⟨e8, rfl⟩, hk, hO, hh, hc4, hB1, GN, ownO, G⟩
 refine W_seq ?_
 refine W_seq (W_region rfl ?_)
 refine stp (r_move_int rfl ?_)
 refine stp (r_move_slice rfl ?_)
 refine stp (r_len rfl rfl rfl ?_)
 refine stp (r_lss rfl rfl ?_)
 refine WL_nil ?_
 refine W_cond2 (b := (decide ((k : Int) < ((nrm L).length : Int)))) rfl (fun hlt => ?_) (fun hlt => ?_)
 ·-- true
  replace hlt := of_decide_eq_true hlt
  have hkN : k < (nrm L).length := by omega
  rw [refH_drop hkN] at hO
  have hlen := congrArg List.length hO
  rw [List.length_append] at hlen
  refine W_skip ?_
  refine W_seq ?_
  refine W_block ?_
  refine W_seq ?_
  refine W_seq ?_
  refine W_any 17 [[], [], [1, 0], [2, 1, 0], [3, 2, 1, 0], [], [5, 4, 3, 2, 1, 0], [6, 5, 4, 3, 2, 1, 0], [7, 6, 5, 4, 3, 2, 1, 0], [8, 7, 6, 5, 4, 3, 2, 1], [9, 8, 7, 6, 5, 4, 3, 2, 1, 0], [10, 9, 8, 7, 6, 5, 4, 3, 2, 1, 0], [11, 10, 9, 8, 7, 6, 5, 4, 3, 2, 1, 0], [12, 11, 10, 9, 8, 7, 6, 5], [13, 12, 11, 10, 9, 8, 7, 6, 0], [14, 13, 12, 11, 10, 9, 8, 7, 6, 5, 4, 3, 2, 1, 0], [15, 14, 13, 12, 11, 10, 9, 8, 7, 6, 5, 4, 3, 2, 1, 0]] mixed (by kernel_rfl) (by kernel_rfl) (by kernel_rfl) ?_
  intro w9 g10
  replace hc4 := g10.heap hc4
  replace hB1 := Nat.le_trans hB1 g10.size
  replace GN := GN.tr g10
  replace ownO := own_grow ownO g10
  replace G := G.tr g10
  clear g10
  apply AO_ex
  ·intro w_ g_; refine og rfl ?_; refine r_move_slice rfl ?_; exact ⟨Grow.rfl' _, rfl⟩
  apply AO_ex
  ·intro w_ g_; refine og rfl ?_; refine r_move_int rfl ?_; exact ⟨Grow.rfl' _, rfl⟩
  apply AO_ex
  ·intro w_ g_; refine og rfl ?_; refine r_indexN ((RN0.grow GN).grow g_) rfl rfl ?_ ?_; omega; exact ⟨Grow.rfl' _, rfl⟩
  apply AO_ex
  ·intro w_ g_; refine og rfl ?_; refine r_fieldE rfl ?_; exact ⟨Grow.rfl' _, rfl⟩
  apply AO_ex
  ·intro w_ g_; refine og rfl ?_; refine r_loadR (v := .int .i64 ((gS (nrm L) k).2)) (m := 0) ((RN0.grow GN).grow g_) rfl (row_gS1 RN0 (by omega)) ?_; exact ⟨Grow.rfl' _, rfl⟩
  apply AO_ex
  ·intro w_ g_; refine og rfl ?_; refine r_move_int rfl ?_; exact ⟨Grow.rfl' _, rfl⟩
  apply AO_ex
  ·intro w_ g_; refine og rfl ?_; refine r_leq rfl rfl ?_; exact ⟨Grow.rfl' _, rfl⟩
  apply AO_ex
  ·intro w_ g_; refine og rfl ?_; refine r_move_bool rfl ?_; exact ⟨Grow.rfl' _, rfl⟩
  apply AO_ex
  ·intro w_ g_; 
   refine og_if (s := .bool (decide (((gS (nrm L) k).2) ≤ at'))) (b := false) (v := .slice adn ((nrm L).length) cn) rfl (wgb_f _) (fun hc11 => ?_) ?_
   ·
    have hc11_ := hc11
    try simp only [Bool.and_eq_true, Bool.or_eq_true, Bool.not_eq_true', Bool.and_eq_false_iff, Bool.or_eq_false_iff, Bool.not_eq_false', decide_eq_true_eq, decide_eq_false_iff_not, Bool.not_true, Bool.not_false, Bool.not_eq_eq_eq_not, Bool.or_false, Bool.and_true, Bool.or_true, Bool.and_false, Bool.false_or, Bool.true_and, Bool.true_or, Bool.false_and, Bool.false_eq_true, Bool.true_eq_false] at hc11_
    refine r_move_slice rfl ?_
    exact ⟨rfl, rfl⟩
   exact ⟨Grow.rfl' _, rfl⟩
  apply AO_ex
  ·intro w_ g_; 
   refine og_if (s := .bool (decide (((gS (nrm L) k).2) ≤ at'))) (b := false) (v := .int .i64 (k : Int)) rfl (wgb_f _) (fun hc12 => ?_) ?_
   ·
    have hc12_ := hc12
    try simp only [Bool.and_eq_true, Bool.or_eq_true, Bool.not_eq_true', Bool.and_eq_false_iff, Bool.or_eq_false_iff, Bool.not_eq_false', decide_eq_true_eq, decide_eq_false_iff_not, Bool.not_true, Bool.not_false, Bool.not_eq_eq_eq_not, Bool.or_false, Bool.and_true, Bool.or_true, Bool.and_false, Bool.false_or, Bool.true_and, Bool.true_or, Bool.false_and, Bool.false_eq_true, Bool.true_eq_false] at hc12_
    refine r_move_int rfl ?_
    exact ⟨rfl, rfl⟩
   exact ⟨Grow.rfl' _, rfl⟩
  apply AO_ex
  ·intro w_ g_; 
   refine og_if (s := .bool (decide (((gS (nrm L) k).2) ≤ at'))) (b := false) (v := .pointer (some (eadr adn (k * 2)))) rfl (wgb_f _) (fun hc13 => ?_) ?_
   ·
    have hc13_ := hc13
    try simp only [Bool.and_eq_true, Bool.or_eq_true, Bool.not_eq_true', Bool.and_eq_false_iff, Bool.or_eq_false_iff, Bool.not_eq_false', decide_eq_true_eq, decide_eq_false_iff_not, Bool.not_true, Bool.not_false, Bool.not_eq_eq_eq_not, Bool.or_false, Bool.and_true, Bool.or_true, Bool.and_false, Bool.false_or, Bool.true_and, Bool.true_or, Bool.false_and, Bool.false_eq_true, Bool.true_eq_false] at hc13_
    refine r_indexN ((RN0.grow GN).grow g_) (gvt hc13) (gvt hc13) ?_ ?_; omega
    exact ⟨rfl, rfl⟩
   exact ⟨Grow.rfl' _, rfl⟩
  apply AO_ex
  ·intro w_ g_; 
   refine og_if (s := .bool (decide (((gS (nrm L) k).2) ≤ at'))) (b := false) (v := .pointer (some (eadr adn (k * 2)))) rfl (wgb_f _) (fun hc14 => ?_) ?_
   ·
    have hc14_ := hc14
    try simp only [Bool.and_eq_true, Bool.or_eq_true, Bool.not_eq_true', Bool.and_eq_false_iff, Bool.or_eq_false_iff, Bool.not_eq_false', decide_eq_true_eq, decide_eq_false_iff_not, Bool.not_true, Bool.not_false, Bool.not_eq_eq_eq_not, Bool.or_false, Bool.and_true, Bool.or_true, Bool.and_false, Bool.false_or, Bool.true_and, Bool.true_or, Bool.false_and, Bool.false_eq_true, Bool.true_eq_false] at hc14_
    refine r_fieldE (gvt hc14) ?_
    exact ⟨rfl, rfl⟩
   exact ⟨Grow.rfl' _, rfl⟩
  apply AO_ex
  ·intro w_ g_; 
   refine og_if (s := .bool (decide (((gS (nrm L) k).2) ≤ at'))) (b := false) (v := .int .i64 ((gS (nrm L) k).1)) rfl (wgb_f _) (fun hc15 => ?_) ?_
   ·
    have hc15_ := hc15
    try simp only [Bool.and_eq_true, Bool.or_eq_true, Bool.not_eq_true', Bool.and_eq_false_iff, Bool.or_eq_false_iff, Bool.not_eq_false', decide_eq_true_eq, decide_eq_false_iff_not, Bool.not_true, Bool.not_false, Bool.not_eq_eq_eq_not, Bool.or_false, Bool.and_true, Bool.or_true, Bool.and_false, Bool.false_or, Bool.true_and, Bool.true_or, Bool.false_and, Bool.false_eq_true, Bool.true_eq_false] at hc15_
    refine r_loadR (v := .int .i64 ((gS (nrm L) k).1)) (m := 0) ((RN0.grow GN).grow g_) (gvt hc15) (row_gS0 RN0 (by omega)) ?_
    exact ⟨rfl, rfl⟩
   exact ⟨Grow.rfl' _, rfl⟩
  apply AO_ex
  ·intro w_ g_; 
   refine og_if (s := .bool (decide (((gS (nrm L) k).2) ≤ at'))) (b := false) (v := .pointer (some ⟨b1, 1, none⟩)) rfl (wgb_f _) (fun hc16 => ?_) ?_
   ·
    have hc16_ := hc16
    try simp only [Bool.and_eq_true, Bool.or_eq_true, Bool.not_eq_true', Bool.and_eq_false_iff, Bool.or_eq_false_iff, Bool.not_eq_false', decide_eq_true_eq, decide_eq_false_iff_not, Bool.not_true, Bool.not_false, Bool.not_eq_eq_eq_not, Bool.or_false, Bool.and_true, Bool.or_true, Bool.and_false, Bool.false_or, Bool.true_and, Bool.true_or, Bool.false_and, Bool.false_eq_true, Bool.true_eq_false] at hc16_
    refine r_fieldAddr rfl ?_
    exact ⟨rfl, rfl⟩
   exact ⟨Grow.rfl' _, rfl⟩
  apply AO_ex
  ·intro w_ g_; 
   refine og_if (s := .bool (decide (((gS (nrm L) k).2) ≤ at'))) (b := false) (v := .int .i64 s2) rfl (wgb_f _) (fun hc17 => ?_) ?_
   ·
    have hc17_ := hc17
    try simp only [Bool.and_eq_true, Bool.or_eq_true, Bool.not_eq_true', Bool.and_eq_false_iff, Bool.or_eq_false_iff, Bool.not_eq_false', decide_eq_true_eq, decide_eq_false_iff_not, Bool.not_true, Bool.not_false, Bool.not_eq_eq_eq_not, Bool.or_false, Bool.and_true, Bool.or_true, Bool.and_false, Bool.false_or, Bool.true_and, Bool.true_or, Bool.false_and, Bool.false_eq_true, Bool.true_eq_false] at hc17_
    refine r_load (v := .int .i64 s2) (gvt hc17) (g_.heap hc4) rfl ?_
    exact ⟨rfl, rfl⟩
   exact ⟨Grow.rfl' _, rfl⟩
  apply AO_ex
  ·intro w_ g_; 
   refine og_if (s := .bool (decide (((gS (nrm L) k).2) ≤ at'))) (b := false) (v := .bool (decide (((gS (nrm L) k).1) ≥ s2))) rfl (wgb_f _) (fun hc18 => ?_) ?_
   ·
    have hc18_ := hc18
    try simp only [Bool.and_eq_true, Bool.or_eq_true, Bool.not_eq_true', Bool.and_eq_false_iff, Bool.or_eq_false_iff, Bool.not_eq_false', decide_eq_true_eq, decide_eq_false_iff_not, Bool.not_true, Bool.not_false, Bool.not_eq_eq_eq_not, Bool.or_false, Bool.and_true, Bool.or_true, Bool.and_false, Bool.false_or, Bool.true_and, Bool.true_or, Bool.false_and, Bool.false_eq_true, Bool.true_eq_false] at hc18_
    refine r_geq (gvt hc18) (gvt hc18) ?_
    exact ⟨rfl, rfl⟩
   exact ⟨Grow.rfl' _, rfl⟩
  apply AO_ex
  ·intro w_ g_; refine og rfl ?_; refine r_or2 rfl rfl rfl ?_; exact ⟨Grow.rfl' _, rfl⟩
  refine AO_nil ?_
  intro w19 g20
  replace hc4 := g20.heap hc4
  replace hB1 := Nat.le_trans hB1 g20.size
  replace GN := GN.tr g20
  replace ownO := own_grow ownO g20
  replace G := G.tr g20
  clear g20
  refine WL_nil ?_
  refine W_cond2 (b := ((decide (((gS (nrm L) k).2) ≤ at')) || (decide (((gS (nrm L) k).1) ≥ s2)))) rfl (fun hsk => ?_) (fun hsk => ?_)
  ·-- true
   simp only [Bool.and_eq_true, Bool.or_eq_true, Bool.not_eq_true', Bool.and_eq_false_iff, Bool.or_eq_false_iff, Bool.not_eq_false', decide_eq_true_eq, decide_eq_false_iff_not, Bool.not_true, Bool.not_false, Bool.not_eq_eq_eq_not, Bool.or_false, Bool.and_true, Bool.or_true, Bool.and_false, Bool.false_or, Bool.true_and, Bool.true_or, Bool.false_and, Bool.false_eq_true, Bool.true_eq_false] at hsk
   rw [if_pos (by simpa using hsk)] at hO
   refine W_exit ?_
   refine W_region rfl ?_
   refine stp (r_move_int rfl ?_)
   refine stp (r_add rfl rfl ?_ ?_); constructor <;> omega
   refine stp (r_assign_int rfl ?_)
   refine WL_nil ?_
   refine ⟨_, ?_, k + 1, at', _, _, _, rfl, fr_of ⟨rfl, rfl, rfl, congrArg (Value.int .i64) (by omega), rfl, rfl, trivial⟩, by omega, hO, hh, hc4, hB1, GN, ownO, G⟩
   omega
  ·-- false
   simp only [Bool.and_eq_true, Bool.or_eq_true, Bool.not_eq_true', Bool.and_eq_false_iff, Bool.or_eq_false_iff, Bool.not_eq_false', decide_eq_true_eq, decide_eq_false_iff_not, Bool.not_true, Bool.not_false, Bool.not_eq_eq_eq_not, Bool.or_false, Bool.and_true, Bool.or_true, Bool.and_false, Bool.false_or, Bool.true_and, Bool.true_or, Bool.false_and, Bool.false_eq_true, Bool.true_eq_false] at hsk
   have hsk' : ¬ ((gS (nrm L) k).2 ≤ at' ∨ (gS (nrm L) k).1 ≥ s2) := by omega
   rw [if_neg hsk'] at hO
   refine W_skip ?_
   refine W_seq ?_
   refine W_seq (W_region rfl ?_)
   refine stp (r_move_slice rfl ?_)
   refine stp (r_move_int rfl ?_)
   refine stp (r_indexN (RN0.grow GN) rfl rfl ?_ ?_); omega
   refine stp (r_fieldE rfl ?_)
   refine stp (r_loadR (v := .int .i64 ((gS (nrm L) k).1)) (m := 0) (RN0.grow GN) rfl (row_gS0 RN0 (by omega)) ?_)
   refine stp (r_move_int rfl ?_)
   refine stp (r_gtr rfl rfl ?_)
   refine WL_nil ?_
   refine W_cond2 (b := (decide (((gS (nrm L) k).1) > at'))) rfl (fun hpt => ?_) (fun hpt => ?_)
   ·-- true
    replace hpt := of_decide_eq_true hpt
    rw [if_pos hpt] at hO
    refine W_region rfl ?_
    refine stp (r_move_slice rfl ?_)
    refine stp (r_move_int rfl ?_)
    refine stp (r_move_slice rfl ?_)
    refine stp (r_move_int rfl ?_)
    refine stp (r_indexN (RN0.grow GN) rfl rfl ?_ ?_); omega
    refine stp (r_fieldE rfl ?_)
    refine stp (r_loadR (v := .int .i64 ((gS (nrm L) k).1)) (m := 0) (RN0.grow GN) rfl (row_gS0 RN0 (by omega)) ?_)
    refine stp (r_build (v := .agg #[.int .i64 at', .int .i64 ((gS (nrm L) k).1)]) (fun w => by kernel_rfl) ?_)
    refine stp (r_buildSlice (cs := #[.int .i64 at', .int .i64 ((gS (nrm L) k).1)]) (el := 26) (fun w => by kernel_rfl) ?_)
    intro bs21 w22 hb23 hc24 g25
    have hge26 := Nat.le_trans G.size hb23
    replace hc4 := g25.heap hc4
    replace hB1 := Nat.le_trans hB1 g25.size
    replace GN := GN.tr g25
    replace ownO := own_grow ownO g25
    replace G := G.tr g25
    clear g25
    refine stp (r_append rfl rfl rfl rfl ownO (Row.of_block (n := 1) hc24 rfl rfl (by omega)) (fun q_ hq_ => by simp at hq_; rcases hq_ with rfl | rfl <;> rfl) (by simp only [maxLen]; omega) (by omega) hB1 ?_)
    intro v27 w27 own27 gr27
    have own27' := own_snoc (s := (at', (gS (nrm L) k).1)) own27
    obtain ⟨ad27, n27, c27, rfl⟩ := own_slice own27'
    have hn27 := own_lenS own27'
    subst hn27
    have hl27 : (ho ++ [(at', (gS (nrm L) k).1)]).length = (ho).length + 1 := by simp
    replace G := G.grown gr27 (fun k_ hk_ => Nat.le_trans hBw (own_ge ownO k_ hk_))
    replace hB1 := Nat.le_trans hB1 gr27.size
    replace GN := GN.grown gr27 (own_ge ownO)
    replace hc4 := gr_heap gr27 hc4 (fun he_ => by have := (ownO.lt _ he_).1; omega)
    refine stp (r_assign_slice rfl ?_)
    refine WL_nil ?_
    refine W_region rfl ?_
    refine stp (r_move_slice rfl ?_)
    refine stp (r_move_int rfl ?_)
    refine stp (r_indexN (RN0.grow GN) rfl rfl ?_ ?_); omega
    refine stp (r_fieldE rfl ?_)
    refine stp (r_loadR (v := .int .i64 ((gS (nrm L) k).2)) (m := 0) (RN0.grow GN) rfl (row_gS1 RN0 (by omega)) ?_)
    refine stp (r_assign_int rfl ?_)
    refine WL_nil ?_
    refine W_region rfl ?_
    refine stp (r_move_int rfl ?_)
    refine stp (r_add rfl rfl ?_ ?_); constructor <;> omega
    refine stp (r_assign_int rfl ?_)
    refine WL_nil ?_
    refine ⟨_, ?_, k + 1, (gS (nrm L) k).2, _, _, _, rfl, fr_of ⟨rfl, rfl, rfl, congrArg (Value.int .i64) (by omega), rfl, rfl, trivial⟩, by omega, by rw [List.append_assoc]; exact hO, hh, hc4, hB1, GN, own27', G⟩
    omega
   ·-- false
    replace hpt := of_decide_eq_false hpt
    rw [if_neg hpt, List.nil_append] at hO
    refine W_skip ?_
    refine W_region rfl ?_
    refine stp (r_move_slice rfl ?_)
    refine stp (r_move_int rfl ?_)
    refine stp (r_indexN (RN0.grow GN) rfl rfl ?_ ?_); omega
    refine stp (r_fieldE rfl ?_)
    refine stp (r_loadR (v := .int .i64 ((gS (nrm L) k).2)) (m := 0) (RN0.grow GN) rfl (row_gS1 RN0 (by omega)) ?_)
    refine stp (r_assign_int rfl ?_)
    refine WL_nil ?_
    refine W_region rfl ?_
    refine stp (r_move_int rfl ?_)
    refine stp (r_add rfl rfl ?_ ?_); constructor <;> omega
    refine stp (r_assign_int rfl ?_)
    refine WL_nil ?_
    refine ⟨_, ?_, k + 1, (gS (nrm L) k).2, _, _, _, rfl, fr_of ⟨rfl, rfl, rfl, congrArg (Value.int .i64) (by omega), rfl, rfl, trivial⟩, by omega, hO, hh, hc4, hB1, GN, ownO, G⟩
    omega
 ·-- false
  replace hlt := of_decide_eq_false hlt
  have hk9 : k = (nrm L).length := by omega
  rw [hk9, List.drop_length, refH] at hO
  have hlen := congrArg List.length hO
  rw [List.length_append] at hlen
  have hfin : refH (nrm L) s1 s2 = hls L (s1, s2) := refH_holes (nrm_of L).right
  refine W_exit ?_
  refine W_seq ?_
  refine W_seq (W_region rfl ?_)
  refine stp (r_move_int rfl ?_)
  refine stp (r_fieldAddr rfl ?_)
  refine stp (r_load (v := .int .i64 s2) rfl hc4 rfl ?_)
  refine stp (r_lss rfl rfl ?_)
  refine WL_nil ?_
  refine W_cond2 (b := (decide (at' < s2))) rfl (fun hpt => ?_) (fun hpt => ?_)
  ·-- true
   replace hpt := of_decide_eq_true hpt
   rw [putS, if_pos hpt] at hO
   refine W_region rfl ?_
   refine stp (r_move_slice rfl ?_)
   refine stp (r_move_int rfl ?_)
   refine stp (r_fieldAddr rfl ?_)
   refine stp (r_load (v := .int .i64 s2) rfl hc4 rfl ?_)
   refine stp (r_build (v := .agg #[.int .i64 at', .int .i64 s2]) (fun w => by kernel_rfl) ?_)
   refine stp (r_buildSlice (cs := #[.int .i64 at', .int .i64 s2]) (el := 26) (fun w => by kernel_rfl) ?_)
   intro bs28 w29 hb30 hc31 g32
   have hge33 := Nat.le_trans G.size hb30
   replace hc4 := g32.heap hc4
   replace hB1 := Nat.le_trans hB1 g32.size
   replace GN := GN.tr g32
   replace ownO := own_grow ownO g32
   replace G := G.tr g32
   clear g32
   refine stp (r_append rfl rfl rfl rfl ownO (Row.of_block (n := 1) hc31 rfl rfl (by omega)) (fun q_ hq_ => by simp at hq_; rcases hq_ with rfl | rfl <;> rfl) (by simp only [maxLen]; omega) (by omega) hB1 ?_)
   intro v34 w34 own34 gr34
   have own34' := own_snoc (s := (at', s2)) own34
   obtain ⟨ad34, n34, c34, rfl⟩ := own_slice own34'
   have hn34 := own_lenS own34'
   subst hn34
   have hl34 : (ho ++ [(at', s2)]).length = (ho).length + 1 := by simp
   replace G := G.grown gr34 (fun k_ hk_ => Nat.le_trans hBw (own_ge ownO k_ hk_))
   replace hB1 := Nat.le_trans hB1 gr34.size
   replace GN := GN.grown gr34 (own_ge ownO)
   replace hc4 := gr_heap gr34 hc4 (fun he_ => by have := (ownO.lt _ he_).1; omega)
   refine stp (r_assign_slice rfl ?_)
   refine WL_nil ?_
   refine W_seq (W_region rfl ?_)
   refine stp (r_move_slice rfl ?_)
   refine stp (r_assign_slice rfl ?_)
   refine WL_nil ?_
   refine W_ret ?_
   rw [← hfin, ← hO]
   refine ret1 (res_tmp (v := .slice ad34 ((ho ++ [(at', s2)]).length) c34) rfl) ⟨own_base own34' hBw, G⟩
  ·-- false
   replace hpt := of_decide_eq_false hpt
   rw [putS, if_neg hpt, List.append_nil] at hO
   refine W_skip ?_
   refine W_seq (W_region rfl ?_)
   refine stp (r_move_slice rfl ?_)
   refine stp (r_assign_slice rfl ?_)
   refine WL_nil ?_
   refine W_ret ?_
   rw [← hfin, ← hO]
   refine ret1 (res_tmp (v := .slice ado ho.length co) rfl) ⟨own_base ownO hBw, G⟩

set_option maxRecDepth 100000 in
theorem rhas_calls (w : World) {ad : Option Addr} {c n : Nat} {L : List Spn} (s1 s2 : Int) (hc : n ≤ c) (hc2 : c ≤ maxLen) (R : RowAt w 2 ad n (encL L)) (hb : n ≤ 274877906944) : Gives Try.prog 31 #[.slice ad n c, .agg #[.int .i64 s1, .int .i64 s2]] w (.bool (hasB L (s1, s2))) := by
 have G := Grow.rfl' w
 refine gives_of Try.func31 Try.ntmps31 Try.results31 rfl rfl ?_
 refine W_seq (W_region rfl ?_)
 refine WL_some (og rfl ?_)
 (first | refine r_box_agg rfl ?_ | refine r_box_int rfl ?_ | refine r_box_slice rfl ?_ | refine r_box rfl rfl ?_)
 intro b1 w2 hb3 hc4 g5
 have hge6 := Nat.le_trans G.size hb3
 replace G := G.tr g5
 clear g5 hb3
 refine stp (r_assign (v := .bool false) rfl ?_)
 refine WL_nil ?_
 refine W_seq (W_region rfl ?_)
 refine stp (r_move_slice rfl ?_)
 refine stp (r_loadAll rfl hc4 (by rfl) ?_)
 refine WL_some (og rfl ?_)
 refine r_call rfl (rholes_calls _ s1 s2 hc hc2 (R.grow G) (by omega)) ?_
 rintro v7 w7 ⟨own7, g7⟩
 replace hc4 := g7.heap hc4
 replace G := G.tr g7
 obtain ⟨ad8, n7, c7, rfl⟩ := own_slice own7
 have hn7 := own_lenS own7
 subst hn7
 refine stp (r_len rfl rfl rfl ?_)
 refine stp (r_eql rfl rfl ?_)
 refine stp (r_assign_bool rfl ?_)
 refine WL_nil ?_
 refine W_ret ?_
 refine ret1 (res_tmp (v := .bool (decide (((hls L (s1, s2)).length : Int) = 0))) rfl) ⟨?_, G⟩
 unfold hasB; cases hls L (s1, s2) <;> simp <;> omega

set_option maxRecDepth 100000 in
theorem rlong_calls (w : World) {ad : Option Addr} {c n : Nat} {L : List Spn} (hc : n ≤ c) (hc2 : c ≤ maxLen) (R : RowAt w 2 ad n (encL L)) (hb : n ≤ 274877906944) (hr : ∀ s ∈ L, -9223372036854775808 ≤ s.1 ∧ s.2 ≤ 9223372036854775807) : Gives Try.prog 33 #[.slice ad n c] w (.int .i64 (longS (nrm L))) := by
 have G := Grow.rfl' w
 refine gives_of Try.func33 Try.ntmps33 Try.results33 rfl rfl ?_
 have hLn := row_lenS R
 have hnl := nrm_len L
 have hrt := (nrm_of L).right
 have hends := (nrm_of L).ends hr
 have hM : (9007199254740992 : Int) = big := rfl
 refine W_seq (W_region rfl ?_)
 refine stp (r_assign_int rfl ?_)
 refine WL_nil ?_
 refine W_seq (W_region rfl ?_)
 refine stp (r_move_slice rfl ?_)
 refine WL_some (og rfl ?_)
 refine r_call rfl (rnorm_calls _ hc hc2 (R.grow G) (by omega)) ?_
 rintro v1 w1 ⟨⟨adn, cn, rfl, hcn, hcn2, RN⟩, g1⟩
 replace G := G.tr g1
 clear g1
 refine stp (r_assign_slice rfl ?_)
 refine WL_nil ?_
 refine W_seq (W_region rfl ?_)
 refine stp (r_assign_int rfl ?_)
 refine WL_nil ?_
 refine W_seq ?_
 refine W_seq (W_region rfl ?_)
 refine stp (r_assign_int rfl ?_)
 refine WL_nil ?_
 refine W_block ?_
 refine W_loop (fun m_ e_ w_ => ∃ (k : Nat), m_ = (nrm L).length - k ∧ Fr [(3, .slice adn ((nrm L).length) cn), (5, .int .i64 (k : Int)), (4, .int .i64 (sumS ((nrm L).take k)))] e_ ∧ (k ≤ (nrm L).length) ∧ (sumS ((nrm L).take k) ≤ 9007199254740992) ∧ (RowAt w_ 2 adn (nrm L).length (encL (nrm L))) ∧ Grow w w_) _ ⟨0, rfl, fr_of ⟨rfl, rfl, rfl, trivial⟩, by omega, by simp [sumS], RN, G⟩ ?_
 clear RN
 clear G
 rintro m_ e_ w1 ⟨k, rfl, ⟨e2, rfl⟩, hk, hs9, RN, G⟩
 have RN1 := RN
 refine W_seq ?_
 refine W_seq (W_region rfl ?_)
 refine stp (r_move_int rfl ?_)
 refine stp (r_move_slice rfl ?_)
 refine stp (r_len rfl rfl rfl ?_)
 refine stp (r_lss rfl rfl ?_)
 refine WL_nil ?_
 refine W_cond2 (b := (decide ((k : Int) < ((nrm L).length : Int)))) rfl (fun hlt => ?_) (fun hlt => ?_)
 ·-- true
  replace hlt := of_decide_eq_true hlt
  have hkN : k < (nrm L).length := by omega
  have hmem : gS (nrm L) k ∈ nrm L := by rw [gS_get hkN]; exact List.getElem_mem hkN
  have he := hends _ hmem
  have hlt9 := hrt.mem _ hmem
  have hst := sumS_take hkN
  have hx0 := sumS_nonneg (RightS.take k hrt)
  have hx1 := sumS_le hrt (k + 1)
  have hwr := wrap_i64 (d := ((gS (nrm L) k).2 - (gS (nrm L) k).1)) (by omega) (by omega)
  refine W_skip ?_
  refine W_seq ?_
  refine W_block ?_
  refine W_seq ?_
  refine W_any 12 [[], [], [1, 0], [2, 1, 0], [3, 2, 1, 0], [], [], [1, 0], [2, 1, 0], [3, 2, 1, 0], [9, 8, 7, 6, 5, 4, 3, 2, 1, 0], [10, 9, 8, 7, 6, 5, 4, 3, 2, 1, 0]] mixed (by kernel_rfl) (by kernel_rfl) (by kernel_rfl) ?_
  intro w3 g4
  replace RN := RN.grow g4
  replace G := G.tr g4
  clear g4
  apply AO_ex
  ·intro w_ g_; refine og rfl ?_; refine r_move_slice rfl ?_; exact ⟨Grow.rfl' _, rfl⟩
  apply AO_ex
  ·intro w_ g_; refine og rfl ?_; refine r_move_int rfl ?_; exact ⟨Grow.rfl' _, rfl⟩
  apply AO_ex
  ·intro w_ g_; refine og rfl ?_; refine r_indexN (RN.grow g_) rfl rfl ?_ ?_; omega; exact ⟨Grow.rfl' _, rfl⟩
  apply AO_ex
  ·intro w_ g_; refine og rfl ?_; refine r_fieldE rfl ?_; exact ⟨Grow.rfl' _, rfl⟩
  apply AO_ex
  ·intro w_ g_; refine og rfl ?_; refine r_loadR (v := .int .i64 ((gS (nrm L) k).2)) (m := 0) (RN.grow g_) rfl (row_gS1 RN1 (by omega)) ?_; exact ⟨Grow.rfl' _, rfl⟩
  apply AO_ex
  ·intro w_ g_; refine og rfl ?_; refine r_move_slice rfl ?_; exact ⟨Grow.rfl' _, rfl⟩
  apply AO_ex
  ·intro w_ g_; refine og rfl ?_; refine r_move_int rfl ?_; exact ⟨Grow.rfl' _, rfl⟩
  apply AO_ex
  ·intro w_ g_; refine og rfl ?_; refine r_indexN (RN.grow g_) rfl rfl ?_ ?_; omega; exact ⟨Grow.rfl' _, rfl⟩
  apply AO_ex
  ·intro w_ g_; refine og rfl ?_; refine r_fieldE rfl ?_; exact ⟨Grow.rfl' _, rfl⟩
  apply AO_ex
  ·intro w_ g_; refine og rfl ?_; refine r_loadR (v := .int .i64 ((gS (nrm L) k).1)) (m := 0) (RN.grow g_) rfl (row_gS0 RN1 (by omega)) ?_; exact ⟨Grow.rfl' _, rfl⟩
  apply AO_ex
  ·intro w_ g_; refine og rfl ?_; refine r_subw rfl rfl ?_; exact ⟨Grow.rfl' _, rfl⟩
  apply AO_ex
  ·intro w_ g_; refine og rfl ?_; refine r_assign_int rfl ?_; exact ⟨Grow.rfl' _, rfl⟩
  refine AO_nil ?_
  intro w5 g6
  replace RN := RN.grow g6
  replace G := G.tr g6
  clear g6
  refine WL_nil ?_
  refine W_seq ?_
  refine W_seq (W_region rfl ?_)
  refine stp (r_move_int rfl ?_)
  refine stp (r_lss rfl rfl ?_)
  refine stp (r_move_bool rfl ?_)
  refine WL_some (og_if (s := .bool (decide ((IntKind.i64.wrap ((gS (nrm L) k).2 - (gS (nrm L) k).1)) < 0))) (b := false) (v := .int .i64 (IntKind.i64.wrap ((gS (nrm L) k).2 - (gS (nrm L) k).1))) rfl (wgb_f _) (fun hc7 => ?_) ?_)
  ·
   have hc7_ := hc7
   try simp only [Bool.and_eq_true, Bool.or_eq_true, Bool.not_eq_true', Bool.and_eq_false_iff, Bool.or_eq_false_iff, Bool.not_eq_false', decide_eq_true_eq, decide_eq_false_iff_not, Bool.not_true, Bool.not_false, Bool.not_eq_eq_eq_not, Bool.or_false, Bool.and_true, Bool.or_true, Bool.and_false, Bool.false_or, Bool.true_and, Bool.true_or, Bool.false_and, Bool.false_eq_true, Bool.true_eq_false] at hc7_
   refine r_move_int rfl ?_
   exact ⟨rfl, rfl⟩
  refine WL_some (og_if (s := .bool (decide ((IntKind.i64.wrap ((gS (nrm L) k).2 - (gS (nrm L) k).1)) < 0))) (b := false) (v := .int .i64 (sumS ((nrm L).take k))) rfl (wgb_f _) (fun hc8 => ?_) ?_)
  ·
   have hc8_ := hc8
   try simp only [Bool.and_eq_true, Bool.or_eq_true, Bool.not_eq_true', Bool.and_eq_false_iff, Bool.or_eq_false_iff, Bool.not_eq_false', decide_eq_true_eq, decide_eq_false_iff_not, Bool.not_true, Bool.not_false, Bool.not_eq_eq_eq_not, Bool.or_false, Bool.and_true, Bool.or_true, Bool.and_false, Bool.false_or, Bool.true_and, Bool.true_or, Bool.false_and, Bool.false_eq_true, Bool.true_eq_false] at hc8_
   refine r_move_int rfl ?_
   exact ⟨rfl, rfl⟩
  refine WL_some (og_if (s := .bool (decide ((IntKind.i64.wrap ((gS (nrm L) k).2 - (gS (nrm L) k).1)) < 0))) (b := false) (v := .int .i64 (9007199254740992 - (sumS ((nrm L).take k)))) rfl (wgb_f _) (fun hc9 => ?_) ?_)
  ·
   have hc9_ := hc9
   try simp only [Bool.and_eq_true, Bool.or_eq_true, Bool.not_eq_true', Bool.and_eq_false_iff, Bool.or_eq_false_iff, Bool.not_eq_false', decide_eq_true_eq, decide_eq_false_iff_not, Bool.not_true, Bool.not_false, Bool.not_eq_eq_eq_not, Bool.or_false, Bool.and_true, Bool.or_true, Bool.and_false, Bool.false_or, Bool.true_and, Bool.true_or, Bool.false_and, Bool.false_eq_true, Bool.true_eq_false] at hc9_
   refine r_sub rfl (gvt hc9) ?_ ?_; constructor <;> omega
   exact ⟨rfl, rfl⟩
  refine WL_some (og_if (s := .bool (decide ((IntKind.i64.wrap ((gS (nrm L) k).2 - (gS (nrm L) k).1)) < 0))) (b := false) (v := .bool (decide ((IntKind.i64.wrap ((gS (nrm L) k).2 - (gS (nrm L) k).1)) > (9007199254740992 - (sumS ((nrm L).take k)))))) rfl (wgb_f _) (fun hc10 => ?_) ?_)
  ·
   have hc10_ := hc10
   try simp only [Bool.and_eq_true, Bool.or_eq_true, Bool.not_eq_true', Bool.and_eq_false_iff, Bool.or_eq_false_iff, Bool.not_eq_false', decide_eq_true_eq, decide_eq_false_iff_not, Bool.not_true, Bool.not_false, Bool.not_eq_eq_eq_not, Bool.or_false, Bool.and_true, Bool.or_true, Bool.and_false, Bool.false_or, Bool.true_and, Bool.true_or, Bool.false_and, Bool.false_eq_true, Bool.true_eq_false] at hc10_
   refine r_gtr (gvt hc10) (gvt hc10) ?_
   exact ⟨rfl, rfl⟩
  refine stp (r_or2 rfl rfl rfl ?_)
  refine WL_nil ?_
  refine W_cond2 (b := ((decide ((IntKind.i64.wrap ((gS (nrm L) k).2 - (gS (nrm L) k).1)) < 0)) || (decide ((IntKind.i64.wrap ((gS (nrm L) k).2 - (gS (nrm L) k).1)) > (9007199254740992 - (sumS ((nrm L).take k))))))) rfl (fun hb9 => ?_) (fun hb9 => ?_)
  ·-- true
   simp only [Bool.and_eq_true, Bool.or_eq_true, Bool.not_eq_true', Bool.and_eq_false_iff, Bool.or_eq_false_iff, Bool.not_eq_false', decide_eq_true_eq, decide_eq_false_iff_not, Bool.not_true, Bool.not_false, Bool.not_eq_eq_eq_not, Bool.or_false, Bool.and_true, Bool.or_true, Bool.and_false, Bool.false_or, Bool.true_and, Bool.true_or, Bool.false_and, Bool.false_eq_true, Bool.true_eq_false] at hb9
   refine W_seq (W_region rfl ?_)
   refine stp (r_assign_int rfl ?_)
   refine WL_nil ?_
   refine W_ret ?_
   refine ret1 (res_tmp (v := .int .i64 9007199254740992) rfl) ⟨?_, G⟩
   unfold longS big; rw [hwr] at hb9; congr 1; split at hb9 <;> omega
  ·-- false
   simp only [Bool.and_eq_true, Bool.or_eq_true, Bool.not_eq_true', Bool.and_eq_false_iff, Bool.or_eq_false_iff, Bool.not_eq_false', decide_eq_true_eq, decide_eq_false_iff_not, Bool.not_true, Bool.not_false, Bool.not_eq_eq_eq_not, Bool.or_false, Bool.and_true, Bool.or_true, Bool.and_false, Bool.false_or, Bool.true_and, Bool.true_or, Bool.false_and, Bool.false_eq_true, Bool.true_eq_false] at hb9
   have hD : IntKind.i64.wrap ((gS (nrm L) k).2 - (gS (nrm L) k).1) = ((gS (nrm L) k).2 - (gS (nrm L) k).1) := by rw [hwr] at hb9 ⊢; split at hb9 <;> split <;> omega
   refine W_skip ?_
   refine W_region rfl ?_
   refine stp (r_move_int rfl ?_)
   refine stp (r_move_int rfl ?_)
   refine WL_some (og rfl ?_)
   refine r_add rfl rfl ?_ ?_; (rw [hD]; constructor <;> (rw [hD] at hb9; omega))
   rw [hD, ← hst]
   refine stp (r_assign_int rfl ?_)
   refine WL_nil ?_
   refine W_region rfl ?_
   refine stp (r_move_int rfl ?_)
   refine stp (r_add rfl rfl ?_ ?_); constructor <;> omega
   refine stp (r_assign_int rfl ?_)
   refine WL_nil ?_
   refine ⟨_, ?_, k + 1, rfl, fr_of ⟨rfl, rfl, rfl, trivial⟩, by omega, by rw [hD] at hb9; omega, RN, G⟩
   omega
 ·-- false
  replace hlt := of_decide_eq_false hlt
  have hk9 : (nrm L).take k = nrm L := List.take_of_length_le (by omega)
  refine W_exit ?_
  refine W_seq (W_region rfl ?_)
  refine stp (r_move_int rfl ?_)
  refine stp (r_assign_int rfl ?_)
  refine WL_nil ?_
  refine W_ret ?_
  refine ret1 (res_tmp (v := .int .i64 (sumS ((nrm L).take k))) rfl) ⟨?_, G⟩
  rw [hk9] at hs9 ⊢; unfold longS big; congr 1; omega

set_option maxRecDepth 100000 in
theorem same_calls (w : World) {ad be : Option Addr} {n c m d : Nat} {A B : List Spn} (RA : RowAt w 2 ad n (encL A)) (RB : RowAt w 2 be m (encL B)) : Gives Try.prog 16 #[.slice ad n c, .slice be m d] w (.bool (decide (A = B))) := by
 have G := Grow.rfl' w
 refine gives_of Try.func16 Try.ntmps16 Try.results16 rfl rfl ?_
 have hA := row_lenS RA
 have hB := row_lenS RB
 have hla := RA.lim
 have hlb := RB.lim
 refine W_seq (W_region rfl ?_)
 refine stp (r_assign (v := .bool false) rfl ?_)
 refine WL_nil ?_
 refine W_seq ?_
 refine W_seq (W_region rfl ?_)
 refine stp (r_move_slice rfl ?_)
 refine stp (r_len rfl rfl rfl ?_)
 refine stp (r_move_slice rfl ?_)
 refine stp (r_len rfl rfl rfl ?_)
 refine stp (r_neq rfl rfl ?_)
 refine WL_nil ?_
 refine W_cond2 (b := (decide ((n : Int) ≠ (m : Int)))) rfl (fun hne => ?_) (fun hne => ?_)
 ·-- true
  replace hne := of_decide_eq_true hne
  refine W_seq (W_region rfl ?_)
  refine stp (r_assign (v := .bool false) rfl ?_)
  refine WL_nil ?_
  refine W_ret ?_
  refine ret1 (res_tmp (v := .bool false) rfl) ⟨?_, G⟩
  rw [decide_eq_false (show ¬ A = B from fun h => by subst h; omega)]
 ·-- false
  replace hne := of_decide_eq_false hne
  refine W_skip ?_
  refine W_seq ?_
  refine W_seq (W_region rfl ?_)
  refine stp (r_assign_int rfl ?_)
  refine WL_nil ?_
  refine W_block ?_
  refine W_loop (fun m_ e_ w_ => ∃ (k : Nat), m_ = n - k ∧ Fr [(0, .slice ad n c), (1, .slice be m d), (5, .int .i64 (k : Int))] e_ ∧ (k ≤ n) ∧ (∀ j, j < k → gS A j = gS B j) ∧ Grow w w_) _ ⟨0, rfl, fr_of ⟨rfl, rfl, rfl, trivial⟩, by omega, fun j hj => by omega, G⟩ ?_
  clear G
  rintro m_ e_ w1 ⟨k, rfl, ⟨e2, rfl⟩, hk, hno, G⟩
  refine W_seq ?_
  refine W_seq (W_region rfl ?_)
  refine stp (r_move_int rfl ?_)
  refine stp (r_move_slice rfl ?_)
  refine stp (r_len rfl rfl rfl ?_)
  refine stp (r_lss rfl rfl ?_)
  refine WL_nil ?_
  refine W_cond2 (b := (decide ((k : Int) < (n : Int)))) rfl (fun hlt => ?_) (fun hlt => ?_)
  ·-- true
   replace hlt := of_decide_eq_true hlt
   refine W_skip ?_
   refine W_seq ?_
   refine W_block ?_
   refine W_seq ?_
   refine W_any 9 [[], [], [1, 0], [2, 1, 0], [], [], [1, 0], [2, 1, 0], [7, 6, 5, 4, 3, 2, 1, 0]] mixed (by kernel_rfl) (by kernel_rfl) (by kernel_rfl) ?_
   intro w3 g4
   replace G := G.tr g4
   clear g4
   apply AO_ex
   ·intro w_ g_; refine og rfl ?_; refine r_move_slice rfl ?_; exact ⟨Grow.rfl' _, rfl⟩
   apply AO_ex
   ·intro w_ g_; refine og rfl ?_; refine r_move_int rfl ?_; exact ⟨Grow.rfl' _, rfl⟩
   apply AO_ex
   ·intro w_ g_; refine og rfl ?_; refine r_indexN (RA.grow (G.tr g_)) rfl rfl ?_ ?_; omega; exact ⟨Grow.rfl' _, rfl⟩
   apply AO_ex
   ·intro w_ g_; refine og rfl ?_; refine r_loadNR (RA.grow (G.tr g_)) rfl (by decide) (by rw [RA.len]; omega) (row_gS RA (by omega)) ?_; exact ⟨Grow.rfl' _, rfl⟩
   apply AO_ex
   ·intro w_ g_; refine og rfl ?_; refine r_move_slice rfl ?_; exact ⟨Grow.rfl' _, rfl⟩
   apply AO_ex
   ·intro w_ g_; refine og rfl ?_; refine r_move_int rfl ?_; exact ⟨Grow.rfl' _, rfl⟩
   apply AO_ex
   ·intro w_ g_; refine og rfl ?_; refine r_indexN (RB.grow (G.tr g_)) rfl rfl ?_ ?_; omega; exact ⟨Grow.rfl' _, rfl⟩
   apply AO_ex
   ·intro w_ g_; refine og rfl ?_; refine r_loadNR (RB.grow (G.tr g_)) rfl (by decide) (by rw [RB.len]; omega) (row_gS RB (by omega)) ?_; exact ⟨Grow.rfl' _, rfl⟩
   apply AO_ex
   ·intro w_ g_; refine og rfl ?_; refine r_neqS rfl rfl (by rfl) ?_; exact ⟨Grow.rfl' _, rfl⟩
   refine AO_nil ?_
   intro w5 g6
   replace G := G.tr g6
   clear g6
   refine WL_nil ?_
   refine W_cond2 (b := (!(decide ((gS A k).1 = (gS B k).1) && (decide ((gS A k).2 = (gS B k).2) && true)))) rfl (fun hx => ?_) (fun hx => ?_)
   ·-- true
    simp only [Bool.and_eq_true, Bool.or_eq_true, Bool.not_eq_true', Bool.and_eq_false_iff, Bool.or_eq_false_iff, Bool.not_eq_false', decide_eq_true_eq, decide_eq_false_iff_not, Bool.not_true, Bool.not_false, Bool.not_eq_eq_eq_not, Bool.or_false, Bool.and_true, Bool.or_true, Bool.and_false, Bool.false_or, Bool.true_and, Bool.true_or, Bool.false_and, Bool.false_eq_true, Bool.true_eq_false] at hx
    refine W_seq (W_region rfl ?_)
    refine stp (r_assign (v := .bool false) rfl ?_)
    refine WL_nil ?_
    refine W_ret ?_
    refine ret1 (res_tmp (v := .bool false) rfl) ⟨?_, G⟩
    rw [decide_eq_false (show ¬ A = B from fun h => by subst h; simp at hx)]
   ·-- false
    simp only [Bool.and_eq_true, Bool.or_eq_true, Bool.not_eq_true', Bool.and_eq_false_iff, Bool.or_eq_false_iff, Bool.not_eq_false', decide_eq_true_eq, decide_eq_false_iff_not, Bool.not_true, Bool.not_false, Bool.not_eq_eq_eq_not, Bool.or_false, Bool.and_true, Bool.or_true, Bool.and_false, Bool.false_or, Bool.true_and, Bool.true_or, Bool.false_and, Bool.false_eq_true, Bool.true_eq_false] at hx
    refine W_skip ?_
    refine W_region rfl ?_
    refine stp (r_move_int rfl ?_)
    refine stp (r_add rfl rfl ?_ ?_); constructor <;> omega
    refine stp (r_assign_int rfl ?_)
    refine WL_nil ?_
    refine ⟨_, ?_, k + 1, rfl, fr_of ⟨rfl, rfl, rfl, trivial⟩, by omega, fun j hj => by rcases Nat.lt_succ_iff_lt_or_eq.1 hj with h | h; exact hno j h; subst h; exact Prod.ext (by simp_all) (by simp_all), G⟩
    omega
  ·-- false
   replace hlt := of_decide_eq_false hlt
   refine W_exit ?_
   refine W_seq (W_region rfl ?_)
   refine stp (r_assign (v := .bool true) rfl ?_)
   refine WL_nil ?_
   refine W_ret ?_
   refine ret1 (res_tmp (v := .bool true) rfl) ⟨?_, G⟩
   rw [decide_eq_true (same_of (by omega) (fun i hi => hno i (by omega)))]
end Go.Proofs.Ytldlfhodboigeaa.K
