/- package span (printed by sp04.py). -/
import Derived.Test.YtldlfhodboigeaaSC
import Derived.Test.YtldlfhodboigeaaE04
set_option linter.unusedVariables false
set_option linter.unusedSimpArgs false
namespace Go.Proofs.Ytldlfhodboigeaa.K
open Go Go.RowKit Go.Proofs
attribute [local irreducible] Run1 OpG WL W AO Gives
set_option maxRecDepth 100000 in
theorem norm_calls (w : World) {ad : Option Addr} {c n : Nat} {L : List Spn} (hc : n ≤ c) (hc2 : c ≤ maxLen) (R : RowAt w 2 ad n (encL L)) (hb : n ≤ 8796093022208) : Calls Try.prog 11 #[.slice ad n c] w (Ret fun v w' => w'.ownsRow w.heap.size 26 2 v (nrm L).length (encL (nrm L)) ∧ Grow w w') := by
 refine calls_ret Try.func11 Try.ntmps11 Try.results11 rfl rfl ?_
 have hLn := row_lenS R
 refine W_seq (W_region rfl ?_)
 refine stp (r_assign_slice rfl ?_)
 refine WL_nil ?_
 refine W_seq (W_region rfl ?_)
 refine stp (r_move_slice rfl ?_)
 refine WL_some (og rfl ?_)
 refine r_call rfl (clone_calls w hc hc2 R hb) ?_
 rintro v1 w1 ⟨own1, G1⟩
 obtain ⟨ad1, n1, c1, rfl⟩ := own_slice own1
 have hn1 := own_lenS own1
 rw [← hLn] at hn1 own1
 subst hn1
 refine WL_some (og rfl ?_)
 refine r_call rfl (delete_calls w1 own1 G1.size (by omega)) ?_
 rintro v2 w2 ⟨own2, B2⟩
 obtain ⟨ad2, n2, c2, rfl⟩ := own_slice own2
 have hn2 := own_lenS own2
 subst hn2
 have G2 : Grow w w2 := Below.trans G1 B2
 refine stp (r_assign_slice rfl ?_)
 refine WL_nil ?_
 refine W_seq (W_region rfl ?_)
 refine stp (r_move_slice rfl ?_)
 refine WL_some (og rfl ?_)
 have hfl : (L.filter keepS).length ≤ L.length := List.length_filter_le _ _
 refine r_call rfl (sort2_calls w2 own2 G2.size (by omega)) ?_
 rintro v3 w3 ⟨M, hperm, hpair, own3, B3⟩
 have G3 : Grow w w3 := Below.trans G2 B3
 have hML := hperm.length_eq
 obtain ⟨ad3, c3, he3, -, -, R3⟩ := own_row own3 (by omega)
 simp only [Value.slice.injEq, true_and] at he3
 obtain ⟨rfl, rfl⟩ := he3
 have G0 := Grow.rfl' w3
 have ownO : w3.ownsRow w3.heap.size 26 2 (.slice none 0 0) 0 (encL ([] : List Spn).reverse) := World.ownsRow_nil _ _ _ _
 refine WL_nil ?_
 refine W_seq (W_region rfl ?_)
 refine stp (r_assign_slice rfl ?_)
 refine WL_nil ?_
 refine W_seq ?_
 refine W_seq (W_region rfl ?_)
 refine stp (r_move_slice rfl ?_)
 refine stp (r_len rfl rfl rfl ?_)
 refine stp (r_move_int rfl ?_)
 refine WL_nil ?_
 refine W_block ?_
 refine W_loop (fun m_ e_ w_ => ∃ (k : Nat) (ado : Option Addr) (co : Nat), m_ = (L.filter keepS).length - k ∧ Fr [(2, .slice none 0 0), (14, .slice ad2 ((L.filter keepS).length) c2), (15, .int .i64 ((L.filter keepS).length : Int)), (16, .int .i64 (k : Int)), (4, .slice ado ((normO M k).length) co)] e_ ∧ (k ≤ (L.filter keepS).length) ∧ (Grow w3 w_) ∧ (w_.ownsRow w3.heap.size 26 2 (.slice ado (normO M k).length co) (normO M k).length (encL (normO M k).reverse))) _ ⟨0, _, _, rfl, fr_of ⟨rfl, rfl, rfl, rfl, rfl, trivial⟩, by omega, G0, ownO⟩ ?_
 clear G0 ownO
 rintro m_ e_ w1 ⟨k, ado, co, rfl, ⟨e2, rfl⟩, hk, G0, ownO⟩
 refine W_seq (W_region rfl ?_)
 refine stp (r_lss rfl rfl ?_)
 refine WL_nil ?_
 refine W_seq ?_
 refine W_cond2 (b := (decide ((k : Int) < ((L.filter keepS).length : Int)))) rfl (fun hlt => ?_) (fun hlt => ?_)
 ·-- true
  replace hlt := of_decide_eq_true hlt
  have hkM : k < M.length := by omega
  have hlen := normR_len (M.take k) []
  rw [List.length_take] at hlen
  have hln : (normO M k).length ≤ k := by unfold normO; simp only [List.length_nil] at hlen; omega
  obtain ⟨ado', co', heo, -, -, RO⟩ := own_row ownO (by omega)
  simp only [Value.slice.injEq, true_and] at heo
  obtain ⟨rfl, rfl⟩ := heo
  refine W_skip ?_
  refine W_seq ?_
  refine W_block ?_
  refine W_seq (W_region rfl ?_)
  refine stp (r_indexN (R3.grow G0) rfl rfl ?_ ?_); omega
  refine stp (r_loadNR (R3.grow G0) rfl (by decide) (by rw [R3.len]; omega) (row_gS R3 (by omega)) ?_)
  refine stp (r_alloc ?_)
  intro b3 w4 hb5 hc6 g7
  refine stn (r_storeAll rfl rfl hc6 (by rfl) (by rfl) (by rfl) ?_)
  intro w8 hc9 u10
  have g11 := g7.upd u10 hb5
  replace G0 := G0.tr g11
  replace ownO := own_grow ownO g11
  replace RO := RO.grow g11
  clear u10 g7 hb5 hc6
  refine WL_nil ?_
  refine W_seq ?_
  refine W_seq (W_region rfl ?_)
  refine stp (r_move_slice rfl ?_)
  refine stp (r_len rfl rfl rfl ?_)
  refine stp (r_assign_int rfl ?_)
  refine WL_nil ?_
  refine W_seq ?_
  refine W_any 13 [[], [0], [1, 0], [2, 1, 0], [3, 2, 1, 0], [4, 3, 2], [5, 4, 3], [6, 5, 4, 0], [7, 6, 5, 2, 1, 0], [8, 7, 6, 3, 2, 1, 0], [9, 8, 7, 4, 3, 2, 1, 0], [10, 9, 8, 7, 6, 5, 4, 3, 2, 1, 0], [11, 10, 9, 8, 7, 6, 5, 4, 3, 2, 1, 0]] mixed (by kernel_rfl) (by kernel_rfl) (by kernel_rfl) ?_
  intro w12 g13
  replace G0 := G0.tr g13
  replace ownO := own_grow ownO g13
  replace RO := RO.grow g13
  replace hc9 := g13.heap hc9
  clear g13
  apply AO_ex
  ·intro w_ g_; refine og rfl ?_; refine r_move_int rfl ?_; exact ⟨Grow.rfl' _, rfl⟩
  apply AO_ex
  ·intro w_ g_; refine og rfl ?_; refine r_gtr rfl rfl ?_; exact ⟨Grow.rfl' _, rfl⟩
  apply AO_ex
  ·intro w_ g_; refine og rfl ?_; refine r_move_bool rfl ?_; exact ⟨Grow.rfl' _, rfl⟩
  apply AO_ex
  ·intro w_ g_; 
   refine og_if (s := .bool (decide (((normO M k).length : Int) > 0))) (b := true) (v := .pointer (some ⟨b3, 0, none⟩)) rfl (wgb_t _) (fun hc14 => ?_) ?_
   ·
    have hc14_ := of_decide_eq_true hc14
    refine r_fieldAddr rfl ?_
    exact ⟨rfl, rfl⟩
   exact ⟨Grow.rfl' _, rfl⟩
  apply AO_ex
  ·intro w_ g_; 
   refine og_if (s := .bool (decide (((normO M k).length : Int) > 0))) (b := true) (v := .int .i64 ((gS M k).1)) rfl (wgb_t _) (fun hc15 => ?_) ?_
   ·
    have hc15_ := of_decide_eq_true hc15
    refine r_load (v := .int .i64 ((gS M k).1)) (gvt hc15) (g_.heap hc9) rfl ?_
    exact ⟨rfl, rfl⟩
   exact ⟨Grow.rfl' _, rfl⟩
  apply AO_ex
  ·intro w_ g_; 
   refine og_if (s := .bool (decide (((normO M k).length : Int) > 0))) (b := true) (v := .slice ado ((normO M k).length) co) rfl (wgb_t _) (fun hc16 => ?_) ?_
   ·
    have hc16_ := of_decide_eq_true hc16
    refine r_move_slice rfl ?_
    exact ⟨rfl, rfl⟩
   exact ⟨Grow.rfl' _, rfl⟩
  apply AO_ex
  ·intro w_ g_; 
   refine og_if (s := .bool (decide (((normO M k).length : Int) > 0))) (b := true) (v := .int .i64 ((normO M k).length : Int)) rfl (wgb_t _) (fun hc17 => ?_) ?_
   ·
    have hc17_ := of_decide_eq_true hc17
    refine r_move_int rfl ?_
    exact ⟨rfl, rfl⟩
   exact ⟨Grow.rfl' _, rfl⟩
  apply AO_ex
  ·intro w_ g_; 
   refine og_if (s := .bool (decide (((normO M k).length : Int) > 0))) (b := true) (v := .int .i64 (((normO M k).length : Int) - 1)) rfl (wgb_t _) (fun hc18 => ?_) ?_
   ·
    have hc18_ := of_decide_eq_true hc18
    refine r_sub (gvt hc18) rfl ?_ ?_; constructor <;> omega
    exact ⟨rfl, rfl⟩
   exact ⟨Grow.rfl' _, rfl⟩
  apply AO_ex
  ·intro w_ g_; 
   refine og_if (s := .bool (decide (((normO M k).length : Int) > 0))) (b := true) (v := .pointer (some (eadr ado ((((normO M k).length : Int) - 1).toNat * 2)))) rfl (wgb_t _) (fun hc19 => ?_) ?_
   ·
    have hc19_ := of_decide_eq_true hc19
    refine r_indexR (RO.grow g_) (gvt hc19) (gvt hc19) ?_ ?_ ?_; omega; omega
    exact ⟨rfl, rfl⟩
   exact ⟨Grow.rfl' _, rfl⟩
  apply AO_ex
  ·intro w_ g_; 
   refine og_if (s := .bool (decide (((normO M k).length : Int) > 0))) (b := true) (v := .pointer (some (eadr ado ((((normO M k).length : Int) - 1).toNat * 2 + 1)))) rfl (wgb_t _) (fun hc20 => ?_) ?_
   ·
    have hc20_ := of_decide_eq_true hc20
    refine r_fieldE (gvt hc20) ?_
    exact ⟨rfl, rfl⟩
   exact ⟨Grow.rfl' _, rfl⟩
  apply AO_ex
  ·intro w_ g_; 
   refine og_if (s := .bool (decide (((normO M k).length : Int) > 0))) (b := true) (v := .int .i64 ((hdS (normO M k)).2)) rfl (wgb_t _) (fun hc21 => ?_) ?_
   ·
    have hc21_ := of_decide_eq_true hc21
    refine r_loadR (v := .int .i64 ((hdS (normO M k)).2)) (m := 0) (RO.grow g_) (gvt hc21) (row_last (by omega) 1 (by omega)) ?_
    exact ⟨rfl, rfl⟩
   exact ⟨Grow.rfl' _, rfl⟩
  apply AO_ex
  ·intro w_ g_; 
   refine og_if (s := .bool (decide (((normO M k).length : Int) > 0))) (b := true) (v := .bool (decide (((gS M k).1) ≤ ((hdS (normO M k)).2)))) rfl (wgb_t _) (fun hc22 => ?_) ?_
   ·
    have hc22_ := of_decide_eq_true hc22
    refine r_leq (gvt hc22) (gvt hc22) ?_
    exact ⟨rfl, rfl⟩
   exact ⟨Grow.rfl' _, rfl⟩
  apply AO_ex
  ·intro w_ g_; refine og rfl ?_; refine r_and2 rfl rfl rfl ?_; exact ⟨Grow.rfl' _, rfl⟩
  refine AO_nil ?_
  intro w23 g24
  replace G0 := G0.tr g24
  replace ownO := own_grow ownO g24
  replace RO := RO.grow g24
  replace hc9 := g24.heap hc9
  clear g24
  refine WL_nil ?_
  refine W_cond2 (b := ((decide (((normO M k).length : Int) > 0)) && (decide (((gS M k).1) ≤ ((hdS (normO M k)).2))))) rfl (fun hj => ?_) (fun hj => ?_)
  ·-- true
   simp only [Bool.and_eq_true, Bool.or_eq_true, Bool.not_eq_true', Bool.and_eq_false_iff, Bool.or_eq_false_iff, Bool.not_eq_false', decide_eq_true_eq, decide_eq_false_iff_not, Bool.not_true, Bool.not_false, Bool.not_eq_eq_eq_not, Bool.or_false, Bool.and_true, Bool.or_true, Bool.and_false, Bool.false_or, Bool.true_and, Bool.true_or, Bool.false_and, Bool.false_eq_true, Bool.true_eq_false] at hj
   have hpos : 0 < (normO M k).length := by omega
   have hle : (gS M k).1 ≤ (hdS (normO M k)).2 := hj.2
   obtain ⟨q, cap, cur, hv, hq, hgc, hn1, hn2, hcs, hct⟩ := own_pos ownO hpos
   simp only [Value.slice.injEq, true_and] at hv
   obtain ⟨rfl, rfl⟩ := hv
   have hjl : (normO M (k + 1)).length = (normO M k).length := by rw [show normO M (k + 1) = joinS (normO M k) (gS M k) from normR_step hkM, join_set hpos hle]; simp; omega
   refine W_seq (W_region rfl ?_)
   refine stp (r_move_slice rfl ?_)
   refine stp (r_move_int rfl ?_)
   refine stp (r_sub rfl rfl ?_ ?_); constructor <;> omega
   refine stp (r_indexR RO rfl rfl ?_ ?_ ?_); omega; omega
   refine stp (r_assign (v := .pointer (some (eadr (some ⟨q, 0, none⟩) ((((normO M k).length : Int) - 1).toNat * 2)))) rfl ?_)
   refine WL_nil ?_
   refine W_seq ?_
   refine W_any 10 [[], [], [0], [1, 0], [2, 1, 0], [], [0], [5, 4, 3, 2, 1, 0], [7, 6, 5, 4, 3, 2, 1, 0], [8, 7, 6, 5, 4, 3, 2, 1, 0]] mixed (by kernel_rfl) (by kernel_rfl) (by kernel_rfl) ?_
   intro w25 g26
   replace G0 := G0.tr g26
   replace ownO := own_grow ownO g26
   replace RO := RO.grow g26
   replace hc9 := g26.heap hc9
   replace hgc := g26.heap hgc
   clear g26
   apply AO_ex
   ·intro w_ g_; refine og rfl ?_; refine r_move (v := .pointer (some (eadr (some ⟨q, 0, none⟩) ((((normO M k).length : Int) - 1).toNat * 2)))) rfl ?_; exact ⟨Grow.rfl' _, rfl⟩
   apply AO_ex
   ·intro w_ g_; refine og rfl ?_; refine r_move (v := .pointer (some (eadr (some ⟨q, 0, none⟩) ((((normO M k).length : Int) - 1).toNat * 2)))) rfl ?_; exact ⟨Grow.rfl' _, rfl⟩
   apply AO_ex
   ·intro w_ g_; refine og rfl ?_; refine r_nilCheck rfl ?_; exact ⟨Grow.rfl' _, rfl⟩
   apply AO_ex
   ·intro w_ g_; refine og rfl ?_; refine r_fieldE rfl ?_; exact ⟨Grow.rfl' _, rfl⟩
   apply AO_ex
   ·intro w_ g_; refine og rfl ?_; refine r_loadR (v := .int .i64 ((hdS (normO M k)).2)) (m := 0) (RO.grow g_) rfl (row_last (by omega) 1 (by omega)) ?_; exact ⟨Grow.rfl' _, rfl⟩
   apply AO_ex
   ·intro w_ g_; refine og rfl ?_; refine r_fieldAddr rfl ?_; exact ⟨Grow.rfl' _, rfl⟩
   apply AO_ex
   ·intro w_ g_; refine og rfl ?_; refine r_load (v := .int .i64 ((gS M k).2)) rfl (g_.heap hc9) rfl ?_; exact ⟨Grow.rfl' _, rfl⟩
   apply AO_ex
   ·intro w_ g_; refine og rfl ?_; refine r_max rfl rfl rfl ?_; exact ⟨Grow.rfl' _, rfl⟩
   apply AO_ex
   ·intro w_ g_; refine og rfl ?_; refine r_nilCheck rfl ?_; exact ⟨Grow.rfl' _, rfl⟩
   apply AO_ex
   ·intro w_ g_; refine og rfl ?_; refine r_fieldE rfl ?_; exact ⟨Grow.rfl' _, rfl⟩
   refine AO_nil ?_
   intro w27 g28
   replace G0 := G0.tr g28
   replace ownO := own_grow ownO g28
   replace RO := RO.grow g28
   replace hc9 := g28.heap hc9
   replace hgc := g28.heap hgc
   clear g28
   refine stn (r_store (b := q) (o := 0 + (((normO M k).length : Int) - 1).toNat * 2 + 1) (n := 1) (v := .int .i64 (max (hdS (normO M k)).2 (gS M k).2)) rfl (congrArg (Value.int .i64) (by simp only [Int.max_def]; split <;> split <;> omega)) rfl hgc rfl (Nat.ble_eq_true_of_le (by omega)) rfl rfl ?_)
   intro w29 hgc2 u2
   have own9 := own_last ownO hpos hgc hgc2
   rw [← join_set hpos hle, show joinS (normO M k) (gS M k) = normO M (k + 1) from (normR_step hkM).symm] at own9
   have G9 := G0.upd u2 hq
   refine WL_nil ?_
   refine W_exit ?_
   refine W_region rfl ?_
   refine stp (r_add rfl rfl ?_ ?_); constructor <;> omega
   refine stp (r_move_int rfl ?_)
   refine WL_nil ?_
   rw [← hjl] at own9
   refine ⟨_, ?_, k + 1, _, _, rfl, fr_of ⟨rfl, rfl, rfl, congrArg (Value.int .i64) (by omega), by rw [hjl]; rfl, trivial⟩, by omega, G9, own9⟩
   omega
  ·-- false
   simp only [Bool.and_eq_true, Bool.or_eq_true, Bool.not_eq_true', Bool.and_eq_false_iff, Bool.or_eq_false_iff, Bool.not_eq_false', decide_eq_true_eq, decide_eq_false_iff_not, Bool.not_true, Bool.not_false, Bool.not_eq_eq_eq_not, Bool.or_false, Bool.and_true, Bool.or_true, Bool.and_false, Bool.false_or, Bool.true_and, Bool.true_or, Bool.false_and, Bool.false_eq_true, Bool.true_eq_false] at hj
   have hnj : ¬ (0 < (normO M k).length ∧ (gS M k).1 ≤ (hdS (normO M k)).2) := by rintro ⟨h1, h2⟩; rcases hj with hj | hj <;> omega
   refine W_skip ?_
   refine W_region rfl ?_
   refine stp (r_move_slice rfl ?_)
   refine stp (r_loadAll rfl hc9 (by rfl) ?_)
   refine stp (r_buildSlice (cs := #[.int .i64 ((gS M k).1), .int .i64 ((gS M k).2)]) (el := 26) (fun w => by kernel_rfl) ?_)
   intro bs30 w31 hb32 hc33 g34
   replace G0 := G0.tr g34
   replace ownO := own_grow ownO g34
   replace RO := RO.grow g34
   replace hc9 := g34.heap hc9
   clear g34
   refine stp (r_append rfl rfl rfl rfl ownO (Row.of_block (n := 1) hc33 rfl rfl (by omega)) (fun q_ hq_ => by simp at hq_; rcases hq_ with rfl | rfl <;> rfl) (by simp only [maxLen]; omega) (by omega) G0.size ?_)
   intro v9 w9 own9 gr9
   have G9 := G0.grown gr9 (own_ge ownO)
   replace own9 := own_push own9
   rw [← join_push hnj, show joinS (normO M k) (gS M k) = normO M (k + 1) from (normR_step hkM).symm] at own9
   obtain ⟨ad9, n9, c9, rfl⟩ := own_slice own9
   have hn9 := own_lenS own9
   subst hn9
   refine stp (r_assign_slice rfl ?_)
   refine WL_nil ?_
   refine W_region rfl ?_
   refine stp (r_add rfl rfl ?_ ?_); constructor <;> omega
   refine stp (r_move_int rfl ?_)
   refine WL_nil ?_
   refine ⟨_, ?_, k + 1, _, _, rfl, fr_of ⟨rfl, rfl, rfl, congrArg (Value.int .i64) (by omega), rfl, trivial⟩, by omega, G9, own9⟩
   omega
 ·-- false
  replace hlt := of_decide_eq_false hlt
  have hk9 : k = M.length := by omega
  have hO : normO M k = normR M := by unfold normO normR; rw [hk9, List.take_length]
  have hlen := normR_len M []
  refine W_exit ?_
  refine W_seq (W_region rfl ?_)
  refine stp (r_move_slice rfl ?_)
  refine stp (r_assign_slice rfl ?_)
  refine WL_nil ?_
  refine W_ret ?_
  rw [hO] at ownO
  refine ret1 (res_tmp (v := .slice ado ((normO M k).length) co) rfl) ⟨?_, Below.trans G3 (Below.mono G0 G3.size)⟩
  rw [← (norm_of hperm hpair).eq]
  unfold normS
  rw [List.length_reverse, hO]
  exact own_base ownO G3.size
end Go.Proofs.Ytldlfhodboigeaa.K
