/- the statements of chapter 04 (printed by lw04.py). -/
import Derived.Test.YtldlfhodboigeaaLA
set_option linter.unusedVariables false
set_option linter.unusedSimpArgs false
namespace Go.Proofs.Ytldlfhodboigeaa.K
open Go Go.RowKit Go.Proofs
attribute [local irreducible] Run1 OpG WL W AO Gives
set_option maxRecDepth 100000 in
theorem SpanPlaces_calls (w : World) {ad0 : Option Addr} {c0 n0 : Nat} {xs0 : List Int} (hx0 : ∀ x ∈ xs0, 0 ≤ x ∧ x < 256) (hcc0 : n0 ≤ c0) (hm0 : c0 ≤ maxLen) (R0 : RowAt w 1 ad0 n0 (xs0.map (.int .u8))) {a1 : Int} (p1 : 0 ≤ a1) (q1 : a1 ≤ 255) {a2 : Int} (p2 : 0 ≤ a2) (q2 : a2 ≤ 255) {a3 : Int} (p3 : 0 ≤ a3) (q3 : a3 ≤ 255) : Gives Try.prog 7 #[.slice ad0 n0 c0, .int .u8 a1, .int .u8 a2, .int .u8 a3] w (.bool true) := by
 have G := Grow.rfl' w
 refine gives_of Try.func7 Try.ntmps7 Try.results7 rfl rfl ?_
 have hlA := rowS_len xs0
 have hrA := rowS_rng xs0
 have hn0 := nrm_len (rowS xs0)
 have hlH := hls_len (rowS xs0) (a2 % 70, a3 % 70)
 refine W_seq (W_region rfl ?_)
 refine stp (r_assign (v := .bool false) rfl ?_)
 refine WL_nil ?_
 refine W_seq (W_region rfl ?_)
 refine stp (r_move_slice rfl ?_)
 refine WL_some (og rfl ?_)
 refine r_call rfl (rowc_calls _ hx0 hcc0 hm0 (R0.grow G)) ?_
 rintro v1 w1 ⟨own1, g1⟩
 replace G := G.tr g1
 clear g1
 obtain ⟨adM1, cM1, rfl, hcM1, hmM1, RM1⟩ := own_row own1 (by omega)
 refine stp (r_assign_slice rfl ?_)
 refine WL_nil ?_
 refine W_seq (W_region rfl ?_)
 refine stp (r_move_int rfl ?_)
 refine stp (r_rem rfl rfl ?_ ?_ ?_); omega; omega
 refine stp (r_conv rfl ?_ ?_); constructor <;> omega
 refine stp (r_move_int rfl ?_)
 refine stp (r_rem rfl rfl ?_ ?_ ?_); omega; omega
 refine stp (r_conv rfl ?_ ?_); constructor <;> omega
 refine stp (r_build (v := .agg #[.int .i64 (a2 % 70), .int .i64 (a3 % 70)]) (fun w => by kernel_rfl) ?_)
 refine stp (r_alloc ?_)
 intro b2 w3 hb4 hc5 g6
 refine stn (r_storeAll rfl rfl hc5 (by rfl) (by rfl) (by rfl) ?_)
 intro w7 hc8 u9
 have g10 := g6.upd u9 hb4
 have hge11 := Nat.le_trans G.size hb4
 replace RM1 := RM1.grow g10
 replace G := G.tr g10
 clear u9 g6 hb4 hc5
 refine WL_nil ?_
 refine W_seq (W_region rfl ?_)
 refine stp (r_move_slice rfl ?_)
 refine stp (r_loadAll rfl hc8 (by rfl) ?_)
 refine WL_some (og rfl ?_)
 refine r_call rfl (holes_calls _ (a2 % 70) (a3 % 70) hcM1 hmM1 RM1 (by omega)) ?_
 rintro v12 w12 ⟨own12, g12⟩
 replace RM1 := RM1.grow g12
 replace hc8 := g12.heap hc8
 replace G := G.tr g12
 clear g12
 obtain ⟨adM12, cM12, rfl, hcM12, hmM12, RM12⟩ := own_row own12 (by omega)
 refine stp (r_assign_slice rfl ?_)
 refine WL_nil ?_
 refine W_seq (W_region rfl ?_)
 refine stp (r_move_int rfl ?_)
 refine stp (r_rem rfl rfl ?_ ?_ ?_); omega; omega
 refine stp (r_conv rfl ?_ ?_); constructor <;> omega
 refine stp (r_assign_int rfl ?_)
 refine WL_nil ?_
 refine W_seq (W_region rfl ?_)
 refine stp (r_move_int rfl ?_)
 refine stp (r_move_int rfl ?_)
 refine stp (r_add rfl rfl ?_ ?_); constructor <;> omega
 refine stp (r_build (v := .agg #[.int .i64 (a1 % 70), .int .i64 (a1 % 70 + 1)]) (fun w => by kernel_rfl) ?_)
 refine stp (r_alloc ?_)
 intro b13 w14 hb15 hc16 g17
 refine stn (r_storeAll rfl rfl hc16 (by rfl) (by rfl) (by rfl) ?_)
 intro w18 hc19 u20
 have g21 := g17.upd u20 hb15
 have hge22 := Nat.le_trans G.size hb15
 have ne23 := Nat.ne_of_lt (Nat.lt_of_lt_of_le (lt_of_heap hc8) hb15)
 replace RM1 := RM1.grow g21
 replace hc8 := g21.heap hc8
 replace RM12 := RM12.grow g21
 replace G := G.tr g21
 clear u20 g17 hb15 hc16
 refine WL_nil ?_
 refine W_seq (W_region rfl ?_)
 refine stp (r_move_int rfl ?_)
 refine stp (r_fieldAddr rfl ?_)
 refine stp (r_load (v := .int .i64 (a2 % 70)) rfl hc8 rfl ?_)
 refine stp (r_geq rfl rfl ?_)
 refine stp (r_move_bool rfl ?_)
 refine WL_some (og_if (s := .bool (decide ((a1 % 70) ≥ (a2 % 70)))) (b := true) (v := .int .i64 (a1 % 70)) rfl (wgb_t _) (fun hc24 => ?_) ?_)
 ·
  have hc24_ := of_decide_eq_true hc24
  refine r_move_int rfl ?_
  exact ⟨rfl, rfl⟩
 refine WL_some (og_if (s := .bool (decide ((a1 % 70) ≥ (a2 % 70)))) (b := true) (v := .pointer (some ⟨b2, 1, none⟩)) rfl (wgb_t _) (fun hc25 => ?_) ?_)
 ·
  have hc25_ := of_decide_eq_true hc25
  refine r_fieldAddr rfl ?_
  exact ⟨rfl, rfl⟩
 refine WL_some (og_if (s := .bool (decide ((a1 % 70) ≥ (a2 % 70)))) (b := true) (v := .int .i64 (a3 % 70)) rfl (wgb_t _) (fun hc26 => ?_) ?_)
 ·
  have hc26_ := of_decide_eq_true hc26
  refine r_load (v := .int .i64 (a3 % 70)) (gvt hc26) hc8 rfl ?_
  exact ⟨rfl, rfl⟩
 refine WL_some (og_if (s := .bool (decide ((a1 % 70) ≥ (a2 % 70)))) (b := true) (v := .bool (decide ((a1 % 70) < (a3 % 70)))) rfl (wgb_t _) (fun hc27 => ?_) ?_)
 ·
  have hc27_ := of_decide_eq_true hc27
  refine r_lss (gvt hc27) (gvt hc27) ?_
  exact ⟨rfl, rfl⟩
 refine stp (r_and2 rfl rfl rfl ?_)
 refine stp (r_assign_bool rfl ?_)
 refine WL_nil ?_
 refine W_seq (W_region rfl ?_)
 refine stp (r_gives (v := .bool true) rfl (known_calls _) ?_)
 intro w28 g29
 replace RM1 := RM1.grow g29
 replace hc8 := g29.heap hc8
 replace RM12 := RM12.grow g29
 replace hc19 := g29.heap hc19
 replace G := G.tr g29
 clear g29
 refine stp (r_move (v := .bool true) rfl ?_)
 refine stp (r_move_slice rfl ?_)
 refine stp (r_loadAll rfl hc19 (by rfl) ?_)
 refine stp (r_gives (v := .bool (hasB (hls (rowS xs0) (a2 % 70, a3 % 70)) (a1 % 70, a1 % 70 + 1))) rfl (has_calls _ (a1 % 70) (a1 % 70 + 1) hcM12 hmM12 RM12 (by omega)) ?_)
 intro w30 g31
 replace RM1 := RM1.grow g31
 replace hc8 := g31.heap hc8
 replace RM12 := RM12.grow g31
 replace hc19 := g31.heap hc19
 replace G := G.tr g31
 clear g31
 refine stp (r_move_bool rfl ?_)
 refine stp (r_move_bool rfl ?_)
 refine WL_some (og_if (s := .bool ((decide ((a1 % 70) ≥ (a2 % 70))) && (decide ((a1 % 70) < (a3 % 70))))) (b := true) (v := .slice adM1 ((rowS xs0).length) cM1) rfl (wgb_t _) (fun hc32 => ?_) ?_)
 ·
  obtain ⟨hc32a, hc32b⟩ := and_t hc32
  have hc32a_ := of_decide_eq_true hc32a
  have hc32b_ := of_decide_eq_true hc32b
  refine r_move_slice rfl ?_
  exact ⟨rfl, rfl⟩
 refine WL_some (og_if (s := .bool ((decide ((a1 % 70) ≥ (a2 % 70))) && (decide ((a1 % 70) < (a3 % 70))))) (b := true) (v := .agg #[.int .i64 (a1 % 70), .int .i64 (a1 % 70 + 1)]) rfl (wgb_t _) (fun hc33 => ?_) ?_)
 ·
  obtain ⟨hc33a, hc33b⟩ := and_t hc33
  have hc33a_ := of_decide_eq_true hc33a
  have hc33b_ := of_decide_eq_true hc33b
  refine r_loadAll rfl hc19 (by rfl) ?_
  exact ⟨rfl, rfl⟩
 refine WL_some (og_ifg (s := .bool ((decide ((a1 % 70) ≥ (a2 % 70))) && (decide ((a1 % 70) < (a3 % 70))))) (b := true) (v := .bool (hasB (rowS xs0) (a1 % 70, a1 % 70 + 1))) rfl (wgb_t _) (fun hc34 => ?_) ?_)
 ·
  obtain ⟨hc34a, hc34b⟩ := and_t hc34
  have hc34a_ := of_decide_eq_true hc34a
  have hc34b_ := of_decide_eq_true hc34b
  exact r_givesA (l := ([.slice adM1 ((rowS xs0).length) cM1, .agg #[.int .i64 (a1 % 70), .int .i64 (a1 % 70 + 1)]] : List Value)) rfl (by show ([gv ((decide ((a1 % 70) ≥ (a2 % 70))) && (decide ((a1 % 70) < (a3 % 70)))) (.slice adM1 ((rowS xs0).length) cM1), gv ((decide ((a1 % 70) ≥ (a2 % 70))) && (decide ((a1 % 70) < (a3 % 70)))) (.agg #[.int .i64 (a1 % 70), .int .i64 (a1 % 70 + 1)])] : List Value) = _; rw [gvt hc34, gvt hc34]) (has_calls _ (a1 % 70) (a1 % 70 + 1) hcM1 hmM1 RM1 (by omega)) (fun w2_ g2_ => ⟨rfl, g2_⟩)
 intro w35 g36
 replace RM1 := RM1.grow g36
 replace hc8 := g36.heap hc8
 replace RM12 := RM12.grow g36
 replace hc19 := g36.heap hc19
 replace G := G.tr g36
 clear g36
 refine WL_some (og_if (s := .bool ((decide ((a1 % 70) ≥ (a2 % 70))) && (decide ((a1 % 70) < (a3 % 70))))) (b := true) (v := .bool (!(hasB (rowS xs0) (a1 % 70, a1 % 70 + 1)))) rfl (wgb_t _) (fun hc37 => ?_) ?_)
 ·
  obtain ⟨hc37a, hc37b⟩ := and_t hc37
  have hc37a_ := of_decide_eq_true hc37a
  have hc37b_ := of_decide_eq_true hc37b
  refine r_not (gvt hc37) ?_
  exact ⟨rfl, rfl⟩
 refine stp (r_and2 rfl rfl rfl ?_)
 refine stp (r_beq' (r := true) rfl rfl (by rw [places_has]; exact beq_self_eq_true _) ?_)
 refine stp (r_pick_t (v := .bool true) rfl rfl rfl ?_)
 refine stp (r_move (v := .bool true) rfl ?_)
 refine stp (r_move_slice rfl ?_)
 refine stp (r_gives (v := .bool true) rfl ((by have h_ := right_calls w35 hcM12 hmM12 RM12 (by omega); rw [hls_right] at h_; exact h_)) ?_)
 intro w38 g39
 replace RM1 := RM1.grow g39
 replace hc8 := g39.heap hc8
 replace RM12 := RM12.grow g39
 replace hc19 := g39.heap hc19
 replace G := G.tr g39
 clear g39
 refine stp (r_pick_t (v := .bool true) rfl rfl rfl ?_)
 refine stp (r_move (v := .bool true) rfl ?_)
 refine stp (r_move_slice rfl ?_)
 refine stp (r_move_int rfl ?_)
 refine stp (r_move_int rfl ?_)
 refine stp (r_build (v := .agg #[.int .i64 (a1 % 70), .int .i64 (a1 % 70)]) (fun w => by kernel_rfl) ?_)
 refine stp (r_gives (v := .bool true) rfl ((by have h_ := has_calls w38 (a1 % 70) (a1 % 70) hcM1 hmM1 RM1 (by omega); rw [none_has] at h_; exact h_)) ?_)
 intro w40 g41
 replace RM1 := RM1.grow g41
 replace hc8 := g41.heap hc8
 replace RM12 := RM12.grow g41
 replace hc19 := g41.heap hc19
 replace G := G.tr g41
 clear g41
 refine stp (r_pick_t (v := .bool true) rfl rfl rfl ?_)
 refine stp (r_move (v := .bool true) rfl ?_)
 refine stp (r_move_slice rfl ?_)
 refine stp (r_loadAll rfl hc8 (by rfl) ?_)
 refine stp (r_gives (v := .bool (hasB (rowS xs0) (a2 % 70, a3 % 70))) rfl (has_calls _ (a2 % 70) (a3 % 70) hcM1 hmM1 RM1 (by omega)) ?_)
 intro w42 g43
 replace RM1 := RM1.grow g43
 replace hc8 := g43.heap hc8
 replace RM12 := RM12.grow g43
 replace hc19 := g43.heap hc19
 replace G := G.tr g43
 clear g43
 refine stp (r_move_slice rfl ?_)
 refine stp (r_len rfl rfl rfl ?_)
 refine stp (r_eql rfl rfl ?_)
 refine stp (r_beq' (r := true) rfl rfl (by unfold hasB; cases hls (rowS xs0) (a2 % 70, a3 % 70) <;> simp <;> omega) ?_)
 refine stp (r_pick_t (v := .bool true) rfl rfl rfl ?_)
 refine stp (r_assign (v := .bool true) rfl ?_)
 refine WL_nil ?_
 refine W_ret ?_
 refine ret1 (res_tmp (v := .bool true) rfl) ⟨?_, G⟩
 rfl
end Go.Proofs.Ytldlfhodboigeaa.K
