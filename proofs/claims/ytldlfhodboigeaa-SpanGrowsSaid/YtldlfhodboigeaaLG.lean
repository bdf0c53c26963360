/- the statements of chapter 04 (printed by lw04.py). -/
import Derived.Test.YtldlfhodboigeaaLA
set_option linter.unusedVariables false
set_option linter.unusedSimpArgs false
namespace Go.Proofs.Ytldlfhodboigeaa.K
open Go Go.RowKit Go.Proofs
attribute [local irreducible] Run1 OpG WL W AO Gives
set_option maxRecDepth 100000 in
theorem SpanGrows_calls (w : World) {ad0 : Option Addr} {c0 n0 : Nat} {xs0 : List Int} (hx0 : ∀ x ∈ xs0, 0 ≤ x ∧ x < 256) (hcc0 : n0 ≤ c0) (hm0 : c0 ≤ maxLen) (R0 : RowAt w 1 ad0 n0 (xs0.map (.int .u8))) {ad1 : Option Addr} {c1 n1 : Nat} {xs1 : List Int} (hx1 : ∀ x ∈ xs1, 0 ≤ x ∧ x < 256) (hcc1 : n1 ≤ c1) (hm1 : c1 ≤ maxLen) (R1 : RowAt w 1 ad1 n1 (xs1.map (.int .u8))) {a2 : Int} (p2 : 0 ≤ a2) (q2 : a2 ≤ 255) : Gives Try.prog 4 #[.slice ad0 n0 c0, .slice ad1 n1 c1, .int .u8 a2] w (.bool true) := by
 have G := Grow.rfl' w
 refine gives_of Try.func4 Try.ntmps4 Try.results4 rfl rfl ?_
 have hlA := rowS_len xs0
 have hlB := rowS_len xs1
 have hrA := rowS_rng xs0
 have hrB := rowS_rng xs1
 have hAB : (rowS xs0 ++ rowS xs1).length ≤ 60 := by rw [List.length_append]; omega
 have hB0 := Nat.le_refl w.heap.size
 refine W_seq (W_region rfl ?_)
 refine stp (r_assign (v := .bool false) rfl ?_)
 refine WL_nil ?_
 refine W_seq (W_region rfl ?_)
 refine stp (r_move_slice rfl ?_)
 refine WL_some (og rfl ?_)
 refine r_call rfl (rowc_calls _ hx0 hcc0 hm0 (R0.grow G)) ?_
 rintro v1 w1 ⟨own1, g1⟩
 replace G := G.tr g1
 clear g1
 obtain ⟨adM1, cM1, rfl, hcM1, hmM1, RM1⟩ := own_row own1 (by omega)
 refine stp (r_assign_slice rfl ?_)
 refine WL_nil ?_
 refine W_seq (W_region rfl ?_)
 refine stp (r_move_slice rfl ?_)
 refine WL_some (og rfl ?_)
 refine r_call rfl (rowc_calls _ hx1 hcc1 hm1 (R1.grow G)) ?_
 rintro v2 w2 ⟨own2, g2⟩
 replace RM1 := RM1.grow g2
 replace G := G.tr g2
 clear g2
 obtain ⟨adM2, cM2, rfl, hcM2, hmM2, RM2⟩ := own_row own2 (by omega)
 refine stp (r_assign_slice rfl ?_)
 refine WL_nil ?_
 refine W_seq (W_region rfl ?_)
 refine stp (r_assign_slice rfl ?_)
 refine WL_nil ?_
 have GW := G
 have G0 := Grow.rfl' w2
 have RA0 := RM1
 have RB0 := RM2
 have own0 : w2.ownsRow w2.heap.size 26 2 (.slice none 0 0) ([] : List Spn).length (encL []) := World.ownsRow_nil _ _ _ _
 refine W_seq (W_region rfl ?_)
 refine stp (r_move_slice rfl ?_)
 refine stp (r_move_slice rfl ?_)
 refine stp (r_append rfl rfl rfl rfl own0 ⟨_, cM1, rfl, hcM1, hmM1, RA0.grow G0⟩ encL_one (by simp only [maxLen]; (try simp only [List.length_nil, List.length_append, List.nil_append]); omega) (by (try simp only [List.length_nil, List.length_append, List.nil_append]); omega) G0.size ?_)
 intro v8 w8 own8 gr8
 replace G0 := G0.grown gr8 (own_ge own0)
 replace own8 := own_cat own8
 rw [List.nil_append] at own8
 replace G := Below.trans GW (Below.mono G0 GW.size)
 refine stp (r_assign (v := v8) rfl ?_)
 refine WL_nil ?_
 refine W_seq (W_region rfl ?_)
 refine stp (r_move (v := v8) rfl ?_)
 refine stp (r_move_slice rfl ?_)
 refine stp (r_append rfl rfl rfl rfl own8 ⟨_, cM2, rfl, hcM2, hmM2, RB0.grow G0⟩ encL_one (by simp only [maxLen]; (try simp only [List.length_nil, List.length_append, List.nil_append]); omega) (by (try simp only [List.length_nil, List.length_append, List.nil_append]); omega) G0.size ?_)
 intro v9 w9 own9 gr9
 replace G0 := G0.grown gr9 (own_ge own8)
 replace own9 := own_cat own9
 replace G := Below.trans GW (Below.mono G0 GW.size)
 obtain ⟨ad9, c9, rfl, hc9, hm9, R9⟩ := own_row own9 (by omega)
 replace RM1 := RA0.grow G0
 replace RM2 := RB0.grow G0
 refine stp (r_assign_slice rfl ?_)
 refine WL_nil ?_
 refine W_seq ?_
 refine W_seq (W_region rfl ?_)
 refine stp (r_assign_int rfl ?_)
 refine WL_nil ?_
 refine W_block ?_
 refine W_loop (fun m_ e_ w_ => ∃ (k : Nat), m_ = (rowS xs0).length - k ∧ Fr [(2, .int .u8 a2), (7, .slice adM1 ((rowS xs0).length) cM1), (8, .slice adM2 ((rowS xs1).length) cM2), (9, .slice ad9 ((rowS xs0 ++ rowS xs1).length) c9), (10, .int .i64 (k : Int))] e_ ∧ (k ≤ (rowS xs0).length) ∧ (RowAt w_ 2 adM1 (rowS xs0).length (encL (rowS xs0))) ∧ (RowAt w_ 2 adM2 (rowS xs1).length (encL (rowS xs1))) ∧ (RowAt w_ 2 ad9 (rowS xs0 ++ rowS xs1).length (encL (rowS xs0 ++ rowS xs1))) ∧ Grow w w_) _ ⟨0, rfl, fr_of ⟨rfl, rfl, rfl, rfl, rfl, trivial⟩, by omega, RM1, RM2, R9, G⟩ ?_
 clear RM1 RM2 R9
 clear G
 rintro m_ e_ w3 ⟨k, rfl, ⟨e4, rfl⟩, hk, RM1, RM2, R9, G⟩
 refine W_seq ?_
 refine W_seq (W_region rfl ?_)
 refine stp (r_move_int rfl ?_)
 refine stp (r_move_slice rfl ?_)
 refine stp (r_len rfl rfl rfl ?_)
 refine stp (r_lss rfl rfl ?_)
 refine WL_nil ?_
 refine W_cond2 (b := (decide ((k : Int) < ((rowS xs0).length : Int)))) rfl (fun hlt => ?_) (fun hlt => ?_)
 ·-- true
  replace hlt := of_decide_eq_true hlt
  refine W_skip ?_
  refine W_seq ?_
  refine W_block ?_
  refine W_seq (W_region rfl ?_)
  refine stp (r_move_slice rfl ?_)
  refine stp (r_move_slice rfl ?_)
  refine stp (r_move_int rfl ?_)
  refine stp (r_indexN RM1 rfl rfl ?_ ?_); omega
  refine stp (r_loadNR RM1 rfl (by decide) (by rw [(RM1).len]; omega) (row_gS RM1 (by omega)) ?_)
  refine stp (r_gives (v := .bool true) rfl ((by have h_ := has_calls w3 (gS (rowS xs0) k).1 (gS (rowS xs0) k).2 hc9 hm9 R9 (by omega); rw [grows_has (A := rowS xs0) (B := rowS xs1) (i := k) (by omega)] at h_; exact h_)) ?_)
  intro w5 g6
  replace RM1 := RM1.grow g6
  replace RM2 := RM2.grow g6
  replace R9 := R9.grow g6
  replace G := G.tr g6
  clear g6
  refine stp (r_not_f rfl rfl ?_)
  refine WL_nil ?_
  refine W_false rfl ?_
  refine W_skip ?_
  refine W_region rfl ?_
  refine stp (r_move_int rfl ?_)
  refine stp (r_add rfl rfl ?_ ?_); constructor <;> omega
  refine stp (r_assign_int rfl ?_)
  refine WL_nil ?_
  refine ⟨_, ?_, k + 1, rfl, fr_of ⟨rfl, rfl, rfl, rfl, rfl, trivial⟩, by omega, RM1, RM2, R9, G⟩
  omega
 ·-- false
  replace hlt := of_decide_eq_false hlt
  have hlo := grows_long (A := rowS xs0) (B := rowS xs1) (lo := -10) (k := 100) (fun s hs => by have := hrA s hs; omega) (fun s hs => by have := hrB s hs; omega)
  have hn1 := longS_rng _ (nrm_of (rowS xs0)).right
  have hn2 := longS_rng _ (nrm_of (rowS xs1)).right
  have hn3 := longS_rng _ (nrm_of (rowS xs0 ++ rowS xs1)).right
  refine W_exit ?_
  refine W_seq (W_region rfl ?_)
  refine stp (r_gives (v := .bool true) rfl (known_calls _) ?_)
  intro w7 g8
  replace RM1 := RM1.grow g8
  replace RM2 := RM2.grow g8
  replace R9 := R9.grow g8
  replace G := G.tr g8
  clear g8
  refine stp (r_move (v := .bool true) rfl ?_)
  refine stp (r_move_slice rfl ?_)
  refine stp (r_gives (v := .int .i64 (longS (nrm (rowS xs0 ++ rowS xs1)))) rfl (long_calls _ hc9 hm9 R9 (by omega) (fun s hs => by rcases List.mem_append.1 hs with hs | hs; have := hrA s hs; omega; have := hrB s hs; omega)) ?_)
  intro w9 g10
  replace RM1 := RM1.grow g10
  replace RM2 := RM2.grow g10
  replace R9 := R9.grow g10
  replace G := G.tr g10
  clear g10
  refine stp (r_move_slice rfl ?_)
  refine stp (r_gives (v := .int .i64 (longS (nrm (rowS xs0)))) rfl (long_calls _ hcM1 hmM1 RM1 (by omega) (fun s hs => by have := hrA s hs; omega)) ?_)
  intro w11 g12
  replace RM1 := RM1.grow g12
  replace RM2 := RM2.grow g12
  replace R9 := R9.grow g12
  replace G := G.tr g12
  clear g12
  refine stp (r_geq_t rfl rfl (by omega) ?_)
  refine stp (r_pick_t (v := .bool true) rfl rfl rfl ?_)
  refine stp (r_move (v := .bool true) rfl ?_)
  refine stp (r_move_slice rfl ?_)
  refine stp (r_gives (v := .int .i64 (longS (nrm (rowS xs0 ++ rowS xs1)))) rfl (long_calls _ hc9 hm9 R9 (by omega) (fun s hs => by rcases List.mem_append.1 hs with hs | hs; have := hrA s hs; omega; have := hrB s hs; omega)) ?_)
  intro w13 g14
  replace RM1 := RM1.grow g14
  replace RM2 := RM2.grow g14
  replace R9 := R9.grow g14
  replace G := G.tr g14
  clear g14
  refine stp (r_move_slice rfl ?_)
  refine stp (r_gives (v := .int .i64 (longS (nrm (rowS xs0)))) rfl (long_calls _ hcM1 hmM1 RM1 (by omega) (fun s hs => by have := hrA s hs; omega)) ?_)
  intro w15 g16
  replace RM1 := RM1.grow g16
  replace RM2 := RM2.grow g16
  replace R9 := R9.grow g16
  replace G := G.tr g16
  clear g16
  refine stp (r_move_slice rfl ?_)
  refine stp (r_gives (v := .int .i64 (longS (nrm (rowS xs1)))) rfl (long_calls _ hcM2 hmM2 RM2 (by omega) (fun s hs => by have := hrB s hs; omega)) ?_)
  intro w17 g18
  replace RM1 := RM1.grow g18
  replace RM2 := RM2.grow g18
  replace R9 := R9.grow g18
  replace G := G.tr g18
  clear g18
  refine stp (r_add rfl rfl ?_ ?_); constructor <;> omega
  refine stp (r_leq_t rfl rfl (by omega) ?_)
  refine stp (r_pick_t (v := .bool true) rfl rfl rfl ?_)
  refine stp (r_move (v := .bool true) rfl ?_)
  refine stp (r_move_slice rfl ?_)
  refine stp (r_move_int rfl ?_)
  refine stp (r_conv rfl ?_ ?_); constructor <;> omega
  refine stp (r_move_int rfl ?_)
  refine stp (r_conv rfl ?_ ?_); constructor <;> omega
  refine stp (r_build (v := .agg #[.int .i64 a2, .int .i64 a2]) (fun w => by kernel_rfl) ?_)
  refine WL_some (og rfl ?_)
  refine r_call rfl (holes_calls _ a2 a2 hcM1 hmM1 RM1 (by omega)) ?_
  rintro v19 w19 ⟨own19, g19⟩
  replace RM1 := RM1.grow g19
  replace RM2 := RM2.grow g19
  replace R9 := R9.grow g19
  replace G := G.tr g19
  clear g19
  obtain ⟨adM19, cM19, rfl, hcM19, hmM19, RM19⟩ := own_row own19 (by rw [holes_empty]; decide)
  refine stp (r_len rfl rfl rfl ?_)
  refine stp (r_eql_t rfl rfl (by rw [holes_empty]; rfl) ?_)
  refine stp (r_pick_t (v := .bool true) rfl rfl rfl ?_)
  refine stp (r_assign (v := .bool true) rfl ?_)
  refine WL_nil ?_
  refine W_ret ?_
  refine ret1 (res_tmp (v := .bool true) rfl) ⟨?_, G⟩
  rfl
end Go.Proofs.Ytldlfhodboigeaa.K
