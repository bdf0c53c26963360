/- the statements of chapter 04 (printed by lw04.py). -/
import Derived.Test.YtldlfhodboigeaaLA
set_option linter.unusedVariables false
set_option linter.unusedSimpArgs false
namespace Go.Proofs.Ytldlfhodboigeaa.K
open Go Go.RowKit Go.Proofs
attribute [local irreducible] Run1 OpG WL W AO Gives
set_option maxRecDepth 100000 in
theorem SpanBits_calls (w : World) {ad0 : Option Addr} {c0 n0 : Nat} {xs0 : List Int} (hx0 : ∀ x ∈ xs0, 0 ≤ x ∧ x < 256) (hcc0 : n0 ≤ c0) (hm0 : c0 ≤ maxLen) (R0 : RowAt w 1 ad0 n0 (xs0.map (.int .u8))) {a1 : Int} (p1 : 0 ≤ a1) (q1 : a1 ≤ 65535) : Gives Try.prog 9 #[.slice ad0 n0 c0, .int .u16 a1] w (.bool true) := by
 have ln := R0.len
 have lm := R0.lim
 simp only [List.length_map, Nat.mul_one] at ln
 have G := Grow.rfl' w
 refine gives_of Try.func9 Try.ntmps9 Try.results9 rfl rfl ?_
 have hol := ofS_len xs0
 have hor := ofS_rng xs0
 refine W_seq (W_region rfl ?_)
 refine stp (r_assign (v := .bool false) rfl ?_)
 refine WL_nil ?_
 refine W_seq ?_
 refine W_seq (W_region rfl ?_)
 refine stp (r_move_slice rfl ?_)
 refine stp (r_len rfl rfl rfl ?_)
 refine stp (r_gtr rfl rfl ?_)
 refine WL_nil ?_
 refine W_cond2 (b := (decide ((n0 : Int) > 100))) rfl (fun hb0 => ?_) (fun hb0 => ?_)
 ·-- true
  replace hb0 := of_decide_eq_true hb0
  refine W_seq (W_region rfl ?_)
  refine stp (r_gives (v := .bool true) rfl (known_calls _) ?_)
  intro w1 g2
  replace G := G.tr g2
  clear g2
  refine stp (r_assign (v := .bool true) rfl ?_)
  refine WL_nil ?_
  refine W_ret ?_
  refine ret1 (res_tmp (v := .bool true) rfl) ⟨?_, G⟩
  rfl
 ·-- false
  replace hb0 := of_decide_eq_false hb0
  refine W_skip ?_
  refine W_seq (W_region rfl ?_)
  refine stp (r_move_slice rfl ?_)
  refine WL_some (og rfl ?_)
  refine r_call rfl (of_calls _ hx0 (R0.grow G) (by omega)) ?_
  rintro v3 w3 ⟨own3, g3⟩
  replace G := G.tr g3
  clear g3
  obtain ⟨adM3, cM3, rfl, hcM3, hmM3, RM3⟩ := own_row own3 (by omega)
  refine stp (r_assign_slice rfl ?_)
  refine WL_nil ?_
  refine W_seq (W_region rfl ?_)
  refine stp (r_assign_int rfl ?_)
  refine WL_nil ?_
  refine W_seq ?_
  refine W_seq (W_region rfl ?_)
  refine stp (r_assign_int rfl ?_)
  refine WL_nil ?_
  refine W_block ?_
  refine W_loop (fun m_ e_ w_ => ∃ (k : Nat), m_ = 8 * n0 - k ∧ Fr [(0, .slice ad0 n0 c0), (1, .int .u16 a1), (4, .bool false), (5, .slice adM3 ((ofS xs0).length) cM3), (7, .int .i64 (k : Int)), (6, .int .i64 (cntB xs0 k))] e_ ∧ (k ≤ 8 * n0) ∧ (RowAt w_ 2 adM3 (ofS xs0).length (encL (ofS xs0))) ∧ Grow w w_) _ ⟨0, rfl, fr_of ⟨rfl, rfl, rfl, rfl, rfl, rfl, trivial⟩, by omega, RM3, G⟩ ?_
  clear RM3
  clear G
  rintro m_ e_ w4 ⟨k, rfl, ⟨e5, rfl⟩, hk, RM3, G⟩
  have hcr := cntB_rng xs0 k
  have hgb := getD_rng hx0 ((k : Int) / 8).toNat
  have hdb := div_rng hgb.1 hgb.2 ((k : Int) % 8).toNat
  refine W_seq ?_
  refine W_seq (W_region rfl ?_)
  refine stp (r_move_int rfl ?_)
  refine stp (r_move_slice rfl ?_)
  refine stp (r_len rfl rfl rfl ?_)
  refine stp (r_mul rfl rfl ?_ ?_); constructor <;> omega
  refine stp (r_lss rfl rfl ?_)
  refine WL_nil ?_
  refine W_cond2 (b := (decide ((k : Int) < (8 * (n0 : Int))))) rfl (fun hlt => ?_) (fun hlt => ?_)
  ·-- true
   replace hlt := of_decide_eq_true hlt
   have hcs := cntB_step xs0 k
   have hgi := getB_in (xs := xs0) (i := (k : Int)) (by omega) (by omega)
   refine W_skip ?_
   refine W_seq ?_
   refine W_block ?_
   refine W_seq (W_region rfl ?_)
   refine stp (r_move_slice rfl ?_)
   refine stp (r_move_int rfl ?_)
   refine stp (r_quo rfl rfl ?_ ?_ ?_ ?_); omega; omega; (constructor <;> omega)
   refine stp (r_indexR (R0.grow G) rfl rfl ?_ ?_ ?_); omega; omega
   refine stp (r_loadR (v := .int .u8 (xs0.getD (((k : Int) / 8).toNat) 0)) (m := 0) (R0.grow G) rfl (map_get1 0 (by omega)) ?_)
   refine stp (r_move_int rfl ?_)
   refine stp (r_rem rfl rfl ?_ ?_ ?_); omega; omega
   refine stp (r_conv rfl ?_ ?_); constructor <;> omega
   refine WL_some (og rfl ?_)
   refine r_shr rfl rfl ?_ ?_; omega
   rw [show min ((k : Int) % 8).toNat (IntKind.bits .u8) = ((k : Int) % 8).toNat from by simp only [IntKind.bits]; omega]
   refine stp (r_rem rfl rfl ?_ ?_ ?_); omega; omega
   refine stp (r_eql rfl rfl ?_)
   refine WL_nil ?_
   refine W_cond2 (b := (decide (((xs0.getD ((k : Int) / 8).toNat 0 / 2 ^ ((k : Int) % 8).toNat) % 2) = 1))) rfl (fun hbt => ?_) (fun hbt => ?_)
   ·-- true
    replace hbt := of_decide_eq_true hbt
    have hb1 : bitP xs0 (k : Int) = true := decide_eq_true hbt
    rw [hgi, hb1, if_pos rfl] at hcs
    refine W_region rfl ?_
    refine stp (r_move_int rfl ?_)
    refine stp (r_add rfl rfl ?_ ?_); constructor <;> omega
    refine stp (r_assign_int rfl ?_)
    refine WL_nil ?_
    refine W_region rfl ?_
    refine stp (r_move_int rfl ?_)
    refine stp (r_add rfl rfl ?_ ?_); constructor <;> omega
    refine stp (r_assign_int rfl ?_)
    refine WL_nil ?_
    refine ⟨_, ?_, k + 1, rfl, fr_of ⟨rfl, rfl, rfl, rfl, rfl, congrArg (Value.int .i64) hcs.symm, trivial⟩, by omega, RM3, G⟩
    omega
   ·-- false
    replace hbt := of_decide_eq_false hbt
    have hb1 : bitP xs0 (k : Int) = false := decide_eq_false hbt
    rw [hgi, hb1, if_neg (by simp), Int.add_zero] at hcs
    refine W_skip ?_
    refine W_region rfl ?_
    refine stp (r_move_int rfl ?_)
    refine stp (r_add rfl rfl ?_ ?_); constructor <;> omega
    refine stp (r_assign_int rfl ?_)
    refine WL_nil ?_
    refine ⟨_, ?_, k + 1, rfl, fr_of ⟨rfl, rfl, rfl, rfl, rfl, congrArg (Value.int .i64) hcs.symm, trivial⟩, by omega, RM3, G⟩
    omega
  ·-- false
   replace hlt := of_decide_eq_false hlt
   have hk9 : k = 8 * xs0.length := by omega
   have ha1 := Int.emod_nonneg a1 (show (8 * (n0 : Int) + 1) ≠ 0 by omega)
   have ha2 := Int.emod_lt_of_pos a1 (show 0 < 8 * (n0 : Int) + 1 by omega)
   have hgb := getD_rng hx0 ((a1 % (8 * (n0 : Int) + 1)) / 8).toNat
   have hdb := div_rng hgb.1 hgb.2 ((a1 % (8 * (n0 : Int) + 1)) % 8).toNat
   have hbl := bits_long xs0 (by omega)
   have hbh := bits_has (xs := xs0) (i := (a1 % (8 * (n0 : Int) + 1))) ha1
   have hrL := nrm_right (ofL xs0 (8 * xs0.length))
   refine W_exit ?_
   refine W_seq (W_region rfl ?_)
   refine stp (r_move_int rfl ?_)
   refine stp (r_conv rfl ?_ ?_); constructor <;> omega
   refine stp (r_move_slice rfl ?_)
   refine stp (r_len rfl rfl rfl ?_)
   refine stp (r_mul rfl rfl ?_ ?_); constructor <;> omega
   refine stp (r_add rfl rfl ?_ ?_); constructor <;> omega
   refine stp (r_rem rfl rfl ?_ ?_ ?_); omega; omega
   refine stp (r_assign_int rfl ?_)
   refine WL_nil ?_
   refine W_seq (W_region rfl ?_)
   refine stp (r_move_int rfl ?_)
   refine stp (r_move_slice rfl ?_)
   refine stp (r_len rfl rfl rfl ?_)
   refine stp (r_mul rfl rfl ?_ ?_); constructor <;> omega
   refine stp (r_lss rfl rfl ?_)
   refine stp (r_move_bool rfl ?_)
   refine WL_some (og_if (s := .bool (decide ((a1 % (8 * (n0 : Int) + 1)) < (8 * (n0 : Int))))) (b := true) (v := .slice ad0 n0 c0) rfl (wgb_t _) (fun hc6 => ?_) ?_)
   ·
    have hc6_ := of_decide_eq_true hc6
    refine r_move_slice rfl ?_
    exact ⟨rfl, rfl⟩
   refine WL_some (og_if (s := .bool (decide ((a1 % (8 * (n0 : Int) + 1)) < (8 * (n0 : Int))))) (b := true) (v := .int .i64 (a1 % (8 * (n0 : Int) + 1))) rfl (wgb_t _) (fun hc7 => ?_) ?_)
   ·
    have hc7_ := of_decide_eq_true hc7
    refine r_move_int rfl ?_
    exact ⟨rfl, rfl⟩
   refine WL_some (og_if (s := .bool (decide ((a1 % (8 * (n0 : Int) + 1)) < (8 * (n0 : Int))))) (b := true) (v := .int .i64 ((a1 % (8 * (n0 : Int) + 1)) / 8)) rfl (wgb_t _) (fun hc8 => ?_) ?_)
   ·
    have hc8_ := of_decide_eq_true hc8
    refine r_quo (gvt hc8) rfl ?_ ?_ ?_ ?_; omega; omega; (constructor <;> omega)
    exact ⟨rfl, rfl⟩
   refine WL_some (og_if (s := .bool (decide ((a1 % (8 * (n0 : Int) + 1)) < (8 * (n0 : Int))))) (b := true) (v := .pointer (some (eadr ad0 (((a1 % (8 * (n0 : Int) + 1)) / 8).toNat * 1)))) rfl (wgb_t _) (fun hc9 => ?_) ?_)
   ·
    have hc9_ := of_decide_eq_true hc9
    refine r_indexR (R0.grow G) (gvt hc9) (gvt hc9) ?_ ?_ ?_; omega; omega
    exact ⟨rfl, rfl⟩
   refine WL_some (og_if (s := .bool (decide ((a1 % (8 * (n0 : Int) + 1)) < (8 * (n0 : Int))))) (b := true) (v := .int .u8 (xs0.getD (((a1 % (8 * (n0 : Int) + 1)) / 8).toNat) 0)) rfl (wgb_t _) (fun hc10 => ?_) ?_)
   ·
    have hc10_ := of_decide_eq_true hc10
    refine r_loadR (v := .int .u8 (xs0.getD (((a1 % (8 * (n0 : Int) + 1)) / 8).toNat) 0)) (m := 0) (R0.grow G) (gvt hc10) (map_get1 0 (by omega)) ?_
    exact ⟨rfl, rfl⟩
   refine WL_some (og_if (s := .bool (decide ((a1 % (8 * (n0 : Int) + 1)) < (8 * (n0 : Int))))) (b := true) (v := .int .i64 (a1 % (8 * (n0 : Int) + 1))) rfl (wgb_t _) (fun hc11 => ?_) ?_)
   ·
    have hc11_ := of_decide_eq_true hc11
    refine r_move_int rfl ?_
    exact ⟨rfl, rfl⟩
   refine WL_some (og_if (s := .bool (decide ((a1 % (8 * (n0 : Int) + 1)) < (8 * (n0 : Int))))) (b := true) (v := .int .i64 ((a1 % (8 * (n0 : Int) + 1)) % 8)) rfl (wgb_t _) (fun hc12 => ?_) ?_)
   ·
    have hc12_ := of_decide_eq_true hc12
    refine r_rem (gvt hc12) rfl ?_ ?_ ?_; omega; omega
    exact ⟨rfl, rfl⟩
   refine WL_some (og_if (s := .bool (decide ((a1 % (8 * (n0 : Int) + 1)) < (8 * (n0 : Int))))) (b := true) (v := .int .u64 ((a1 % (8 * (n0 : Int) + 1)) % 8)) rfl (wgb_t _) (fun hc13 => ?_) ?_)
   ·
    have hc13_ := of_decide_eq_true hc13
    refine r_conv (gvt hc13) ?_ ?_; constructor <;> omega
    exact ⟨rfl, rfl⟩
   refine WL_some (og_if (s := .bool (decide ((a1 % (8 * (n0 : Int) + 1)) < (8 * (n0 : Int))))) (b := true) (v := .int .u8 (xs0.getD ((a1 % (8 * (n0 : Int) + 1)) / 8).toNat 0 / 2 ^ ((a1 % (8 * (n0 : Int) + 1)) % 8).toNat)) rfl (wgb_t _) (fun hc14 => ?_) ?_)
   ·
    have hc14_ := of_decide_eq_true hc14
    refine r_shr (gvt hc14) (gvt hc14) ?_ ?_; omega
    rw [show min ((a1 % (8 * (n0 : Int) + 1)) % 8).toNat (IntKind.bits .u8) = ((a1 % (8 * (n0 : Int) + 1)) % 8).toNat from by simp only [IntKind.bits]; omega]
    exact ⟨rfl, rfl⟩
   refine WL_some (og_if (s := .bool (decide ((a1 % (8 * (n0 : Int) + 1)) < (8 * (n0 : Int))))) (b := true) (v := .int .u8 ((xs0.getD ((a1 % (8 * (n0 : Int) + 1)) / 8).toNat 0 / 2 ^ ((a1 % (8 * (n0 : Int) + 1)) % 8).toNat) % 2)) rfl (wgb_t _) (fun hc15 => ?_) ?_)
   ·
    have hc15_ := of_decide_eq_true hc15
    refine r_rem (gvt hc15) rfl ?_ ?_ ?_; omega; omega
    exact ⟨rfl, rfl⟩
   refine WL_some (og_if (s := .bool (decide ((a1 % (8 * (n0 : Int) + 1)) < (8 * (n0 : Int))))) (b := true) (v := .bool (decide (((xs0.getD ((a1 % (8 * (n0 : Int) + 1)) / 8).toNat 0 / 2 ^ ((a1 % (8 * (n0 : Int) + 1)) % 8).toNat) % 2) = 1))) rfl (wgb_t _) (fun hc16 => ?_) ?_)
   ·
    have hc16_ := of_decide_eq_true hc16
    refine r_eql (gvt hc16) rfl ?_
    exact ⟨rfl, rfl⟩
   refine stp (r_and2 rfl rfl rfl ?_)
   refine stp (r_assign_bool rfl ?_)
   refine WL_nil ?_
   refine W_seq (W_region rfl ?_)
   refine stp (r_gives (v := .bool true) rfl (known_calls _) ?_)
   intro w17 g18
   replace RM3 := RM3.grow g18
   replace G := G.tr g18
   clear g18
   refine stp (r_move (v := .bool true) rfl ?_)
   refine stp (r_move_slice rfl ?_)
   refine stp (r_gives (v := .bool true) rfl ((by have h_ := right_calls w17 hcM3 hmM3 RM3 (by omega); rw [show rightB (ofS xs0) = true from hrL] at h_; exact h_)) ?_)
   intro w19 g20
   replace RM3 := RM3.grow g20
   replace G := G.tr g20
   clear g20
   refine stp (r_pick_t (v := .bool true) rfl rfl rfl ?_)
   refine stp (r_move (v := .bool true) rfl ?_)
   refine stp (r_move_slice rfl ?_)
   refine stp (r_gives (v := .int .i64 (longS (nrm (ofS xs0)))) rfl (long_calls _ hcM3 hmM3 RM3 (by omega) (fun s hs => by have := hor s hs; omega)) ?_)
   intro w21 g22
   replace RM3 := RM3.grow g22
   replace G := G.tr g22
   clear g22
   refine stp (r_move_int rfl ?_)
   refine stp (r_eql_t rfl rfl (by rw [hbl, ← hk9]) ?_)
   refine stp (r_pick_t (v := .bool true) rfl rfl rfl ?_)
   refine stp (r_move (v := .bool true) rfl ?_)
   refine stp (r_move_slice rfl ?_)
   refine stp (r_move_int rfl ?_)
   refine stp (r_move_int rfl ?_)
   refine stp (r_add rfl rfl ?_ ?_); constructor <;> omega
   refine stp (r_build (v := .agg #[.int .i64 (a1 % (8 * (n0 : Int) + 1)), .int .i64 ((a1 % (8 * (n0 : Int) + 1)) + 1)]) (fun w => by kernel_rfl) ?_)
   refine stp (r_gives (v := .bool (hasB (ofS xs0) ((a1 % (8 * (n0 : Int) + 1)), (a1 % (8 * (n0 : Int) + 1)) + 1))) rfl (has_calls _ (a1 % (8 * (n0 : Int) + 1)) ((a1 % (8 * (n0 : Int) + 1)) + 1) hcM3 hmM3 RM3 (by omega)) ?_)
   intro w23 g24
   replace RM3 := RM3.grow g24
   replace G := G.tr g24
   clear g24
   refine stp (r_move_bool rfl ?_)
   refine stp (r_beq' (r := true) rfl rfl (by rw [hbh, ← ln]; exact beq_self_eq_true _) ?_)
   refine stp (r_pick_t (v := .bool true) rfl rfl rfl ?_)
   refine stp (r_assign (v := .bool true) rfl ?_)
   refine WL_nil ?_
   refine W_ret ?_
   refine ret1 (res_tmp (v := .bool true) rfl) ⟨?_, G⟩
   rfl
end Go.Proofs.Ytldlfhodboigeaa.K
