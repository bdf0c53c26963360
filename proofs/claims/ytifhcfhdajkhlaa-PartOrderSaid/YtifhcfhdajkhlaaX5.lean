/- Laid together: BN, PH, OO, Ro. Each part is plain law, a rule, or a walk of the functions that its names tell. -/
import Derived.Test.YtifhcfhdajkhlaaX4
import Derived.WalkKit
import Derived.ProofKit
import Derived.OpenShut
import Derived.ChangeOld
import Derived.Carry
import Derived.SizedLaws
set_option linter.unusedVariables false
set_option linter.unusedSimpArgs false
namespace Go.Proofs.Ytifhcfhdajkhlaa.K
open Go Go.RowKit Go.Proofs
attribute [local irreducible] Run1 OpG WL W AO Gives
set_option maxRecDepth 100000 in
theorem bent_calls (w : World) {ad ae : Option Addr} {cp cq : Nat} {xs ys : List Int} (R : RowAt w 1 ad xs.length (xs.map (.int .u8))) (hx : ∀ x ∈ xs, inR .u8 x) (hcp : xs.length ≤ cp) (hcp2 : cp ≤ maxLen) (hl : xs.length ≤ 200) (R2 : RowAt w 1 ae ys.length (ys.map (.int .u8))) (hy : ∀ x ∈ ys, inR .u8 x) {k : Int} (k0 : 0 ≤ k) (k1 : k ≤ 255) : Calls Try.prog 8 #[.slice ad xs.length cp, .slice ae ys.length cq, .int .u8 k] w (Ret fun v w' => ∃ ado co segs A, v = .slice ado A.length co ∧ OwnA 63 33 w' w.heap.size (.slice ado A.length co) segs A ∧ Bent1 xs k A ∧ Grow w w') := by
 have lR2 := R2.lim
 have hri := bentT_right (xs := xs) hx
 have G := Grow.rfl' w
 refine calls_ret Try.func8 Try.ntmps8 Try.results8 rfl rfl ?_
 refine W_seq (W_region rfl ?_)
 refine stp (r_assign_slice rfl ?_)
 refine WL_nil ?_
 refine W_seq (W_region rfl ?_)
 refine stp (r_move_slice rfl ?_)
 refine stp (r_move_slice rfl ?_)
 refine stp (r_len rfl rfl rfl ?_)
 refine WL_some (og rfl ?_)
 refine r_min rfl rfl rfl ?_
 rw [if_neg (by omega)]
 refine stp (r_sliceH rfl rfl (by omega) (by omega) ?_)
 have R1 := R.sliceH (m := xs.length) hcp (Nat.le_refl _) (by decide)
 rw [List.take_of_length_le (by rw [List.length_map]; omega)] at R1
 rw [Int.toNat_natCast]
 generalize (if cp = 0 then ad else ad.map (·.add (0 * 1))) = ad1 at R1 ⊢
 refine WL_some (og rfl ?_)
 refine r_call rfl (tree_calls _ _ R1 G rfl hx hcp hcp2 (d := 6) (by decide) (Nat.le_refl _)) ?_
 rintro v_ w1 ⟨cells_, ad9, n9, c9, rfl, hX_, -, -, -, -, g_⟩
 have hX := hX_.sees (Sees.seen _ _)
 clear hX_
 replace G := G.tr g_
 clear g_
 obtain ⟨x0, x1, xa, xn, xc, pa, pn, pc, qa, qn, qc, rfl⟩ := hX.cells
 have hX : NodeR w1 [.int .i64 x0, .int .i64 x1, .slice xa xn xc, .slice pa pn pc, .slice qa qn qc] (bentT xs) := hX
 refine stp (r_move (v := .tuple #[.agg #[.int .i64 x0, .int .i64 x1, .slice xa xn xc, .slice pa pn pc, .slice qa qn qc], .slice ad9 n9 c9]) rfl ?_)
 refine stp (r_extract (v := .agg #[.int .i64 x0, .int .i64 x1, .slice xa xn xc, .slice pa pn pc, .slice qa qn qc]) rfl rfl ?_)
 refine stp (r_extract (v := .slice ad9 n9 c9) rfl rfl ?_)
 refine stp (r_alloc ?_)
 intro b2 w3 hb4 hc5 g6
 refine stn (r_storeAll rfl rfl hc5 (by rfl) (by rfl) (by rfl) ?_)
 intro w7 hc8 u9
 have g10 := g6.upd u9 hb4
 have hge11 := Nat.le_trans G.size hb4
 replace hX := hX.grow g10
 replace G := G.tr g10
 clear u9 g6 hb4 hc5
 refine stp (r_assign_slice rfl ?_)
 refine WL_nil ?_
 refine W_seq (W_region rfl ?_)
 refine stp (r_loadAll rfl hc8 (by rfl) ?_)
 refine stp (r_move_int rfl ?_)
 refine stp (r_rem rfl rfl ?_ ?_ ?_); omega; omega
 refine stp (r_conv rfl ?_ ?_); constructor <;> omega
 refine stp (r_add rfl rfl ?_ ?_); constructor <;> omega
 refine WL_some (og rfl ?_)
 have hcal := rBuild_calls _ hX (3 + k % 30)
 have hszp := G.size
 refine r_call rfl hcal ?_
 rintro v_ w12 ⟨so_, segsp, rfl, hO_, g_⟩
 clear hcal
 replace hX := hX.grow g_
 replace hc8 := g_.heap hc8
 replace G := G.tr g_
 clear g_
 have hOp := hO_.lower hszp
 clear hO_
 obtain ⟨adp, cp, rfl, -⟩ := own_shape hOp.out
 refine stp (r_move (v := .tuple #[.slice adp (((bentT xs).build (3 + k % 30)).1.length) cp, .int .i64 (((bentT xs).build (3 + k % 30)).2)]) rfl ?_)
 refine stp (r_extract (v := .slice adp (((bentT xs).build (3 + k % 30)).1.length) cp) rfl rfl ?_)
 refine stp (r_extract (v := .int .i64 (((bentT xs).build (3 + k % 30)).2)) rfl rfl ?_)
 refine stp (r_assign_slice rfl ?_)
 refine stp (r_assign_int rfl ?_)
 refine WL_nil ?_
 have hB0 := bentB_len (xs := xs) hx hl k
 obtain ⟨B, hB⟩ : ∃ B, B = bentB xs k := ⟨_, rfl⟩
 rw [← hB] at hB0
 refine W_cut1 (fun e_ w_ => ∃ (ado : Option Addr) (co : Nat) (segs : List Value), Fr [(1, .slice ae ys.length cq), (6, .slice none 0 0), (9, .slice ado B.length co)] e_ ∧ (OwnA 63 33 w_ w.heap.size (.slice ado B.length co) segs B) ∧ Grow w w_) ?_ ?_
 ·-- the parts
  refine W_seq (W_region rfl ?_)
  refine stp (r_move_int rfl ?_)
  refine stp (r_neq rfl rfl ?_)
  refine WL_nil ?_
  refine W_cond2 (b := (decide ((((bentT xs).build (3 + k % 30)).2) ≠ 0))) rfl (fun h1 => ?_) (fun h1 => ?_)
  ·-- true
   replace h1 := of_decide_eq_true h1
   refine W_seq (W_region rfl ?_)
   refine stp (r_loadAll rfl hc8 (by rfl) ?_)
   refine WL_some (og rfl ?_)
   have hcal := rBuild_calls _ hX 4096
   have hszq := G.size
   refine r_call rfl hcal ?_
   rintro v_ w13 ⟨so_, segsq, rfl, hO_, g_⟩
   clear hcal
   replace hX := hX.grow g_
   replace hc8 := g_.heap hc8
   replace hOp := hOp.grow g_
   replace G := G.tr g_
   clear g_
   have hOq := hO_.lower hszq
   clear hO_
   obtain ⟨adq, cq, rfl, -⟩ := own_shape hOq.out
   refine stp (r_move (v := .tuple #[.slice adq (((bentT xs).build 4096).1.length) cq, .int .i64 (((bentT xs).build 4096).2)]) rfl ?_)
   refine stp (r_extract (v := .slice adq (((bentT xs).build 4096).1.length) cq) rfl rfl ?_)
   refine stp (r_extract (v := .int .i64 (((bentT xs).build 4096).2)) rfl rfl ?_)
   refine stp (r_assign_slice rfl ?_)
   refine stp (r_assign_int rfl ?_)
   refine WL_nil ?_
   refine W_region rfl ?_
   refine stp (r_move_slice rfl ?_)
   refine stp (r_assign_slice rfl ?_)
   refine WL_nil ?_
   have hBe : B = ((bentT xs).build 4096).1 := by rw [hB]; unfold bentB; rw [if_pos h1]
   exact ⟨adq, cq, segsq, fr_of ⟨rfl, rfl, by rw [hBe]; rfl, trivial⟩, (by rw [hBe]; exact hOq), G⟩
  ·-- false
   replace h1 := of_decide_eq_false h1
   refine W_skip ?_
   have hBe : B = ((bentT xs).build (3 + k % 30)).1 := by rw [hB]; unfold bentB; rw [if_neg h1]
   exact ⟨adp, cp, segsp, fr_of ⟨rfl, rfl, by rw [hBe]; rfl, trivial⟩, (by rw [hBe]; exact hOp), G⟩
 ·-- behind them
  clear hX hc8 hOp
  clear G
  rintro e_ w14 ⟨ado, co, segs, ⟨e15, rfl⟩, hO, G⟩
  refine W_seq ?_
  refine W_seq (W_region rfl ?_)
  refine stp (r_assign_int rfl ?_)
  refine WL_nil ?_
  refine W_block ?_
  refine W_loop (fun m_ e_ w_ => ∃ (m : Nat) (ado : Option Addr) (co : Nat) (segs : List Value) (A : List (List Int)), m_ = 12 - m ∧ Fr [(1, .slice ae ys.length cq), (6, .slice none 0 0), (13, .int .i64 (m : Int)), (9, .slice ado A.length co)] e_ ∧ (m ≤ 15) ∧ (BentA B A) ∧ (OwnA 63 33 w_ w.heap.size (.slice ado A.length co) segs A) ∧ Grow w w_) _ ⟨0, ado, co, segs, B, rfl, fr_of ⟨rfl, rfl, rfl, rfl, trivial⟩, by omega, .refl, hO, G⟩ ?_
  clear hO
  clear G
  rintro m_ e_ w16 ⟨m, ado, co, segs, A, rfl, ⟨e17, rfl⟩, hm15, hA, hO, G⟩
  refine W_seq ?_
  refine W_seq (W_region rfl ?_)
  refine stp (r_move_int rfl ?_)
  refine stp (r_add rfl rfl ?_ ?_); constructor <;> omega
  refine stp (r_move_slice rfl ?_)
  refine stp (r_len rfl rfl rfl ?_)
  refine stp (r_lss rfl rfl ?_)
  refine stp (r_move_bool rfl ?_)
  refine WL_some (og_if (s := .bool (decide (((m : Int) + 3) < (ys.length : Int)))) (b := true) (v := .int .i64 (m : Int)) rfl (wgb_t _) (fun hc18 => ?_) ?_)
  ·
   have hc18_ := of_decide_eq_true hc18
   refine r_move_int rfl ?_
   exact ⟨rfl, rfl⟩
  refine WL_some (og_if (s := .bool (decide (((m : Int) + 3) < (ys.length : Int)))) (b := true) (v := .bool (decide ((m : Int) < 12))) rfl (wgb_t _) (fun hc19 => ?_) ?_)
  ·
   have hc19_ := of_decide_eq_true hc19
   refine r_lss (gvt hc19) rfl ?_
   exact ⟨rfl, rfl⟩
  refine stp (r_and2 rfl rfl rfl ?_)
  refine WL_nil ?_
  refine W_cond2 (b := ((decide (((m : Int) + 3) < (ys.length : Int))) && (decide ((m : Int) < 12)))) rfl (fun hlt => ?_) (fun hlt => ?_)
  ·-- true
   simp only [sb] at hlt
   have hd0 := getD_u8 hy m
   have hd1 := getD_u8 hy ((m : Int) + 1).toNat
   have hd2 := getD_u8 hy ((m : Int) + 2).toNat
   have hd3 := getD_u8 hy ((m : Int) + 3).toNat
   have hAl : A.length = B.length := (BentA.len hA).1
   obtain ⟨ado1, co1, sa, sc, hso, hco1, hco2, RO, hsf⟩ := hO.fn (by omega)
   simp only [Value.slice.injEq, true_and] at hso
   obtain ⟨rfl, rfl⟩ := hso
   obtain ⟨s, hsE⟩ : ∃ s : Nat, (s : Int) = ys.getD m 0 % (A.length : Int) := ⟨(ys.getD m 0 % (A.length : Int)).toNat, by have := Int.emod_nonneg (ys.getD m 0) (show (A.length : Int) ≠ 0 by omega); omega⟩
   have hsA : s < A.length := by have := Int.emod_lt_of_pos (ys.getD m 0) (show 0 < (A.length : Int) by omega); omega
   obtain ⟨hss, hos⟩ := hsf s hsA
   refine W_skip ?_
   refine W_seq ?_
   refine W_block ?_
   refine W_seq (W_region rfl ?_)
   refine stp (r_move_slice rfl ?_)
   refine stp (r_move_int rfl ?_)
   refine stp (r_indexN (R2.grow G) rfl rfl ?_ ?_); omega
   refine stp (r_loadR (v := .int .u8 (ys.getD m 0)) (m := 0) (R2.grow G) rfl (map_get1 0 (by omega)) ?_)
   refine stp (r_conv rfl ?_ ?_); constructor <;> omega
   refine stp (r_move_slice rfl ?_)
   refine stp (r_len rfl rfl rfl ?_)
   refine WL_some (og rfl ?_)
   refine r_rem rfl rfl ?_ ?_ ?_; omega; omega
   rw [← hsE]
   refine stp (r_assign_int rfl ?_)
   refine WL_nil ?_
   refine W_seq ?_
   refine W_seq (W_region rfl ?_)
   refine stp (r_move_slice rfl ?_)
   refine stp (r_move_int rfl ?_)
   refine stp (r_indexN RO rfl rfl ?_ ?_); omega
   refine stp (r_loadR (v := .slice (sa s) (len2 A s) (sc s)) (m := 0) RO rfl (by rw [Nat.mul_one]; exact hss) ?_)
   refine stp (r_len rfl rfl rfl ?_)
   refine stp (r_eql rfl rfl ?_)
   refine WL_nil ?_
   refine W_cond2 (b := (decide (((len2 A s) : Int) = 0))) rfl (fun h3 => ?_) (fun h3 => ?_)
   ·-- true
    replace h3 := of_decide_eq_true h3
    refine W_exit ?_
    refine W_region rfl ?_
    refine stp (r_move_int rfl ?_)
    refine stp (r_add rfl rfl ?_ ?_); constructor <;> omega
    refine stp (r_assign_int rfl ?_)
    refine WL_nil ?_
    refine ⟨_, ?_, m + 4, ado, co, segs, A, rfl, fr_of ⟨rfl, rfl, congrArg (Value.int .i64) (by omega), rfl, trivial⟩, by omega, hA, hO, G⟩
    omega
   ·-- false
    replace h3 := of_decide_eq_false h3
    have hs0 : 0 < len2 A s := by omega
    obtain ⟨j, hjE⟩ : ∃ j : Nat, (j : Int) = (ys.getD ((m : Int) + 1).toNat 0) % (len2 A s : Int) := ⟨((ys.getD ((m : Int) + 1).toNat 0) % (len2 A s : Int)).toNat, by have := Int.emod_nonneg (ys.getD ((m : Int) + 1).toNat 0) (show (len2 A s : Int) ≠ 0 by omega); omega⟩
    have hjA : j < len2 A s := by have := Int.emod_lt_of_pos (ys.getD ((m : Int) + 1).toNat 0) (show 0 < (len2 A s : Int) by omega); omega
    refine W_skip ?_
    refine W_seq ?_
    refine W_any 13 [[], [], [0], [2, 1, 0], [3, 2, 1, 0], [4, 3, 2, 1, 0], [], [], [1, 0], [2, 1, 0], [3, 2, 1, 0], [10, 9, 8, 7, 6, 5, 4, 3, 2, 1, 0], [11, 10, 9, 8, 7, 6, 5, 4, 3, 2, 1, 0]] mixed (by kernel_rfl) (by kernel_rfl) (by kernel_rfl) ?_
    intro w20 g21
    replace hO := hO.grow g21
    replace RO := RO.grow g21
    replace G := G.tr g21
    clear g21
    apply AO_ex
    ·intro w_ g_; refine og rfl ?_; refine r_move_slice rfl ?_; exact ⟨Grow.rfl' _, rfl⟩
    apply AO_ex
    ·intro w_ g_; refine og rfl ?_; refine r_move_int rfl ?_; exact ⟨Grow.rfl' _, rfl⟩
    apply AO_ex
    ·intro w_ g_; refine og rfl ?_; refine r_add rfl rfl ?_ ?_; constructor <;> omega; exact ⟨Grow.rfl' _, rfl⟩
    apply AO_ex
    ·intro w_ g_; refine og rfl ?_; refine r_indexR (R2.grow (G.tr g_)) rfl rfl ?_ ?_ ?_; omega; omega; exact ⟨Grow.rfl' _, rfl⟩
    apply AO_ex
    ·intro w_ g_; refine og rfl ?_; refine r_loadR (v := .int .u8 (ys.getD (((m : Int) + 1).toNat) 0)) (m := 0) (R2.grow (G.tr g_)) rfl (map_get1 0 (by omega)) ?_; exact ⟨Grow.rfl' _, rfl⟩
    apply AO_ex
    ·intro w_ g_; refine og rfl ?_; refine r_conv rfl ?_ ?_; constructor <;> omega; exact ⟨Grow.rfl' _, rfl⟩
    apply AO_ex
    ·intro w_ g_; refine og rfl ?_; refine r_move_slice rfl ?_; exact ⟨Grow.rfl' _, rfl⟩
    apply AO_ex
    ·intro w_ g_; refine og rfl ?_; refine r_move_int rfl ?_; exact ⟨Grow.rfl' _, rfl⟩
    apply AO_ex
    ·intro w_ g_; refine og rfl ?_; refine r_indexN (RO.grow g_) rfl rfl ?_ ?_; omega; exact ⟨Grow.rfl' _, rfl⟩
    apply AO_ex
    ·intro w_ g_; refine og rfl ?_; refine r_loadR (v := .slice (sa s) (len2 A s) (sc s)) (m := 0) (RO.grow g_) rfl (by rw [Nat.mul_one]; exact hss) ?_; exact ⟨Grow.rfl' _, rfl⟩
    apply AO_ex
    ·intro w_ g_; refine og rfl ?_; refine r_len rfl rfl rfl ?_; exact ⟨Grow.rfl' _, rfl⟩
    apply AO_ex
    ·intro w_ g_; refine og rfl ?_; refine r_rem rfl rfl ?_ ?_ ?_; omega; omega; rw [← hjE]; exact ⟨Grow.rfl' _, rfl⟩
    apply AO_ex
    ·intro w_ g_; refine og rfl ?_; refine r_assign_int rfl ?_; exact ⟨Grow.rfl' _, rfl⟩
    refine AO_nil ?_
    intro w22 g23
    replace hO := hO.grow g23
    replace RO := RO.grow g23
    replace G := G.tr g23
    clear g23
    refine WL_nil ?_
    have hsG := G.size
    obtain ⟨M, hM⟩ : ∃ M, M = w22.heap.size := ⟨_, rfl⟩
    have hMw : M ≤ w22.heap.size := by rw [hM]; exact Nat.le_refl _
    have hwM : w.heap.size ≤ M := by rw [hM]; exact hsG
    clear hM hsG
    obtain ⟨x, hxE⟩ : ∃ x, x = encR (bentP (ys.getD ((m : Int) + 2).toNat 0) (ys.getD ((m : Int) + 3).toNat 0) A.length) := ⟨_, rfl⟩
    obtain ⟨z, hzE⟩ : ∃ z, z = encE (bentP (ys.getD ((m : Int) + 2).toNat 0) (ys.getD ((m : Int) + 3).toNat 0) A.length) := ⟨_, rfl⟩
    refine W_seq ?_
    refine W_any 18 [[], [], [0], [2, 1, 0], [3, 2, 1, 0], [4, 3, 2, 1, 0], [5, 4, 3, 2, 1, 0], [6, 5, 4, 3, 2, 1, 0], [], [], [0], [2, 1, 0], [3, 2, 1, 0], [4, 3, 2, 1, 0], [5, 4, 3, 2, 1, 0], [6, 5, 4, 3, 2, 1, 0], [15, 14, 13, 12, 11, 10, 9, 8, 7, 6, 5, 4, 3, 2, 1, 0], []] mixed (by kernel_rfl) (by kernel_rfl) (by kernel_rfl) ?_
    intro w24 g25
    replace hO := hO.grow g25
    replace RO := RO.grow g25
    replace hMw := Nat.le_trans hMw g25.size
    replace G := G.tr g25
    clear g25
    apply AO_ex
    ·intro w_ g_; refine og rfl ?_; refine r_move_slice rfl ?_; exact ⟨Grow.rfl' _, rfl⟩
    apply AO_ex
    ·intro w_ g_; refine og rfl ?_; refine r_move_int rfl ?_; exact ⟨Grow.rfl' _, rfl⟩
    apply AO_ex
    ·intro w_ g_; refine og rfl ?_; refine r_add rfl rfl ?_ ?_; constructor <;> omega; exact ⟨Grow.rfl' _, rfl⟩
    apply AO_ex
    ·intro w_ g_; refine og rfl ?_; refine r_indexR (R2.grow (G.tr g_)) rfl rfl ?_ ?_ ?_; omega; omega; exact ⟨Grow.rfl' _, rfl⟩
    apply AO_ex
    ·intro w_ g_; refine og rfl ?_; refine r_loadR (v := .int .u8 (ys.getD (((m : Int) + 2).toNat) 0)) (m := 0) (R2.grow (G.tr g_)) rfl (map_get1 0 (by omega)) ?_; exact ⟨Grow.rfl' _, rfl⟩
    apply AO_ex
    ·intro w_ g_; refine og rfl ?_; refine r_rem rfl rfl ?_ ?_ ?_; omega; omega; exact ⟨Grow.rfl' _, rfl⟩
    apply AO_ex
    ·intro w_ g_; refine og rfl ?_; refine r_conv rfl ?_ ?_; constructor <;> omega; exact ⟨Grow.rfl' _, rfl⟩
    apply AO_ex
    ·intro w_ g_; refine og rfl ?_; refine r_add rfl rfl ?_ ?_; constructor <;> omega; exact ⟨Grow.rfl' _, rfl⟩
    apply AO_ex
    ·intro w_ g_; refine og rfl ?_; refine r_move_slice rfl ?_; exact ⟨Grow.rfl' _, rfl⟩
    apply AO_ex
    ·intro w_ g_; refine og rfl ?_; refine r_move_int rfl ?_; exact ⟨Grow.rfl' _, rfl⟩
    apply AO_ex
    ·intro w_ g_; refine og rfl ?_; refine r_add rfl rfl ?_ ?_; constructor <;> omega; exact ⟨Grow.rfl' _, rfl⟩
    apply AO_ex
    ·intro w_ g_; refine og rfl ?_; refine r_indexR (R2.grow (G.tr g_)) rfl rfl ?_ ?_ ?_; omega; omega; exact ⟨Grow.rfl' _, rfl⟩
    apply AO_ex
    ·intro w_ g_; refine og rfl ?_; refine r_loadR (v := .int .u8 (ys.getD (((m : Int) + 3).toNat) 0)) (m := 0) (R2.grow (G.tr g_)) rfl (map_get1 0 (by omega)) ?_; exact ⟨Grow.rfl' _, rfl⟩
    apply AO_ex
    ·intro w_ g_; refine og rfl ?_; refine r_rem rfl rfl ?_ ?_ ?_; omega; omega; exact ⟨Grow.rfl' _, rfl⟩
    apply AO_ex
    ·intro w_ g_; refine og rfl ?_; refine r_conv rfl ?_ ?_; constructor <;> omega; exact ⟨Grow.rfl' _, rfl⟩
    apply AO_ex
    ·intro w_ g_; refine og rfl ?_; refine r_sub rfl rfl ?_ ?_; constructor <;> omega; exact ⟨Grow.rfl' _, rfl⟩
    apply AO_ex
    ·intro w_ g_; refine og rfl ?_; refine r_build (v := .agg #[.int .i64 (1 + ((ys.getD (((m : Int) + 2).toNat) 0) % 3)), .int .i64 (((ys.getD (((m : Int) + 3).toNat) 0) % 16) - 4), .int .i64 0, .int .i64 0, .int .i64 0, .int .i64 0, .int .i64 0, .bool false]) (fun w => by kernel_rfl) ?_; exact ⟨Grow.rfl' _, rfl⟩
    refine AO_so (fun w_ v_ => ∃ b, v_ = .pointer (some ⟨b, 0, none⟩) ∧ M ≤ b ∧ w_.heap[b]? = some (.cells #[.int .i64 0, .int .i64 0, .int .i64 0, .int .i64 0, .int .i64 0, .int .i64 0, .int .i64 0, .bool false] 72 (0, 0))) (fun _ _ _ g_ ⟨b, h1_, h2_, h3_⟩ => ⟨b, h1_, h2_, g_.heap h3_⟩) ?_ ?_
    ·intro w_ g_
     refine og rfl ?_
     refine r_alloc ?_
     intro b_ w2_ hb_ hc_ g2_
     exact ⟨g2_, b_, rfl, Nat.le_trans hMw (Nat.le_trans g_.size hb_), hc_⟩
    refine AO_nil ?_
    intro w26 g27
    replace hO := hO.grow g27
    replace RO := RO.grow g27
    replace hMw := Nat.le_trans hMw g27.size
    replace G := G.tr g27
    clear g27
    intro v_p hv_p
    obtain ⟨bp, rfl, hgP, hcP⟩ := hv_p
    have hgQ := Nat.le_trans hwM hgP
    refine stn (r_storeAll rfl rfl hcP (by rfl) (by rfl) (by rfl) ?_)
    intro w28 hc29 u30
    replace hO := hO.upd u30 hcP (by decide) (by decide)
    replace RO := (OwnA.rowat hO (by omega)).2
    replace hMw := Nat.le_trans hMw (Nat.le_of_eq u30.size.symm)
    replace G := G.upd u30 hgQ
    clear u30 hcP
    refine WL_nil ?_
    refine W_seq ?_
    refine W_seq (W_region rfl ?_)
    refine stp (r_fieldAddr rfl ?_)
    refine stp (r_load (v := .int .i64 (1 + ((ys.getD (((m : Int) + 2).toNat) 0) % 3))) rfl hc29 rfl ?_)
    refine WL_nil ?_
    refine W_block ?_
    refine W_seq (W_region rfl ?_)
    refine stp (r_eql rfl rfl ?_)
    refine stp (r_assign_bool rfl ?_)
    refine WL_nil ?_
    refine W_cond2 (b := (decide ((1 + ((ys.getD (((m : Int) + 2).toNat) 0) % 3)) = 1))) rfl (fun h4 => ?_) (fun h4 => ?_)
    ·-- true
     replace h4 := of_decide_eq_true h4
     refine W_seq (W_region rfl ?_)
     refine stp (r_move_slice rfl ?_)
     refine stp (r_move_int rfl ?_)
     refine stp (r_add rfl rfl ?_ ?_); constructor <;> omega
     refine stp (r_indexR (R2.grow G) rfl rfl ?_ ?_ ?_); omega; omega
     refine stp (r_loadR (v := .int .u8 (ys.getD (((m : Int) + 2).toNat) 0)) (m := 0) (R2.grow G) rfl (map_get1 0 (by omega)) ?_)
     refine stp (r_rem rfl rfl ?_ ?_ ?_); omega; omega
     refine stp (r_conv rfl ?_ ?_); constructor <;> omega
     refine stp (r_fieldAddr rfl ?_)
     refine stn (r_store1 (v := .int .i64 ((ys.getD (((m : Int) + 2).toNat) 0) % 4)) rfl rfl (by rfl) hc29 (by rfl) (by rfl) ?_)
     intro w31 hc32 u33
     replace hO := hO.upd u33 hc29 (by decide) (by decide)
     replace RO := (OwnA.rowat hO (by omega)).2
     replace hMw := Nat.le_trans hMw (Nat.le_of_eq u33.size.symm)
     replace G := G.upd u33 hgQ
     clear u33 hc29
     refine WL_nil ?_
     refine W_region rfl ?_
     refine stp (r_move_slice rfl ?_)
     refine stp (r_move_int rfl ?_)
     refine stp (r_add rfl rfl ?_ ?_); constructor <;> omega
     refine stp (r_indexR (R2.grow G) rfl rfl ?_ ?_ ?_); omega; omega
     refine stp (r_loadR (v := .int .u8 (ys.getD (((m : Int) + 2).toNat) 0)) (m := 0) (R2.grow G) rfl (map_get1 0 (by omega)) ?_)
     refine stp (r_quo rfl rfl ?_ ?_ ?_ ?_); omega; omega; (constructor <;> omega)
     refine stp (r_conv rfl ?_ ?_); constructor <;> omega
     refine stp (r_fieldAddr rfl ?_)
     refine stn (r_store1 (v := .int .i64 ((ys.getD (((m : Int) + 2).toNat) 0) / 64)) rfl rfl (by rfl) hc32 (by rfl) (by rfl) ?_)
     intro w34 hc35 u36
     replace hO := hO.upd u36 hc32 (by decide) (by decide)
     replace RO := (OwnA.rowat hO (by omega)).2
     replace hMw := Nat.le_trans hMw (Nat.le_of_eq u36.size.symm)
     replace G := G.upd u36 hgQ
     clear u36 hc32
     refine WL_nil ?_
     refine W_seq (W_region rfl ?_)
     refine stp (r_loadAll rfl hc35 (by rfl) ?_)
     refine WL_some (og rfl ?_)
     have hP : (⟨1 + ((ys.getD (((m : Int) + 2).toNat) 0) % 3), ((ys.getD (((m : Int) + 3).toNat) 0) % 16) - 4, (ys.getD (((m : Int) + 2).toNat) 0) % 4, (ys.getD (((m : Int) + 2).toNat) 0) / 64, 0, 0, 0, false⟩ : Pt) = bentP (ys.getD ((m : Int) + 2).toNat 0) (ys.getD ((m : Int) + 3).toNat 0) A.length := by unfold bentP; rw [if_pos (by omega)]; rw [show 1 + (ys.getD ((m : Int) + 2).toNat 0) % 3 = 1 from by omega]
     refine r_gives (v := .tuple #[.int .u64 x, .int .i64 z]) rfl (gives_eq (rencode_calls _ ⟨1 + ((ys.getD (((m : Int) + 2).toNat) 0) % 3), ((ys.getD (((m : Int) + 3).toNat) 0) % 16) - 4, (ys.getD (((m : Int) + 2).toNat) 0) % 4, (ys.getD (((m : Int) + 2).toNat) 0) / 64, 0, 0, 0, false⟩) (y := .tuple #[.int .u64 x, .int .i64 z]) (by rw [hP, ← hxE, ← hzE])) ?_
     intro w37 g38
     replace hO := hO.grow g38
     replace RO := RO.grow g38
     replace hMw := Nat.le_trans hMw g38.size
     replace hc35 := g38.heap hc35
     replace G := G.tr g38
     clear g38
     refine stp (r_move (v := .tuple #[.int .u64 x, .int .i64 z]) rfl ?_)
     refine stp (r_extract (v := .int .u64 x) rfl rfl ?_)
     refine stp (r_extract (v := .int .i64 z) rfl rfl ?_)
     refine stp (r_assign_int rfl ?_)
     refine stp (r_assign_int rfl ?_)
     refine WL_nil ?_
     refine W_region rfl ?_
     refine stp (r_move_slice rfl ?_)
     refine stp (r_move_int rfl ?_)
     refine stp (r_indexN RO rfl rfl ?_ ?_); omega
     refine stp (r_loadR (v := .slice (sa s) (len2 A s) (sc s)) (m := 0) RO rfl (by rw [Nat.mul_one]; exact hss) ?_)
     refine stp (r_move_int rfl ?_)
     refine stp (r_move_int rfl ?_)
     refine WL_some (og rfl ?_)
     have hos9 := hO.seg s _ _ hss (List.getElem?_eq_getElem hsA)
     have hlen9 : len2 A s = A[s].length := by rw [len2, getD_at hsA]
     obtain ⟨g5, c5, cur5, he5, hg5b, hg5, hc51, hc52, hc53, hc54⟩ := own_pos hos9 (by omega)
     simp only [Value.slice.injEq] at he5
     obtain ⟨hsa, -, hsc⟩ := he5
     refine r_indexAddr (b := g5) (o := 0) (n := len2 A s) (c := sc s) (i := (j : Int)) (show _ = _ from congrArg (fun a_ => Value.slice a_ (len2 A s) (sc s)) hsa) rfl (by omega) (by omega) ?_
     rw [Int.toNat_natCast, Nat.zero_add, Nat.mul_one]
     refine stn (r_store1 (v := .int .u64 x) rfl rfl rfl hg5 (Nat.ble_eq_true_of_le (by omega)) rfl ?_)
     intro w7 hs6 u7
     rw [hsa, hlen9] at hss
     have hO7 := hO.setw (i := j) (x := x) (by decide) (List.getElem?_eq_getElem hsA) hss hg5 hs6 (by simp) u7
     replace G := G.upd u7 hg5b
     have hset : A.set s (A[s].set j x) = setP A s j x := by unfold setP; rw [getD_at hsA]
     rw [hset] at hO7
     refine WL_nil ?_
     refine W_region rfl ?_
     refine stp (r_move_int rfl ?_)
     refine stp (r_add rfl rfl ?_ ?_); constructor <;> omega
     refine stp (r_assign_int rfl ?_)
     refine WL_nil ?_
     have hln := setP_length A s j x
     rw [show (Value.slice ado A.length co) = .slice ado (setP A s j x).length co from by rw [hln]] at hO7
     refine ⟨_, ?_, m + 4, ado, co, segs, setP A s j x, rfl, fr_of ⟨rfl, rfl, congrArg (Value.int .i64) (by omega), by rw [hln]; rfl, trivial⟩, by omega, by rw [hxE]; exact .put hA hsA hjA hd2.1 hd2.2 hd3.1 hd3.2, hO7, G⟩
     omega
    ·-- false
     replace h4 := of_decide_eq_false h4
     refine W_seq (W_region rfl ?_)
     refine stp (r_eql rfl rfl ?_)
     refine stp (r_assign_bool rfl ?_)
     refine WL_nil ?_
     refine W_cond2 (b := (decide ((1 + ((ys.getD (((m : Int) + 2).toNat) 0) % 3)) = 2))) rfl (fun h5 => ?_) (fun h5 => ?_)
     ·-- true
      replace h5 := of_decide_eq_true h5
      refine W_seq (W_region rfl ?_)
      refine stp (r_buildSlice (cs := #[.int .i64 2, .int .i64 5, .int .i64 6, .int .i64 3]) (el := 3) (fun w => by kernel_rfl) ?_)
      intro bs39 w40 hb41 hc42 g43
      have hge44 := Nat.le_trans G.size hb41
      have ne45 := Nat.ne_of_lt (Nat.lt_of_lt_of_le (lt_of_heap hc29) hb41)
      replace hO := hO.grow g43
      replace RO := RO.grow g43
      replace hMw := Nat.le_trans hMw g43.size
      replace hc29 := g43.heap hc29
      replace G := G.tr g43
      clear g43
      refine stp (r_move_slice rfl ?_)
      refine stp (r_move_int rfl ?_)
      refine stp (r_add rfl rfl ?_ ?_); constructor <;> omega
      refine stp (r_indexR (R2.grow G) rfl rfl ?_ ?_ ?_); omega; omega
      refine stp (r_loadR (v := .int .u8 (ys.getD (((m : Int) + 2).toNat) 0)) (m := 0) (R2.grow G) rfl (map_get1 0 (by omega)) ?_)
      refine stp (r_rem rfl rfl ?_ ?_ ?_); omega; omega
      refine WL_some (og rfl ?_)
      have RL := Row.of_block (n := 4) (sz := 1) hc42 rfl rfl (by decide)
      obtain ⟨_, _, hr_, -, -, RL⟩ := RL
      cases hr_
      refine r_indexR RL rfl rfl ?_ ?_ ?_; omega; omega
      refine stp (r_loadR (v := .int .i64 (bentZ ((ys.getD ((m : Int) + 2).toNat 0) % 4))) (m := 0) RL rfl (bentZ_at _ (by omega) (by omega)) ?_)
      refine stp (r_fieldAddr rfl ?_)
      refine stn (r_store1 (v := .int .i64 (bentZ ((ys.getD ((m : Int) + 2).toNat 0) % 4))) rfl rfl (by rfl) hc29 (by rfl) (by rfl) ?_)
      intro w46 hc47 u48
      replace hO := hO.upd u48 hc29 (by decide) (by decide)
      replace RO := (OwnA.rowat hO (by omega)).2
      replace hMw := Nat.le_trans hMw (Nat.le_of_eq u48.size.symm)
      replace hc42 := u48.heap hc42 ne45.symm
      replace G := G.upd u48 hgQ
      clear u48 hc29
      refine WL_nil ?_
      refine W_region rfl ?_
      refine stp (r_move_slice rfl ?_)
      refine stp (r_move_int rfl ?_)
      refine stp (r_add rfl rfl ?_ ?_); constructor <;> omega
      refine stp (r_indexR (R2.grow G) rfl rfl ?_ ?_ ?_); omega; omega
      refine stp (r_loadR (v := .int .u8 (ys.getD (((m : Int) + 2).toNat) 0)) (m := 0) (R2.grow G) rfl (map_get1 0 (by omega)) ?_)
      refine stp (r_quo rfl rfl ?_ ?_ ?_ ?_); omega; omega; (constructor <;> omega)
      refine stp (r_conv rfl ?_ ?_); constructor <;> omega
      refine stp (r_fieldAddr rfl ?_)
      refine stn (r_store1 (v := .int .i64 ((ys.getD (((m : Int) + 2).toNat) 0) / 16)) rfl rfl (by rfl) hc47 (by rfl) (by rfl) ?_)
      intro w49 hc50 u51
      replace hO := hO.upd u51 hc47 (by decide) (by decide)
      replace RO := (OwnA.rowat hO (by omega)).2
      replace hMw := Nat.le_trans hMw (Nat.le_of_eq u51.size.symm)
      replace hc42 := u51.heap hc42 ne45.symm
      replace G := G.upd u51 hgQ
      clear u51 hc47
      refine WL_nil ?_
      refine W_seq (W_region rfl ?_)
      refine stp (r_loadAll rfl hc50 (by rfl) ?_)
      refine WL_some (og rfl ?_)
      have hP : (⟨1 + ((ys.getD (((m : Int) + 2).toNat) 0) % 3), ((ys.getD (((m : Int) + 3).toNat) 0) % 16) - 4, 0, 0, bentZ ((ys.getD ((m : Int) + 2).toNat 0) % 4), (ys.getD (((m : Int) + 2).toNat) 0) / 16, 0, false⟩ : Pt) = bentP (ys.getD ((m : Int) + 2).toNat 0) (ys.getD ((m : Int) + 3).toNat 0) A.length := by unfold bentP; rw [if_neg (by omega), if_pos (by omega)]; rw [show 1 + (ys.getD ((m : Int) + 2).toNat 0) % 3 = 2 from by omega]
      refine r_gives (v := .tuple #[.int .u64 x, .int .i64 z]) rfl (gives_eq (rencode_calls _ ⟨1 + ((ys.getD (((m : Int) + 2).toNat) 0) % 3), ((ys.getD (((m : Int) + 3).toNat) 0) % 16) - 4, 0, 0, bentZ ((ys.getD ((m : Int) + 2).toNat 0) % 4), (ys.getD (((m : Int) + 2).toNat) 0) / 16, 0, false⟩) (y := .tuple #[.int .u64 x, .int .i64 z]) (by rw [hP, ← hxE, ← hzE])) ?_
      intro w52 g53
      replace hO := hO.grow g53
      replace RO := RO.grow g53
      replace hMw := Nat.le_trans hMw g53.size
      replace hc42 := g53.heap hc42
      replace hc50 := g53.heap hc50
      replace G := G.tr g53
      clear g53
      refine stp (r_move (v := .tuple #[.int .u64 x, .int .i64 z]) rfl ?_)
      refine stp (r_extract (v := .int .u64 x) rfl rfl ?_)
      refine stp (r_extract (v := .int .i64 z) rfl rfl ?_)
      refine stp (r_assign_int rfl ?_)
      refine stp (r_assign_int rfl ?_)
      refine WL_nil ?_
      refine W_region rfl ?_
      refine stp (r_move_slice rfl ?_)
      refine stp (r_move_int rfl ?_)
      refine stp (r_indexN RO rfl rfl ?_ ?_); omega
      refine stp (r_loadR (v := .slice (sa s) (len2 A s) (sc s)) (m := 0) RO rfl (by rw [Nat.mul_one]; exact hss) ?_)
      refine stp (r_move_int rfl ?_)
      refine stp (r_move_int rfl ?_)
      refine WL_some (og rfl ?_)
      have hos9 := hO.seg s _ _ hss (List.getElem?_eq_getElem hsA)
      have hlen9 : len2 A s = A[s].length := by rw [len2, getD_at hsA]
      obtain ⟨g5, c5, cur5, he5, hg5b, hg5, hc51, hc52, hc53, hc54⟩ := own_pos hos9 (by omega)
      simp only [Value.slice.injEq] at he5
      obtain ⟨hsa, -, hsc⟩ := he5
      refine r_indexAddr (b := g5) (o := 0) (n := len2 A s) (c := sc s) (i := (j : Int)) (show _ = _ from congrArg (fun a_ => Value.slice a_ (len2 A s) (sc s)) hsa) rfl (by omega) (by omega) ?_
      rw [Int.toNat_natCast, Nat.zero_add, Nat.mul_one]
      refine stn (r_store1 (v := .int .u64 x) rfl rfl rfl hg5 (Nat.ble_eq_true_of_le (by omega)) rfl ?_)
      intro w7 hs6 u7
      rw [hsa, hlen9] at hss
      have hO7 := hO.setw (i := j) (x := x) (by decide) (List.getElem?_eq_getElem hsA) hss hg5 hs6 (by simp) u7
      replace G := G.upd u7 hg5b
      have hset : A.set s (A[s].set j x) = setP A s j x := by unfold setP; rw [getD_at hsA]
      rw [hset] at hO7
      refine WL_nil ?_
      refine W_region rfl ?_
      refine stp (r_move_int rfl ?_)
      refine stp (r_add rfl rfl ?_ ?_); constructor <;> omega
      refine stp (r_assign_int rfl ?_)
      refine WL_nil ?_
      have hln := setP_length A s j x
      rw [show (Value.slice ado A.length co) = .slice ado (setP A s j x).length co from by rw [hln]] at hO7
      refine ⟨_, ?_, m + 4, ado, co, segs, setP A s j x, rfl, fr_of ⟨rfl, rfl, congrArg (Value.int .i64) (by omega), by rw [hln]; rfl, trivial⟩, by omega, by rw [hxE]; exact .put hA hsA hjA hd2.1 hd2.2 hd3.1 hd3.2, hO7, G⟩
      omega
     ·-- false
      replace h5 := of_decide_eq_false h5
      refine W_seq (W_region rfl ?_)
      refine stp (r_move_slice rfl ?_)
      refine stp (r_move_int rfl ?_)
      refine stp (r_add rfl rfl ?_ ?_); constructor <;> omega
      refine stp (r_indexR (R2.grow G) rfl rfl ?_ ?_ ?_); omega; omega
      refine stp (r_loadR (v := .int .u8 (ys.getD (((m : Int) + 3).toNat) 0)) (m := 0) (R2.grow G) rfl (map_get1 0 (by omega)) ?_)
      refine stp (r_rem rfl rfl ?_ ?_ ?_); omega; omega
      refine stp (r_conv rfl ?_ ?_); constructor <;> omega
      refine stp (r_fieldAddr rfl ?_)
      refine stn (r_store1 (v := .int .i64 ((ys.getD (((m : Int) + 3).toNat) 0) % 12)) rfl rfl (by rfl) hc29 (by rfl) (by rfl) ?_)
      intro w54 hc55 u56
      replace hO := hO.upd u56 hc29 (by decide) (by decide)
      replace RO := (OwnA.rowat hO (by omega)).2
      replace hMw := Nat.le_trans hMw (Nat.le_of_eq u56.size.symm)
      replace G := G.upd u56 hgQ
      clear u56 hc29
      refine WL_nil ?_
      refine W_seq (W_region rfl ?_)
      refine stp (r_move_slice rfl ?_)
      refine stp (r_move_int rfl ?_)
      refine stp (r_add rfl rfl ?_ ?_); constructor <;> omega
      refine stp (r_indexR (R2.grow G) rfl rfl ?_ ?_ ?_); omega; omega
      refine stp (r_loadR (v := .int .u8 (ys.getD (((m : Int) + 2).toNat) 0)) (m := 0) (R2.grow G) rfl (map_get1 0 (by omega)) ?_)
      refine stp (r_quo rfl rfl ?_ ?_ ?_ ?_); omega; omega; (constructor <;> omega)
      refine stp (r_conv rfl ?_ ?_); constructor <;> omega
      refine stp (r_move_slice rfl ?_)
      refine stp (r_len rfl rfl rfl ?_)
      refine stp (r_add rfl rfl ?_ ?_); constructor <;> omega
      refine stp (r_rem rfl rfl ?_ ?_ ?_); omega; omega
      refine stp (r_fieldAddr rfl ?_)
      refine stn (r_store1 (v := .int .i64 (((ys.getD (((m : Int) + 2).toNat) 0) / 3) % ((A.length : Int) + 1))) rfl rfl (by rfl) hc55 (by rfl) (by rfl) ?_)
      intro w57 hc58 u59
      replace hO := hO.upd u59 hc55 (by decide) (by decide)
      replace RO := (OwnA.rowat hO (by omega)).2
      replace hMw := Nat.le_trans hMw (Nat.le_of_eq u59.size.symm)
      replace G := G.upd u59 hgQ
      clear u59 hc55
      refine WL_nil ?_
      refine W_region rfl ?_
      refine stp (r_move_slice rfl ?_)
      refine stp (r_move_int rfl ?_)
      refine stp (r_add rfl rfl ?_ ?_); constructor <;> omega
      refine stp (r_indexR (R2.grow G) rfl rfl ?_ ?_ ?_); omega; omega
      refine stp (r_loadR (v := .int .u8 (ys.getD (((m : Int) + 2).toNat) 0)) (m := 0) (R2.grow G) rfl (map_get1 0 (by omega)) ?_)
      refine stp (r_rem rfl rfl ?_ ?_ ?_); omega; omega
      refine stp (r_eql rfl rfl ?_)
      refine stp (r_fieldAddr rfl ?_)
      refine stn (r_store1 (v := .bool (decide (((ys.getD (((m : Int) + 2).toNat) 0) % 2) = 1))) rfl rfl (by rfl) hc58 (by rfl) (by rfl) ?_)
      intro w60 hc61 u62
      replace hO := hO.upd u62 hc58 (by decide) (by decide)
      replace RO := (OwnA.rowat hO (by omega)).2
      replace hMw := Nat.le_trans hMw (Nat.le_of_eq u62.size.symm)
      replace G := G.upd u62 hgQ
      clear u62 hc58
      refine WL_nil ?_
      refine W_seq (W_region rfl ?_)
      refine stp (r_loadAll rfl hc61 (by rfl) ?_)
      refine WL_some (og rfl ?_)
      have hP : (⟨1 + ((ys.getD (((m : Int) + 2).toNat) 0) % 3), (ys.getD (((m : Int) + 3).toNat) 0) % 12, 0, 0, 0, 0, ((ys.getD (((m : Int) + 2).toNat) 0) / 3) % ((A.length : Int) + 1), (decide (((ys.getD (((m : Int) + 2).toNat) 0) % 2) = 1))⟩ : Pt) = bentP (ys.getD ((m : Int) + 2).toNat 0) (ys.getD ((m : Int) + 3).toNat 0) A.length := by unfold bentP; rw [if_neg (by omega), if_neg (by omega)]; rw [show 1 + (ys.getD ((m : Int) + 2).toNat 0) % 3 = 3 from by omega]
      refine r_gives (v := .tuple #[.int .u64 x, .int .i64 z]) rfl (gives_eq (rencode_calls _ ⟨1 + ((ys.getD (((m : Int) + 2).toNat) 0) % 3), (ys.getD (((m : Int) + 3).toNat) 0) % 12, 0, 0, 0, 0, ((ys.getD (((m : Int) + 2).toNat) 0) / 3) % ((A.length : Int) + 1), (decide (((ys.getD (((m : Int) + 2).toNat) 0) % 2) = 1))⟩) (y := .tuple #[.int .u64 x, .int .i64 z]) (by rw [hP, ← hxE, ← hzE])) ?_
      intro w63 g64
      replace hO := hO.grow g64
      replace RO := RO.grow g64
      replace hMw := Nat.le_trans hMw g64.size
      replace hc61 := g64.heap hc61
      replace G := G.tr g64
      clear g64
      refine stp (r_move (v := .tuple #[.int .u64 x, .int .i64 z]) rfl ?_)
      refine stp (r_extract (v := .int .u64 x) rfl rfl ?_)
      refine stp (r_extract (v := .int .i64 z) rfl rfl ?_)
      refine stp (r_assign_int rfl ?_)
      refine stp (r_assign_int rfl ?_)
      refine WL_nil ?_
      refine W_region rfl ?_
      refine stp (r_move_slice rfl ?_)
      refine stp (r_move_int rfl ?_)
      refine stp (r_indexN RO rfl rfl ?_ ?_); omega
      refine stp (r_loadR (v := .slice (sa s) (len2 A s) (sc s)) (m := 0) RO rfl (by rw [Nat.mul_one]; exact hss) ?_)
      refine stp (r_move_int rfl ?_)
      refine stp (r_move_int rfl ?_)
      refine WL_some (og rfl ?_)
      have hos9 := hO.seg s _ _ hss (List.getElem?_eq_getElem hsA)
      have hlen9 : len2 A s = A[s].length := by rw [len2, getD_at hsA]
      obtain ⟨g5, c5, cur5, he5, hg5b, hg5, hc51, hc52, hc53, hc54⟩ := own_pos hos9 (by omega)
      simp only [Value.slice.injEq] at he5
      obtain ⟨hsa, -, hsc⟩ := he5
      refine r_indexAddr (b := g5) (o := 0) (n := len2 A s) (c := sc s) (i := (j : Int)) (show _ = _ from congrArg (fun a_ => Value.slice a_ (len2 A s) (sc s)) hsa) rfl (by omega) (by omega) ?_
      rw [Int.toNat_natCast, Nat.zero_add, Nat.mul_one]
      refine stn (r_store1 (v := .int .u64 x) rfl rfl rfl hg5 (Nat.ble_eq_true_of_le (by omega)) rfl ?_)
      intro w7 hs6 u7
      rw [hsa, hlen9] at hss
      have hO7 := hO.setw (i := j) (x := x) (by decide) (List.getElem?_eq_getElem hsA) hss hg5 hs6 (by simp) u7
      replace G := G.upd u7 hg5b
      have hset : A.set s (A[s].set j x) = setP A s j x := by unfold setP; rw [getD_at hsA]
      rw [hset] at hO7
      refine WL_nil ?_
      refine W_region rfl ?_
      refine stp (r_move_int rfl ?_)
      refine stp (r_add rfl rfl ?_ ?_); constructor <;> omega
      refine stp (r_assign_int rfl ?_)
      refine WL_nil ?_
      have hln := setP_length A s j x
      rw [show (Value.slice ado A.length co) = .slice ado (setP A s j x).length co from by rw [hln]] at hO7
      refine ⟨_, ?_, m + 4, ado, co, segs, setP A s j x, rfl, fr_of ⟨rfl, rfl, congrArg (Value.int .i64) (by omega), by rw [hln]; rfl, trivial⟩, by omega, by rw [hxE]; exact .put hA hsA hjA hd2.1 hd2.2 hd3.1 hd3.2, hO7, G⟩
      omega
  ·-- false
   simp only [sb] at hlt
   refine W_exit ?_
   refine W_seq (W_region rfl ?_)
   refine stp (r_move_slice rfl ?_)
   refine stp (r_assign_slice rfl ?_)
   refine WL_nil ?_
   refine W_ret ?_
   refine ret1 (res_tmp (v := .slice ado A.length co) rfl) ⟨ado, co, segs, A, rfl, hO, by rw [hB] at hA; exact hA, G⟩

end Go.Proofs.Ytifhcfhdajkhlaa.K

namespace Go.Proofs.Ytifhcfhdajkhlaa.K
open Go Go.RowKit Go.Proofs
attribute [local irreducible] Run1 OpG WL W AO Gives
set_option maxRecDepth 100000 in
theorem path_calls (w : World) {n cp : Nat} {ad : Option Addr} {xs : List Int} {at_ : Int} (R : RowAt w 1 ad n (xs.map (.int .u8))) (hn : n = xs.length) (hx : isU8 xs) (a0 : 0 ≤ at_) (a1 : at_ ≤ 255) : Calls Try.prog 9 #[.slice ad n cp, .int .u8 at_] w (Ret fun v w' => ∃ ad2 c2, v = .agg #[.slice ad2 (pathP xs).length c2, .int .i64 (at_ % 12 - 2)] ∧ RowAt w' 1 ad2 (pathP xs).length ((pathP xs).map (.int .i64)) ∧ Grow w w') := by
 have ll := R.lim
 have G := Grow.rfl' w
 refine calls_ret Try.func9 Try.ntmps9 Try.results9 rfl rfl ?_
 refine W_seq (W_region rfl ?_)
 refine stp (r_alloc ?_)
 intro b1 w2 hb3 hc4 g5
 refine WL_nil ?_
 refine W_seq (W_region rfl ?_)
 refine stp (r_move_int rfl ?_)
 refine stp (r_rem rfl rfl ?_ ?_ ?_); omega; omega
 refine stp (r_conv rfl ?_ ?_); constructor <;> omega
 refine stp (r_sub rfl rfl ?_ ?_); constructor <;> omega
 refine stp (r_build (v := .agg #[.slice none 0 0, .int .i64 ((at_ % 12) - 2)]) (fun w => by kernel_rfl) ?_)
 have hge6 := Nat.le_trans G.size hb3
 replace G := G.tr g5
 clear g5 hb3
 refine stp (r_alloc ?_)
 intro b7 w8 hb9 hc10 g11
 refine stn (r_storeAll rfl rfl hc10 (by rfl) (by rfl) (by rfl) ?_)
 intro w12 hc13 u14
 have g15 := g11.upd u14 hb9
 have hge16 := Nat.le_trans G.size hb9
 have ne17 := Nat.ne_of_lt (Nat.lt_of_lt_of_le (lt_of_heap hc4) hb9)
 replace hc4 := g15.heap hc4
 replace G := G.tr g15
 clear u14 g11 hb9 hc10
 refine WL_nil ?_
 refine W_seq ?_
 refine W_seq (W_region rfl ?_)
 refine stp (r_assign_int rfl ?_)
 refine WL_nil ?_
 refine W_block ?_
 refine W_loop (fun m_ e_ w_ => ∃ (k : Nat) (ad3 : Option Addr) (n3 : Nat) (c3 : Nat), m_ = 6 - k ∧ Fr [(0, .slice ad n cp), (4, .pointer (some ⟨b1, 0, none⟩)), (5, .pointer (some ⟨b7, 0, none⟩)), (6, .int .i64 (k : Int))] e_ ∧ (k ≤ 6 ∧ k ≤ xs.length) ∧ (w_.heap[b1]? = some (.cells #[.slice none 0 0, .int .i64 0] 29 (0, 0))) ∧ (w_.heap[b7]? = some (.cells #[.slice ad3 n3 c3, .int .i64 (at_ % 12 - 2)] 29 (0, 0))) ∧ (w_.ownsRow w.heap.size 3 1 (.slice ad3 n3 c3) k (((xs.take k).map (· % 6)).map (.int .i64))) ∧ Grow w w_) _ ⟨0, none, 0, 0, rfl, fr_of ⟨rfl, rfl, rfl, rfl, trivial⟩, by omega, hc4, hc13, World.ownsRow_nil _ _ _ _, G⟩ ?_
 clear hc4 hc13
 clear G
 rintro m_ e_ w18 ⟨k, ad3, n3, c3, rfl, ⟨e19, rfl⟩, hk, hc4, hc13, own, G⟩
 refine W_seq ?_
 refine W_seq (W_region rfl ?_)
 refine stp (r_move_int rfl ?_)
 refine stp (r_move_slice rfl ?_)
 refine stp (r_len rfl rfl rfl ?_)
 refine stp (r_lss rfl rfl ?_)
 refine stp (r_move_bool rfl ?_)
 refine WL_some (og_if (s := .bool (decide ((k : Int) < (n : Int)))) (b := true) (v := .int .i64 (k : Int)) rfl (wgb_t _) (fun hc20 => ?_) ?_)
 ·
  have hc20_ := of_decide_eq_true hc20
  refine r_move_int rfl ?_
  exact ⟨rfl, rfl⟩
 refine WL_some (og_if (s := .bool (decide ((k : Int) < (n : Int)))) (b := true) (v := .bool (decide ((k : Int) < 6))) rfl (wgb_t _) (fun hc21 => ?_) ?_)
 ·
  have hc21_ := of_decide_eq_true hc21
  refine r_lss (gvt hc21) rfl ?_
  exact ⟨rfl, rfl⟩
 refine stp (r_and2 rfl rfl rfl ?_)
 refine WL_nil ?_
 refine W_cond2 (b := ((decide ((k : Int) < (n : Int))) && (decide ((k : Int) < 6)))) rfl (fun hlt => ?_) (fun hlt => ?_)
 ·-- true
  simp only [sb] at hlt
  obtain ⟨h1a, h1b⟩ := hlt
  have hu := getD_u8 hx k
  have hkx : k < xs.length := by omega
  refine W_skip ?_
  refine W_seq ?_
  refine W_block ?_
  refine W_any 9 [[], [0], [], [], [1, 0], [2, 1, 0], [3, 2, 1, 0], [4, 3, 2, 1, 0], [5, 4, 3, 2, 1, 0]] mixed (by kernel_rfl) (by kernel_rfl) (by kernel_rfl) ?_
  intro w22 g23
  replace hc4 := g23.heap hc4
  replace hc13 := g23.heap hc13
  replace own := own_grow own g23
  replace G := G.tr g23
  clear g23
  apply AO_ex
  ·intro w_ g_; refine og rfl ?_; refine r_fieldAddr rfl ?_; exact ⟨Grow.rfl' _, rfl⟩
  apply AO_ex
  ·intro w_ g_; refine og rfl ?_; refine r_load (v := .slice ad3 n3 c3) rfl (g_.heap hc13) rfl ?_; exact ⟨Grow.rfl' _, rfl⟩
  apply AO_ex
  ·intro w_ g_; refine og rfl ?_; refine r_move_slice rfl ?_; exact ⟨Grow.rfl' _, rfl⟩
  apply AO_ex
  ·intro w_ g_; refine og rfl ?_; refine r_move_int rfl ?_; exact ⟨Grow.rfl' _, rfl⟩
  apply AO_ex
  ·intro w_ g_; refine og rfl ?_; refine r_indexN (R.grow (G.tr g_)) rfl rfl ?_ ?_; omega; exact ⟨Grow.rfl' _, rfl⟩
  apply AO_ex
  ·intro w_ g_; refine og rfl ?_; refine r_loadR (v := .int .u8 (xs.getD k 0)) (m := 0) (R.grow (G.tr g_)) rfl (map_get1 0 (by omega)) ?_; exact ⟨Grow.rfl' _, rfl⟩
  apply AO_ex
  ·intro w_ g_; refine og rfl ?_; refine r_rem rfl rfl ?_ ?_ ?_; omega; omega; exact ⟨Grow.rfl' _, rfl⟩
  apply AO_ex
  ·intro w_ g_; refine og rfl ?_; refine r_conv rfl ?_ ?_; constructor <;> omega; exact ⟨Grow.rfl' _, rfl⟩
  refine AO_so (fun w_ v_ => Row w_ 1 v_ 1 [.int .i64 (xs.getD k 0 % 6)]) (fun _ _ _ g_ h_ => h_.grow g_) ?_ ?_
  ·intro w_ g_
   refine og rfl ?_
   refine r_buildSlice (cs := #[.int .i64 (xs.getD k 0 % 6)]) (el := 3) (fun w => by kernel_rfl) ?_
   intro bs_ w2_ hb_ hc_ g2_
   exact ⟨g2_, Row.of_block (n := 1) hc_ rfl rfl (by omega)⟩
  refine AO_nil ?_
  intro w24 g25
  replace hc4 := g25.heap hc4
  replace hc13 := g25.heap hc13
  replace own := own_grow own g25
  replace G := G.tr g25
  clear g25
  intro v_l hv_l
  refine stp (r_append rfl rfl rfl rfl own hv_l (fun q_ hq_ => by simp at hq_; subst hq_; rfl) (by simp only [maxLen]; omega) (by omega) G.size ?_)
  intro v26 w27 own6 gr6
  replace G := G.grown gr6 (own_ge own)
  replace hc4 := gr_heap gr6 hc4 (own_ne own hc4 (by decide))
  replace hc13 := gr_heap gr6 hc13 (own_ne own hc13 (by decide))
  clear own gr6
  obtain ⟨ad4, n4, c4, rfl⟩ := own_slice own6
  refine stp (r_fieldAddr rfl ?_)
  refine stn (r_store1 (v := .slice ad4 n4 c4) rfl rfl (by rfl) hc13 (by rfl) (by rfl) ?_)
  intro w28 hc29 u30
  replace hc4 := u30.heap hc4 ne17
  replace own6 := own_upd own6 u30 (own_ne own6 hc13 (by decide))
  replace G := G.upd u30 hge16
  clear u30 hc13
  refine WL_nil ?_
  refine W_region rfl ?_
  refine stp (r_move_int rfl ?_)
  refine stp (r_add rfl rfl ?_ ?_); constructor <;> omega
  refine stp (r_assign_int rfl ?_)
  refine WL_nil ?_
  refine ⟨_, ?_, k + 1, ad4, n4, c4, rfl, fr_of ⟨rfl, rfl, rfl, congrArg (Value.int .i64) (by omega), trivial⟩, by omega, hc4, hc29, (by rw [List.take_add_one, List.getElem?_eq_getElem hkx, Option.toList_some, List.map_append, List.map_append]; rw [getD_at hkx] at own6; exact own6), G⟩
  omega
 ·-- false
  simp only [sb] at hlt
  have hk6 : k = min 6 xs.length := by omega
  have htk : xs.take k = xs.take 6 := by rw [hk6]; rcases Nat.le_total 6 xs.length with h_ | h_; (rw [Nat.min_eq_left h_]); (rw [Nat.min_eq_right h_, List.take_length, List.take_of_length_le h_])
  have hpl : (pathP xs).length = k := by simp only [pathP, List.length_map, List.length_take]; omega
  refine W_exit ?_
  refine W_seq (W_region rfl ?_)
  refine stp (r_loadAll rfl hc13 (by rfl) ?_)
  refine stn (r_storeAll rfl rfl hc4 (by rfl) (by rfl) (by rfl) ?_)
  intro w31 hc32 u33
  replace hc13 := u33.heap hc13 ne17.symm
  replace own := own_upd own u33 (own_ne own hc4 (by decide))
  replace G := G.upd u33 hge6
  clear u33 hc4
  refine WL_nil ?_
  refine W_ret ?_
  obtain ⟨ad9, c9, hs9, -, -, R9⟩ := own_row own (by omega)
  simp only [Value.slice.injEq] at hs9
  obtain ⟨rfl, rfl, rfl⟩ := hs9
  rw [htk] at R9
  refine ret1 (res_all rfl hc32 (by rfl)) ⟨_, _, by rw [hpl], by rw [hpl]; exact R9, G⟩
end Go.Proofs.Ytifhcfhdajkhlaa.K

namespace Go.Proofs.Ytifhcfhdajkhlaa.K
open Go Go.RowKit Go.Proofs
attribute [local irreducible] Run1 OpG WL W AO Gives
set_option maxRecDepth 100000 in
theorem PartOrder_calls (w : World) {ad0 : Option Addr} {c0 : Nat} {xs0 : List Int} (R0 : RowAt w 1 ad0 xs0.length (xs0.map (.int .u8))) (hx0 : isU8 xs0) (hc0 : xs0.length ≤ c0) (hm0 : c0 ≤ maxLen) {ad1 : Option Addr} {c1 : Nat} {xs1 : List Int} (R1 : RowAt w 1 ad1 xs1.length (xs1.map (.int .u8))) (hx1 : isU8 xs1) (hc1 : xs1.length ≤ c1) (hm1 : c1 ≤ maxLen) {ad2 : Option Addr} {c2 : Nat} {xs2 : List Int} (R2 : RowAt w 1 ad2 xs2.length (xs2.map (.int .u8))) (hx2 : isU8 xs2) (hc2 : xs2.length ≤ c2) (hm2 : c2 ≤ maxLen) {k at_ : Int} (k0 : 0 ≤ k) (k1 : k ≤ 255) (a0 : 0 ≤ at_) (a1 : at_ ≤ 255) {ad5 : Option Addr} {c5 : Nat} {xs5 : List Int} (R5 : RowAt w 1 ad5 xs5.length (xs5.map (.int .u8))) (hx5 : isU8 xs5) (hc5 : xs5.length ≤ c5) (hm5 : c5 ≤ maxLen) : Gives Try.prog 3 #[.slice ad0 xs0.length c0, .slice ad1 xs1.length c1, .slice ad2 xs2.length c2, .int .u8 k, .int .u8 at_, .slice ad5 xs5.length c5] w (.bool true) := by
 have lR := R0.lim
 have l5 := R5.lim
 have G := Grow.rfl' w
 refine gives_of Try.func3 Try.ntmps3 Try.results3 rfl rfl ?_
 refine W_seq (W_region rfl ?_)
 refine stp (r_assign (v := .bool false) rfl ?_)
 refine WL_nil ?_
 refine W_seq ?_
 refine W_seq (W_region rfl ?_)
 refine stp (r_move_slice rfl ?_)
 refine stp (r_len rfl rfl rfl ?_)
 refine stp (r_gtr rfl rfl ?_)
 refine stp (r_move_bool rfl ?_)
 refine WL_some (og_if (s := .bool (decide ((xs0.length : Int) > 100))) (b := false) (v := .slice ad5 xs5.length c5) rfl (wgb_f _) (fun hc1 => ?_) ?_)
 ·
  have hc1_ := hc1
  try simp only [sb] at hc1_
  refine r_move_slice rfl ?_
  exact ⟨rfl, rfl⟩
 refine WL_some (og_if (s := .bool (decide ((xs0.length : Int) > 100))) (b := false) (v := .int .i64 (xs5.length : Int)) rfl (wgb_f _) (fun hc2 => ?_) ?_)
 ·
  have hc2_ := hc2
  try simp only [sb] at hc2_
  refine r_len rfl rfl (gvt hc2) ?_
  exact ⟨rfl, rfl⟩
 refine WL_some (og_if (s := .bool (decide ((xs0.length : Int) > 100))) (b := false) (v := .bool (decide ((xs5.length : Int) > 40))) rfl (wgb_f _) (fun hc3 => ?_) ?_)
 ·
  have hc3_ := hc3
  try simp only [sb] at hc3_
  refine r_gtr (gvt hc3) rfl ?_
  exact ⟨rfl, rfl⟩
 refine stp (r_or2 rfl rfl rfl ?_)
 refine WL_nil ?_
 refine W_cond2 (b := ((decide ((xs0.length : Int) > 100)) || (decide ((xs5.length : Int) > 40)))) rfl (fun h1 => ?_) (fun h1 => ?_)
 ·-- true
  simp only [sb] at h1
  refine W_seq (W_region rfl ?_)
  refine stp (r_gives (v := .bool true) rfl (known16_calls _) ?_)
  intro w4 g5
  replace G := G.tr g5
  clear g5
  refine stp (r_assign (v := .bool true) rfl ?_)
  refine WL_nil ?_
  refine W_ret ?_
  refine ret1 (res_tmp (v := .bool true) rfl) ⟨?_, G⟩
  rfl
 ·-- false
  simp only [sb] at h1
  have hpr := pathP_range (c := xs2)
  have hR9 : ∀ x ∈ pathP xs2, inR .i64 x := fun x_ hx_ => by have := hpr x_ hx_; simp only [inR]; omega
  refine W_skip ?_
  refine W_seq (W_region rfl ?_)
  refine stp (r_move_slice rfl ?_)
  refine stp (r_move_slice rfl ?_)
  refine stp (r_move_int rfl ?_)
  refine WL_some (og rfl ?_)
  refine r_call rfl (bent_calls _ (R0.grow G) hx0 hc0 hm0 (by omega) (R1.grow G) hx1 k0 k1) ?_
  rintro v_ w6 ⟨adA, cA, sgA, A, rfl, hO, hB, g_⟩
  replace G := G.tr g_
  clear g_
  obtain ⟨hr, hx, -, -, h1A, h16A, hsA⟩ := Bent1.ok hB hx0 (by omega)
  have hA := hO.arena (by omega) hsA
  clear hO
  obtain ⟨hw1, hch1⟩ := words_arena hr
  have hfit : fitsL (sizesP A) = true := by rw [fits_right]; exact hr
  have hrz : ∀ x ∈ sizesP A, inR .i64 x := fits_rng hfit
  have hle := wordsM_le (sizesP A)
  have hch : chunksM (sizesP A) = (wordsM (sizesP A) + 7) / 8 := rfl
  refine stp (r_assign_slice rfl ?_)
  refine WL_nil ?_
  refine W_seq (W_region rfl ?_)
  refine stp (r_move_slice rfl ?_)
  refine stp (r_move_int rfl ?_)
  refine WL_some (og rfl ?_)
  refine r_call rfl (path_calls _ (R2.grow G) rfl hx2 a0 a1) ?_
  rintro v_ w7 ⟨ad9, c9, rfl, R9, g_⟩
  replace hA := hA.grow g_
  replace G := G.tr g_
  clear g_
  refine stp (r_alloc ?_)
  intro b8 w9 hb10 hc11 g12
  refine stn (r_storeAll rfl rfl hc11 (by rfl) (by rfl) (by rfl) ?_)
  intro w13 hc14 u15
  have g16 := g12.upd u15 hb10
  have hge17 := Nat.le_trans G.size hb10
  replace hA := hA.grow g16
  replace R9 := R9.grow g16
  replace G := G.tr g16
  clear u15 g12 hb10 hc11
  refine WL_nil ?_
  refine W_seq (W_region rfl ?_)
  refine stp (r_assign_slice rfl ?_)
  refine WL_nil ?_
  refine W_seq ?_
  refine W_seq (W_region rfl ?_)
  refine stp (r_move_slice rfl ?_)
  refine stp (r_len rfl rfl rfl ?_)
  refine stp (r_sub rfl rfl ?_ ?_); constructor <;> omega
  refine stp (r_assign_int rfl ?_)
  refine WL_nil ?_
  refine W_block ?_
  have hG0 := G.size
  have GM := Grow.rfl' w13
  have zhA := hA
  have zR9 := R9
  have zhc14 := hc14
  refine W_loop (fun m_ e_ w_ => ∃ (j : Nat) (ad3 : Option Addr) (n3 : Nat) (c3 : Nat), m_ = xs5.length - j ∧ Fr [(5, .slice ad5 xs5.length c5), (12, .bool false), (13, .slice adA A.length cA), (14, .pointer (some ⟨b8, 0, none⟩)), (16, .int .i64 ((xs5.length : Int) - 1 - (j : Int))), (15, .slice ad3 n3 c3)] e_ ∧ (j ≤ xs5.length) ∧ (Grow w13 w_) ∧ (w_.ownsRow w13.heap.size 5 1 (.slice ad3 n3 c3) j ((xs5.reverse.take j).map (.int .u8))) ∧ Grow w w_) _ ⟨0, none, 0, 0, rfl, fr_of ⟨rfl, rfl, rfl, rfl, congrArg (Value.int .i64) (by omega), rfl, trivial⟩, by omega, GM, World.ownsRow_nil _ _ _ _, G⟩ ?_
  clear hA R9 hc14
  clear G
  rintro m_ e_ w18 ⟨j, ad3, n3, c3, rfl, ⟨e19, rfl⟩, hj, GM, own, G⟩
  refine W_seq ?_
  refine W_seq (W_region rfl ?_)
  refine stp (r_move_int rfl ?_)
  refine stp (r_geq rfl rfl ?_)
  refine WL_nil ?_
  refine W_cond2 (b := (decide (((xs5.length : Int) - 1 - (j : Int)) ≥ 0))) rfl (fun hlt => ?_) (fun hlt => ?_)
  ·-- true
   replace hlt := of_decide_eq_true hlt
   have hi : j < xs5.length := by omega
   have hu := getD_u8 hx5 ((xs5.length : Int) - 1 - (j : Int)).toNat
   refine W_skip ?_
   refine W_seq ?_
   refine W_block ?_
   refine W_region rfl ?_
   refine stp (r_move_slice rfl ?_)
   refine stp (r_move_slice rfl ?_)
   refine stp (r_move_int rfl ?_)
   refine stp (r_indexR (R5.grow G) rfl rfl ?_ ?_ ?_); omega; omega
   refine stp (r_loadR (v := .int .u8 (xs5.getD (((xs5.length : Int) - 1 - (j : Int)).toNat) 0)) (m := 0) (R5.grow G) rfl (map_get1 0 (by omega)) ?_)
   refine stp (r_buildSlice (cs := #[.int .u8 (xs5.getD (((xs5.length : Int) - 1 - (j : Int)).toNat) 0)]) (el := 5) (fun w => by kernel_rfl) ?_)
   intro bs20 w21 hb22 hc23 g24
   have hge25 := Nat.le_trans G.size hb22
   replace GM := GM.tr g24
   replace own := own_grow own g24
   replace G := G.tr g24
   clear g24
   refine stp (r_append rfl rfl rfl rfl own (Row.of_block (n := 1) hc23 rfl rfl (by omega)) (fun q_ hq_ => by simp at hq_; subst hq_; rfl) (by simp only [maxLen]; omega) (by omega) GM.size ?_)
   intro v26 w27 own6 gr6
   replace G := G.grown gr6 (fun k_ hk_ => Nat.le_trans hG0 (own_ge own k_ hk_))
   replace GM := GM.grown gr6 (own_ge own)
   clear own gr6
   obtain ⟨ad4, n4, c4, rfl⟩ := own_slice own6
   refine stp (r_assign_slice rfl ?_)
   refine WL_nil ?_
   refine W_region rfl ?_
   refine stp (r_move_int rfl ?_)
   refine stp (r_sub rfl rfl ?_ ?_); constructor <;> omega
   refine stp (r_assign_int rfl ?_)
   refine WL_nil ?_
   refine ⟨_, ?_, j + 1, ad4, n4, c4, rfl, fr_of ⟨rfl, rfl, rfl, rfl, congrArg (Value.int .i64) (by omega), rfl, trivial⟩, by omega, GM, (by rw [rev_take hi, List.map_append]; rw [show ((xs5.length : Int) - 1 - (j : Int)).toNat = xs5.length - 1 - j from by omega] at own6; exact own6), G⟩
   omega
  ·-- false
   replace hlt := of_decide_eq_false hlt
   have hj9 : j = xs5.length := by omega
   rw [hj9, show xs5.length = xs5.reverse.length from by simp, List.take_length] at own
   have hno := own_len own
   subst hno
   obtain ⟨_, _, hs9, -, -, RY⟩ := own_row own (by rw [List.length_reverse]; omega)
   cases hs9
   refine W_exit ?_
   refine W_seq (W_region rfl ?_)
   refine stp (r_move_slice rfl ?_)
   refine stp (r_move_slice rfl ?_)
   refine WL_some (og rfl ?_)
   refine r_call rfl (filled_calls _ (zhA.grow GM) hr hx (R5.grow G) hx5) ?_
   rintro v_ w28 ⟨bp, gp, hp, wlp, kbp, rfl, HPp, hFp, g_⟩
   replace GM := GM.tr g_
   replace own := own_grow own g_
   replace RY := RY.grow g_
   replace G := G.tr g_
   clear g_
   refine stp (r_assign (v := .pointer (some ⟨bp, 0, none⟩)) rfl ?_)
   refine WL_nil ?_
   refine W_seq (W_region rfl ?_)
   refine stp (r_move_slice rfl ?_)
   refine stp (r_move_slice rfl ?_)
   refine WL_some (og rfl ?_)
   refine r_call rfl (filled_calls _ (zhA.grow GM) hr hx RY (fun x_ hx_ => hx5 x_ (List.mem_reverse.1 hx_))) ?_
   rintro v_ w29 ⟨bq, gq, hq, wlq, kbq, rfl, HPq, hFq, g_⟩
   replace GM := GM.tr g_
   replace own := own_grow own g_
   replace RY := RY.grow g_
   replace HPp := HPp.grow g_
   replace G := G.tr g_
   clear g_
   obtain ⟨rfl, rfl⟩ := FilA.same hFp hFq (fun x => List.mem_reverse.symm)
   refine stp (r_assign (v := .pointer (some ⟨bq, 0, none⟩)) rfl ?_)
   refine WL_nil ?_
   obtain ⟨RES, hRES⟩ : ∃ r, r = (walkS (srcP (sizesP A) wlp kbp) (pathP xs2) (at_ % 12 - 2) 8192) := ⟨_, rfl⟩
   refine W_seq (W_region rfl ?_)
   refine stp (r_move (v := .pointer (some ⟨bp, 0, none⟩)) rfl ?_)
   refine stp (r_loadAll rfl (GM.heap zhc14) (by rfl) ?_)
   refine stp (r_gives (v := .tuple #[.agg #[.int .i64 RES.1.kind, .int .i64 RES.1.size, .int .i64 RES.1.words, .int .i64 RES.1.kids, .int .u64 RES.1.word], .int .u16 RES.2]) rfl (gives_eq (pread_calls _ HPp (zR9.grow GM) hR9 (a := at_ % 12 - 2) (c := c9) (by simp only [inR]; omega)) (y := .tuple #[.agg #[.int .i64 RES.1.kind, .int .i64 RES.1.size, .int .i64 RES.1.words, .int .i64 RES.1.kids, .int .u64 RES.1.word], .int .u16 RES.2]) (by rw [← hRES])) ?_)
   intro w30 g31
   replace GM := GM.tr g31
   replace own := own_grow own g31
   replace RY := RY.grow g31
   replace HPp := HPp.grow g31
   replace HPq := HPq.grow g31
   replace G := G.tr g31
   clear g31
   refine stp (r_move (v := .tuple #[.agg #[.int .i64 RES.1.kind, .int .i64 RES.1.size, .int .i64 RES.1.words, .int .i64 RES.1.kids, .int .u64 RES.1.word], .int .u16 RES.2]) rfl ?_)
   refine stp (r_extract (v := .agg #[.int .i64 RES.1.kind, .int .i64 RES.1.size, .int .i64 RES.1.words, .int .i64 RES.1.kids, .int .u64 RES.1.word]) rfl rfl ?_)
   refine stp (r_extract (v := .int .u16 RES.2) rfl rfl ?_)
   refine stp (r_alloc ?_)
   intro b32 w33 hb34 hc35 g36
   refine stn (r_storeAll rfl rfl hc35 (by rfl) (by rfl) (by rfl) ?_)
   intro w37 hc38 u39
   have g40 := g36.upd u39 hb34
   have hge41 := Nat.le_trans G.size hb34
   replace GM := GM.tr g40
   replace own := own_grow own g40
   replace RY := RY.grow g40
   replace HPp := HPp.grow g40
   replace HPq := HPq.grow g40
   replace G := G.tr g40
   clear u39 g36 hb34 hc35
   refine stp (r_assign_int rfl ?_)
   refine WL_nil ?_
   refine W_seq (W_region rfl ?_)
   refine stp (r_move (v := .pointer (some ⟨bq, 0, none⟩)) rfl ?_)
   refine stp (r_loadAll rfl (GM.heap zhc14) (by rfl) ?_)
   refine stp (r_gives (v := .tuple #[.agg #[.int .i64 RES.1.kind, .int .i64 RES.1.size, .int .i64 RES.1.words, .int .i64 RES.1.kids, .int .u64 RES.1.word], .int .u16 RES.2]) rfl (gives_eq (pread_calls _ HPq (zR9.grow GM) hR9 (a := at_ % 12 - 2) (c := c9) (by simp only [inR]; omega)) (y := .tuple #[.agg #[.int .i64 RES.1.kind, .int .i64 RES.1.size, .int .i64 RES.1.words, .int .i64 RES.1.kids, .int .u64 RES.1.word], .int .u16 RES.2]) (by rw [← hRES])) ?_)
   intro w42 g43
   replace GM := GM.tr g43
   replace own := own_grow own g43
   replace RY := RY.grow g43
   replace HPp := HPp.grow g43
   replace HPq := HPq.grow g43
   replace hc38 := g43.heap hc38
   replace G := G.tr g43
   clear g43
   refine stp (r_move (v := .tuple #[.agg #[.int .i64 RES.1.kind, .int .i64 RES.1.size, .int .i64 RES.1.words, .int .i64 RES.1.kids, .int .u64 RES.1.word], .int .u16 RES.2]) rfl ?_)
   refine stp (r_extract (v := .agg #[.int .i64 RES.1.kind, .int .i64 RES.1.size, .int .i64 RES.1.words, .int .i64 RES.1.kids, .int .u64 RES.1.word]) rfl rfl ?_)
   refine stp (r_extract (v := .int .u16 RES.2) rfl rfl ?_)
   refine stp (r_alloc ?_)
   intro b44 w45 hb46 hc47 g48
   refine stn (r_storeAll rfl rfl hc47 (by rfl) (by rfl) (by rfl) ?_)
   intro w49 hc50 u51
   have g52 := g48.upd u51 hb46
   have hge53 := Nat.le_trans G.size hb46
   have ne54 := Nat.ne_of_lt (Nat.lt_of_lt_of_le (lt_of_heap hc38) hb46)
   replace GM := GM.tr g52
   replace own := own_grow own g52
   replace RY := RY.grow g52
   replace HPp := HPp.grow g52
   replace HPq := HPq.grow g52
   replace hc38 := g52.heap hc38
   replace G := G.tr g52
   clear u51 g48 hb46 hc47
   refine stp (r_assign_int rfl ?_)
   refine WL_nil ?_
   have hcn := hFp.cnt
   have hub := hFp.inv.ub
   have hlk := hFp.inv.lk
   refine W_seq ?_
   refine W_any 29 [[], [0], [1, 0], [2, 1], [3, 2, 1, 0], [4, 3, 2, 1, 0], [5, 4, 3, 2, 1, 0], [6, 5, 4, 3, 2, 1, 0], [7, 6, 5, 4, 3, 2, 1], [8, 7, 6, 5, 4, 3, 2, 1, 0], [9, 8, 7, 6, 5, 4, 3, 2, 1, 0], [10, 9, 8, 7, 6, 5, 4, 3, 2, 1, 0], [11, 10, 9, 8, 7, 6, 5, 4, 3, 2, 1, 0], [12, 11, 10, 9, 8, 7, 6, 5, 4, 3, 2, 1, 0], [13, 12, 11, 10, 9, 8, 7, 6, 5, 4, 3, 2, 1, 0], [14, 13, 12, 11, 10, 9, 8, 7, 6, 5, 4, 3], [15, 14, 13, 12, 11, 10, 9, 8, 7, 6, 5, 4, 3, 2, 0], [16, 15, 14, 13, 12, 11, 10, 9, 8, 7, 6, 5, 4, 3, 1, 0], [17, 16, 15, 14, 13, 12, 11, 10, 9, 8, 7, 6, 5, 4, 3, 2, 1, 0], [18, 17, 16, 15, 14, 13, 12, 11, 10, 9, 8, 7, 6, 5, 4, 3, 2, 1, 0], [19, 18, 17, 16, 15, 14, 13, 12, 11, 10, 9, 8, 7, 6, 5, 4, 3, 2, 1, 0], [20, 19, 18, 17, 16, 15, 14, 13, 12, 11, 10, 9, 8, 7, 6, 5, 4, 3, 2, 1, 0], [21, 20, 19, 18, 17, 16, 15, 14, 13, 12, 11, 10, 9, 8, 7, 6, 5, 4, 3, 2, 1, 0], [22, 21, 20, 19, 18, 17, 16, 15, 14, 13, 12, 11, 10, 9, 8, 7, 6, 5, 4, 3, 2, 1, 0], [23, 22, 21, 20, 19, 18, 17, 16, 15, 14, 13, 12, 11, 10, 9, 8, 7, 6, 5, 4, 3], [24, 23, 22, 21, 20, 19, 18, 17, 16, 15, 14, 13, 12, 11, 10, 9, 8, 7, 6, 5, 4, 0], [25, 24, 23, 22, 21, 20, 19, 18, 17, 16, 15, 14, 13, 12, 11, 10, 9, 8, 7, 6, 5, 4, 3, 2, 1, 0], [26, 25, 24, 23, 22, 21, 20, 19, 18, 17, 16, 15, 14, 13, 12, 11, 10, 9, 8, 7, 6, 5, 4, 3, 2, 1, 0], [27, 26, 25, 24, 23, 22, 21, 20, 19, 18, 17, 16, 15, 14, 13, 12, 11, 10, 9, 8, 7, 6, 5, 4, 3, 2, 1, 0]] mixed (by kernel_rfl) (by kernel_rfl) (by kernel_rfl) ?_
   intro w55 g56
   replace GM := GM.tr g56
   replace own := own_grow own g56
   replace RY := RY.grow g56
   replace HPp := HPp.grow g56
   replace HPq := HPq.grow g56
   replace hc38 := g56.heap hc38
   replace hc50 := g56.heap hc50
   replace G := G.tr g56
   clear g56
   apply AO_ex
   ·intro w_ g_; refine og rfl ?_; exact r_gives (v := .bool true) rfl (known16_calls _) (fun w2_ g2_ => ⟨g2_, rfl⟩)
   apply AO_ex
   ·intro w_ g_; refine og rfl ?_; refine r_move (v := .bool true) rfl ?_; exact ⟨Grow.rfl' _, rfl⟩
   apply AO_ex
   ·intro w_ g_; refine og rfl ?_; refine r_loadAll rfl (g_.heap hc38) (by rfl) ?_; exact ⟨Grow.rfl' _, rfl⟩
   apply AO_ex
   ·intro w_ g_; refine og rfl ?_; refine r_loadAll rfl (g_.heap hc50) (by rfl) ?_; exact ⟨Grow.rfl' _, rfl⟩
   apply AO_ex
   ·intro w_ g_; refine og rfl ?_; refine r_eqlS' (r' := true) rfl rfl (by rfl) (by simp) ?_; exact ⟨Grow.rfl' _, rfl⟩
   apply AO_ex
   ·intro w_ g_; refine og rfl ?_; refine r_pick_t (v := .bool true) rfl rfl rfl ?_; exact ⟨Grow.rfl' _, rfl⟩
   apply AO_ex
   ·intro w_ g_; refine og rfl ?_; refine r_move (v := .bool true) rfl ?_; exact ⟨Grow.rfl' _, rfl⟩
   apply AO_ex
   ·intro w_ g_; refine og rfl ?_; refine r_move_int rfl ?_; exact ⟨Grow.rfl' _, rfl⟩
   apply AO_ex
   ·intro w_ g_; refine og rfl ?_; refine r_move_int rfl ?_; exact ⟨Grow.rfl' _, rfl⟩
   apply AO_ex
   ·intro w_ g_; refine og rfl ?_; refine r_eql_t rfl rfl (rfl) ?_; exact ⟨Grow.rfl' _, rfl⟩
   apply AO_ex
   ·intro w_ g_; refine og rfl ?_; refine r_pick_t (v := .bool true) rfl rfl rfl ?_; exact ⟨Grow.rfl' _, rfl⟩
   apply AO_ex
   ·intro w_ g_; refine og rfl ?_; refine r_move (v := .bool true) rfl ?_; exact ⟨Grow.rfl' _, rfl⟩
   apply AO_ex
   ·intro w_ g_; refine og rfl ?_; refine r_move (v := .pointer (some ⟨bp, 0, none⟩)) rfl ?_; exact ⟨Grow.rfl' _, rfl⟩
   refine AO_so (fun w_ v_ => Row w_ 1 v_ kbp.length (kbp.map (.int .u8))) (fun _ _ _ g_ h_ => h_.grow g_) ?_ ?_
   ·intro w_ g_
    refine og rfl ?_
    refine r_call rfl (pknown_calls _ (HPp.grow g_)) ?_
    rintro v9_ w9_ ⟨q_, c_, rfl, hq_, hc_, hcm_, ho_, g9_⟩
    exact ⟨g9_, own_row ho_ (by omega)⟩
   apply AO_ex
   ·intro w_ g_; intro v13_ hv13_; show OpG _ _ _ _ _ _; refine og rfl ?_; obtain ⟨ad_, c_, rfl, -, -, R_⟩ := hv13_; refine r_bytesStr (xs := kbp) R_ rfl ?_; exact ⟨Grow.rfl' _, rfl⟩
   apply AO_ex
   ·intro w_ g_; refine og rfl ?_; refine r_move (v := .pointer (some ⟨bq, 0, none⟩)) rfl ?_; exact ⟨Grow.rfl' _, rfl⟩
   refine AO_so (fun w_ v_ => Row w_ 1 v_ kbp.length (kbp.map (.int .u8))) (fun _ _ _ g_ h_ => h_.grow g_) ?_ ?_
   ·intro w_ g_
    intro v13_ hv13_; show OpG _ _ _ _ _ _
    refine og rfl ?_
    refine r_call rfl (pknown_calls _ (HPq.grow g_)) ?_
    rintro v9_ w9_ ⟨q_, c_, rfl, hq_, hc_, hcm_, ho_, g9_⟩
    exact ⟨g9_, own_row ho_ (by omega)⟩
   apply AO_ex
   ·intro w_ g_; intro v13_ hv13_; intro v16_ hv16_; show OpG _ _ _ _ _ _; refine og rfl ?_; obtain ⟨ad_, c_, rfl, -, -, R_⟩ := hv16_; refine r_bytesStr (xs := kbp) R_ rfl ?_; exact ⟨Grow.rfl' _, rfl⟩
   apply AO_ex
   ·intro w_ g_; intro v13_ hv13_; intro v16_ hv16_; show OpG _ _ _ _ _ _; refine og rfl ?_; refine r_eqlStr rfl rfl ?_; rw [strOf_eq hub hub, decide_eq_true rfl]; exact ⟨Grow.rfl' _, rfl⟩
   apply AO_ex
   ·intro w_ g_; intro v13_ hv13_; intro v16_ hv16_; show OpG _ _ _ _ _ _; refine og rfl ?_; refine r_pick_t (v := .bool true) rfl rfl rfl ?_; exact ⟨Grow.rfl' _, rfl⟩
   apply AO_ex
   ·intro w_ g_; intro v13_ hv13_; intro v16_ hv16_; show OpG _ _ _ _ _ _; refine og rfl ?_; refine r_move (v := .bool true) rfl ?_; exact ⟨Grow.rfl' _, rfl⟩
   apply AO_ex
   ·intro w_ g_; intro v13_ hv13_; intro v16_ hv16_; show OpG _ _ _ _ _ _; refine og rfl ?_; refine r_move (v := .pointer (some ⟨bp, 0, none⟩)) rfl ?_; exact ⟨Grow.rfl' _, rfl⟩
   refine AO_so (fun w_ v_ => Row w_ 1 v_ kbp.length (kbp.map (.int .u8))) (fun _ _ _ g_ h_ => h_.grow g_) ?_ ?_
   ·intro w_ g_
    intro v13_ hv13_; intro v16_ hv16_; show OpG _ _ _ _ _ _
    refine og rfl ?_
    refine r_call rfl (pknown_calls _ (HPp.grow g_)) ?_
    rintro v9_ w9_ ⟨q_, c_, rfl, hq_, hc_, hcm_, ho_, g9_⟩
    exact ⟨g9_, own_row ho_ (by omega)⟩
   apply AO_ex
   ·intro w_ g_; intro v13_ hv13_; intro v16_ hv16_; intro v22_ hv22_; show OpG _ _ _ _ _ _; refine og rfl ?_; obtain ⟨ad_, c_, rfl, -, -, R_⟩ := hv22_; exact r_gives (v := .int .i64 (cntQ kbp (8 * kbp.length) : Int)) rfl (rbcount_calls _ R_ hub (by omega)) (fun w2_ g2_ => ⟨g2_, rfl⟩)
   apply AO_ex
   ·intro w_ g_; intro v13_ hv13_; intro v16_ hv16_; show OpG _ _ _ _ _ _; refine og rfl ?_; refine r_move_slice rfl ?_; exact ⟨Grow.rfl' _, rfl⟩
   apply AO_ex
   ·intro w_ g_; intro v13_ hv13_; intro v16_ hv16_; show OpG _ _ _ _ _ _; refine og rfl ?_; refine r_len rfl rfl rfl ?_; exact ⟨Grow.rfl' _, rfl⟩
   apply AO_ex
   ·intro w_ g_; intro v13_ hv13_; intro v16_ hv16_; intro v22_ hv22_; show OpG _ _ _ _ _ _; refine og rfl ?_; refine r_leq_t rfl rfl (by omega) ?_; exact ⟨Grow.rfl' _, rfl⟩
   apply AO_ex
   ·intro w_ g_; intro v13_ hv13_; intro v16_ hv16_; intro v22_ hv22_; show OpG _ _ _ _ _ _; refine og rfl ?_; refine r_pick_t (v := .bool true) rfl rfl rfl ?_; exact ⟨Grow.rfl' _, rfl⟩
   apply AO_ex
   ·intro w_ g_; intro v13_ hv13_; intro v16_ hv16_; intro v22_ hv22_; show OpG _ _ _ _ _ _; refine og rfl ?_; refine r_assign (v := .bool true) rfl ?_; exact ⟨Grow.rfl' _, rfl⟩
   refine AO_nil ?_
   intro w57 g58
   replace GM := GM.tr g58
   replace own := own_grow own g58
   replace RY := RY.grow g58
   replace HPp := HPp.grow g58
   replace HPq := HPq.grow g58
   replace hc38 := g58.heap hc38
   replace hc50 := g58.heap hc50
   replace G := G.tr g58
   clear g58
   intro v_kp hv_kp
   intro v_kq hv_kq
   intro v_k3 hv_k3
   refine WL_nil ?_
   refine W_ret ?_
   refine ret1 (res_tmp (v := .bool true) rfl) ⟨?_, G⟩
   rfl
end Go.Proofs.Ytifhcfhdajkhlaa.K

namespace Go.Proofs.Ytifhcfhdajkhlaa.K
open Go Go.RowKit Go.ChangeShapes Go.WideShapes

section
variable {H : Type} {enc : TypeId × Value → H} {P : Program} {w : World}
/-- What is told of an argument, or of a part of it: it is read so, and is no greater than memory is. -/
structure Told (enc : TypeId × Value → H) (P : Program) (w : World) (fuel : Nat) (t : TypeId) (cs : List Value) : Prop where
  h : ∃ d p, DataW.trod enc P w 0 (fun _ => true) true fuel t cs = some (d, p) ∧ ∀ n ∈ d.weights P t, n ≤ reachBytes
theorem told_of {ts : List TypeId} {ds : List (DataW H)} {j : Nat} {t : TypeId} {d : DataW H} {v : Value} {p : List MemPlace} (h : DataW.Trod enc P w 0 (fun _ => true) true t v d p) (hz : (DataW.weightsEach P ts ds).all (· ≤ reachBytes) = true) (ht : ts[j]? = some t) (hd : ds[j]? = some d) : ∃ fuel, Told enc P w fuel t v.cells.toList := by
  obtain ⟨fuel, hf⟩ := h
  exact ⟨fuel, ⟨d, p, hf, fun n hn => by simpa using List.all_eq_true.1 hz n (DataW.weights_mem_each ht hd n hn)⟩⟩
theorem mapM_ex {α β : Type} {f : α → Option β} : ∀ {l : List α} {r : List β}, l.mapM f = some r → ∀ (i : Nat) (x : α), l[i]? = some x → ∃ y, f x = some y ∧ r[i]? = some y := by
  intro l r h i x hx
  have h1 := mapM_some_get h i x hx
  have hl := mapM_some_length h
  have hi : i < r.length := by rw [hl]; exact (List.getElem?_eq_some_iff.1 hx).1
  rw [List.getElem?_eq_getElem hi] at h1
  exact ⟨_, h1, List.getElem?_eq_getElem hi⟩
theorem weightsAll_mem {e : TypeId} : ∀ {ds : List (DataW H)} {i : Nat} {d : DataW H}, ds[i]? = some d → ∀ n ∈ d.weights P e, n ∈ DataW.weightsAll P e ds
  | [], i, d, h, _, _ => by simp at h
  | x :: ds, 0, d, h, n, hn => by
    simp only [List.getElem?_cons_zero, Option.some.injEq] at h
    subst h
    simp only [DataW.weightsAll, List.mem_append]; exact .inl hn
  | x :: ds, i + 1, d, h, n, hn => by
    simp only [DataW.weightsAll, List.mem_append]; exact .inr (weightsAll_mem (by simpa using h) n hn)
/-- A slice, opened: what it holds, and each element. -/
theorem told_slice {t e : TypeId} {sz by_ fuel : Nat} {cs : List Value} (ht : P.underlying t = some (.slice e)) (hc : P.cellsOf e = sz) (hsz : 0 < sz) (hby : P.bytesOf e = by_) (hby1 : 1 ≤ by_) (h : Told enc P w fuel t cs) :
    ∃ f ad n c xs, fuel = f + 1 ∧ cs = [.slice ad n c] ∧ n ≤ c ∧ c ≤ maxLen ∧ RowAt w sz ad n xs ∧ ∀ i, i < n → Told enc P w f e ((xs.drop (i * sz)).take sz) := by
  obtain ⟨d, p, hd, hw⟩ := h
  rcases DataW.trod_slice ht hd with ⟨rfl, hx⟩ | ⟨a, len, cap, elems, rest, n, rfl, rfl, hx, _, hl, hm, hlen, hel, _, _⟩
  · cases fuel with
    | zero => simp [DataW.trod] at hd
    | succ f => exact ⟨f, none, 0, 0, [], rfl, rfl, Nat.le_refl _, Nat.zero_le _, RowAt.empty _ _ _, fun i hi => by omega⟩
  · simp only [Prod.mk.injEq] at hx
    obtain ⟨rfl, _⟩ := hx
    have hwt : ∀ n ∈ DataW.weightsAll P e (elems.map (·.1)), n ≤ reachBytes := fun n hn => hw n (by simp only [DataW.weights, ht, List.mem_cons, List.mem_append]; exact .inr (.inl hn))
    have hlim : len * by_ ≤ reachBytes := by
      have := hw (((elems.map (·.1)).length + (rest.map (·.1)).length) * P.bytesOf e) (by simp only [DataW.weights, ht, List.mem_cons, true_or])
      rw [hby, List.length_map, hlen, List.length_map, Nat.add_mul] at this
      omega
    have hlen2 : len ≤ 140737488355328 := by
      have h1 : len * 1 ≤ len * by_ := Nat.mul_le_mul_left _ hby1
      have h2 : reachBytes ≤ 140737488355328 := by decide
      omega
    -- each element
    have each : ∀ i, i < len → ∃ ys x, w.cells? 0 (a.add (i * sz)) sz = some ys ∧ DataW.trod enc P w 0 (fun _ => true) true n e ys = some x ∧ elems[i]? = some x := by
      intro i hi
      have hh := hel i hi
      have hi2 : i < elems.length := by omega
      rw [List.getElem?_eq_getElem hi2, hc] at hh
      simp only [Option.bind_eq_some_iff] at hh
      obtain ⟨ys, h1, h2⟩ := hh
      exact ⟨ys, _, h1, h2, List.getElem?_eq_getElem hi2⟩
    rcases Nat.eq_zero_or_pos len with h0 | h0
    · subst h0
      exact ⟨n, some a, 0, cap, [], rfl, rfl, hl, hm, RowAt.empty _ _ _, fun i hi => by omega⟩
    · -- the block
      have cell : ∀ i j, i < len → j < sz → ∃ v, w.cell? ((a.add (i * sz)).add j) = some v := by
        intro i j hi hj
        obtain ⟨ys, x, h1, _, _⟩ := each i hi
        unfold World.cells? at h1
        rw [if_pos (Nat.zero_le _)] at h1
        obtain ⟨y, hy, _⟩ := mapM_ex h1 j j (by simp [hj])
        exact ⟨y, hy⟩
      obtain ⟨blk, off, spot⟩ := a
      obtain ⟨v0, hv0⟩ := cell 0 0 h0 hsz
      have hadd0 : ((⟨blk, off, spot⟩ : Addr).add (0 * sz)).add 0 = ⟨blk, off, spot⟩ := by simp [Addr.add]
      rw [hadd0] at hv0
      unfold World.cell? at hv0
      cases hb : w.heap[blk]? with
      | none => rw [hb] at hv0; cases hv0
      | some o =>
        rw [hb] at hv0
        cases o with
        | cells c T fr =>
          simp only at hv0
          have hspot : spot = none := by
            cases spot with
            | none => rfl
            | some _ => simp at hv0
          subst hspot
          have hcell : ∀ k, k < len * sz → ∃ v, c[off + k]? = some v := by
            intro k hk
            have hdm := Nat.div_add_mod k sz
            have h1 : k / sz < len := (Nat.div_lt_iff_lt_mul hsz).2 hk
            obtain ⟨v, hv⟩ := cell (k / sz) (k % sz) h1 (Nat.mod_lt _ hsz)
            rw [add_lit, add_lit, cell_of_row w blk _ c T fr hb] at hv
            refine ⟨v, ?_⟩
            have : off + k / sz * sz + k % sz = off + k := by rw [Nat.mul_comm]; omega
            rwa [this] at hv
          have hsize : off + len * sz ≤ c.size := by
            have hp : 0 < len * sz := Nat.mul_pos h0 hsz
            obtain ⟨v, hv⟩ := hcell (len * sz - 1) (by omega)
            have := (Array.getElem?_eq_some_iff.1 hv).1
            omega
          refine ⟨n, some ⟨blk, off, none⟩, len, cap, (c.toList.drop off).take (len * sz), rfl, rfl, hl, hm, ⟨by rw [List.length_take, List.length_drop, Array.length_toList]; omega, hlen2, fun _ => ⟨blk, off, c, T, fr, rfl, hb, rfl⟩⟩, fun i hi => ?_⟩
          obtain ⟨ys, x, h1, h2, h3⟩ := each i hi
          have hys : ys = (((c.toList.drop off).take (len * sz)).drop (i * sz)).take sz := by
            unfold World.cells? at h1
            rw [if_pos (Nat.zero_le _)] at h1
            have hl2 := mapM_some_length h1
            simp only [List.length_range] at hl2
            have hle : (i + 1) * sz ≤ len * sz := Nat.mul_le_mul_right _ hi
            rw [Nat.add_mul, Nat.one_mul] at hle
            apply List.ext_getElem?
            intro j
            by_cases hj : j < sz
            · obtain ⟨y, hy, hy2⟩ := mapM_ex h1 j j (by simp [hj])
              rw [add_lit, add_lit, cell_of_row w blk _ c T fr hb] at hy
              rw [hy2, List.getElem?_take, if_pos hj, List.getElem?_drop, List.getElem?_take, if_pos (by omega), List.getElem?_drop, Array.getElem?_toList, ← Nat.add_assoc, hy]
            · rw [List.getElem?_eq_none (by omega), List.getElem?_eq_none (by rw [List.length_take]; omega)]
          rw [← hys]
          exact ⟨⟨x.1, x.2, h2, fun m hm_ => hwt m (weightsAll_mem (i := i) (by rw [List.getElem?_map, h3]; rfl) m hm_)⟩⟩
        | _ => cases hv0
theorem told_int {t : TypeId} {k : IntKind} {fuel : Nat} {cs : List Value} (ht : P.underlying t = some (.int k)) (h : Told enc P w fuel t cs) : ∃ n, cs = [.int k n] ∧ inR k n := by
  obtain ⟨d, p, hd, _⟩ := h
  obtain ⟨n, h1, _, hw⟩ := DataW.trod_int ht hd
  refine ⟨n, h1, ?_⟩
  cases k <;> simpa [Lit.wf, IntKind.min, IntKind.max, IntKind.bits, IntKind.signed, inR] using hw
/-- A row of which each element is one cell, told by a function. -/
theorem row_map {α : Type} {sz n : Nat} {xs : List Value} {f : α → Value} (hl : xs.length = n) (h : ∀ i, i < n → ∃ a, (xs.drop (i * 1)).take 1 = [f a]) : ∃ l : List α, l.length = n ∧ xs = l.map f := by
  induction xs generalizing n with
  | nil => exact ⟨[], by simpa using hl, rfl⟩
  | cons x xs ih =>
    obtain ⟨a, ha⟩ := h 0 (by simp at hl; omega)
    simp at ha
    obtain ⟨l, h1, h2⟩ := ih (n := n - 1) (by simp at hl; omega) fun i hi => by
      obtain ⟨b, hb⟩ := h (i + 1) (by omega)
      exact ⟨b, by simpa using hb⟩
    exact ⟨a :: l, by simp at hl ⊢; omega, by simp [ha, h2]⟩
theorem told_ints {t e : TypeId} {k : IntKind} {fuel by_ : Nat} {cs : List Value} (ht : P.underlying t = some (.slice e)) (he : P.underlying e = some (.int k)) (hc : P.cellsOf e = 1) (hby : P.bytesOf e = by_) (hby1 : 1 ≤ by_) (h : Told enc P w fuel t cs) :
    ∃ ad n c, ∃ zs : List Int, cs = [.slice ad n c] ∧ n = zs.length ∧ n ≤ c ∧ c ≤ maxLen ∧ RowAt w 1 ad n (zs.map (.int k)) ∧ ∀ z ∈ zs, inR k z := by
  obtain ⟨f, ad, n, c, xs, rfl, rfl, h1, h2, R, hel⟩ := told_slice ht hc (by omega) hby hby1 h
  obtain ⟨l, hl, rfl⟩ := row_map (sz := 1) (f := fun a : { z : Int // inR k z } => Value.int k a.1) (by rw [R.len, Nat.mul_one]) fun i hi => by
    obtain ⟨z, hz, hr⟩ := told_int he (hel i hi)
    exact ⟨⟨z, hr⟩, hz⟩
  refine ⟨ad, n, c, l.map (·.1), rfl, by simp [hl], h1, h2, by rw [List.map_map]; exact R, fun z hz => ?_⟩
  obtain ⟨a, _, rfl⟩ := List.mem_map.1 hz
  exact a.2
theorem cells_slice {t e : TypeId} {r : Reach} {b0 : Nat} {v : Value} (ht : P.underlying t = some (.slice e)) (hv : Value.okWide P w r b0 t v) {ad : Option Addr} {n c : Nat} (h : v.cells.toList = [.slice ad n c]) : v = .slice ad n c := by
  unfold Value.okWide at hv
  rw [ht] at hv
  unfold Cell.okWide at hv
  rw [ht] at hv
  cases v <;> first | (simp only [Cell.ok, ht] at hv; done) | (simp [Value.cells] at h; try (obtain ⟨rfl, rfl, rfl⟩ := h); try rfl) | skip
end
end Go.Proofs.Ytifhcfhdajkhlaa.K

