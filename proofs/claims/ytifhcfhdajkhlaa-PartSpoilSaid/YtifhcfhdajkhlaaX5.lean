/- Laid together: BN, SN, OP, Ro. Each part is plain law, a rule, or a walk of the functions that its names tell. -/
import Derived.Test.YtifhcfhdajkhlaaX4
import Derived.WalkKit
import Derived.ProofKit
import Derived.OpenShut
import Derived.ChangeOld
import Derived.Carry
import Derived.SizedLaws
set_option linter.unusedVariables false
set_option linter.unusedSimpArgs false
namespace Go.Proofs.Ytifhcfhdajkhlaa.K
open Go Go.RowKit Go.Proofs
attribute [local irreducible] Run1 OpG WL W AO Gives
set_option maxRecDepth 100000 in
theorem bent_calls (w : World) {ad ae : Option Addr} {cp cq : Nat} {xs ys : List Int} (R : RowAt w 1 ad xs.length (xs.map (.int .u8))) (hx : ∀ x ∈ xs, inR .u8 x) (hcp : xs.length ≤ cp) (hcp2 : cp ≤ maxLen) (hl : xs.length ≤ 200) (R2 : RowAt w 1 ae ys.length (ys.map (.int .u8))) (hy : ∀ x ∈ ys, inR .u8 x) {k : Int} (k0 : 0 ≤ k) (k1 : k ≤ 255) : Calls Try.prog 8 #[.slice ad xs.length cp, .slice ae ys.length cq, .int .u8 k] w (Ret fun v w' => ∃ ado co segs A, v = .slice ado A.length co ∧ OwnA 63 33 w' w.heap.size (.slice ado A.length co) segs A ∧ Bent1 xs k A ∧ Grow w w') := by
 have lR2 := R2.lim
 have hri := bentT_right (xs := xs) hx
 have G := Grow.rfl' w
 refine calls_ret Try.func8 Try.ntmps8 Try.results8 rfl rfl ?_
 refine W_seq (W_region rfl ?_)
 refine stp (r_assign_slice rfl ?_)
 refine WL_nil ?_
 refine W_seq (W_region rfl ?_)
 refine stp (r_move_slice rfl ?_)
 refine stp (r_move_slice rfl ?_)
 refine stp (r_len rfl rfl rfl ?_)
 refine WL_some (og rfl ?_)
 refine r_min rfl rfl rfl ?_
 rw [if_neg (by omega)]
 refine stp (r_sliceH rfl rfl (by omega) (by omega) ?_)
 have R1 := R.sliceH (m := xs.length) hcp (Nat.le_refl _) (by decide)
 rw [List.take_of_length_le (by rw [List.length_map]; omega)] at R1
 rw [Int.toNat_natCast]
 generalize (if cp = 0 then ad else ad.map (·.add (0 * 1))) = ad1 at R1 ⊢
 refine WL_some (og rfl ?_)
 refine r_call rfl (tree_calls _ _ R1 G rfl hx hcp hcp2 (d := 6) (by decide) (Nat.le_refl _)) ?_
 rintro v_ w1 ⟨cells_, ad9, n9, c9, rfl, hX_, -, -, -, -, g_⟩
 have hX := hX_.sees (Sees.seen _ _)
 clear hX_
 replace G := G.tr g_
 clear g_
 obtain ⟨x0, x1, xa, xn, xc, pa, pn, pc, qa, qn, qc, rfl⟩ := hX.cells
 have hX : NodeR w1 [.int .i64 x0, .int .i64 x1, .slice xa xn xc, .slice pa pn pc, .slice qa qn qc] (bentT xs) := hX
 refine stp (r_move (v := .tuple #[.agg #[.int .i64 x0, .int .i64 x1, .slice xa xn xc, .slice pa pn pc, .slice qa qn qc], .slice ad9 n9 c9]) rfl ?_)
 refine stp (r_extract (v := .agg #[.int .i64 x0, .int .i64 x1, .slice xa xn xc, .slice pa pn pc, .slice qa qn qc]) rfl rfl ?_)
 refine stp (r_extract (v := .slice ad9 n9 c9) rfl rfl ?_)
 refine stp (r_alloc ?_)
 intro b2 w3 hb4 hc5 g6
 refine stn (r_storeAll rfl rfl hc5 (by rfl) (by rfl) (by rfl) ?_)
 intro w7 hc8 u9
 have g10 := g6.upd u9 hb4
 have hge11 := Nat.le_trans G.size hb4
 replace hX := hX.grow g10
 replace G := G.tr g10
 clear u9 g6 hb4 hc5
 refine stp (r_assign_slice rfl ?_)
 refine WL_nil ?_
 refine W_seq (W_region rfl ?_)
 refine stp (r_loadAll rfl hc8 (by rfl) ?_)
 refine stp (r_move_int rfl ?_)
 refine stp (r_rem rfl rfl ?_ ?_ ?_); omega; omega
 refine stp (r_conv rfl ?_ ?_); constructor <;> omega
 refine stp (r_add rfl rfl ?_ ?_); constructor <;> omega
 refine WL_some (og rfl ?_)
 have hcal := rBuild_calls _ hX (3 + k % 30)
 have hszp := G.size
 refine r_call rfl hcal ?_
 rintro v_ w12 ⟨so_, segsp, rfl, hO_, g_⟩
 clear hcal
 replace hX := hX.grow g_
 replace hc8 := g_.heap hc8
 replace G := G.tr g_
 clear g_
 have hOp := hO_.lower hszp
 clear hO_
 obtain ⟨adp, cp, rfl, -⟩ := own_shape hOp.out
 refine stp (r_move (v := .tuple #[.slice adp (((bentT xs).build (3 + k % 30)).1.length) cp, .int .i64 (((bentT xs).build (3 + k % 30)).2)]) rfl ?_)
 refine stp (r_extract (v := .slice adp (((bentT xs).build (3 + k % 30)).1.length) cp) rfl rfl ?_)
 refine stp (r_extract (v := .int .i64 (((bentT xs).build (3 + k % 30)).2)) rfl rfl ?_)
 refine stp (r_assign_slice rfl ?_)
 refine stp (r_assign_int rfl ?_)
 refine WL_nil ?_
 have hB0 := bentB_len (xs := xs) hx hl k
 obtain ⟨B, hB⟩ : ∃ B, B = bentB xs k := ⟨_, rfl⟩
 rw [← hB] at hB0
 refine W_cut1 (fun e_ w_ => ∃ (ado : Option Addr) (co : Nat) (segs : List Value), Fr [(1, .slice ae ys.length cq), (6, .slice none 0 0), (9, .slice ado B.length co)] e_ ∧ (OwnA 63 33 w_ w.heap.size (.slice ado B.length co) segs B) ∧ Grow w w_) ?_ ?_
 ·-- the parts
  refine W_seq (W_region rfl ?_)
  refine stp (r_move_int rfl ?_)
  refine stp (r_neq rfl rfl ?_)
  refine WL_nil ?_
  refine W_cond2 (b := (decide ((((bentT xs).build (3 + k % 30)).2) ≠ 0))) rfl (fun h1 => ?_) (fun h1 => ?_)
  ·-- true
   replace h1 := of_decide_eq_true h1
   refine W_seq (W_region rfl ?_)
   refine stp (r_loadAll rfl hc8 (by rfl) ?_)
   refine WL_some (og rfl ?_)
   have hcal := rBuild_calls _ hX 4096
   have hszq := G.size
   refine r_call rfl hcal ?_
   rintro v_ w13 ⟨so_, segsq, rfl, hO_, g_⟩
   clear hcal
   replace hX := hX.grow g_
   replace hc8 := g_.heap hc8
   replace hOp := hOp.grow g_
   replace G := G.tr g_
   clear g_
   have hOq := hO_.lower hszq
   clear hO_
   obtain ⟨adq, cq, rfl, -⟩ := own_shape hOq.out
   refine stp (r_move (v := .tuple #[.slice adq (((bentT xs).build 4096).1.length) cq, .int .i64 (((bentT xs).build 4096).2)]) rfl ?_)
   refine stp (r_extract (v := .slice adq (((bentT xs).build 4096).1.length) cq) rfl rfl ?_)
   refine stp (r_extract (v := .int .i64 (((bentT xs).build 4096).2)) rfl rfl ?_)
   refine stp (r_assign_slice rfl ?_)
   refine stp (r_assign_int rfl ?_)
   refine WL_nil ?_
   refine W_region rfl ?_
   refine stp (r_move_slice rfl ?_)
   refine stp (r_assign_slice rfl ?_)
   refine WL_nil ?_
   have hBe : B = ((bentT xs).build 4096).1 := by rw [hB]; unfold bentB; rw [if_pos h1]
   exact ⟨adq, cq, segsq, fr_of ⟨rfl, rfl, by rw [hBe]; rfl, trivial⟩, (by rw [hBe]; exact hOq), G⟩
  ·-- false
   replace h1 := of_decide_eq_false h1
   refine W_skip ?_
   have hBe : B = ((bentT xs).build (3 + k % 30)).1 := by rw [hB]; unfold bentB; rw [if_neg h1]
   exact ⟨adp, cp, segsp, fr_of ⟨rfl, rfl, by rw [hBe]; rfl, trivial⟩, (by rw [hBe]; exact hOp), G⟩
 ·-- behind them
  clear hX hc8 hOp
  clear G
  rintro e_ w14 ⟨ado, co, segs, ⟨e15, rfl⟩, hO, G⟩
  refine W_seq ?_
  refine W_seq (W_region rfl ?_)
  refine stp (r_assign_int rfl ?_)
  refine WL_nil ?_
  refine W_block ?_
  refine W_loop (fun m_ e_ w_ => ∃ (m : Nat) (ado : Option Addr) (co : Nat) (segs : List Value) (A : List (List Int)), m_ = 12 - m ∧ Fr [(1, .slice ae ys.length cq), (6, .slice none 0 0), (13, .int .i64 (m : Int)), (9, .slice ado A.length co)] e_ ∧ (m ≤ 15) ∧ (BentA B A) ∧ (OwnA 63 33 w_ w.heap.size (.slice ado A.length co) segs A) ∧ Grow w w_) _ ⟨0, ado, co, segs, B, rfl, fr_of ⟨rfl, rfl, rfl, rfl, trivial⟩, by omega, .refl, hO, G⟩ ?_
  clear hO
  clear G
  rintro m_ e_ w16 ⟨m, ado, co, segs, A, rfl, ⟨e17, rfl⟩, hm15, hA, hO, G⟩
  refine W_seq ?_
  refine W_seq (W_region rfl ?_)
  refine stp (r_move_int rfl ?_)
  refine stp (r_add rfl rfl ?_ ?_); constructor <;> omega
  refine stp (r_move_slice rfl ?_)
  refine stp (r_len rfl rfl rfl ?_)
  refine stp (r_lss rfl rfl ?_)
  refine stp (r_move_bool rfl ?_)
  refine WL_some (og_if (s := .bool (decide (((m : Int) + 3) < (ys.length : Int)))) (b := true) (v := .int .i64 (m : Int)) rfl (wgb_t _) (fun hc18 => ?_) ?_)
  ·
   have hc18_ := of_decide_eq_true hc18
   refine r_move_int rfl ?_
   exact ⟨rfl, rfl⟩
  refine WL_some (og_if (s := .bool (decide (((m : Int) + 3) < (ys.length : Int)))) (b := true) (v := .bool (decide ((m : Int) < 12))) rfl (wgb_t _) (fun hc19 => ?_) ?_)
  ·
   have hc19_ := of_decide_eq_true hc19
   refine r_lss (gvt hc19) rfl ?_
   exact ⟨rfl, rfl⟩
  refine stp (r_and2 rfl rfl rfl ?_)
  refine WL_nil ?_
  refine W_cond2 (b := ((decide (((m : Int) + 3) < (ys.length : Int))) && (decide ((m : Int) < 12)))) rfl (fun hlt => ?_) (fun hlt => ?_)
  ·-- true
   simp only [sb] at hlt
   have hd0 := getD_u8 hy m
   have hd1 := getD_u8 hy ((m : Int) + 1).toNat
   have hd2 := getD_u8 hy ((m : Int) + 2).toNat
   have hd3 := getD_u8 hy ((m : Int) + 3).toNat
   have hAl : A.length = B.length := (BentA.len hA).1
   obtain ⟨ado1, co1, sa, sc, hso, hco1, hco2, RO, hsf⟩ := hO.fn (by omega)
   simp only [Value.slice.injEq, true_and] at hso
   obtain ⟨rfl, rfl⟩ := hso
   obtain ⟨s, hsE⟩ : ∃ s : Nat, (s : Int) = ys.getD m 0 % (A.length : Int) := ⟨(ys.getD m 0 % (A.length : Int)).toNat, by have := Int.emod_nonneg (ys.getD m 0) (show (A.length : Int) ≠ 0 by omega); omega⟩
   have hsA : s < A.length := by have := Int.emod_lt_of_pos (ys.getD m 0) (show 0 < (A.length : Int) by omega); omega
   obtain ⟨hss, hos⟩ := hsf s hsA
   refine W_skip ?_
   refine W_seq ?_
   refine W_block ?_
   refine W_seq (W_region rfl ?_)
   refine stp (r_move_slice rfl ?_)
   refine stp (r_move_int rfl ?_)
   refine stp (r_indexN (R2.grow G) rfl rfl ?_ ?_); omega
   refine stp (r_loadR (v := .int .u8 (ys.getD m 0)) (m := 0) (R2.grow G) rfl (map_get1 0 (by omega)) ?_)
   refine stp (r_conv rfl ?_ ?_); constructor <;> omega
   refine stp (r_move_slice rfl ?_)
   refine stp (r_len rfl rfl rfl ?_)
   refine WL_some (og rfl ?_)
   refine r_rem rfl rfl ?_ ?_ ?_; omega; omega
   rw [← hsE]
   refine stp (r_assign_int rfl ?_)
   refine WL_nil ?_
   refine W_seq ?_
   refine W_seq (W_region rfl ?_)
   refine stp (r_move_slice rfl ?_)
   refine stp (r_move_int rfl ?_)
   refine stp (r_indexN RO rfl rfl ?_ ?_); omega
   refine stp (r_loadR (v := .slice (sa s) (len2 A s) (sc s)) (m := 0) RO rfl (by rw [Nat.mul_one]; exact hss) ?_)
   refine stp (r_len rfl rfl rfl ?_)
   refine stp (r_eql rfl rfl ?_)
   refine WL_nil ?_
   refine W_cond2 (b := (decide (((len2 A s) : Int) = 0))) rfl (fun h3 => ?_) (fun h3 => ?_)
   ·-- true
    replace h3 := of_decide_eq_true h3
    refine W_exit ?_
    refine W_region rfl ?_
    refine stp (r_move_int rfl ?_)
    refine stp (r_add rfl rfl ?_ ?_); constructor <;> omega
    refine stp (r_assign_int rfl ?_)
    refine WL_nil ?_
    refine ⟨_, ?_, m + 4, ado, co, segs, A, rfl, fr_of ⟨rfl, rfl, congrArg (Value.int .i64) (by omega), rfl, trivial⟩, by omega, hA, hO, G⟩
    omega
   ·-- false
    replace h3 := of_decide_eq_false h3
    have hs0 : 0 < len2 A s := by omega
    obtain ⟨j, hjE⟩ : ∃ j : Nat, (j : Int) = (ys.getD ((m : Int) + 1).toNat 0) % (len2 A s : Int) := ⟨((ys.getD ((m : Int) + 1).toNat 0) % (len2 A s : Int)).toNat, by have := Int.emod_nonneg (ys.getD ((m : Int) + 1).toNat 0) (show (len2 A s : Int) ≠ 0 by omega); omega⟩
    have hjA : j < len2 A s := by have := Int.emod_lt_of_pos (ys.getD ((m : Int) + 1).toNat 0) (show 0 < (len2 A s : Int) by omega); omega
    refine W_skip ?_
    refine W_seq ?_
    refine W_any 13 [[], [], [0], [2, 1, 0], [3, 2, 1, 0], [4, 3, 2, 1, 0], [], [], [1, 0], [2, 1, 0], [3, 2, 1, 0], [10, 9, 8, 7, 6, 5, 4, 3, 2, 1, 0], [11, 10, 9, 8, 7, 6, 5, 4, 3, 2, 1, 0]] mixed (by kernel_rfl) (by kernel_rfl) (by kernel_rfl) ?_
    intro w20 g21
    replace hO := hO.grow g21
    replace RO := RO.grow g21
    replace G := G.tr g21
    clear g21
    apply AO_ex
    ·intro w_ g_; refine og rfl ?_; refine r_move_slice rfl ?_; exact ⟨Grow.rfl' _, rfl⟩
    apply AO_ex
    ·intro w_ g_; refine og rfl ?_; refine r_move_int rfl ?_; exact ⟨Grow.rfl' _, rfl⟩
    apply AO_ex
    ·intro w_ g_; refine og rfl ?_; refine r_add rfl rfl ?_ ?_; constructor <;> omega; exact ⟨Grow.rfl' _, rfl⟩
    apply AO_ex
    ·intro w_ g_; refine og rfl ?_; refine r_indexR (R2.grow (G.tr g_)) rfl rfl ?_ ?_ ?_; omega; omega; exact ⟨Grow.rfl' _, rfl⟩
    apply AO_ex
    ·intro w_ g_; refine og rfl ?_; refine r_loadR (v := .int .u8 (ys.getD (((m : Int) + 1).toNat) 0)) (m := 0) (R2.grow (G.tr g_)) rfl (map_get1 0 (by omega)) ?_; exact ⟨Grow.rfl' _, rfl⟩
    apply AO_ex
    ·intro w_ g_; refine og rfl ?_; refine r_conv rfl ?_ ?_; constructor <;> omega; exact ⟨Grow.rfl' _, rfl⟩
    apply AO_ex
    ·intro w_ g_; refine og rfl ?_; refine r_move_slice rfl ?_; exact ⟨Grow.rfl' _, rfl⟩
    apply AO_ex
    ·intro w_ g_; refine og rfl ?_; refine r_move_int rfl ?_; exact ⟨Grow.rfl' _, rfl⟩
    apply AO_ex
    ·intro w_ g_; refine og rfl ?_; refine r_indexN (RO.grow g_) rfl rfl ?_ ?_; omega; exact ⟨Grow.rfl' _, rfl⟩
    apply AO_ex
    ·intro w_ g_; refine og rfl ?_; refine r_loadR (v := .slice (sa s) (len2 A s) (sc s)) (m := 0) (RO.grow g_) rfl (by rw [Nat.mul_one]; exact hss) ?_; exact ⟨Grow.rfl' _, rfl⟩
    apply AO_ex
    ·intro w_ g_; refine og rfl ?_; refine r_len rfl rfl rfl ?_; exact ⟨Grow.rfl' _, rfl⟩
    apply AO_ex
    ·intro w_ g_; refine og rfl ?_; refine r_rem rfl rfl ?_ ?_ ?_; omega; omega; rw [← hjE]; exact ⟨Grow.rfl' _, rfl⟩
    apply AO_ex
    ·intro w_ g_; refine og rfl ?_; refine r_assign_int rfl ?_; exact ⟨Grow.rfl' _, rfl⟩
    refine AO_nil ?_
    intro w22 g23
    replace hO := hO.grow g23
    replace RO := RO.grow g23
    replace G := G.tr g23
    clear g23
    refine WL_nil ?_
    have hsG := G.size
    obtain ⟨M, hM⟩ : ∃ M, M = w22.heap.size := ⟨_, rfl⟩
    have hMw : M ≤ w22.heap.size := by rw [hM]; exact Nat.le_refl _
    have hwM : w.heap.size ≤ M := by rw [hM]; exact hsG
    clear hM hsG
    obtain ⟨x, hxE⟩ : ∃ x, x = encR (bentP (ys.getD ((m : Int) + 2).toNat 0) (ys.getD ((m : Int) + 3).toNat 0) A.length) := ⟨_, rfl⟩
    obtain ⟨z, hzE⟩ : ∃ z, z = encE (bentP (ys.getD ((m : Int) + 2).toNat 0) (ys.getD ((m : Int) + 3).toNat 0) A.length) := ⟨_, rfl⟩
    refine W_seq ?_
    refine W_any 18 [[], [], [0], [2, 1, 0], [3, 2, 1, 0], [4, 3, 2, 1, 0], [5, 4, 3, 2, 1, 0], [6, 5, 4, 3, 2, 1, 0], [], [], [0], [2, 1, 0], [3, 2, 1, 0], [4, 3, 2, 1, 0], [5, 4, 3, 2, 1, 0], [6, 5, 4, 3, 2, 1, 0], [15, 14, 13, 12, 11, 10, 9, 8, 7, 6, 5, 4, 3, 2, 1, 0], []] mixed (by kernel_rfl) (by kernel_rfl) (by kernel_rfl) ?_
    intro w24 g25
    replace hO := hO.grow g25
    replace RO := RO.grow g25
    replace hMw := Nat.le_trans hMw g25.size
    replace G := G.tr g25
    clear g25
    apply AO_ex
    ·intro w_ g_; refine og rfl ?_; refine r_move_slice rfl ?_; exact ⟨Grow.rfl' _, rfl⟩
    apply AO_ex
    ·intro w_ g_; refine og rfl ?_; refine r_move_int rfl ?_; exact ⟨Grow.rfl' _, rfl⟩
    apply AO_ex
    ·intro w_ g_; refine og rfl ?_; refine r_add rfl rfl ?_ ?_; constructor <;> omega; exact ⟨Grow.rfl' _, rfl⟩
    apply AO_ex
    ·intro w_ g_; refine og rfl ?_; refine r_indexR (R2.grow (G.tr g_)) rfl rfl ?_ ?_ ?_; omega; omega; exact ⟨Grow.rfl' _, rfl⟩
    apply AO_ex
    ·intro w_ g_; refine og rfl ?_; refine r_loadR (v := .int .u8 (ys.getD (((m : Int) + 2).toNat) 0)) (m := 0) (R2.grow (G.tr g_)) rfl (map_get1 0 (by omega)) ?_; exact ⟨Grow.rfl' _, rfl⟩
    apply AO_ex
    ·intro w_ g_; refine og rfl ?_; refine r_rem rfl rfl ?_ ?_ ?_; omega; omega; exact ⟨Grow.rfl' _, rfl⟩
    apply AO_ex
    ·intro w_ g_; refine og rfl ?_; refine r_conv rfl ?_ ?_; constructor <;> omega; exact ⟨Grow.rfl' _, rfl⟩
    apply AO_ex
    ·intro w_ g_; refine og rfl ?_; refine r_add rfl rfl ?_ ?_; constructor <;> omega; exact ⟨Grow.rfl' _, rfl⟩
    apply AO_ex
    ·intro w_ g_; refine og rfl ?_; refine r_move_slice rfl ?_; exact ⟨Grow.rfl' _, rfl⟩
    apply AO_ex
    ·intro w_ g_; refine og rfl ?_; refine r_move_int rfl ?_; exact ⟨Grow.rfl' _, rfl⟩
    apply AO_ex
    ·intro w_ g_; refine og rfl ?_; refine r_add rfl rfl ?_ ?_; constructor <;> omega; exact ⟨Grow.rfl' _, rfl⟩
    apply AO_ex
    ·intro w_ g_; refine og rfl ?_; refine r_indexR (R2.grow (G.tr g_)) rfl rfl ?_ ?_ ?_; omega; omega; exact ⟨Grow.rfl' _, rfl⟩
    apply AO_ex
    ·intro w_ g_; refine og rfl ?_; refine r_loadR (v := .int .u8 (ys.getD (((m : Int) + 3).toNat) 0)) (m := 0) (R2.grow (G.tr g_)) rfl (map_get1 0 (by omega)) ?_; exact ⟨Grow.rfl' _, rfl⟩
    apply AO_ex
    ·intro w_ g_; refine og rfl ?_; refine r_rem rfl rfl ?_ ?_ ?_; omega; omega; exact ⟨Grow.rfl' _, rfl⟩
    apply AO_ex
    ·intro w_ g_; refine og rfl ?_; refine r_conv rfl ?_ ?_; constructor <;> omega; exact ⟨Grow.rfl' _, rfl⟩
    apply AO_ex
    ·intro w_ g_; refine og rfl ?_; refine r_sub rfl rfl ?_ ?_; constructor <;> omega; exact ⟨Grow.rfl' _, rfl⟩
    apply AO_ex
    ·intro w_ g_; refine og rfl ?_; refine r_build (v := .agg #[.int .i64 (1 + ((ys.getD (((m : Int) + 2).toNat) 0) % 3)), .int .i64 (((ys.getD (((m : Int) + 3).toNat) 0) % 16) - 4), .int .i64 0, .int .i64 0, .int .i64 0, .int .i64 0, .int .i64 0, .bool false]) (fun w => by kernel_rfl) ?_; exact ⟨Grow.rfl' _, rfl⟩
    refine AO_so (fun w_ v_ => ∃ b, v_ = .pointer (some ⟨b, 0, none⟩) ∧ M ≤ b ∧ w_.heap[b]? = some (.cells #[.int .i64 0, .int .i64 0, .int .i64 0, .int .i64 0, .int .i64 0, .int .i64 0, .int .i64 0, .bool false] 72 (0, 0))) (fun _ _ _ g_ ⟨b, h1_, h2_, h3_⟩ => ⟨b, h1_, h2_, g_.heap h3_⟩) ?_ ?_
    ·intro w_ g_
     refine og rfl ?_
     refine r_alloc ?_
     intro b_ w2_ hb_ hc_ g2_
     exact ⟨g2_, b_, rfl, Nat.le_trans hMw (Nat.le_trans g_.size hb_), hc_⟩
    refine AO_nil ?_
    intro w26 g27
    replace hO := hO.grow g27
    replace RO := RO.grow g27
    replace hMw := Nat.le_trans hMw g27.size
    replace G := G.tr g27
    clear g27
    intro v_p hv_p
    obtain ⟨bp, rfl, hgP, hcP⟩ := hv_p
    have hgQ := Nat.le_trans hwM hgP
    refine stn (r_storeAll rfl rfl hcP (by rfl) (by rfl) (by rfl) ?_)
    intro w28 hc29 u30
    replace hO := hO.upd u30 hcP (by decide) (by decide)
    replace RO := (OwnA.rowat hO (by omega)).2
    replace hMw := Nat.le_trans hMw (Nat.le_of_eq u30.size.symm)
    replace G := G.upd u30 hgQ
    clear u30 hcP
    refine WL_nil ?_
    refine W_seq ?_
    refine W_seq (W_region rfl ?_)
    refine stp (r_fieldAddr rfl ?_)
    refine stp (r_load (v := .int .i64 (1 + ((ys.getD (((m : Int) + 2).toNat) 0) % 3))) rfl hc29 rfl ?_)
    refine WL_nil ?_
    refine W_block ?_
    refine W_seq (W_region rfl ?_)
    refine stp (r_eql rfl rfl ?_)
    refine stp (r_assign_bool rfl ?_)
    refine WL_nil ?_
    refine W_cond2 (b := (decide ((1 + ((ys.getD (((m : Int) + 2).toNat) 0) % 3)) = 1))) rfl (fun h4 => ?_) (fun h4 => ?_)
    ·-- true
     replace h4 := of_decide_eq_true h4
     refine W_seq (W_region rfl ?_)
     refine stp (r_move_slice rfl ?_)
     refine stp (r_move_int rfl ?_)
     refine stp (r_add rfl rfl ?_ ?_); constructor <;> omega
     refine stp (r_indexR (R2.grow G) rfl rfl ?_ ?_ ?_); omega; omega
     refine stp (r_loadR (v := .int .u8 (ys.getD (((m : Int) + 2).toNat) 0)) (m := 0) (R2.grow G) rfl (map_get1 0 (by omega)) ?_)
     refine stp (r_rem rfl rfl ?_ ?_ ?_); omega; omega
     refine stp (r_conv rfl ?_ ?_); constructor <;> omega
     refine stp (r_fieldAddr rfl ?_)
     refine stn (r_store1 (v := .int .i64 ((ys.getD (((m : Int) + 2).toNat) 0) % 4)) rfl rfl (by rfl) hc29 (by rfl) (by rfl) ?_)
     intro w31 hc32 u33
     replace hO := hO.upd u33 hc29 (by decide) (by decide)
     replace RO := (OwnA.rowat hO (by omega)).2
     replace hMw := Nat.le_trans hMw (Nat.le_of_eq u33.size.symm)
     replace G := G.upd u33 hgQ
     clear u33 hc29
     refine WL_nil ?_
     refine W_region rfl ?_
     refine stp (r_move_slice rfl ?_)
     refine stp (r_move_int rfl ?_)
     refine stp (r_add rfl rfl ?_ ?_); constructor <;> omega
     refine stp (r_indexR (R2.grow G) rfl rfl ?_ ?_ ?_); omega; omega
     refine stp (r_loadR (v := .int .u8 (ys.getD (((m : Int) + 2).toNat) 0)) (m := 0) (R2.grow G) rfl (map_get1 0 (by omega)) ?_)
     refine stp (r_quo rfl rfl ?_ ?_ ?_ ?_); omega; omega; (constructor <;> omega)
     refine stp (r_conv rfl ?_ ?_); constructor <;> omega
     refine stp (r_fieldAddr rfl ?_)
     refine stn (r_store1 (v := .int .i64 ((ys.getD (((m : Int) + 2).toNat) 0) / 64)) rfl rfl (by rfl) hc32 (by rfl) (by rfl) ?_)
     intro w34 hc35 u36
     replace hO := hO.upd u36 hc32 (by decide) (by decide)
     replace RO := (OwnA.rowat hO (by omega)).2
     replace hMw := Nat.le_trans hMw (Nat.le_of_eq u36.size.symm)
     replace G := G.upd u36 hgQ
     clear u36 hc32
     refine WL_nil ?_
     refine W_seq (W_region rfl ?_)
     refine stp (r_loadAll rfl hc35 (by rfl) ?_)
     refine WL_some (og rfl ?_)
     have hP : (⟨1 + ((ys.getD (((m : Int) + 2).toNat) 0) % 3), ((ys.getD (((m : Int) + 3).toNat) 0) % 16) - 4, (ys.getD (((m : Int) + 2).toNat) 0) % 4, (ys.getD (((m : Int) + 2).toNat) 0) / 64, 0, 0, 0, false⟩ : Pt) = bentP (ys.getD ((m : Int) + 2).toNat 0) (ys.getD ((m : Int) + 3).toNat 0) A.length := by unfold bentP; rw [if_pos (by omega)]; rw [show 1 + (ys.getD ((m : Int) + 2).toNat 0) % 3 = 1 from by omega]
     refine r_gives (v := .tuple #[.int .u64 x, .int .i64 z]) rfl (gives_eq (rencode_calls _ ⟨1 + ((ys.getD (((m : Int) + 2).toNat) 0) % 3), ((ys.getD (((m : Int) + 3).toNat) 0) % 16) - 4, (ys.getD (((m : Int) + 2).toNat) 0) % 4, (ys.getD (((m : Int) + 2).toNat) 0) / 64, 0, 0, 0, false⟩) (y := .tuple #[.int .u64 x, .int .i64 z]) (by rw [hP, ← hxE, ← hzE])) ?_
     intro w37 g38
     replace hO := hO.grow g38
     replace RO := RO.grow g38
     replace hMw := Nat.le_trans hMw g38.size
     replace hc35 := g38.heap hc35
     replace G := G.tr g38
     clear g38
     refine stp (r_move (v := .tuple #[.int .u64 x, .int .i64 z]) rfl ?_)
     refine stp (r_extract (v := .int .u64 x) rfl rfl ?_)
     refine stp (r_extract (v := .int .i64 z) rfl rfl ?_)
     refine stp (r_assign_int rfl ?_)
     refine stp (r_assign_int rfl ?_)
     refine WL_nil ?_
     refine W_region rfl ?_
     refine stp (r_move_slice rfl ?_)
     refine stp (r_move_int rfl ?_)
     refine stp (r_indexN RO rfl rfl ?_ ?_); omega
     refine stp (r_loadR (v := .slice (sa s) (len2 A s) (sc s)) (m := 0) RO rfl (by rw [Nat.mul_one]; exact hss) ?_)
     refine stp (r_move_int rfl ?_)
     refine stp (r_move_int rfl ?_)
     refine WL_some (og rfl ?_)
     have hos9 := hO.seg s _ _ hss (List.getElem?_eq_getElem hsA)
     have hlen9 : len2 A s = A[s].length := by rw [len2, getD_at hsA]
     obtain ⟨g5, c5, cur5, he5, hg5b, hg5, hc51, hc52, hc53, hc54⟩ := own_pos hos9 (by omega)
     simp only [Value.slice.injEq] at he5
     obtain ⟨hsa, -, hsc⟩ := he5
     refine r_indexAddr (b := g5) (o := 0) (n := len2 A s) (c := sc s) (i := (j : Int)) (show _ = _ from congrArg (fun a_ => Value.slice a_ (len2 A s) (sc s)) hsa) rfl (by omega) (by omega) ?_
     rw [Int.toNat_natCast, Nat.zero_add, Nat.mul_one]
     refine stn (r_store1 (v := .int .u64 x) rfl rfl rfl hg5 (Nat.ble_eq_true_of_le (by omega)) rfl ?_)
     intro w7 hs6 u7
     rw [hsa, hlen9] at hss
     have hO7 := hO.setw (i := j) (x := x) (by decide) (List.getElem?_eq_getElem hsA) hss hg5 hs6 (by simp) u7
     replace G := G.upd u7 hg5b
     have hset : A.set s (A[s].set j x) = setP A s j x := by unfold setP; rw [getD_at hsA]
     rw [hset] at hO7
     refine WL_nil ?_
     refine W_region rfl ?_
     refine stp (r_move_int rfl ?_)
     refine stp (r_add rfl rfl ?_ ?_); constructor <;> omega
     refine stp (r_assign_int rfl ?_)
     refine WL_nil ?_
     have hln := setP_length A s j x
     rw [show (Value.slice ado A.length co) = .slice ado (setP A s j x).length co from by rw [hln]] at hO7
     refine ⟨_, ?_, m + 4, ado, co, segs, setP A s j x, rfl, fr_of ⟨rfl, rfl, congrArg (Value.int .i64) (by omega), by rw [hln]; rfl, trivial⟩, by omega, by rw [hxE]; exact .put hA hsA hjA hd2.1 hd2.2 hd3.1 hd3.2, hO7, G⟩
     omega
    ·-- false
     replace h4 := of_decide_eq_false h4
     refine W_seq (W_region rfl ?_)
     refine stp (r_eql rfl rfl ?_)
     refine stp (r_assign_bool rfl ?_)
     refine WL_nil ?_
     refine W_cond2 (b := (decide ((1 + ((ys.getD (((m : Int) + 2).toNat) 0) % 3)) = 2))) rfl (fun h5 => ?_) (fun h5 => ?_)
     ·-- true
      replace h5 := of_decide_eq_true h5
      refine W_seq (W_region rfl ?_)
      refine stp (r_buildSlice (cs := #[.int .i64 2, .int .i64 5, .int .i64 6, .int .i64 3]) (el := 3) (fun w => by kernel_rfl) ?_)
      intro bs39 w40 hb41 hc42 g43
      have hge44 := Nat.le_trans G.size hb41
      have ne45 := Nat.ne_of_lt (Nat.lt_of_lt_of_le (lt_of_heap hc29) hb41)
      replace hO := hO.grow g43
      replace RO := RO.grow g43
      replace hMw := Nat.le_trans hMw g43.size
      replace hc29 := g43.heap hc29
      replace G := G.tr g43
      clear g43
      refine stp (r_move_slice rfl ?_)
      refine stp (r_move_int rfl ?_)
      refine stp (r_add rfl rfl ?_ ?_); constructor <;> omega
      refine stp (r_indexR (R2.grow G) rfl rfl ?_ ?_ ?_); omega; omega
      refine stp (r_loadR (v := .int .u8 (ys.getD (((m : Int) + 2).toNat) 0)) (m := 0) (R2.grow G) rfl (map_get1 0 (by omega)) ?_)
      refine stp (r_rem rfl rfl ?_ ?_ ?_); omega; omega
      refine WL_some (og rfl ?_)
      have RL := Row.of_block (n := 4) (sz := 1) hc42 rfl rfl (by decide)
      obtain ⟨_, _, hr_, -, -, RL⟩ := RL
      cases hr_
      refine r_indexR RL rfl rfl ?_ ?_ ?_; omega; omega
      refine stp (r_loadR (v := .int .i64 (bentZ ((ys.getD ((m : Int) + 2).toNat 0) % 4))) (m := 0) RL rfl (bentZ_at _ (by omega) (by omega)) ?_)
      refine stp (r_fieldAddr rfl ?_)
      refine stn (r_store1 (v := .int .i64 (bentZ ((ys.getD ((m : Int) + 2).toNat 0) % 4))) rfl rfl (by rfl) hc29 (by rfl) (by rfl) ?_)
      intro w46 hc47 u48
      replace hO := hO.upd u48 hc29 (by decide) (by decide)
      replace RO := (OwnA.rowat hO (by omega)).2
      replace hMw := Nat.le_trans hMw (Nat.le_of_eq u48.size.symm)
      replace hc42 := u48.heap hc42 ne45.symm
      replace G := G.upd u48 hgQ
      clear u48 hc29
      refine WL_nil ?_
      refine W_region rfl ?_
      refine stp (r_move_slice rfl ?_)
      refine stp (r_move_int rfl ?_)
      refine stp (r_add rfl rfl ?_ ?_); constructor <;> omega
      refine stp (r_indexR (R2.grow G) rfl rfl ?_ ?_ ?_); omega; omega
      refine stp (r_loadR (v := .int .u8 (ys.getD (((m : Int) + 2).toNat) 0)) (m := 0) (R2.grow G) rfl (map_get1 0 (by omega)) ?_)
      refine stp (r_quo rfl rfl ?_ ?_ ?_ ?_); omega; omega; (constructor <;> omega)
      refine stp (r_conv rfl ?_ ?_); constructor <;> omega
      refine stp (r_fieldAddr rfl ?_)
      refine stn (r_store1 (v := .int .i64 ((ys.getD (((m : Int) + 2).toNat) 0) / 16)) rfl rfl (by rfl) hc47 (by rfl) (by rfl) ?_)
      intro w49 hc50 u51
      replace hO := hO.upd u51 hc47 (by decide) (by decide)
      replace RO := (OwnA.rowat hO (by omega)).2
      replace hMw := Nat.le_trans hMw (Nat.le_of_eq u51.size.symm)
      replace hc42 := u51.heap hc42 ne45.symm
      replace G := G.upd u51 hgQ
      clear u51 hc47
      refine WL_nil ?_
      refine W_seq (W_region rfl ?_)
      refine stp (r_loadAll rfl hc50 (by rfl) ?_)
      refine WL_some (og rfl ?_)
      have hP : (⟨1 + ((ys.getD (((m : Int) + 2).toNat) 0) % 3), ((ys.getD (((m : Int) + 3).toNat) 0) % 16) - 4, 0, 0, bentZ ((ys.getD ((m : Int) + 2).toNat 0) % 4), (ys.getD (((m : Int) + 2).toNat) 0) / 16, 0, false⟩ : Pt) = bentP (ys.getD ((m : Int) + 2).toNat 0) (ys.getD ((m : Int) + 3).toNat 0) A.length := by unfold bentP; rw [if_neg (by omega), if_pos (by omega)]; rw [show 1 + (ys.getD ((m : Int) + 2).toNat 0) % 3 = 2 from by omega]
      refine r_gives (v := .tuple #[.int .u64 x, .int .i64 z]) rfl (gives_eq (rencode_calls _ ⟨1 + ((ys.getD (((m : Int) + 2).toNat) 0) % 3), ((ys.getD (((m : Int) + 3).toNat) 0) % 16) - 4, 0, 0, bentZ ((ys.getD ((m : Int) + 2).toNat 0) % 4), (ys.getD (((m : Int) + 2).toNat) 0) / 16, 0, false⟩) (y := .tuple #[.int .u64 x, .int .i64 z]) (by rw [hP, ← hxE, ← hzE])) ?_
      intro w52 g53
      replace hO := hO.grow g53
      replace RO := RO.grow g53
      replace hMw := Nat.le_trans hMw g53.size
      replace hc42 := g53.heap hc42
      replace hc50 := g53.heap hc50
      replace G := G.tr g53
      clear g53
      refine stp (r_move (v := .tuple #[.int .u64 x, .int .i64 z]) rfl ?_)
      refine stp (r_extract (v := .int .u64 x) rfl rfl ?_)
      refine stp (r_extract (v := .int .i64 z) rfl rfl ?_)
      refine stp (r_assign_int rfl ?_)
      refine stp (r_assign_int rfl ?_)
      refine WL_nil ?_
      refine W_region rfl ?_
      refine stp (r_move_slice rfl ?_)
      refine stp (r_move_int rfl ?_)
      refine stp (r_indexN RO rfl rfl ?_ ?_); omega
      refine stp (r_loadR (v := .slice (sa s) (len2 A s) (sc s)) (m := 0) RO rfl (by rw [Nat.mul_one]; exact hss) ?_)
      refine stp (r_move_int rfl ?_)
      refine stp (r_move_int rfl ?_)
      refine WL_some (og rfl ?_)
      have hos9 := hO.seg s _ _ hss (List.getElem?_eq_getElem hsA)
      have hlen9 : len2 A s = A[s].length := by rw [len2, getD_at hsA]
      obtain ⟨g5, c5, cur5, he5, hg5b, hg5, hc51, hc52, hc53, hc54⟩ := own_pos hos9 (by omega)
      simp only [Value.slice.injEq] at he5
      obtain ⟨hsa, -, hsc⟩ := he5
      refine r_indexAddr (b := g5) (o := 0) (n := len2 A s) (c := sc s) (i := (j : Int)) (show _ = _ from congrArg (fun a_ => Value.slice a_ (len2 A s) (sc s)) hsa) rfl (by omega) (by omega) ?_
      rw [Int.toNat_natCast, Nat.zero_add, Nat.mul_one]
      refine stn (r_store1 (v := .int .u64 x) rfl rfl rfl hg5 (Nat.ble_eq_true_of_le (by omega)) rfl ?_)
      intro w7 hs6 u7
      rw [hsa, hlen9] at hss
      have hO7 := hO.setw (i := j) (x := x) (by decide) (List.getElem?_eq_getElem hsA) hss hg5 hs6 (by simp) u7
      replace G := G.upd u7 hg5b
      have hset : A.set s (A[s].set j x) = setP A s j x := by unfold setP; rw [getD_at hsA]
      rw [hset] at hO7
      refine WL_nil ?_
      refine W_region rfl ?_
      refine stp (r_move_int rfl ?_)
      refine stp (r_add rfl rfl ?_ ?_); constructor <;> omega
      refine stp (r_assign_int rfl ?_)
      refine WL_nil ?_
      have hln := setP_length A s j x
      rw [show (Value.slice ado A.length co) = .slice ado (setP A s j x).length co from by rw [hln]] at hO7
      refine ⟨_, ?_, m + 4, ado, co, segs, setP A s j x, rfl, fr_of ⟨rfl, rfl, congrArg (Value.int .i64) (by omega), by rw [hln]; rfl, trivial⟩, by omega, by rw [hxE]; exact .put hA hsA hjA hd2.1 hd2.2 hd3.1 hd3.2, hO7, G⟩
      omega
     ·-- false
      replace h5 := of_decide_eq_false h5
      refine W_seq (W_region rfl ?_)
      refine stp (r_move_slice rfl ?_)
      refine stp (r_move_int rfl ?_)
      refine stp (r_add rfl rfl ?_ ?_); constructor <;> omega
      refine stp (r_indexR (R2.grow G) rfl rfl ?_ ?_ ?_); omega; omega
      refine stp (r_loadR (v := .int .u8 (ys.getD (((m : Int) + 3).toNat) 0)) (m := 0) (R2.grow G) rfl (map_get1 0 (by omega)) ?_)
      refine stp (r_rem rfl rfl ?_ ?_ ?_); omega; omega
      refine stp (r_conv rfl ?_ ?_); constructor <;> omega
      refine stp (r_fieldAddr rfl ?_)
      refine stn (r_store1 (v := .int .i64 ((ys.getD (((m : Int) + 3).toNat) 0) % 12)) rfl rfl (by rfl) hc29 (by rfl) (by rfl) ?_)
      intro w54 hc55 u56
      replace hO := hO.upd u56 hc29 (by decide) (by decide)
      replace RO := (OwnA.rowat hO (by omega)).2
      replace hMw := Nat.le_trans hMw (Nat.le_of_eq u56.size.symm)
      replace G := G.upd u56 hgQ
      clear u56 hc29
      refine WL_nil ?_
      refine W_seq (W_region rfl ?_)
      refine stp (r_move_slice rfl ?_)
      refine stp (r_move_int rfl ?_)
      refine stp (r_add rfl rfl ?_ ?_); constructor <;> omega
      refine stp (r_indexR (R2.grow G) rfl rfl ?_ ?_ ?_); omega; omega
      refine stp (r_loadR (v := .int .u8 (ys.getD (((m : Int) + 2).toNat) 0)) (m := 0) (R2.grow G) rfl (map_get1 0 (by omega)) ?_)
      refine stp (r_quo rfl rfl ?_ ?_ ?_ ?_); omega; omega; (constructor <;> omega)
      refine stp (r_conv rfl ?_ ?_); constructor <;> omega
      refine stp (r_move_slice rfl ?_)
      refine stp (r_len rfl rfl rfl ?_)
      refine stp (r_add rfl rfl ?_ ?_); constructor <;> omega
      refine stp (r_rem rfl rfl ?_ ?_ ?_); omega; omega
      refine stp (r_fieldAddr rfl ?_)
      refine stn (r_store1 (v := .int .i64 (((ys.getD (((m : Int) + 2).toNat) 0) / 3) % ((A.length : Int) + 1))) rfl rfl (by rfl) hc55 (by rfl) (by rfl) ?_)
      intro w57 hc58 u59
      replace hO := hO.upd u59 hc55 (by decide) (by decide)
      replace RO := (OwnA.rowat hO (by omega)).2
      replace hMw := Nat.le_trans hMw (Nat.le_of_eq u59.size.symm)
      replace G := G.upd u59 hgQ
      clear u59 hc55
      refine WL_nil ?_
      refine W_region rfl ?_
      refine stp (r_move_slice rfl ?_)
      refine stp (r_move_int rfl ?_)
      refine stp (r_add rfl rfl ?_ ?_); constructor <;> omega
      refine stp (r_indexR (R2.grow G) rfl rfl ?_ ?_ ?_); omega; omega
      refine stp (r_loadR (v := .int .u8 (ys.getD (((m : Int) + 2).toNat) 0)) (m := 0) (R2.grow G) rfl (map_get1 0 (by omega)) ?_)
      refine stp (r_rem rfl rfl ?_ ?_ ?_); omega; omega
      refine stp (r_eql rfl rfl ?_)
      refine stp (r_fieldAddr rfl ?_)
      refine stn (r_store1 (v := .bool (decide (((ys.getD (((m : Int) + 2).toNat) 0) % 2) = 1))) rfl rfl (by rfl) hc58 (by rfl) (by rfl) ?_)
      intro w60 hc61 u62
      replace hO := hO.upd u62 hc58 (by decide) (by decide)
      replace RO := (OwnA.rowat hO (by omega)).2
      replace hMw := Nat.le_trans hMw (Nat.le_of_eq u62.size.symm)
      replace G := G.upd u62 hgQ
      clear u62 hc58
      refine WL_nil ?_
      refine W_seq (W_region rfl ?_)
      refine stp (r_loadAll rfl hc61 (by rfl) ?_)
      refine WL_some (og rfl ?_)
      have hP : (⟨1 + ((ys.getD (((m : Int) + 2).toNat) 0) % 3), (ys.getD (((m : Int) + 3).toNat) 0) % 12, 0, 0, 0, 0, ((ys.getD (((m : Int) + 2).toNat) 0) / 3) % ((A.length : Int) + 1), (decide (((ys.getD (((m : Int) + 2).toNat) 0) % 2) = 1))⟩ : Pt) = bentP (ys.getD ((m : Int) + 2).toNat 0) (ys.getD ((m : Int) + 3).toNat 0) A.length := by unfold bentP; rw [if_neg (by omega), if_neg (by omega)]; rw [show 1 + (ys.getD ((m : Int) + 2).toNat 0) % 3 = 3 from by omega]
      refine r_gives (v := .tuple #[.int .u64 x, .int .i64 z]) rfl (gives_eq (rencode_calls _ ⟨1 + ((ys.getD (((m : Int) + 2).toNat) 0) % 3), (ys.getD (((m : Int) + 3).toNat) 0) % 12, 0, 0, 0, 0, ((ys.getD (((m : Int) + 2).toNat) 0) / 3) % ((A.length : Int) + 1), (decide (((ys.getD (((m : Int) + 2).toNat) 0) % 2) = 1))⟩) (y := .tuple #[.int .u64 x, .int .i64 z]) (by rw [hP, ← hxE, ← hzE])) ?_
      intro w63 g64
      replace hO := hO.grow g64
      replace RO := RO.grow g64
      replace hMw := Nat.le_trans hMw g64.size
      replace hc61 := g64.heap hc61
      replace G := G.tr g64
      clear g64
      refine stp (r_move (v := .tuple #[.int .u64 x, .int .i64 z]) rfl ?_)
      refine stp (r_extract (v := .int .u64 x) rfl rfl ?_)
      refine stp (r_extract (v := .int .i64 z) rfl rfl ?_)
      refine stp (r_assign_int rfl ?_)
      refine stp (r_assign_int rfl ?_)
      refine WL_nil ?_
      refine W_region rfl ?_
      refine stp (r_move_slice rfl ?_)
      refine stp (r_move_int rfl ?_)
      refine stp (r_indexN RO rfl rfl ?_ ?_); omega
      refine stp (r_loadR (v := .slice (sa s) (len2 A s) (sc s)) (m := 0) RO rfl (by rw [Nat.mul_one]; exact hss) ?_)
      refine stp (r_move_int rfl ?_)
      refine stp (r_move_int rfl ?_)
      refine WL_some (og rfl ?_)
      have hos9 := hO.seg s _ _ hss (List.getElem?_eq_getElem hsA)
      have hlen9 : len2 A s = A[s].length := by rw [len2, getD_at hsA]
      obtain ⟨g5, c5, cur5, he5, hg5b, hg5, hc51, hc52, hc53, hc54⟩ := own_pos hos9 (by omega)
      simp only [Value.slice.injEq] at he5
      obtain ⟨hsa, -, hsc⟩ := he5
      refine r_indexAddr (b := g5) (o := 0) (n := len2 A s) (c := sc s) (i := (j : Int)) (show _ = _ from congrArg (fun a_ => Value.slice a_ (len2 A s) (sc s)) hsa) rfl (by omega) (by omega) ?_
      rw [Int.toNat_natCast, Nat.zero_add, Nat.mul_one]
      refine stn (r_store1 (v := .int .u64 x) rfl rfl rfl hg5 (Nat.ble_eq_true_of_le (by omega)) rfl ?_)
      intro w7 hs6 u7
      rw [hsa, hlen9] at hss
      have hO7 := hO.setw (i := j) (x := x) (by decide) (List.getElem?_eq_getElem hsA) hss hg5 hs6 (by simp) u7
      replace G := G.upd u7 hg5b
      have hset : A.set s (A[s].set j x) = setP A s j x := by unfold setP; rw [getD_at hsA]
      rw [hset] at hO7
      refine WL_nil ?_
      refine W_region rfl ?_
      refine stp (r_move_int rfl ?_)
      refine stp (r_add rfl rfl ?_ ?_); constructor <;> omega
      refine stp (r_assign_int rfl ?_)
      refine WL_nil ?_
      have hln := setP_length A s j x
      rw [show (Value.slice ado A.length co) = .slice ado (setP A s j x).length co from by rw [hln]] at hO7
      refine ⟨_, ?_, m + 4, ado, co, segs, setP A s j x, rfl, fr_of ⟨rfl, rfl, congrArg (Value.int .i64) (by omega), by rw [hln]; rfl, trivial⟩, by omega, by rw [hxE]; exact .put hA hsA hjA hd2.1 hd2.2 hd3.1 hd3.2, hO7, G⟩
      omega
  ·-- false
   simp only [sb] at hlt
   refine W_exit ?_
   refine W_seq (W_region rfl ?_)
   refine stp (r_move_slice rfl ?_)
   refine stp (r_assign_slice rfl ?_)
   refine WL_nil ?_
   refine W_ret ?_
   refine ret1 (res_tmp (v := .slice ado A.length co) rfl) ⟨ado, co, segs, A, rfl, hO, by rw [hB] at hA; exact hA, G⟩

end Go.Proofs.Ytifhcfhdajkhlaa.K

namespace Go.Proofs.Ytifhcfhdajkhlaa.K
open Go Go.RowKit Go.Proofs
attribute [local irreducible] Run1 OpG WL W AO Gives
set_option maxRecDepth 100000 in
theorem pread_nil (w : World)  : Gives Try.prog 11 #[.pointer none, .agg #[.slice none 0 0, .int .i64 0]] w (.tuple #[.agg #[.int .i64 0, .int .i64 0, .int .i64 0, .int .i64 0, .int .u64 0], .int .u16 1]) := by
 have G := Grow.rfl' w
 refine gives_of Try.func11 Try.ntmps11 Try.results11 rfl rfl ?_
 refine W_seq (W_region rfl ?_)
 refine WL_some (og rfl ?_)
 (first | refine r_box_agg rfl ?_ | refine r_box_int rfl ?_ | refine r_box_slice rfl ?_ | refine r_box rfl rfl ?_)
 intro b1 w2 hb3 hc4 g5
 have hge6 := Nat.le_trans G.size hb3
 replace G := G.tr g5
 clear g5 hb3
 refine stp (r_alloc ?_)
 intro b7 w8 hb9 hc10 g11
 refine stp (r_assign_int rfl ?_)
 refine WL_nil ?_
 refine W_seq ?_
 refine W_seq (W_region rfl ?_)
 refine stp (r_move (v := .pointer none) rfl ?_)
 refine stp (r_eqlP Try.underlying31 rfl rfl ?_)
 refine WL_nil ?_
 have hge12 := Nat.le_trans G.size hb9
 have ne13 := Nat.ne_of_lt (Nat.lt_of_lt_of_le (lt_of_heap hc4) hb9)
 replace hc4 := g11.heap hc4
 replace G := G.tr g11
 clear g11 hb9
 refine W_true rfl ?_
 refine W_seq (W_region rfl ?_)
 refine stp (r_build (v := .agg #[.int .i64 0, .int .i64 0, .int .i64 0, .int .i64 0, .int .u64 0]) (fun w => by kernel_rfl) ?_)
 refine stn (r_storeAll rfl rfl hc10 (by rfl) (by rfl) (by rfl) ?_)
 intro w14 hc15 u16
 replace hc4 := u16.heap hc4 ne13
 replace G := G.upd u16 hge12
 clear u16 hc10
 refine stp (r_assign_int rfl ?_)
 refine WL_nil ?_
 refine W_ret ?_
 refine ret2 (res_all rfl hc15 (by rfl)) (res_tmp (v := .int .u16 1) rfl) ⟨?_, G⟩
 rfl

set_option maxRecDepth 100000 in
theorem pwhole_nil (w : World)  : Gives Try.prog 20 #[.pointer none] w (.tuple #[.slice none 0 0, .bool false]) := by
 have G := Grow.rfl' w
 refine gives_of Try.func20 Try.ntmps20 Try.results20 rfl rfl ?_
 refine W_seq (W_region rfl ?_)
 refine stp (r_assign_slice rfl ?_)
 refine stp (r_assign (v := .bool false) rfl ?_)
 refine WL_nil ?_
 refine W_seq ?_
 refine W_seq ?_
 refine W_any 16 [[], [0], [1, 0], [2, 1, 0], [3, 2, 1, 0], [4, 3, 2, 1, 0], [5, 4, 3, 2, 1, 0], [6, 5, 4, 3, 2, 1, 0], [7, 6, 5, 4, 3, 2, 1, 0], [8, 7, 6], [9, 8, 7, 0], [10, 9, 8, 1, 0], [11, 10, 9, 2, 1, 0], [12, 11, 10, 9, 8, 7, 6, 5, 4, 3, 2, 1, 0], [13, 12, 11, 10, 9, 8, 7, 6, 5, 4, 3, 2, 1, 0], [14, 13, 12, 11, 10, 9, 8, 7, 6, 5, 4, 3, 2, 1, 0]] mixed (by kernel_rfl) (by kernel_rfl) (by kernel_rfl) ?_
 intro w1 g2
 replace G := G.tr g2
 clear g2
 apply AO_ex
 ·intro w_ g_; refine og rfl ?_; refine r_move (v := .pointer none) rfl ?_; exact ⟨Grow.rfl' _, rfl⟩
 apply AO_ex
 ·intro w_ g_; refine og rfl ?_; refine r_eqlP Try.underlying31 rfl rfl ?_; exact ⟨Grow.rfl' _, rfl⟩
 apply AO_ex
 ·intro w_ g_; refine og rfl ?_; refine r_move (v := .bool true) rfl ?_; exact ⟨Grow.rfl' _, rfl⟩
 apply AO_ex
 ·intro w_ g_; refine og_no rfl ?_; exact ⟨Grow.rfl' _, rfl⟩
 apply AO_ex
 ·intro w_ g_; refine og_no rfl ?_; exact ⟨Grow.rfl' _, rfl⟩
 apply AO_ex
 ·intro w_ g_; refine og_no rfl ?_; exact ⟨Grow.rfl' _, rfl⟩
 apply AO_ex
 ·intro w_ g_; refine og_no rfl ?_; exact ⟨Grow.rfl' _, rfl⟩
 apply AO_ex
 ·intro w_ g_; refine og_no rfl ?_; exact ⟨Grow.rfl' _, rfl⟩
 apply AO_ex
 ·intro w_ g_; refine og_no rfl ?_; exact ⟨Grow.rfl' _, rfl⟩
 apply AO_ex
 ·intro w_ g_; refine og_no rfl ?_; exact ⟨Grow.rfl' _, rfl⟩
 apply AO_ex
 ·intro w_ g_; refine og_no rfl ?_; exact ⟨Grow.rfl' _, rfl⟩
 apply AO_ex
 ·intro w_ g_; refine og_no rfl ?_; exact ⟨Grow.rfl' _, rfl⟩
 apply AO_ex
 ·intro w_ g_; refine og_no rfl ?_; exact ⟨Grow.rfl' _, rfl⟩
 apply AO_ex
 ·intro w_ g_; refine og_no rfl ?_; exact ⟨Grow.rfl' _, rfl⟩
 apply AO_ex
 ·intro w_ g_; refine og_no rfl ?_; exact ⟨Grow.rfl' _, rfl⟩
 apply AO_ex
 ·intro w_ g_; refine og rfl ?_; refine r_pick_t (v := .bool true) rfl rfl rfl ?_; exact ⟨Grow.rfl' _, rfl⟩
 refine AO_nil ?_
 intro w3 g4
 replace G := G.tr g4
 clear g4
 refine WL_nil ?_
 refine W_true rfl ?_
 refine W_seq (W_region rfl ?_)
 refine stp (r_assign_slice rfl ?_)
 refine stp (r_assign (v := .bool false) rfl ?_)
 refine WL_nil ?_
 refine W_ret ?_
 refine ret2 (res_tmp (v := .slice none 0 0) rfl) (res_tmp (v := .bool false) rfl) ⟨?_, G⟩
 rfl

set_option maxRecDepth 100000 in
theorem pput_nil (w : World)  : Gives Try.prog 18 #[.pointer none, .int .i64 0, .slice none 0 0] w (.bool false) := by
 have G := Grow.rfl' w
 refine gives_of Try.func18 Try.ntmps18 Try.results18 rfl rfl ?_
 refine W_seq (W_region rfl ?_)
 refine stp (r_assign (v := .bool false) rfl ?_)
 refine WL_nil ?_
 refine W_seq ?_
 refine W_seq (W_region rfl ?_)
 refine stp (r_move (v := .pointer none) rfl ?_)
 refine stp (r_eqlP Try.underlying31 rfl rfl ?_)
 refine stp (r_move (v := .bool true) rfl ?_)
 refine WL_some (og_no rfl ?_)
 refine WL_some (og_no rfl ?_)
 refine stp (r_pick_t (v := .bool true) rfl rfl rfl ?_)
 refine stp (r_move (v := .bool true) rfl ?_)
 refine WL_some (og_no rfl ?_)
 refine WL_some (og_no rfl ?_)
 refine WL_some (og_no rfl ?_)
 refine WL_some (og_no rfl ?_)
 refine WL_some (og_no rfl ?_)
 refine WL_some (og_no rfl ?_)
 refine WL_some (og_no rfl ?_)
 refine stp (r_pick_t (v := .bool true) rfl rfl rfl ?_)
 refine stp (r_move (v := .bool true) rfl ?_)
 refine WL_some (og_no rfl ?_)
 refine WL_some (og_no rfl ?_)
 refine WL_some (og_no rfl ?_)
 refine WL_some (og_no rfl ?_)
 refine WL_some (og_no rfl ?_)
 refine WL_some (og_no rfl ?_)
 refine WL_some (og_no rfl ?_)
 refine WL_some (og_no rfl ?_)
 refine WL_some (og_no rfl ?_)
 refine stp (r_pick_t (v := .bool true) rfl rfl rfl ?_)
 refine WL_nil ?_
 refine W_true rfl ?_
 refine W_seq (W_region rfl ?_)
 refine stp (r_assign (v := .bool false) rfl ?_)
 refine WL_nil ?_
 refine W_ret ?_
 refine ret1 (res_tmp (v := .bool false) rfl) ⟨?_, G⟩
 rfl

set_option maxRecDepth 100000 in
theorem pknown_nil (w : World)  : Gives Try.prog 12 #[.pointer none] w (.slice none 0 0) := by
 have G := Grow.rfl' w
 refine gives_of Try.func12 Try.ntmps12 Try.results12 rfl rfl ?_
 refine W_seq (W_region rfl ?_)
 refine stp (r_assign_slice rfl ?_)
 refine WL_nil ?_
 refine W_seq ?_
 refine W_seq (W_region rfl ?_)
 refine stp (r_move (v := .pointer none) rfl ?_)
 refine stp (r_eqlP Try.underlying31 rfl rfl ?_)
 refine WL_nil ?_
 refine W_true rfl ?_
 refine W_seq (W_region rfl ?_)
 refine stp (r_assign_slice rfl ?_)
 refine WL_nil ?_
 refine W_ret ?_
 refine ret1 (res_tmp (v := .slice none 0 0) rfl) ⟨?_, G⟩
 rfl

set_option maxRecDepth 100000 in
theorem pbytes_nil (w : World)  : Gives Try.prog 24 #[.pointer none] w (.int .i64 0) := by
 have G := Grow.rfl' w
 refine gives_of Try.func24 Try.ntmps24 Try.results24 rfl rfl ?_
 refine W_seq (W_region rfl ?_)
 refine stp (r_assign_int rfl ?_)
 refine WL_nil ?_
 refine W_seq ?_
 refine W_seq (W_region rfl ?_)
 refine stp (r_move (v := .pointer none) rfl ?_)
 refine stp (r_eqlP Try.underlying31 rfl rfl ?_)
 refine WL_nil ?_
 refine W_true rfl ?_
 refine W_seq (W_region rfl ?_)
 refine stp (r_assign_int rfl ?_)
 refine WL_nil ?_
 refine W_ret ?_
 refine ret1 (res_tmp (v := .int .i64 0) rfl) ⟨?_, G⟩
 rfl

set_option maxRecDepth 100000 in
theorem sameints_calls (w : World) {ad ad2 : Option Addr} {c c2 : Nat} {xs ys : List Int} (R : RowAt w 1 ad xs.length (xs.map (.int .i64))) (R2 : RowAt w 1 ad2 ys.length (ys.map (.int .i64))) : Gives Try.prog 68 #[.slice ad xs.length c, .slice ad2 ys.length c2] w (.bool (decide (xs = ys))) := by
 have l1 := R.lim
 have l2 := R2.lim
 have G := Grow.rfl' w
 refine gives_of Try.func68 Try.ntmps68 Try.results68 rfl rfl ?_
 refine W_seq (W_region rfl ?_)
 refine stp (r_assign (v := .bool false) rfl ?_)
 refine WL_nil ?_
 refine W_seq ?_
 refine W_seq (W_region rfl ?_)
 refine stp (r_move_slice rfl ?_)
 refine stp (r_len rfl rfl rfl ?_)
 refine stp (r_move_slice rfl ?_)
 refine stp (r_len rfl rfl rfl ?_)
 refine stp (r_neq rfl rfl ?_)
 refine WL_nil ?_
 refine W_cond2 (b := (decide ((xs.length : Int) ≠ (ys.length : Int)))) rfl (fun h1 => ?_) (fun h1 => ?_)
 ·-- true
  replace h1 := of_decide_eq_true h1
  refine W_seq (W_region rfl ?_)
  refine stp (r_assign (v := .bool false) rfl ?_)
  refine WL_nil ?_
  refine W_ret ?_
  refine ret1 (res_tmp (v := .bool false) rfl) ⟨?_, G⟩
  congr 1; exact (decide_eq_false (fun he => h1 (by rw [he]))).symm
 ·-- false
  replace h1 := of_decide_eq_false h1
  have hl : xs.length = ys.length := by omega
  refine W_skip ?_
  refine W_seq ?_
  refine W_seq (W_region rfl ?_)
  refine stp (r_assign_int rfl ?_)
  refine WL_nil ?_
  refine W_block ?_
  refine W_loop (fun m_ e_ w_ => ∃ (k : Nat), m_ = xs.length - k ∧ Fr [(0, .slice ad xs.length c), (1, .slice ad2 ys.length c2), (5, .int .i64 (k : Int))] e_ ∧ (k ≤ xs.length) ∧ (∀ j, j < k → xs.getD j 0 = ys.getD j 0) ∧ Grow w w_) _ ⟨0, rfl, fr_of ⟨rfl, rfl, rfl, trivial⟩, by omega, fun j hj => by omega, G⟩ ?_
  clear G
  rintro m_ e_ w1 ⟨k, rfl, ⟨e2, rfl⟩, hk2, hk, G⟩
  refine W_seq ?_
  refine W_seq (W_region rfl ?_)
  refine stp (r_move_int rfl ?_)
  refine stp (r_move_slice rfl ?_)
  refine stp (r_len rfl rfl rfl ?_)
  refine stp (r_lss rfl rfl ?_)
  refine WL_nil ?_
  refine W_cond2 (b := (decide ((k : Int) < (xs.length : Int)))) rfl (fun hlt => ?_) (fun hlt => ?_)
  ·-- true
   replace hlt := of_decide_eq_true hlt
   have hk3 : k < ys.length := by omega
   refine W_skip ?_
   refine W_seq ?_
   refine W_block ?_
   refine W_seq ?_
   refine W_any 9 [[], [], [1, 0], [2, 1, 0], [], [], [1, 0], [2, 1, 0], [7, 6, 5, 4, 3, 2, 1, 0]] mixed (by kernel_rfl) (by kernel_rfl) (by kernel_rfl) ?_
   intro w3 g4
   replace G := G.tr g4
   clear g4
   apply AO_ex
   ·intro w_ g_; refine og rfl ?_; refine r_move_slice rfl ?_; exact ⟨Grow.rfl' _, rfl⟩
   apply AO_ex
   ·intro w_ g_; refine og rfl ?_; refine r_move_int rfl ?_; exact ⟨Grow.rfl' _, rfl⟩
   apply AO_ex
   ·intro w_ g_; refine og rfl ?_; refine r_indexN (R.grow (G.tr g_)) rfl rfl ?_ ?_; omega; exact ⟨Grow.rfl' _, rfl⟩
   apply AO_ex
   ·intro w_ g_; refine og rfl ?_; refine r_loadR (v := .int .i64 (xs.getD k 0)) (m := 0) (R.grow (G.tr g_)) rfl (map_get1 0 (by omega)) ?_; exact ⟨Grow.rfl' _, rfl⟩
   apply AO_ex
   ·intro w_ g_; refine og rfl ?_; refine r_move_slice rfl ?_; exact ⟨Grow.rfl' _, rfl⟩
   apply AO_ex
   ·intro w_ g_; refine og rfl ?_; refine r_move_int rfl ?_; exact ⟨Grow.rfl' _, rfl⟩
   apply AO_ex
   ·intro w_ g_; refine og rfl ?_; refine r_indexN (R2.grow (G.tr g_)) rfl rfl ?_ ?_; omega; exact ⟨Grow.rfl' _, rfl⟩
   apply AO_ex
   ·intro w_ g_; refine og rfl ?_; refine r_loadR (v := .int .i64 (ys.getD k 0)) (m := 0) (R2.grow (G.tr g_)) rfl (map_get1 0 (by omega)) ?_; exact ⟨Grow.rfl' _, rfl⟩
   apply AO_ex
   ·intro w_ g_; refine og rfl ?_; refine r_neq rfl rfl ?_; exact ⟨Grow.rfl' _, rfl⟩
   refine AO_nil ?_
   intro w5 g6
   replace G := G.tr g6
   clear g6
   refine WL_nil ?_
   refine W_cond2 (b := (decide ((xs.getD k 0) ≠ (ys.getD k 0)))) rfl (fun h3 => ?_) (fun h3 => ?_)
   ·-- true
    replace h3 := of_decide_eq_true h3
    refine W_seq (W_region rfl ?_)
    refine stp (r_assign (v := .bool false) rfl ?_)
    refine WL_nil ?_
    refine W_ret ?_
    refine ret1 (res_tmp (v := .bool false) rfl) ⟨?_, G⟩
    congr 1; exact (decide_eq_false (fun he => h3 (by rw [he]))).symm
   ·-- false
    replace h3 := of_decide_eq_false h3
    refine W_skip ?_
    refine W_region rfl ?_
    refine stp (r_move_int rfl ?_)
    refine stp (r_add rfl rfl ?_ ?_); constructor <;> omega
    refine stp (r_assign_int rfl ?_)
    refine WL_nil ?_
    refine ⟨_, ?_, k + 1, rfl, fr_of ⟨rfl, rfl, rfl, trivial⟩, by omega, fun j hj => by rcases Nat.lt_succ_iff_lt_or_eq.1 hj with h_ | h_; exact hk j h_; subst h_; omega, G⟩
    omega
  ·-- false
   replace hlt := of_decide_eq_false hlt
   have hk3 : k = xs.length := by omega
   refine W_exit ?_
   refine W_seq (W_region rfl ?_)
   refine stp (r_assign (v := .bool true) rfl ?_)
   refine WL_nil ?_
   refine W_ret ?_
   refine ret1 (res_tmp (v := .bool true) rfl) ⟨?_, G⟩
   congr 1; exact (decide_eq_true (lists_eq hl (fun j hj => hk j (by omega)))).symm

set_option maxRecDepth 100000 in
theorem rmsame_calls (w : World) {ses sum : Int} {ad ad2 : Option Addr} {c c2 : Nat} {sz : List Int} (R : RowAt w 1 ad sz.length (sz.map (.int .i64))) (R2 : RowAt w 1 ad2 sz.length (sz.map (.int .i64))) : Gives Try.prog 50 #[.agg #[.int .u64 ses, .slice ad sz.length c, .int .u32 sum], .agg #[.int .u64 ses, .slice ad2 sz.length c2, .int .u32 sum]] w (.bool true) := by
 have G := Grow.rfl' w
 refine gives_of Try.func50 Try.ntmps50 Try.results50 rfl rfl ?_
 refine W_seq (W_region rfl ?_)
 refine WL_some (og rfl ?_)
 (first | refine r_box_agg rfl ?_ | refine r_box_int rfl ?_ | refine r_box_slice rfl ?_ | refine r_box rfl rfl ?_)
 intro b1 w2 hb3 hc4 g5
 have hge6 := Nat.le_trans G.size hb3
 replace G := G.tr g5
 clear g5 hb3
 refine WL_some (og rfl ?_)
 (first | refine r_box_agg rfl ?_ | refine r_box_int rfl ?_ | refine r_box_slice rfl ?_ | refine r_box rfl rfl ?_)
 intro b7 w8 hb9 hc10 g11
 have hge12 := Nat.le_trans G.size hb9
 replace hc4 := g11.heap hc4
 replace G := G.tr g11
 clear g11 hb9
 refine stp (r_assign (v := .bool false) rfl ?_)
 refine WL_nil ?_
 refine W_seq (W_region rfl ?_)
 refine stp (r_fieldAddr rfl ?_)
 refine stp (r_load (v := .int .u64 ses) rfl hc4 rfl ?_)
 refine stp (r_fieldAddr rfl ?_)
 refine stp (r_load (v := .int .u64 ses) rfl hc10 rfl ?_)
 refine stp (r_eql_t rfl rfl (rfl) ?_)
 refine stp (r_move (v := .bool true) rfl ?_)
 refine stp (r_fieldAddr rfl ?_)
 refine stp (r_load (v := .int .u32 sum) rfl hc4 rfl ?_)
 refine stp (r_fieldAddr rfl ?_)
 refine stp (r_load (v := .int .u32 sum) rfl hc10 rfl ?_)
 refine stp (r_eql_t rfl rfl (rfl) ?_)
 refine stp (r_pick_t (v := .bool true) rfl rfl rfl ?_)
 refine stp (r_move (v := .bool true) rfl ?_)
 refine stp (r_fieldAddr rfl ?_)
 refine stp (r_load (v := .slice ad sz.length c) rfl hc4 rfl ?_)
 refine stp (r_fieldAddr rfl ?_)
 refine stp (r_load (v := .slice ad2 sz.length c2) rfl hc10 rfl ?_)
 refine stp (r_gives (v := .bool true) rfl (gives_eq (sameints_calls _ (R.grow G) (R2.grow G)) (y := .bool true) (by rw [decide_eq_true rfl])) ?_)
 intro w13 g14
 replace hc4 := g14.heap hc4
 replace hc10 := g14.heap hc10
 replace G := G.tr g14
 clear g14
 refine stp (r_pick_t (v := .bool true) rfl rfl rfl ?_)
 refine stp (r_assign (v := .bool true) rfl ?_)
 refine WL_nil ?_
 refine W_ret ?_
 refine ret1 (res_tmp (v := .bool true) rfl) ⟨?_, G⟩
 rfl

set_option maxRecDepth 100000 in
theorem rmatches_calls (w : World) {u : Value} {A : List (List Int)} (hA : ArenaR w u A) (hr : rightB A = true) (hx : AllU A) {ad : Option Addr} {c : Nat} (R : RowAt w 1 ad (sizesP A).length ((sizesP A).map (.int .i64))) : Gives Try.prog 23 #[.agg #[.int .u64 9, .slice ad ((sizesP A).length) c, .int .u32 (sumA 9 A)], u] w (.bool true) := by
 have hA0 := hA
 obtain ⟨r1, r2, r3, r4⟩ := of_decide_eq_true hr
 have G := Grow.rfl' w
 refine gives_of Try.func23 Try.ntmps23 Try.results23 rfl rfl ?_
 refine W_seq (W_region rfl ?_)
 refine WL_some (og rfl ?_)
 (first | refine r_box_agg rfl ?_ | refine r_box_int rfl ?_ | refine r_box_slice rfl ?_ | refine r_box rfl rfl ?_)
 intro b1 w2 hb3 hc4 g5
 have hge6 := Nat.le_trans G.size hb3
 replace G := G.tr g5
 clear g5 hb3
 refine stp (r_assign (v := .bool false) rfl ?_)
 refine WL_nil ?_
 refine W_seq (W_region rfl ?_)
 refine stp (r_fieldAddr rfl ?_)
 refine stp (r_load (v := .int .u64 9) rfl hc4 rfl ?_)
 refine stp (r_move (v := u) rfl ?_)
 refine WL_some (og rfl ?_)
 have hGo := G.size
 have hszl := (sizesP_len A).symm
 refine r_call rfl (rof_calls _ (hA0.grow G) hr hx (ses := 9) (by decide) (by decide)) ?_
 rintro v_ w7 ⟨adz, cz, hv_, hcz, oS_, g_⟩
 have oS := own_base oS_ hGo
 clear oS_
 replace hc4 := g_.heap hc4
 replace G := G.tr g_
 clear g_
 rw [hszl] at oS hcz
 rw [hszl] at hv_
 subst hv_
 refine stp (r_move (v := .tuple #[.agg #[.int .u64 9, .slice adz ((sizesP A).length) cz, .int .u32 (sumA 9 A)], .int .i64 0]) rfl ?_)
 refine stp (r_extract (v := .agg #[.int .u64 9, .slice adz ((sizesP A).length) cz, .int .u32 (sumA 9 A)]) rfl rfl ?_)
 refine stp (r_extract (v := .int .i64 0) rfl rfl ?_)
 refine stp (r_alloc ?_)
 intro b8 w9 hb10 hc11 g12
 refine stn (r_storeAll rfl rfl hc11 (by rfl) (by rfl) (by rfl) ?_)
 intro w13 hc14 u15
 have g16 := g12.upd u15 hb10
 have hge17 := Nat.le_trans G.size hb10
 have ne18 := Nat.ne_of_lt (Nat.lt_of_lt_of_le (lt_of_heap hc4) hb10)
 replace hc4 := g16.heap hc4
 replace oS := own_grow oS g16
 replace G := G.tr g16
 clear u15 g12 hb10 hc11
 refine stp (r_assign_int rfl ?_)
 refine WL_nil ?_
 refine W_seq (W_region rfl ?_)
 refine stp (r_move_int rfl ?_)
 refine stp (r_eql_t rfl rfl (by decide) ?_)
 refine stp (r_move (v := .bool true) rfl ?_)
 refine stp (r_loadAll rfl hc4 (by rfl) ?_)
 refine stp (r_loadAll rfl hc14 (by rfl) ?_)
 refine stp (r_gives (v := .bool true) rfl ((by obtain ⟨_, _, hs9, -, -, RS⟩ := own_row oS (by rw [sizesP_len]; omega); cases hs9; exact rmsame_calls _ (R.grow G) RS)) ?_)
 intro w19 g20
 replace hc4 := g20.heap hc4
 replace oS := own_grow oS g20
 replace hc14 := g20.heap hc14
 replace G := G.tr g20
 clear g20
 refine stp (r_pick_t (v := .bool true) rfl rfl rfl ?_)
 refine stp (r_assign (v := .bool true) rfl ?_)
 refine WL_nil ?_
 refine W_ret ?_
 refine ret1 (res_tmp (v := .bool true) rfl) ⟨?_, G⟩
 rfl
end Go.Proofs.Ytifhcfhdajkhlaa.K

namespace Go.Proofs.Ytifhcfhdajkhlaa.K
open Go Go.RowKit Go.Proofs
attribute [local irreducible] Run1 OpG WL W AO Gives
set_option maxRecDepth 100000 in
theorem PartSpoil_calls (w : World) {ad0 : Option Addr} {c0 : Nat} {xs0 : List Int} (R0 : RowAt w 1 ad0 xs0.length (xs0.map (.int .u8))) (hx0 : isU8 xs0) (hc0 : xs0.length ≤ c0) (hm0 : c0 ≤ maxLen) {k ii : Int} (k0 : 0 ≤ k) (k1 : k ≤ 255) (i0 : 0 ≤ ii) (i1 : ii ≤ 255) : Gives Try.prog 6 #[.slice ad0 xs0.length c0, .int .u8 k, .int .u8 ii] w (.bool true) := by
 have lR := R0.lim
 have G := Grow.rfl' w
 refine gives_of Try.func6 Try.ntmps6 Try.results6 rfl rfl ?_
 refine W_seq (W_region rfl ?_)
 refine stp (r_assign (v := .bool false) rfl ?_)
 refine WL_nil ?_
 refine W_seq ?_
 refine W_seq (W_region rfl ?_)
 refine stp (r_move_slice rfl ?_)
 refine stp (r_len rfl rfl rfl ?_)
 refine stp (r_gtr rfl rfl ?_)
 refine WL_nil ?_
 refine W_cond2 (b := (decide ((xs0.length : Int) > 100))) rfl (fun h1 => ?_) (fun h1 => ?_)
 ·-- true
  replace h1 := of_decide_eq_true h1
  refine W_seq (W_region rfl ?_)
  refine stp (r_gives (v := .bool true) rfl (known16_calls _) ?_)
  intro w1 g2
  replace G := G.tr g2
  clear g2
  refine stp (r_assign (v := .bool true) rfl ?_)
  refine WL_nil ?_
  refine W_ret ?_
  refine ret1 (res_tmp (v := .bool true) rfl) ⟨?_, G⟩
  rfl
 ·-- false
  replace h1 := of_decide_eq_false h1
  refine W_skip ?_
  refine W_seq (W_region rfl ?_)
  refine stp (r_move_slice rfl ?_)
  refine stp (r_move_int rfl ?_)
  refine WL_some (og rfl ?_)
  refine r_call rfl (bent_calls _ (R0.grow G) hx0 hc0 hm0 (by omega) (ys := []) (RowAt.empty _ _ _) (by simp) k0 k1) ?_
  rintro v_ w3 ⟨adA, cA, sgA, A, rfl, hO, hB, g_⟩
  replace G := G.tr g_
  clear g_
  obtain ⟨hr, hx, -, -, h1A, h16A, hsA⟩ := Bent1.ok hB hx0 (by omega)
  have zhA := hO.arena (by omega) hsA
  clear hO
  have GA := Grow.rfl' w3
  have hwA := G.size
  obtain ⟨hw1, hch1⟩ := words_arena hr
  have hfit : fitsL (sizesP A) = true := by rw [fits_right]; exact hr
  have hrz : ∀ x ∈ sizesP A, inR .i64 x := fits_rng hfit
  have hle := wordsM_le (sizesP A)
  have hch : chunksM (sizesP A) = (wordsM (sizesP A) + 7) / 8 := rfl
  refine stp (r_assign_slice rfl ?_)
  refine WL_nil ?_
  refine W_seq (W_region rfl ?_)
  refine stp (r_move_slice rfl ?_)
  refine WL_some (og rfl ?_)
  have hGo := GA.size
  have hszl := (sizesP_len A).symm
  refine r_call rfl (rof_calls _ (zhA.grow GA) hr hx (ses := 9) (by decide) (by decide)) ?_
  rintro v_ w4 ⟨adz, cz, hv_, hcz, oS_, g_⟩
  have oS := own_base oS_ hGo
  clear oS_
  replace GA := GA.tr g_
  replace G := G.tr g_
  clear g_
  rw [hszl] at oS hcz
  rw [hszl] at hv_
  subst hv_
  refine stp (r_move (v := .tuple #[.agg #[.int .u64 9, .slice adz ((sizesP A).length) cz, .int .u32 (sumA 9 A)], .int .i64 0]) rfl ?_)
  refine stp (r_extract (v := .agg #[.int .u64 9, .slice adz ((sizesP A).length) cz, .int .u32 (sumA 9 A)]) rfl rfl ?_)
  refine stp (r_extract (v := .int .i64 0) rfl rfl ?_)
  refine stp (r_alloc ?_)
  intro b5 w6 hb7 hc8 g9
  refine stn (r_storeAll rfl rfl hc8 (by rfl) (by rfl) (by rfl) ?_)
  intro w10 hc11 u12
  have g13 := g9.upd u12 hb7
  have hge14 := Nat.le_trans G.size hb7
  replace GA := GA.tr g13
  replace oS := own_grow oS g13
  replace G := G.tr g13
  clear u12 g9 hb7 hc8
  refine stp (r_assign_int rfl ?_)
  refine WL_nil ?_
  refine W_seq (W_region rfl ?_)
  refine stp (r_loadAll rfl hc11 (by rfl) ?_)
  refine WL_some (og rfl ?_)
  have oS0 := oS
  have hGA0 := GA.size
  obtain ⟨_, _, hs9, hcs, hcs2, RS⟩ := own_row oS (by rw [sizesP_len]; omega)
  cases hs9
  have hM := G.size
  refine r_call rfl (pnew_calls _ RS hcs hcs2 hfit (ses := 9) (sum := sumA 9 A)) ?_
  rintro v_ w15 ⟨b, g, h, rfl, HP, g_⟩
  have GM := g_
  have hB0 := hc11
  have RS0 := RS
  replace GA := GA.tr g_
  replace oS := own_grow oS g_
  replace G := G.tr g_
  clear g_
  have hIz := InvA.zero hr
  refine stp (r_move (v := .tuple #[.pointer (some ⟨b, 0, none⟩), .int .u16 0]) rfl ?_)
  refine stp (r_extract (v := .pointer (some ⟨b, 0, none⟩)) rfl rfl ?_)
  refine stp (r_extract (v := .int .u16 0) rfl rfl ?_)
  refine stp (r_assign (v := .pointer (some ⟨b, 0, none⟩)) rfl ?_)
  refine stp (r_assign_int rfl ?_)
  refine WL_nil ?_
  refine W_seq (W_region rfl ?_)
  refine stp (r_loadAll rfl (GM.heap hB0) (by rfl) ?_)
  refine stp (r_gives (v := .int .i64 (chunksM (sizesP A) : Int)) rfl (rmchunks_calls _ (RS0.grow GM) hrz) ?_)
  intro w16 g17
  replace GA := GA.tr g17
  replace oS := own_grow oS g17
  replace GM := GM.tr g17
  replace HP := HP.grow g17
  replace G := G.tr g17
  clear g17
  refine stp (r_assign_int rfl ?_)
  refine WL_nil ?_
  obtain ⟨q, hq⟩ : ∃ q : Nat, (q : Int) = ii % (chunksM (sizesP A) : Int) := ⟨(ii % (chunksM (sizesP A) : Int)).toNat, by have := Int.emod_nonneg ii (show (chunksM (sizesP A) : Int) ≠ 0 by omega); omega⟩
  have hql : q < chunksM (sizesP A) := by have := Int.emod_lt_of_pos ii (show 0 < (chunksM (sizesP A) : Int) by omega); omega
  obtain ⟨hcl, hok⟩ := size_chunk hr hql
  have hcp : 0 < (chunkA A q).length := by have := (put_fits hok).2.2.2.1; omega
  have hc64 : (chunkA A q).length ≤ 64 := (put_fits hok).2.2.2.2
  refine W_seq (W_region rfl ?_)
  refine stp (r_move_slice rfl ?_)
  refine stp (r_move_int rfl ?_)
  refine stp (r_conv rfl ?_ ?_); constructor <;> omega
  refine stp (r_move_int rfl ?_)
  refine WL_some (og rfl ?_)
  refine r_rem rfl rfl ?_ ?_ ?_; omega; omega
  rw [← hq]
  refine WL_some (og rfl ?_)
  have hGM0 := GM.size
  have hbz := HP.bases
  obtain ⟨_, hhw⟩ := HP.known
  have hhl := lt_of_heap hhw
  obtain ⟨-, -, -, -, -, -, _, _, _, _, hBb, -⟩ := id HP
  have hbl := lt_of_heap hBb
  clear hhw hBb
  obtain ⟨_, hgw_HP⟩ := HP.words
  have hgl_HP := lt_of_heap hgw_HP
  clear hgw_HP
  refine r_call rfl (rchunk_calls _ (zhA.grow GA) hr hx (i := q) (by omega)) ?_
  rintro v_ w18 ⟨ad9, c9, rfl, hc9, hcm9, R9, hfr9, g_⟩
  replace GA := GA.tr g_
  replace oS := own_grow oS g_
  replace GM := GM.tr g_
  replace HP := HP.grow g_
  replace G := G.tr g_
  clear g_
  obtain ⟨gc, qc, cs9, he9, hgc9, hgcB, hgcs⟩ := hfr9 hcp
  subst he9
  have hgclt := lt_of_heap hgcB
  refine stp (r_assign_slice rfl ?_)
  refine WL_nil ?_
  refine W_seq (W_region rfl ?_)
  refine stp (r_move (v := .pointer (some ⟨b, 0, none⟩)) rfl ?_)
  refine stp (r_move_int rfl ?_)
  refine stp (r_conv rfl ?_ ?_); constructor <;> omega
  refine stp (r_move_int rfl ?_)
  refine WL_some (og rfl ?_)
  refine r_rem rfl rfl ?_ ?_ ?_; omega; omega
  rw [← hq]
  refine stp (r_move_slice rfl ?_)
  refine WL_some (og rfl ?_)
  have hgclt := lt_of_heap hgcB
  have hdis : 0 < (chunkA A q).length → ∀ q_ o_, some (Addr.mk gc qc none) = some ⟨q_, o_, none⟩ → q_ ≠ g := fun _ q_ o_ he_ => by simp only [Option.some.injEq, Addr.mk.injEq] at he_; omega
  refine r_call rfl (pput_calls _ HP (xs := chunkA A q) R9 (chunkA_isB A q) hc9 hdis (i := (q : Int)) (by simp only [inR]; omega)) ?_
  rintro v_ w19 ⟨h2, rfl, HP2, K2, hh2⟩
  have hbg2 := HP.bases
  replace G := G.trK K2 (fun x_ hx_ => by simp only [List.mem_cons, List.not_mem_nil, or_false] at hx_; omega)
  replace GA := GA.trK K2 (fun x_ hx_ => by simp only [List.mem_cons, List.not_mem_nil, or_false] at hx_; omega)
  replace GM := GM.trK K2 (fun x_ hx_ => by simp only [List.mem_cons, List.not_mem_nil, or_false] at hx_; omega)
  replace R9 := R9.keepB K2 (fun a_ ha_ hm_ => by simp only [Option.some.injEq] at ha_; subst ha_; simp only [List.mem_cons, List.not_mem_nil, or_false] at hm_; omega)
  replace hgcB := K2.heap hgcB (fun hm_ => by simp only [List.mem_cons, List.not_mem_nil, or_false] at hm_; omega)
  clear K2
  obtain ⟨hI, -⟩ := hIz.put hr hx hql
  rw [hok]
  clear HP
  generalize putW (sizesP A) (List.replicate (wordsM (sizesP A)) 0) (List.replicate ((chunksM (sizesP A) + 7) / 8) 0) (q : Int) (chunkA A q) = wl at HP2 hI
  generalize putK (sizesP A) (List.replicate ((chunksM (sizesP A) + 7) / 8) 0) (q : Int) (chunkA A q).length = kb at HP2 hI
  have HP := HP2
  clear HP2
  have hgh : gc ≠ b ∧ gc ≠ g ∧ gc ≠ h2 := by omega
  refine stp (r_assign (v := .bool true) rfl ?_)
  refine WL_nil ?_
  refine W_seq ?_
  refine W_seq (W_region rfl ?_)
  refine stp (r_assign_int rfl ?_)
  refine WL_nil ?_
  refine W_block ?_
  refine W_loop (fun m_ e_ w_ => ∃ (j : Nat) (ys : List Int), m_ = (chunkA A q).length - j ∧ Fr [(6, .bool false), (7, .slice adA A.length cA), (8, .pointer (some ⟨b5, 0, none⟩)), (10, .pointer (some ⟨b, 0, none⟩)), (11, .int .u16 0), (12, .int .i64 (chunksM (sizesP A) : Int)), (13, .slice (some ⟨gc, qc, none⟩) ((chunkA A q).length) c9), (14, .bool true), (15, .int .i64 (j : Int))] e_ ∧ (j ≤ (chunkA A q).length) ∧ (ys.length = (chunkA A q).length) ∧ (RowAt w_ 1 (some ⟨gc, qc, none⟩) (chunkA A q).length (ys.map (.int .u8))) ∧ (∃ cs, w_.heap[gc]? = some (.cells cs 5 (0, 0)) ∧ qc + (chunkA A q).length ≤ cs.size) ∧ (Grow w3 w_) ∧ (Grow w10 w_) ∧ (PartR 80 3 33 5 w_ w10.heap.size b g h2 9 (sumA 9 A) (sizesP A) wl kb) ∧ Grow w w_) _ ⟨0, _, rfl, fr_of ⟨rfl, rfl, rfl, rfl, rfl, rfl, rfl, rfl, rfl, trivial⟩, by omega, rfl, R9, ⟨_, hgcB, hgcs⟩, GA, GM, HP, G⟩ ?_
  clear GA GM R9 hgcB HP
  clear G
  rintro m_ e_ w20 ⟨j, ys, rfl, ⟨e21, rfl⟩, hj9, hyl, R9, hgcB, GA, GM, HP, G⟩
  refine W_seq ?_
  refine W_seq (W_region rfl ?_)
  refine stp (r_move_int rfl ?_)
  refine stp (r_move_slice rfl ?_)
  refine stp (r_len rfl rfl rfl ?_)
  refine stp (r_lss rfl rfl ?_)
  refine WL_nil ?_
  refine W_cond2 (b := (decide ((j : Int) < ((chunkA A q).length : Int)))) rfl (fun hlt => ?_) (fun hlt => ?_)
  ·-- true
   replace hlt := of_decide_eq_true hlt
   have hj : j < (chunkA A q).length := by omega
   refine W_skip ?_
   refine W_seq ?_
   refine W_block ?_
   refine W_region rfl ?_
   refine stp (r_move_slice rfl ?_)
   refine stp (r_move_int rfl ?_)
   refine stp (r_indexN R9 rfl rfl ?_ ?_); omega
   refine stp (r_loadR (v := .int .u8 (ys.getD j 0)) (m := 0) R9 rfl (map_get1 0 (by omega)) ?_)
   refine stp (r_addw rfl rfl ?_)
   refine WL_some (og rfl ?_)
   refine r_indexAddr (b := gc) (o := qc) rfl rfl (by omega) (by omega) ?_
   rw [show qc + ((j : Int)).toNat * 1 = qc + j from by omega]
   refine WL_none (og rfl ?_)
   obtain ⟨cs, hgcC, hgcs⟩ := hgcB
   refine r_store1 (v := .int .u8 (IntKind.u8.wrap (ys.getD j 0 + 1))) rfl rfl rfl hgcC (Nat.ble_eq_true_of_le (by omega)) rfl ?_
   intro w7 hs7 u7
   have R7 := R9.setB (j := j) (x := .int .u8 (IntKind.u8.wrap (ys.getD j 0 + 1))) hgcC hs7 (by simp)
   have HP7 := HP.keep (Kp.of_upd u7 (List.mem_singleton.2 rfl)) (fun x_ hx_ => by simp only [List.mem_singleton] at hx_; subst hx_; exact ⟨hgh.1, hgh.2.1, hgh.2.2, _, _, _, hgcC, by decide⟩)
   have GA7 := GA.upd u7 (by omega)
   have GM7 := GM.upd u7 (by omega)
   replace G := G.upd u7 (by omega)
   refine WL_nil ?_
   refine W_region rfl ?_
   refine stp (r_move_int rfl ?_)
   refine stp (r_add rfl rfl ?_ ?_); constructor <;> omega
   refine stp (r_assign_int rfl ?_)
   refine WL_nil ?_
   refine ⟨_, ?_, j + 1, ys.set j (IntKind.u8.wrap (ys.getD j 0 + 1)), rfl, fr_of ⟨rfl, rfl, rfl, rfl, rfl, rfl, rfl, rfl, congrArg (Value.int .i64) (by omega), trivial⟩, by omega, by rw [List.length_set]; exact hyl, (by rw [List.map_set]; exact R7), ⟨_, hs7, by simpa using hgcs⟩, GA7, GM7, HP7, G⟩
   omega
  ·-- false
   replace hlt := of_decide_eq_false hlt
   refine W_exit ?_
   clear R9 hgcB
   have oS1 := own_grow oS0 GM
   obtain ⟨gz, cz5, curz, hez, hgzb, hgz, -, -, hclz, hctz⟩ := own_pos oS1 (by rw [sizesP_len]; omega)
   simp only [Value.slice.injEq] at hez
   obtain ⟨rfl, -, rfl⟩ := hez
   have hgz0 := (oS0.lt gz rfl).2
   have hszl9 := sizesP_len A
   have hlk := hI.lk
   refine W_seq (W_region rfl ?_)
   refine stp (r_fieldAddr rfl ?_)
   refine stp (r_load (v := .slice (some ⟨gz, 0, none⟩) ((sizesP A).length) cz) rfl (GM.heap hB0) rfl ?_)
   refine WL_some (og rfl ?_)
   refine r_indexAddr (b := gz) (o := 0) (i := 0) rfl rfl (by omega) (by omega) ?_
   rw [show (0 : Nat) + (0 : Int).toNat * 1 = 0 from rfl]
   refine WL_none (og rfl ?_)
   have hsz0 := congrArg List.length hctz
   refine r_store1 (v := .int .i64 77) rfl rfl rfl hgz (Nat.ble_eq_true_of_le (by simp only [List.length_take, Array.length_toList, List.length_map] at hsz0; omega)) rfl ?_
   intro w7 hs7 u7
   have HP7 := HP.low (Kp.of_upd u7 (List.mem_singleton.2 rfl)) (fun x_ hx_ => by simp only [List.mem_singleton] at hx_; subst hx_; exact hgz0)
   have GA7 := GA.upd u7 hgzb
   replace G := G.upd u7 (by omega)
   clear HP GA GM
   have HP := HP7
   have GA := GA7
   clear HP7 GA7 hgz hs7 u7
   refine WL_nil ?_
   refine W_seq (W_region rfl ?_)
   refine stp (r_move (v := .pointer (some ⟨b, 0, none⟩)) rfl ?_)
   refine WL_some (og rfl ?_)
   have HP0 := HP
   have GA0 := GA
   have hGAs := GA.size
   have hGs := G.size
   refine r_call rfl (pknown_calls _ HP) ?_
   rintro v_ w22 ⟨qk, ck, rfl, hqk, hck, hckm, oK, g_⟩
   have GK := g_
   replace HP := HP.grow g_
   replace GA := GA.tr g_
   replace G := G.tr g_
   clear g_
   obtain ⟨_, _, hs9, -, -, RK⟩ := own_row oK (by omega)
   cases hs9
   refine stp (r_assign_slice rfl ?_)
   refine WL_nil ?_
   refine W_seq ?_
   refine W_seq (W_region rfl ?_)
   refine stp (r_move_slice rfl ?_)
   refine stp (r_len rfl rfl rfl ?_)
   refine stp (r_eql_f rfl rfl (by omega) ?_)
   refine WL_nil ?_
   refine W_false rfl ?_
   refine W_skip ?_
   refine W_seq (W_region rfl ?_)
   refine stp (r_move_slice rfl ?_)
   refine stp (r_indexR RK rfl rfl ?_ ?_ ?_); omega; omega
   refine stp (r_loadR (v := .int .u8 (kb.getD 0 0)) (m := 0) RK rfl (show _ from map_get1 (j := 0) 0 (by omega)) ?_)
   refine stp (r_xor rfl rfl ?_)
   refine WL_some (og rfl ?_)
   refine r_indexAddr (b := qk) (o := 0) (i := 0) rfl rfl (by omega) (by omega) ?_
   rw [show (0 : Nat) + (0 : Int).toNat * 1 = 0 from rfl]
   refine WL_none (og rfl ?_)
   obtain ⟨gk, ck5, curk, hek, hgkb, hgk, -, -, hclk, hctk⟩ := own_pos oK (by omega)
   simp only [Value.slice.injEq, Option.some.injEq, Addr.mk.injEq, and_true, true_and] at hek
   obtain ⟨rfl, rfl⟩ := hek
   have hsz0 := congrArg List.length hctk
   refine r_store1 (v := .int .u8 (bitop .xor .u8 (kb.getD 0 0) 255)) rfl rfl rfl hgk (Nat.ble_eq_true_of_le (by simp only [List.length_take, Array.length_toList, List.length_map] at hsz0; omega)) rfl ?_
   intro w7 hs7 u7
   have HP7 := HP0.grow (GK.upd u7 hqk)
   have GA7 := GA0.tr (GK.upd u7 hqk)
   replace G := G.upd u7 (by omega)
   clear HP GA
   have HP := HP7
   have GA := GA7
   clear HP7 GA7 HP0 GA0 GK oK RK hgk hs7 u7
   refine WL_nil ?_
   refine W_seq ?_
   refine W_seq (W_region rfl ?_)
   refine stp (r_assign_int rfl ?_)
   refine WL_nil ?_
   refine W_block ?_
   refine W_loop (fun m_ e_ w_ => ∃ (i : Nat) (h : Nat) (wl : List Int) (kb : List Int), m_ = chunksM (sizesP A) - i ∧ Fr [(6, .bool false), (7, .slice adA A.length cA), (10, .pointer (some ⟨b, 0, none⟩)), (11, .int .u16 0), (12, .int .i64 (chunksM (sizesP A) : Int)), (14, .bool true), (17, .int .i64 (i : Int))] e_ ∧ (i ≤ chunksM (sizesP A)) ∧ (InvA A wl kb) ∧ (∀ c, c < i → bitQ kb c = true) ∧ (Grow w3 w_) ∧ (PartR 80 3 33 5 w_ w10.heap.size b g h 9 (sumA 9 A) (sizesP A) wl kb) ∧ Grow w w_) _ ⟨0, _, _, _, rfl, fr_of ⟨rfl, rfl, rfl, rfl, rfl, rfl, rfl, trivial⟩, by omega, hI, fun c h_ => by omega, GA, HP, G⟩ ?_
   clear HP GA
   clear G
   rintro m_ e_ w23 ⟨i, h, wl, kb, rfl, ⟨e24, rfl⟩, hi, hIj, hbj, GA, HP, G⟩
   refine W_seq ?_
   refine W_seq (W_region rfl ?_)
   refine stp (r_move_int rfl ?_)
   refine stp (r_move_int rfl ?_)
   refine stp (r_lss rfl rfl ?_)
   refine WL_nil ?_
   refine W_cond2 (b := (decide ((i : Int) < (chunksM (sizesP A) : Int)))) rfl (fun hlt2 => ?_) (fun hlt2 => ?_)
   ·-- true
    replace hlt2 := of_decide_eq_true hlt2
    have hik : i < chunksM (sizesP A) := by omega
    obtain ⟨hclj, hokj⟩ := size_chunk hr hik
    have hcpj : 0 < (chunkA A i).length := by have := (put_fits hokj).2.2.2.1; omega
    obtain ⟨hIj2, hbj2⟩ := hIj.put hr hx hik
    refine W_skip ?_
    refine W_seq ?_
    refine W_block ?_
    refine W_region rfl ?_
    refine stp (r_move (v := .pointer (some ⟨b, 0, none⟩)) rfl ?_)
    refine stp (r_move_int rfl ?_)
    refine stp (r_move_slice rfl ?_)
    refine stp (r_move_int rfl ?_)
    refine WL_some (og rfl ?_)
    obtain ⟨_, hgw_HP⟩ := HP.words
    have hgl_HP := lt_of_heap hgw_HP
    clear hgw_HP
    refine r_call rfl (rchunk_calls _ (zhA.grow GA) hr hx (i := i) (by omega)) ?_
    rintro v_ w25 ⟨ad9, c9, rfl, hc9, hcm9, R9, hfr9, g_⟩
    replace GA := GA.tr g_
    replace HP := HP.grow g_
    replace G := G.tr g_
    clear g_
    refine WL_some (og rfl ?_)
    have hdis : 0 < (chunkA A i).length → ∀ q_ o_, ad9 = some ⟨q_, o_, none⟩ → q_ ≠ g := fun _ q_ o_ he_ => by obtain ⟨g_, q2_, cs_, he2_, hge_, -, -⟩ := hfr9 (by omega); rw [he2_] at he_; simp only [Option.some.injEq, Addr.mk.injEq] at he_; omega
    have hbs := HP.bases
    refine r_call rfl (pput_calls _ HP (xs := chunkA A i) R9 (chunkA_isB A i) hc9 hdis (i := (i : Int)) (by simp only [inR]; omega)) ?_
    rintro v_ w27 ⟨h2, rfl, HP2, K2, hh2⟩
    have hbg2 := HP.bases
    replace G := G.trK K2 (fun x_ hx_ => by simp only [List.mem_cons, List.not_mem_nil, or_false] at hx_; omega)
    replace GA := GA.trK K2 (fun x_ hx_ => by simp only [List.mem_cons, List.not_mem_nil, or_false] at hx_; omega)
    clear K2
    refine WL_nil ?_
    refine W_region rfl ?_
    refine stp (r_move_int rfl ?_)
    refine stp (r_add rfl rfl ?_ ?_); constructor <;> omega
    refine stp (r_assign_int rfl ?_)
    refine WL_nil ?_
    refine ⟨_, ?_, i + 1, _, _, _, rfl, fr_of ⟨rfl, rfl, rfl, rfl, rfl, rfl, congrArg (Value.int .i64) (by omega), trivial⟩, by omega, hIj2, bits_all hbj hbj2, GA, HP2, G⟩
    omega
   ·-- false
    replace hlt2 := of_decide_eq_false hlt2
    have hWp := hIj.whole hr (fun c hc_ => hbj c (by omega))
    refine W_exit ?_
    refine W_seq (W_region rfl ?_)
    refine stp (r_move (v := .pointer (some ⟨b, 0, none⟩)) rfl ?_)
    refine WL_some (og rfl ?_)
    refine r_call rfl (pwhole_calls _ HP) ?_
    rintro v_ w28 ⟨adw, nw, cw, rfl, hy, hn, g_⟩
    replace GA := GA.tr g_
    replace HP := HP.grow g_
    replace G := G.tr g_
    clear g_
    have hAw := hy hWp.2
    rw [hWp.1, cutW_flat] at hAw
    rw [hWp.2]
    refine stp (r_move (v := .tuple #[.slice adw nw cw, .bool true]) rfl ?_)
    refine stp (r_extract (v := .slice adw nw cw) rfl rfl ?_)
    refine stp (r_extract (v := .bool true) rfl rfl ?_)
    refine stp (r_assign_slice rfl ?_)
    refine stp (r_assign (v := .bool true) rfl ?_)
    refine WL_nil ?_
    refine W_seq (W_region rfl ?_)
    refine stp (r_move_slice rfl ?_)
    refine WL_some (og rfl ?_)
    have hGo2 := GA.size
    have hszl2 := (sizesP_len A).symm
    refine r_call rfl (rof_calls _ (zhA.grow GA) hr hx (ses := 9) (by decide) (by decide)) ?_
    rintro v_ w29 ⟨adz2, cz2, hv_, hcz2, oS_, g_⟩
    have oS2 := own_base oS_ hGo2
    clear oS_
    replace GA := GA.tr g_
    replace HP := HP.grow g_
    replace hAw := hAw.grow g_
    replace G := G.tr g_
    clear g_
    rw [hszl2] at oS2 hcz2
    rw [hszl2] at hv_
    subst hv_
    refine stp (r_move (v := .tuple #[.agg #[.int .u64 9, .slice adz2 ((sizesP A).length) cz2, .int .u32 (sumA 9 A)], .int .i64 0]) rfl ?_)
    refine stp (r_extract (v := .agg #[.int .u64 9, .slice adz2 ((sizesP A).length) cz2, .int .u32 (sumA 9 A)]) rfl rfl ?_)
    refine stp (r_extract (v := .int .i64 0) rfl rfl ?_)
    refine stp (r_alloc ?_)
    intro b30 w31 hb32 hc33 g34
    refine stn (r_storeAll rfl rfl hc33 (by rfl) (by rfl) (by rfl) ?_)
    intro w35 hc36 u37
    have g38 := g34.upd u37 hb32
    have hge39 := Nat.le_trans G.size hb32
    replace GA := GA.tr g38
    replace HP := HP.grow g38
    replace hAw := hAw.grow g38
    replace oS2 := own_grow oS2 g38
    replace G := G.tr g38
    clear u37 g34 hb32 hc33
    refine stp (r_assign_int rfl ?_)
    refine WL_nil ?_
    refine W_seq (W_region rfl ?_)
    refine stp (r_assign (v := .pointer none) rfl ?_)
    refine WL_nil ?_
    refine W_seq (W_region rfl ?_)
    refine stp (r_move (v := .pointer none) rfl ?_)
    refine stp (r_build (v := .agg #[.slice none 0 0, .int .i64 0]) (fun w => by kernel_rfl) ?_)
    refine stp (r_gives (v := .tuple #[.agg #[.int .i64 0, .int .i64 0, .int .i64 0, .int .i64 0, .int .u64 0], .int .u16 1]) rfl (pread_nil _) ?_)
    intro w40 g41
    replace GA := GA.tr g41
    replace HP := HP.grow g41
    replace hAw := hAw.grow g41
    replace oS2 := own_grow oS2 g41
    replace hc36 := g41.heap hc36
    replace G := G.tr g41
    clear g41
    refine stp (r_move (v := .tuple #[.agg #[.int .i64 0, .int .i64 0, .int .i64 0, .int .i64 0, .int .u64 0], .int .u16 1]) rfl ?_)
    refine stp (r_extract (v := .agg #[.int .i64 0, .int .i64 0, .int .i64 0, .int .i64 0, .int .u64 0]) rfl rfl ?_)
    refine stp (r_extract (v := .int .u16 1) rfl rfl ?_)
    refine stp (r_alloc ?_)
    intro b42 w43 hb44 hc45 g46
    refine stn (r_storeAll rfl rfl hc45 (by rfl) (by rfl) (by rfl) ?_)
    intro w47 hc48 u49
    have g50 := g46.upd u49 hb44
    have hge51 := Nat.le_trans G.size hb44
    have ne52 := Nat.ne_of_lt (Nat.lt_of_lt_of_le (lt_of_heap hc36) hb44)
    replace GA := GA.tr g50
    replace HP := HP.grow g50
    replace hAw := hAw.grow g50
    replace oS2 := own_grow oS2 g50
    replace hc36 := g50.heap hc36
    replace G := G.tr g50
    clear u49 g46 hb44 hc45
    refine stp (r_assign_int rfl ?_)
    refine WL_nil ?_
    refine W_seq (W_region rfl ?_)
    refine stp (r_move (v := .pointer none) rfl ?_)
    refine stp (r_gives (v := .tuple #[.slice none 0 0, .bool false]) rfl (pwhole_nil _) ?_)
    intro w53 g54
    replace GA := GA.tr g54
    replace HP := HP.grow g54
    replace hAw := hAw.grow g54
    replace oS2 := own_grow oS2 g54
    replace hc36 := g54.heap hc36
    replace hc48 := g54.heap hc48
    replace G := G.tr g54
    clear g54
    refine stp (r_move (v := .tuple #[.slice none 0 0, .bool false]) rfl ?_)
    refine stp (r_extract (v := .slice none 0 0) rfl rfl ?_)
    refine stp (r_extract (v := .bool false) rfl rfl ?_)
    refine stp (r_assign_slice rfl ?_)
    refine stp (r_assign (v := .bool false) rfl ?_)
    refine WL_nil ?_
    refine W_seq (W_region rfl ?_)
    refine stp (r_gives (v := .bool true) rfl (known16_calls _) ?_)
    intro w55 g56
    replace GA := GA.tr g56
    replace HP := HP.grow g56
    replace hAw := hAw.grow g56
    replace oS2 := own_grow oS2 g56
    replace hc36 := g56.heap hc36
    replace hc48 := g56.heap hc48
    replace G := G.tr g56
    clear g56
    refine stp (r_move (v := .bool true) rfl ?_)
    refine stp (r_move_int rfl ?_)
    refine stp (r_eql_t rfl rfl (by decide) ?_)
    refine stp (r_pick_t (v := .bool true) rfl rfl rfl ?_)
    refine stp (r_move (v := .bool true) rfl ?_)
    refine stp (r_move (v := .bool true) rfl ?_)
    refine stp (r_pick_t (v := .bool true) rfl rfl rfl ?_)
    refine stp (r_move (v := .bool true) rfl ?_)
    refine stp (r_move (v := .bool true) rfl ?_)
    refine stp (r_pick_t (v := .bool true) rfl rfl rfl ?_)
    refine stp (r_move (v := .bool true) rfl ?_)
    refine stp (r_loadAll rfl hc36 (by rfl) ?_)
    refine stp (r_move_slice rfl ?_)
    refine stp (r_gives (v := .bool true) rfl ((by obtain ⟨_, _, hs9, -, -, RS⟩ := own_row oS2 (by rw [sizesP_len]; omega); cases hs9; exact rmatches_calls _ hAw hr hx RS)) ?_)
    intro w57 g58
    replace GA := GA.tr g58
    replace HP := HP.grow g58
    replace hAw := hAw.grow g58
    replace oS2 := own_grow oS2 g58
    replace hc36 := g58.heap hc36
    replace hc48 := g58.heap hc48
    replace G := G.tr g58
    clear g58
    refine stp (r_pick_t (v := .bool true) rfl rfl rfl ?_)
    refine stp (r_move (v := .bool true) rfl ?_)
    refine stp (r_move_int rfl ?_)
    refine stp (r_eql_t rfl rfl (by decide) ?_)
    refine stp (r_pick_t (v := .bool true) rfl rfl rfl ?_)
    refine stp (r_move (v := .bool true) rfl ?_)
    refine stp (r_move (v := .bool false) rfl ?_)
    refine stp (r_not_t rfl rfl ?_)
    refine stp (r_pick_t (v := .bool true) rfl rfl rfl ?_)
    refine stp (r_move (v := .bool true) rfl ?_)
    refine stp (r_move (v := .pointer none) rfl ?_)
    refine stp (r_gives (v := .bool false) rfl (pput_nil _) ?_)
    intro w59 g60
    replace GA := GA.tr g60
    replace HP := HP.grow g60
    replace hAw := hAw.grow g60
    replace oS2 := own_grow oS2 g60
    replace hc36 := g60.heap hc36
    replace hc48 := g60.heap hc48
    replace G := G.tr g60
    clear g60
    refine stp (r_not_t rfl rfl ?_)
    refine stp (r_pick_t (v := .bool true) rfl rfl rfl ?_)
    refine stp (r_move (v := .bool true) rfl ?_)
    refine stp (r_move (v := .pointer none) rfl ?_)
    refine stp (r_gives (v := .slice none 0 0) rfl (pknown_nil _) ?_)
    intro w61 g62
    replace GA := GA.tr g62
    replace HP := HP.grow g62
    replace hAw := hAw.grow g62
    replace oS2 := own_grow oS2 g62
    replace hc36 := g62.heap hc36
    replace hc48 := g62.heap hc48
    replace G := G.tr g62
    clear g62
    refine stp (r_len rfl rfl rfl ?_)
    refine stp (r_eql_t rfl rfl (by decide) ?_)
    refine stp (r_pick_t (v := .bool true) rfl rfl rfl ?_)
    refine stp (r_move (v := .bool true) rfl ?_)
    refine stp (r_move (v := .pointer none) rfl ?_)
    refine stp (r_gives (v := .int .i64 0) rfl (pbytes_nil _) ?_)
    intro w63 g64
    replace GA := GA.tr g64
    replace HP := HP.grow g64
    replace hAw := hAw.grow g64
    replace oS2 := own_grow oS2 g64
    replace hc36 := g64.heap hc36
    replace hc48 := g64.heap hc48
    replace G := G.tr g64
    clear g64
    refine stp (r_eql_t rfl rfl (by decide) ?_)
    refine stp (r_pick_t (v := .bool true) rfl rfl rfl ?_)
    refine stp (r_assign (v := .bool true) rfl ?_)
    refine WL_nil ?_
    refine W_ret ?_
    refine ret1 (res_tmp (v := .bool true) rfl) ⟨?_, G⟩
    rfl
end Go.Proofs.Ytifhcfhdajkhlaa.K

namespace Go.Proofs.Ytifhcfhdajkhlaa.K
open Go Go.RowKit Go.ChangeShapes Go.WideShapes

section
variable {H : Type} {enc : TypeId × Value → H} {P : Program} {w : World}
/-- What is told of an argument, or of a part of it: it is read so, and is no greater than memory is. -/
structure Told (enc : TypeId × Value → H) (P : Program) (w : World) (fuel : Nat) (t : TypeId) (cs : List Value) : Prop where
  h : ∃ d p, DataW.trod enc P w 0 (fun _ => true) true fuel t cs = some (d, p) ∧ ∀ n ∈ d.weights P t, n ≤ reachBytes
theorem told_of {ts : List TypeId} {ds : List (DataW H)} {j : Nat} {t : TypeId} {d : DataW H} {v : Value} {p : List MemPlace} (h : DataW.Trod enc P w 0 (fun _ => true) true t v d p) (hz : (DataW.weightsEach P ts ds).all (· ≤ reachBytes) = true) (ht : ts[j]? = some t) (hd : ds[j]? = some d) : ∃ fuel, Told enc P w fuel t v.cells.toList := by
  obtain ⟨fuel, hf⟩ := h
  exact ⟨fuel, ⟨d, p, hf, fun n hn => by simpa using List.all_eq_true.1 hz n (DataW.weights_mem_each ht hd n hn)⟩⟩
theorem mapM_ex {α β : Type} {f : α → Option β} : ∀ {l : List α} {r : List β}, l.mapM f = some r → ∀ (i : Nat) (x : α), l[i]? = some x → ∃ y, f x = some y ∧ r[i]? = some y := by
  intro l r h i x hx
  have h1 := mapM_some_get h i x hx
  have hl := mapM_some_length h
  have hi : i < r.length := by rw [hl]; exact (List.getElem?_eq_some_iff.1 hx).1
  rw [List.getElem?_eq_getElem hi] at h1
  exact ⟨_, h1, List.getElem?_eq_getElem hi⟩
theorem weightsAll_mem {e : TypeId} : ∀ {ds : List (DataW H)} {i : Nat} {d : DataW H}, ds[i]? = some d → ∀ n ∈ d.weights P e, n ∈ DataW.weightsAll P e ds
  | [], i, d, h, _, _ => by simp at h
  | x :: ds, 0, d, h, n, hn => by
    simp only [List.getElem?_cons_zero, Option.some.injEq] at h
    subst h
    simp only [DataW.weightsAll, List.mem_append]; exact .inl hn
  | x :: ds, i + 1, d, h, n, hn => by
    simp only [DataW.weightsAll, List.mem_append]; exact .inr (weightsAll_mem (by simpa using h) n hn)
/-- A slice, opened: what it holds, and each element. -/
theorem told_slice {t e : TypeId} {sz by_ fuel : Nat} {cs : List Value} (ht : P.underlying t = some (.slice e)) (hc : P.cellsOf e = sz) (hsz : 0 < sz) (hby : P.bytesOf e = by_) (hby1 : 1 ≤ by_) (h : Told enc P w fuel t cs) :
    ∃ f ad n c xs, fuel = f + 1 ∧ cs = [.slice ad n c] ∧ n ≤ c ∧ c ≤ maxLen ∧ RowAt w sz ad n xs ∧ ∀ i, i < n → Told enc P w f e ((xs.drop (i * sz)).take sz) := by
  obtain ⟨d, p, hd, hw⟩ := h
  rcases DataW.trod_slice ht hd with ⟨rfl, hx⟩ | ⟨a, len, cap, elems, rest, n, rfl, rfl, hx, _, hl, hm, hlen, hel, _, _⟩
  · cases fuel with
    | zero => simp [DataW.trod] at hd
    | succ f => exact ⟨f, none, 0, 0, [], rfl, rfl, Nat.le_refl _, Nat.zero_le _, RowAt.empty _ _ _, fun i hi => by omega⟩
  · simp only [Prod.mk.injEq] at hx
    obtain ⟨rfl, _⟩ := hx
    have hwt : ∀ n ∈ DataW.weightsAll P e (elems.map (·.1)), n ≤ reachBytes := fun n hn => hw n (by simp only [DataW.weights, ht, List.mem_cons, List.mem_append]; exact .inr (.inl hn))
    have hlim : len * by_ ≤ reachBytes := by
      have := hw (((elems.map (·.1)).length + (rest.map (·.1)).length) * P.bytesOf e) (by simp only [DataW.weights, ht, List.mem_cons, true_or])
      rw [hby, List.length_map, hlen, List.length_map, Nat.add_mul] at this
      omega
    have hlen2 : len ≤ 140737488355328 := by
      have h1 : len * 1 ≤ len * by_ := Nat.mul_le_mul_left _ hby1
      have h2 : reachBytes ≤ 140737488355328 := by decide
      omega
    -- each element
    have each : ∀ i, i < len → ∃ ys x, w.cells? 0 (a.add (i * sz)) sz = some ys ∧ DataW.trod enc P w 0 (fun _ => true) true n e ys = some x ∧ elems[i]? = some x := by
      intro i hi
      have hh := hel i hi
      have hi2 : i < elems.length := by omega
      rw [List.getElem?_eq_getElem hi2, hc] at hh
      simp only [Option.bind_eq_some_iff] at hh
      obtain ⟨ys, h1, h2⟩ := hh
      exact ⟨ys, _, h1, h2, List.getElem?_eq_getElem hi2⟩
    rcases Nat.eq_zero_or_pos len with h0 | h0
    · subst h0
      exact ⟨n, some a, 0, cap, [], rfl, rfl, hl, hm, RowAt.empty _ _ _, fun i hi => by omega⟩
    · -- the block
      have cell : ∀ i j, i < len → j < sz → ∃ v, w.cell? ((a.add (i * sz)).add j) = some v := by
        intro i j hi hj
        obtain ⟨ys, x, h1, _, _⟩ := each i hi
        unfold World.cells? at h1
        rw [if_pos (Nat.zero_le _)] at h1
        obtain ⟨y, hy, _⟩ := mapM_ex h1 j j (by simp [hj])
        exact ⟨y, hy⟩
      obtain ⟨blk, off, spot⟩ := a
      obtain ⟨v0, hv0⟩ := cell 0 0 h0 hsz
      have hadd0 : ((⟨blk, off, spot⟩ : Addr).add (0 * sz)).add 0 = ⟨blk, off, spot⟩ := by simp [Addr.add]
      rw [hadd0] at hv0
      unfold World.cell? at hv0
      cases hb : w.heap[blk]? with
      | none => rw [hb] at hv0; cases hv0
      | some o =>
        rw [hb] at hv0
        cases o with
        | cells c T fr =>
          simp only at hv0
          have hspot : spot = none := by
            cases spot with
            | none => rfl
            | some _ => simp at hv0
          subst hspot
          have hcell : ∀ k, k < len * sz → ∃ v, c[off + k]? = some v := by
            intro k hk
            have hdm := Nat.div_add_mod k sz
            have h1 : k / sz < len := (Nat.div_lt_iff_lt_mul hsz).2 hk
            obtain ⟨v, hv⟩ := cell (k / sz) (k % sz) h1 (Nat.mod_lt _ hsz)
            rw [add_lit, add_lit, cell_of_row w blk _ c T fr hb] at hv
            refine ⟨v, ?_⟩
            have : off + k / sz * sz + k % sz = off + k := by rw [Nat.mul_comm]; omega
            rwa [this] at hv
          have hsize : off + len * sz ≤ c.size := by
            have hp : 0 < len * sz := Nat.mul_pos h0 hsz
            obtain ⟨v, hv⟩ := hcell (len * sz - 1) (by omega)
            have := (Array.getElem?_eq_some_iff.1 hv).1
            omega
          refine ⟨n, some ⟨blk, off, none⟩, len, cap, (c.toList.drop off).take (len * sz), rfl, rfl, hl, hm, ⟨by rw [List.length_take, List.length_drop, Array.length_toList]; omega, hlen2, fun _ => ⟨blk, off, c, T, fr, rfl, hb, rfl⟩⟩, fun i hi => ?_⟩
          obtain ⟨ys, x, h1, h2, h3⟩ := each i hi
          have hys : ys = (((c.toList.drop off).take (len * sz)).drop (i * sz)).take sz := by
            unfold World.cells? at h1
            rw [if_pos (Nat.zero_le _)] at h1
            have hl2 := mapM_some_length h1
            simp only [List.length_range] at hl2
            have hle : (i + 1) * sz ≤ len * sz := Nat.mul_le_mul_right _ hi
            rw [Nat.add_mul, Nat.one_mul] at hle
            apply List.ext_getElem?
            intro j
            by_cases hj : j < sz
            · obtain ⟨y, hy, hy2⟩ := mapM_ex h1 j j (by simp [hj])
              rw [add_lit, add_lit, cell_of_row w blk _ c T fr hb] at hy
              rw [hy2, List.getElem?_take, if_pos hj, List.getElem?_drop, List.getElem?_take, if_pos (by omega), List.getElem?_drop, Array.getElem?_toList, ← Nat.add_assoc, hy]
            · rw [List.getElem?_eq_none (by omega), List.getElem?_eq_none (by rw [List.length_take]; omega)]
          rw [← hys]
          exact ⟨⟨x.1, x.2, h2, fun m hm_ => hwt m (weightsAll_mem (i := i) (by rw [List.getElem?_map, h3]; rfl) m hm_)⟩⟩
        | _ => cases hv0
theorem told_int {t : TypeId} {k : IntKind} {fuel : Nat} {cs : List Value} (ht : P.underlying t = some (.int k)) (h : Told enc P w fuel t cs) : ∃ n, cs = [.int k n] ∧ inR k n := by
  obtain ⟨d, p, hd, _⟩ := h
  obtain ⟨n, h1, _, hw⟩ := DataW.trod_int ht hd
  refine ⟨n, h1, ?_⟩
  cases k <;> simpa [Lit.wf, IntKind.min, IntKind.max, IntKind.bits, IntKind.signed, inR] using hw
/-- A row of which each element is one cell, told by a function. -/
theorem row_map {α : Type} {sz n : Nat} {xs : List Value} {f : α → Value} (hl : xs.length = n) (h : ∀ i, i < n → ∃ a, (xs.drop (i * 1)).take 1 = [f a]) : ∃ l : List α, l.length = n ∧ xs = l.map f := by
  induction xs generalizing n with
  | nil => exact ⟨[], by simpa using hl, rfl⟩
  | cons x xs ih =>
    obtain ⟨a, ha⟩ := h 0 (by simp at hl; omega)
    simp at ha
    obtain ⟨l, h1, h2⟩ := ih (n := n - 1) (by simp at hl; omega) fun i hi => by
      obtain ⟨b, hb⟩ := h (i + 1) (by omega)
      exact ⟨b, by simpa using hb⟩
    exact ⟨a :: l, by simp at hl ⊢; omega, by simp [ha, h2]⟩
theorem told_ints {t e : TypeId} {k : IntKind} {fuel by_ : Nat} {cs : List Value} (ht : P.underlying t = some (.slice e)) (he : P.underlying e = some (.int k)) (hc : P.cellsOf e = 1) (hby : P.bytesOf e = by_) (hby1 : 1 ≤ by_) (h : Told enc P w fuel t cs) :
    ∃ ad n c, ∃ zs : List Int, cs = [.slice ad n c] ∧ n = zs.length ∧ n ≤ c ∧ c ≤ maxLen ∧ RowAt w 1 ad n (zs.map (.int k)) ∧ ∀ z ∈ zs, inR k z := by
  obtain ⟨f, ad, n, c, xs, rfl, rfl, h1, h2, R, hel⟩ := told_slice ht hc (by omega) hby hby1 h
  obtain ⟨l, hl, rfl⟩ := row_map (sz := 1) (f := fun a : { z : Int // inR k z } => Value.int k a.1) (by rw [R.len, Nat.mul_one]) fun i hi => by
    obtain ⟨z, hz, hr⟩ := told_int he (hel i hi)
    exact ⟨⟨z, hr⟩, hz⟩
  refine ⟨ad, n, c, l.map (·.1), rfl, by simp [hl], h1, h2, by rw [List.map_map]; exact R, fun z hz => ?_⟩
  obtain ⟨a, _, rfl⟩ := List.mem_map.1 hz
  exact a.2
theorem cells_slice {t e : TypeId} {r : Reach} {b0 : Nat} {v : Value} (ht : P.underlying t = some (.slice e)) (hv : Value.okWide P w r b0 t v) {ad : Option Addr} {n c : Nat} (h : v.cells.toList = [.slice ad n c]) : v = .slice ad n c := by
  unfold Value.okWide at hv
  rw [ht] at hv
  unfold Cell.okWide at hv
  rw [ht] at hv
  cases v <;> first | (simp only [Cell.ok, ht] at hv; done) | (simp [Value.cells] at h; try (obtain ⟨rfl, rfl, rfl⟩ := h); try rfl) | skip
end
end Go.Proofs.Ytifhcfhdajkhlaa.K

