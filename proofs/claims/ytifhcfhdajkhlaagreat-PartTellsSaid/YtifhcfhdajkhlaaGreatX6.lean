/- Laid together: BN, PH, O09, RV, T16, OT, Ro. Each part is plain law, a rule, or a walk of the functions that its names tell. -/
import Derived.Test.YtifhcfhdajkhlaaGreatX5
import Derived.WalkKit
import Derived.ProofKit
import Derived.OpenShut
import Derived.ChangeOld
import Derived.Carry
import Derived.SizedLaws
set_option linter.unusedVariables false
set_option linter.unusedSimpArgs false
namespace Go.Proofs.YtifhcfhdajkhlaaGreat.K
open Go Go.RowKit Go.Proofs
attribute [local irreducible] Run1 OpG WL W AO Gives
set_option maxRecDepth 100000 in
theorem bent_calls (w : World) {ad ae : Option Addr} {cp cq : Nat} {xs ys : List Int} (R : RowAt w 1 ad xs.length (xs.map (.int .u8))) (hx : ∀ x ∈ xs, inR .u8 x) (hcp : xs.length ≤ cp) (hcp2 : cp ≤ maxLen) (hl : xs.length ≤ 200) (R2 : RowAt w 1 ae ys.length (ys.map (.int .u8))) (hy : ∀ x ∈ ys, inR .u8 x) {k : Int} (k0 : 0 ≤ k) (k1 : k ≤ 255) : Calls Tryz.prog 7 #[.slice ad xs.length cp, .slice ae ys.length cq, .int .u8 k] w (Ret fun v w' => ∃ ado co segs A, v = .slice ado A.length co ∧ OwnA 67 33 w' w.heap.size (.slice ado A.length co) segs A ∧ Bent1 xs k A ∧ Grow w w') := by
 have lR2 := R2.lim
 have hri := bentT_right (xs := xs) hx
 have G := Grow.rfl' w
 refine calls_ret Tryz.func7 Tryz.ntmps7 Tryz.results7 rfl rfl ?_
 refine W_seq (W_region rfl ?_)
 refine stp (r_assign_slice rfl ?_)
 refine WL_nil ?_
 refine W_seq (W_region rfl ?_)
 refine stp (r_move_slice rfl ?_)
 refine stp (r_move_slice rfl ?_)
 refine stp (r_len rfl rfl rfl ?_)
 refine WL_some (og rfl ?_)
 refine r_min rfl rfl rfl ?_
 rw [if_neg (by omega)]
 refine stp (r_sliceH rfl rfl (by omega) (by omega) ?_)
 have R1 := R.sliceH (m := xs.length) hcp (Nat.le_refl _) (by decide)
 rw [List.take_of_length_le (by rw [List.length_map]; omega)] at R1
 rw [Int.toNat_natCast]
 generalize (if cp = 0 then ad else ad.map (·.add (0 * 1))) = ad1 at R1 ⊢
 refine WL_some (og rfl ?_)
 refine r_call rfl (tree_calls _ _ R1 G rfl hx hcp hcp2 (d := 6) (by decide) (Nat.le_refl _)) ?_
 rintro v_ w1 ⟨cells_, ad9, n9, c9, rfl, hX_, -, -, -, -, g_⟩
 have hX := hX_.sees (Sees.seen _ _)
 clear hX_
 replace G := G.tr g_
 clear g_
 obtain ⟨x0, x1, xa, xn, xc, pa, pn, pc, qa, qn, qc, rfl⟩ := hX.cells
 have hX : NodeR w1 [.int .i64 x0, .int .i64 x1, .slice xa xn xc, .slice pa pn pc, .slice qa qn qc] (bentT xs) := hX
 refine stp (r_move (v := .tuple #[.agg #[.int .i64 x0, .int .i64 x1, .slice xa xn xc, .slice pa pn pc, .slice qa qn qc], .slice ad9 n9 c9]) rfl ?_)
 refine stp (r_extract (v := .agg #[.int .i64 x0, .int .i64 x1, .slice xa xn xc, .slice pa pn pc, .slice qa qn qc]) rfl rfl ?_)
 refine stp (r_extract (v := .slice ad9 n9 c9) rfl rfl ?_)
 refine stp (r_alloc ?_)
 intro b2 w3 hb4 hc5 g6
 refine stn (r_storeAll rfl rfl hc5 (by rfl) (by rfl) (by rfl) ?_)
 intro w7 hc8 u9
 have g10 := g6.upd u9 hb4
 have hge11 := Nat.le_trans G.size hb4
 replace hX := hX.grow g10
 replace G := G.tr g10
 clear u9 g6 hb4 hc5
 refine stp (r_assign_slice rfl ?_)
 refine WL_nil ?_
 refine W_seq (W_region rfl ?_)
 refine stp (r_loadAll rfl hc8 (by rfl) ?_)
 refine stp (r_move_int rfl ?_)
 refine stp (r_rem rfl rfl ?_ ?_ ?_); omega; omega
 refine stp (r_conv rfl ?_ ?_); constructor <;> omega
 refine stp (r_add rfl rfl ?_ ?_); constructor <;> omega
 refine WL_some (og rfl ?_)
 have hcal := rBuild_calls _ hX (3 + k % 30)
 have hszp := G.size
 refine r_call rfl hcal ?_
 rintro v_ w12 ⟨so_, segsp, rfl, hO_, g_⟩
 clear hcal
 replace hX := hX.grow g_
 replace hc8 := g_.heap hc8
 replace G := G.tr g_
 clear g_
 have hOp := hO_.lower hszp
 clear hO_
 obtain ⟨adp, cp, rfl, -⟩ := own_shape hOp.out
 refine stp (r_move (v := .tuple #[.slice adp (((bentT xs).build (3 + k % 30)).1.length) cp, .int .i64 (((bentT xs).build (3 + k % 30)).2)]) rfl ?_)
 refine stp (r_extract (v := .slice adp (((bentT xs).build (3 + k % 30)).1.length) cp) rfl rfl ?_)
 refine stp (r_extract (v := .int .i64 (((bentT xs).build (3 + k % 30)).2)) rfl rfl ?_)
 refine stp (r_assign_slice rfl ?_)
 refine stp (r_assign_int rfl ?_)
 refine WL_nil ?_
 have hB0 := bentB_len (xs := xs) hx hl k
 obtain ⟨B, hB⟩ : ∃ B, B = bentB xs k := ⟨_, rfl⟩
 rw [← hB] at hB0
 refine W_cut1 (fun e_ w_ => ∃ (ado : Option Addr) (co : Nat) (segs : List Value), Fr [(1, .slice ae ys.length cq), (6, .slice none 0 0), (9, .slice ado B.length co)] e_ ∧ (OwnA 67 33 w_ w.heap.size (.slice ado B.length co) segs B) ∧ Grow w w_) ?_ ?_
 ·-- the parts
  refine W_seq (W_region rfl ?_)
  refine stp (r_move_int rfl ?_)
  refine stp (r_neq rfl rfl ?_)
  refine WL_nil ?_
  refine W_cond2 (b := (decide ((((bentT xs).build (3 + k % 30)).2) ≠ 0))) rfl (fun h1 => ?_) (fun h1 => ?_)
  ·-- true
   replace h1 := of_decide_eq_true h1
   refine W_seq (W_region rfl ?_)
   refine stp (r_loadAll rfl hc8 (by rfl) ?_)
   refine WL_some (og rfl ?_)
   have hcal := rBuild_calls _ hX 4096
   have hszq := G.size
   refine r_call rfl hcal ?_
   rintro v_ w13 ⟨so_, segsq, rfl, hO_, g_⟩
   clear hcal
   replace hX := hX.grow g_
   replace hc8 := g_.heap hc8
   replace hOp := hOp.grow g_
   replace G := G.tr g_
   clear g_
   have hOq := hO_.lower hszq
   clear hO_
   obtain ⟨adq, cq, rfl, -⟩ := own_shape hOq.out
   refine stp (r_move (v := .tuple #[.slice adq (((bentT xs).build 4096).1.length) cq, .int .i64 (((bentT xs).build 4096).2)]) rfl ?_)
   refine stp (r_extract (v := .slice adq (((bentT xs).build 4096).1.length) cq) rfl rfl ?_)
   refine stp (r_extract (v := .int .i64 (((bentT xs).build 4096).2)) rfl rfl ?_)
   refine stp (r_assign_slice rfl ?_)
   refine stp (r_assign_int rfl ?_)
   refine WL_nil ?_
   refine W_region rfl ?_
   refine stp (r_move_slice rfl ?_)
   refine stp (r_assign_slice rfl ?_)
   refine WL_nil ?_
   have hBe : B = ((bentT xs).build 4096).1 := by rw [hB]; unfold bentB; rw [if_pos h1]
   exact ⟨adq, cq, segsq, fr_of ⟨rfl, rfl, by rw [hBe]; rfl, trivial⟩, (by rw [hBe]; exact hOq), G⟩
  ·-- false
   replace h1 := of_decide_eq_false h1
   refine W_skip ?_
   have hBe : B = ((bentT xs).build (3 + k % 30)).1 := by rw [hB]; unfold bentB; rw [if_neg h1]
   exact ⟨adp, cp, segsp, fr_of ⟨rfl, rfl, by rw [hBe]; rfl, trivial⟩, (by rw [hBe]; exact hOp), G⟩
 ·-- behind them
  clear hX hc8 hOp
  clear G
  rintro e_ w14 ⟨ado, co, segs, ⟨e15, rfl⟩, hO, G⟩
  refine W_seq ?_
  refine W_seq (W_region rfl ?_)
  refine stp (r_assign_int rfl ?_)
  refine WL_nil ?_
  refine W_block ?_
  refine W_loop (fun m_ e_ w_ => ∃ (m : Nat) (ado : Option Addr) (co : Nat) (segs : List Value) (A : List (List Int)), m_ = 12 - m ∧ Fr [(1, .slice ae ys.length cq), (6, .slice none 0 0), (13, .int .i64 (m : Int)), (9, .slice ado A.length co)] e_ ∧ (m ≤ 15) ∧ (BentA B A) ∧ (OwnA 67 33 w_ w.heap.size (.slice ado A.length co) segs A) ∧ Grow w w_) _ ⟨0, ado, co, segs, B, rfl, fr_of ⟨rfl, rfl, rfl, rfl, trivial⟩, by omega, .refl, hO, G⟩ ?_
  clear hO
  clear G
  rintro m_ e_ w16 ⟨m, ado, co, segs, A, rfl, ⟨e17, rfl⟩, hm15, hA, hO, G⟩
  refine W_seq ?_
  refine W_seq (W_region rfl ?_)
  refine stp (r_move_int rfl ?_)
  refine stp (r_add rfl rfl ?_ ?_); constructor <;> omega
  refine stp (r_move_slice rfl ?_)
  refine stp (r_len rfl rfl rfl ?_)
  refine stp (r_lss rfl rfl ?_)
  refine stp (r_move_bool rfl ?_)
  refine WL_some (og_if (s := .bool (decide (((m : Int) + 3) < (ys.length : Int)))) (b := true) (v := .int .i64 (m : Int)) rfl (wgb_t _) (fun hc18 => ?_) ?_)
  ·
   have hc18_ := of_decide_eq_true hc18
   refine r_move_int rfl ?_
   exact ⟨rfl, rfl⟩
  refine WL_some (og_if (s := .bool (decide (((m : Int) + 3) < (ys.length : Int)))) (b := true) (v := .bool (decide ((m : Int) < 12))) rfl (wgb_t _) (fun hc19 => ?_) ?_)
  ·
   have hc19_ := of_decide_eq_true hc19
   refine r_lss (gvt hc19) rfl ?_
   exact ⟨rfl, rfl⟩
  refine stp (r_and2 rfl rfl rfl ?_)
  refine WL_nil ?_
  refine W_cond2 (b := ((decide (((m : Int) + 3) < (ys.length : Int))) && (decide ((m : Int) < 12)))) rfl (fun hlt => ?_) (fun hlt => ?_)
  ·-- true
   simp only [sb] at hlt
   have hd0 := getD_u8 hy m
   have hd1 := getD_u8 hy ((m : Int) + 1).toNat
   have hd2 := getD_u8 hy ((m : Int) + 2).toNat
   have hd3 := getD_u8 hy ((m : Int) + 3).toNat
   have hAl : A.length = B.length := (BentA.len hA).1
   obtain ⟨ado1, co1, sa, sc, hso, hco1, hco2, RO, hsf⟩ := hO.fn (by omega)
   simp only [Value.slice.injEq, true_and] at hso
   obtain ⟨rfl, rfl⟩ := hso
   obtain ⟨s, hsE⟩ : ∃ s : Nat, (s : Int) = ys.getD m 0 % (A.length : Int) := ⟨(ys.getD m 0 % (A.length : Int)).toNat, by have := Int.emod_nonneg (ys.getD m 0) (show (A.length : Int) ≠ 0 by omega); omega⟩
   have hsA : s < A.length := by have := Int.emod_lt_of_pos (ys.getD m 0) (show 0 < (A.length : Int) by omega); omega
   obtain ⟨hss, hos⟩ := hsf s hsA
   refine W_skip ?_
   refine W_seq ?_
   refine W_block ?_
   refine W_seq (W_region rfl ?_)
   refine stp (r_move_slice rfl ?_)
   refine stp (r_move_int rfl ?_)
   refine stp (r_indexN (R2.grow G) rfl rfl ?_ ?_); omega
   refine stp (r_loadR (v := .int .u8 (ys.getD m 0)) (m := 0) (R2.grow G) rfl (map_get1 0 (by omega)) ?_)
   refine stp (r_conv rfl ?_ ?_); constructor <;> omega
   refine stp (r_move_slice rfl ?_)
   refine stp (r_len rfl rfl rfl ?_)
   refine WL_some (og rfl ?_)
   refine r_rem rfl rfl ?_ ?_ ?_; omega; omega
   rw [← hsE]
   refine stp (r_assign_int rfl ?_)
   refine WL_nil ?_
   refine W_seq ?_
   refine W_seq (W_region rfl ?_)
   refine stp (r_move_slice rfl ?_)
   refine stp (r_move_int rfl ?_)
   refine stp (r_indexN RO rfl rfl ?_ ?_); omega
   refine stp (r_loadR (v := .slice (sa s) (len2 A s) (sc s)) (m := 0) RO rfl (by rw [Nat.mul_one]; exact hss) ?_)
   refine stp (r_len rfl rfl rfl ?_)
   refine stp (r_eql rfl rfl ?_)
   refine WL_nil ?_
   refine W_cond2 (b := (decide (((len2 A s) : Int) = 0))) rfl (fun h3 => ?_) (fun h3 => ?_)
   ·-- true
    replace h3 := of_decide_eq_true h3
    refine W_exit ?_
    refine W_region rfl ?_
    refine stp (r_move_int rfl ?_)
    refine stp (r_add rfl rfl ?_ ?_); constructor <;> omega
    refine stp (r_assign_int rfl ?_)
    refine WL_nil ?_
    refine ⟨_, ?_, m + 4, ado, co, segs, A, rfl, fr_of ⟨rfl, rfl, congrArg (Value.int .i64) (by omega), rfl, trivial⟩, by omega, hA, hO, G⟩
    omega
   ·-- false
    replace h3 := of_decide_eq_false h3
    have hs0 : 0 < len2 A s := by omega
    obtain ⟨j, hjE⟩ : ∃ j : Nat, (j : Int) = (ys.getD ((m : Int) + 1).toNat 0) % (len2 A s : Int) := ⟨((ys.getD ((m : Int) + 1).toNat 0) % (len2 A s : Int)).toNat, by have := Int.emod_nonneg (ys.getD ((m : Int) + 1).toNat 0) (show (len2 A s : Int) ≠ 0 by omega); omega⟩
    have hjA : j < len2 A s := by have := Int.emod_lt_of_pos (ys.getD ((m : Int) + 1).toNat 0) (show 0 < (len2 A s : Int) by omega); omega
    refine W_skip ?_
    refine W_seq ?_
    refine W_any 13 [[], [], [0], [2, 1, 0], [3, 2, 1, 0], [4, 3, 2, 1, 0], [], [], [1, 0], [2, 1, 0], [3, 2, 1, 0], [10, 9, 8, 7, 6, 5, 4, 3, 2, 1, 0], [11, 10, 9, 8, 7, 6, 5, 4, 3, 2, 1, 0]] mixed (by kernel_rfl) (by kernel_rfl) (by kernel_rfl) ?_
    intro w20 g21
    replace hO := hO.grow g21
    replace RO := RO.grow g21
    replace G := G.tr g21
    clear g21
    apply AO_ex
    ·intro w_ g_; refine og rfl ?_; refine r_move_slice rfl ?_; exact ⟨Grow.rfl' _, rfl⟩
    apply AO_ex
    ·intro w_ g_; refine og rfl ?_; refine r_move_int rfl ?_; exact ⟨Grow.rfl' _, rfl⟩
    apply AO_ex
    ·intro w_ g_; refine og rfl ?_; refine r_add rfl rfl ?_ ?_; constructor <;> omega; exact ⟨Grow.rfl' _, rfl⟩
    apply AO_ex
    ·intro w_ g_; refine og rfl ?_; refine r_indexR (R2.grow (G.tr g_)) rfl rfl ?_ ?_ ?_; omega; omega; exact ⟨Grow.rfl' _, rfl⟩
    apply AO_ex
    ·intro w_ g_; refine og rfl ?_; refine r_loadR (v := .int .u8 (ys.getD (((m : Int) + 1).toNat) 0)) (m := 0) (R2.grow (G.tr g_)) rfl (map_get1 0 (by omega)) ?_; exact ⟨Grow.rfl' _, rfl⟩
    apply AO_ex
    ·intro w_ g_; refine og rfl ?_; refine r_conv rfl ?_ ?_; constructor <;> omega; exact ⟨Grow.rfl' _, rfl⟩
    apply AO_ex
    ·intro w_ g_; refine og rfl ?_; refine r_move_slice rfl ?_; exact ⟨Grow.rfl' _, rfl⟩
    apply AO_ex
    ·intro w_ g_; refine og rfl ?_; refine r_move_int rfl ?_; exact ⟨Grow.rfl' _, rfl⟩
    apply AO_ex
    ·intro w_ g_; refine og rfl ?_; refine r_indexN (RO.grow g_) rfl rfl ?_ ?_; omega; exact ⟨Grow.rfl' _, rfl⟩
    apply AO_ex
    ·intro w_ g_; refine og rfl ?_; refine r_loadR (v := .slice (sa s) (len2 A s) (sc s)) (m := 0) (RO.grow g_) rfl (by rw [Nat.mul_one]; exact hss) ?_; exact ⟨Grow.rfl' _, rfl⟩
    apply AO_ex
    ·intro w_ g_; refine og rfl ?_; refine r_len rfl rfl rfl ?_; exact ⟨Grow.rfl' _, rfl⟩
    apply AO_ex
    ·intro w_ g_; refine og rfl ?_; refine r_rem rfl rfl ?_ ?_ ?_; omega; omega; rw [← hjE]; exact ⟨Grow.rfl' _, rfl⟩
    apply AO_ex
    ·intro w_ g_; refine og rfl ?_; refine r_assign_int rfl ?_; exact ⟨Grow.rfl' _, rfl⟩
    refine AO_nil ?_
    intro w22 g23
    replace hO := hO.grow g23
    replace RO := RO.grow g23
    replace G := G.tr g23
    clear g23
    refine WL_nil ?_
    have hsG := G.size
    obtain ⟨M, hM⟩ : ∃ M, M = w22.heap.size := ⟨_, rfl⟩
    have hMw : M ≤ w22.heap.size := by rw [hM]; exact Nat.le_refl _
    have hwM : w.heap.size ≤ M := by rw [hM]; exact hsG
    clear hM hsG
    obtain ⟨x, hxE⟩ : ∃ x, x = encR (bentP (ys.getD ((m : Int) + 2).toNat 0) (ys.getD ((m : Int) + 3).toNat 0) A.length) := ⟨_, rfl⟩
    obtain ⟨z, hzE⟩ : ∃ z, z = encE (bentP (ys.getD ((m : Int) + 2).toNat 0) (ys.getD ((m : Int) + 3).toNat 0) A.length) := ⟨_, rfl⟩
    refine W_seq ?_
    refine W_any 18 [[], [], [0], [2, 1, 0], [3, 2, 1, 0], [4, 3, 2, 1, 0], [5, 4, 3, 2, 1, 0], [6, 5, 4, 3, 2, 1, 0], [], [], [0], [2, 1, 0], [3, 2, 1, 0], [4, 3, 2, 1, 0], [5, 4, 3, 2, 1, 0], [6, 5, 4, 3, 2, 1, 0], [15, 14, 13, 12, 11, 10, 9, 8, 7, 6, 5, 4, 3, 2, 1, 0], []] mixed (by kernel_rfl) (by kernel_rfl) (by kernel_rfl) ?_
    intro w24 g25
    replace hO := hO.grow g25
    replace RO := RO.grow g25
    replace hMw := Nat.le_trans hMw g25.size
    replace G := G.tr g25
    clear g25
    apply AO_ex
    ·intro w_ g_; refine og rfl ?_; refine r_move_slice rfl ?_; exact ⟨Grow.rfl' _, rfl⟩
    apply AO_ex
    ·intro w_ g_; refine og rfl ?_; refine r_move_int rfl ?_; exact ⟨Grow.rfl' _, rfl⟩
    apply AO_ex
    ·intro w_ g_; refine og rfl ?_; refine r_add rfl rfl ?_ ?_; constructor <;> omega; exact ⟨Grow.rfl' _, rfl⟩
    apply AO_ex
    ·intro w_ g_; refine og rfl ?_; refine r_indexR (R2.grow (G.tr g_)) rfl rfl ?_ ?_ ?_; omega; omega; exact ⟨Grow.rfl' _, rfl⟩
    apply AO_ex
    ·intro w_ g_; refine og rfl ?_; refine r_loadR (v := .int .u8 (ys.getD (((m : Int) + 2).toNat) 0)) (m := 0) (R2.grow (G.tr g_)) rfl (map_get1 0 (by omega)) ?_; exact ⟨Grow.rfl' _, rfl⟩
    apply AO_ex
    ·intro w_ g_; refine og rfl ?_; refine r_rem rfl rfl ?_ ?_ ?_; omega; omega; exact ⟨Grow.rfl' _, rfl⟩
    apply AO_ex
    ·intro w_ g_; refine og rfl ?_; refine r_conv rfl ?_ ?_; constructor <;> omega; exact ⟨Grow.rfl' _, rfl⟩
    apply AO_ex
    ·intro w_ g_; refine og rfl ?_; refine r_add rfl rfl ?_ ?_; constructor <;> omega; exact ⟨Grow.rfl' _, rfl⟩
    apply AO_ex
    ·intro w_ g_; refine og rfl ?_; refine r_move_slice rfl ?_; exact ⟨Grow.rfl' _, rfl⟩
    apply AO_ex
    ·intro w_ g_; refine og rfl ?_; refine r_move_int rfl ?_; exact ⟨Grow.rfl' _, rfl⟩
    apply AO_ex
    ·intro w_ g_; refine og rfl ?_; refine r_add rfl rfl ?_ ?_; constructor <;> omega; exact ⟨Grow.rfl' _, rfl⟩
    apply AO_ex
    ·intro w_ g_; refine og rfl ?_; refine r_indexR (R2.grow (G.tr g_)) rfl rfl ?_ ?_ ?_; omega; omega; exact ⟨Grow.rfl' _, rfl⟩
    apply AO_ex
    ·intro w_ g_; refine og rfl ?_; refine r_loadR (v := .int .u8 (ys.getD (((m : Int) + 3).toNat) 0)) (m := 0) (R2.grow (G.tr g_)) rfl (map_get1 0 (by omega)) ?_; exact ⟨Grow.rfl' _, rfl⟩
    apply AO_ex
    ·intro w_ g_; refine og rfl ?_; refine r_rem rfl rfl ?_ ?_ ?_; omega; omega; exact ⟨Grow.rfl' _, rfl⟩
    apply AO_ex
    ·intro w_ g_; refine og rfl ?_; refine r_conv rfl ?_ ?_; constructor <;> omega; exact ⟨Grow.rfl' _, rfl⟩
    apply AO_ex
    ·intro w_ g_; refine og rfl ?_; refine r_sub rfl rfl ?_ ?_; constructor <;> omega; exact ⟨Grow.rfl' _, rfl⟩
    apply AO_ex
    ·intro w_ g_; refine og rfl ?_; refine r_build (v := .agg #[.int .i64 (1 + ((ys.getD (((m : Int) + 2).toNat) 0) % 3)), .int .i64 (((ys.getD (((m : Int) + 3).toNat) 0) % 16) - 4), .int .i64 0, .int .i64 0, .int .i64 0, .int .i64 0, .int .i64 0, .bool false]) (fun w => by kernel_rfl) ?_; exact ⟨Grow.rfl' _, rfl⟩
    refine AO_so (fun w_ v_ => ∃ b, v_ = .pointer (some ⟨b, 0, none⟩) ∧ M ≤ b ∧ w_.heap[b]? = some (.cells #[.int .i64 0, .int .i64 0, .int .i64 0, .int .i64 0, .int .i64 0, .int .i64 0, .int .i64 0, .bool false] 77 (0, 0))) (fun _ _ _ g_ ⟨b, h1_, h2_, h3_⟩ => ⟨b, h1_, h2_, g_.heap h3_⟩) ?_ ?_
    ·intro w_ g_
     refine og rfl ?_
     refine r_alloc ?_
     intro b_ w2_ hb_ hc_ g2_
     exact ⟨g2_, b_, rfl, Nat.le_trans hMw (Nat.le_trans g_.size hb_), hc_⟩
    refine AO_nil ?_
    intro w26 g27
    replace hO := hO.grow g27
    replace RO := RO.grow g27
    replace hMw := Nat.le_trans hMw g27.size
    replace G := G.tr g27
    clear g27
    intro v_p hv_p
    obtain ⟨bp, rfl, hgP, hcP⟩ := hv_p
    have hgQ := Nat.le_trans hwM hgP
    refine stn (r_storeAll rfl rfl hcP (by rfl) (by rfl) (by rfl) ?_)
    intro w28 hc29 u30
    replace hO := hO.upd u30 hcP (by decide) (by decide)
    replace RO := (OwnA.rowat hO (by omega)).2
    replace hMw := Nat.le_trans hMw (Nat.le_of_eq u30.size.symm)
    replace G := G.upd u30 hgQ
    clear u30 hcP
    refine WL_nil ?_
    refine W_seq ?_
    refine W_seq (W_region rfl ?_)
    refine stp (r_fieldAddr rfl ?_)
    refine stp (r_load (v := .int .i64 (1 + ((ys.getD (((m : Int) + 2).toNat) 0) % 3))) rfl hc29 rfl ?_)
    refine WL_nil ?_
    refine W_block ?_
    refine W_seq (W_region rfl ?_)
    refine stp (r_eql rfl rfl ?_)
    refine stp (r_assign_bool rfl ?_)
    refine WL_nil ?_
    refine W_cond2 (b := (decide ((1 + ((ys.getD (((m : Int) + 2).toNat) 0) % 3)) = 1))) rfl (fun h4 => ?_) (fun h4 => ?_)
    ·-- true
     replace h4 := of_decide_eq_true h4
     refine W_seq (W_region rfl ?_)
     refine stp (r_move_slice rfl ?_)
     refine stp (r_move_int rfl ?_)
     refine stp (r_add rfl rfl ?_ ?_); constructor <;> omega
     refine stp (r_indexR (R2.grow G) rfl rfl ?_ ?_ ?_); omega; omega
     refine stp (r_loadR (v := .int .u8 (ys.getD (((m : Int) + 2).toNat) 0)) (m := 0) (R2.grow G) rfl (map_get1 0 (by omega)) ?_)
     refine stp (r_rem rfl rfl ?_ ?_ ?_); omega; omega
     refine stp (r_conv rfl ?_ ?_); constructor <;> omega
     refine stp (r_fieldAddr rfl ?_)
     refine stn (r_store1 (v := .int .i64 ((ys.getD (((m : Int) + 2).toNat) 0) % 4)) rfl rfl (by rfl) hc29 (by rfl) (by rfl) ?_)
     intro w31 hc32 u33
     replace hO := hO.upd u33 hc29 (by decide) (by decide)
     replace RO := (OwnA.rowat hO (by omega)).2
     replace hMw := Nat.le_trans hMw (Nat.le_of_eq u33.size.symm)
     replace G := G.upd u33 hgQ
     clear u33 hc29
     refine WL_nil ?_
     refine W_region rfl ?_
     refine stp (r_move_slice rfl ?_)
     refine stp (r_move_int rfl ?_)
     refine stp (r_add rfl rfl ?_ ?_); constructor <;> omega
     refine stp (r_indexR (R2.grow G) rfl rfl ?_ ?_ ?_); omega; omega
     refine stp (r_loadR (v := .int .u8 (ys.getD (((m : Int) + 2).toNat) 0)) (m := 0) (R2.grow G) rfl (map_get1 0 (by omega)) ?_)
     refine stp (r_quo rfl rfl ?_ ?_ ?_ ?_); omega; omega; (constructor <;> omega)
     refine stp (r_conv rfl ?_ ?_); constructor <;> omega
     refine stp (r_fieldAddr rfl ?_)
     refine stn (r_store1 (v := .int .i64 ((ys.getD (((m : Int) + 2).toNat) 0) / 64)) rfl rfl (by rfl) hc32 (by rfl) (by rfl) ?_)
     intro w34 hc35 u36
     replace hO := hO.upd u36 hc32 (by decide) (by decide)
     replace RO := (OwnA.rowat hO (by omega)).2
     replace hMw := Nat.le_trans hMw (Nat.le_of_eq u36.size.symm)
     replace G := G.upd u36 hgQ
     clear u36 hc32
     refine WL_nil ?_
     refine W_seq (W_region rfl ?_)
     refine stp (r_loadAll rfl hc35 (by rfl) ?_)
     refine WL_some (og rfl ?_)
     have hP : (⟨1 + ((ys.getD (((m : Int) + 2).toNat) 0) % 3), ((ys.getD (((m : Int) + 3).toNat) 0) % 16) - 4, (ys.getD (((m : Int) + 2).toNat) 0) % 4, (ys.getD (((m : Int) + 2).toNat) 0) / 64, 0, 0, 0, false⟩ : Pt) = bentP (ys.getD ((m : Int) + 2).toNat 0) (ys.getD ((m : Int) + 3).toNat 0) A.length := by unfold bentP; rw [if_pos (by omega)]; rw [show 1 + (ys.getD ((m : Int) + 2).toNat 0) % 3 = 1 from by omega]
     refine r_gives (v := .tuple #[.int .u64 x, .int .i64 z]) rfl (gives_eq (rencode_calls _ ⟨1 + ((ys.getD (((m : Int) + 2).toNat) 0) % 3), ((ys.getD (((m : Int) + 3).toNat) 0) % 16) - 4, (ys.getD (((m : Int) + 2).toNat) 0) % 4, (ys.getD (((m : Int) + 2).toNat) 0) / 64, 0, 0, 0, false⟩) (y := .tuple #[.int .u64 x, .int .i64 z]) (by rw [hP, ← hxE, ← hzE])) ?_
     intro w37 g38
     replace hO := hO.grow g38
     replace RO := RO.grow g38
     replace hMw := Nat.le_trans hMw g38.size
     replace hc35 := g38.heap hc35
     replace G := G.tr g38
     clear g38
     refine stp (r_move (v := .tuple #[.int .u64 x, .int .i64 z]) rfl ?_)
     refine stp (r_extract (v := .int .u64 x) rfl rfl ?_)
     refine stp (r_extract (v := .int .i64 z) rfl rfl ?_)
     refine stp (r_assign_int rfl ?_)
     refine stp (r_assign_int rfl ?_)
     refine WL_nil ?_
     refine W_region rfl ?_
     refine stp (r_move_slice rfl ?_)
     refine stp (r_move_int rfl ?_)
     refine stp (r_indexN RO rfl rfl ?_ ?_); omega
     refine stp (r_loadR (v := .slice (sa s) (len2 A s) (sc s)) (m := 0) RO rfl (by rw [Nat.mul_one]; exact hss) ?_)
     refine stp (r_move_int rfl ?_)
     refine stp (r_move_int rfl ?_)
     refine WL_some (og rfl ?_)
     have hos9 := hO.seg s _ _ hss (List.getElem?_eq_getElem hsA)
     have hlen9 : len2 A s = A[s].length := by rw [len2, getD_at hsA]
     obtain ⟨g5, c5, cur5, he5, hg5b, hg5, hc51, hc52, hc53, hc54⟩ := own_pos hos9 (by omega)
     simp only [Value.slice.injEq] at he5
     obtain ⟨hsa, -, hsc⟩ := he5
     refine r_indexAddr (b := g5) (o := 0) (n := len2 A s) (c := sc s) (i := (j : Int)) (show _ = _ from congrArg (fun a_ => Value.slice a_ (len2 A s) (sc s)) hsa) rfl (by omega) (by omega) ?_
     rw [Int.toNat_natCast, Nat.zero_add, Nat.mul_one]
     refine stn (r_store1 (v := .int .u64 x) rfl rfl rfl hg5 (Nat.ble_eq_true_of_le (by omega)) rfl ?_)
     intro w7 hs6 u7
     rw [hsa, hlen9] at hss
     have hO7 := hO.setw (i := j) (x := x) (by decide) (List.getElem?_eq_getElem hsA) hss hg5 hs6 (by simp) u7
     replace G := G.upd u7 hg5b
     have hset : A.set s (A[s].set j x) = setP A s j x := by unfold setP; rw [getD_at hsA]
     rw [hset] at hO7
     refine WL_nil ?_
     refine W_region rfl ?_
     refine stp (r_move_int rfl ?_)
     refine stp (r_add rfl rfl ?_ ?_); constructor <;> omega
     refine stp (r_assign_int rfl ?_)
     refine WL_nil ?_
     have hln := setP_length A s j x
     rw [show (Value.slice ado A.length co) = .slice ado (setP A s j x).length co from by rw [hln]] at hO7
     refine ⟨_, ?_, m + 4, ado, co, segs, setP A s j x, rfl, fr_of ⟨rfl, rfl, congrArg (Value.int .i64) (by omega), by rw [hln]; rfl, trivial⟩, by omega, by rw [hxE]; exact .put hA hsA hjA hd2.1 hd2.2 hd3.1 hd3.2, hO7, G⟩
     omega
    ·-- false
     replace h4 := of_decide_eq_false h4
     refine W_seq (W_region rfl ?_)
     refine stp (r_eql rfl rfl ?_)
     refine stp (r_assign_bool rfl ?_)
     refine WL_nil ?_
     refine W_cond2 (b := (decide ((1 + ((ys.getD (((m : Int) + 2).toNat) 0) % 3)) = 2))) rfl (fun h5 => ?_) (fun h5 => ?_)
     ·-- true
      replace h5 := of_decide_eq_true h5
      refine W_seq (W_region rfl ?_)
      refine stp (r_buildSlice (cs := #[.int .i64 2, .int .i64 5, .int .i64 6, .int .i64 3]) (el := 3) (fun w => by kernel_rfl) ?_)
      intro bs39 w40 hb41 hc42 g43
      have hge44 := Nat.le_trans G.size hb41
      have ne45 := Nat.ne_of_lt (Nat.lt_of_lt_of_le (lt_of_heap hc29) hb41)
      replace hO := hO.grow g43
      replace RO := RO.grow g43
      replace hMw := Nat.le_trans hMw g43.size
      replace hc29 := g43.heap hc29
      replace G := G.tr g43
      clear g43
      refine stp (r_move_slice rfl ?_)
      refine stp (r_move_int rfl ?_)
      refine stp (r_add rfl rfl ?_ ?_); constructor <;> omega
      refine stp (r_indexR (R2.grow G) rfl rfl ?_ ?_ ?_); omega; omega
      refine stp (r_loadR (v := .int .u8 (ys.getD (((m : Int) + 2).toNat) 0)) (m := 0) (R2.grow G) rfl (map_get1 0 (by omega)) ?_)
      refine stp (r_rem rfl rfl ?_ ?_ ?_); omega; omega
      refine WL_some (og rfl ?_)
      have RL := Row.of_block (n := 4) (sz := 1) hc42 rfl rfl (by decide)
      obtain ⟨_, _, hr_, -, -, RL⟩ := RL
      cases hr_
      refine r_indexR RL rfl rfl ?_ ?_ ?_; omega; omega
      refine stp (r_loadR (v := .int .i64 (bentZ ((ys.getD ((m : Int) + 2).toNat 0) % 4))) (m := 0) RL rfl (bentZ_at _ (by omega) (by omega)) ?_)
      refine stp (r_fieldAddr rfl ?_)
      refine stn (r_store1 (v := .int .i64 (bentZ ((ys.getD ((m : Int) + 2).toNat 0) % 4))) rfl rfl (by rfl) hc29 (by rfl) (by rfl) ?_)
      intro w46 hc47 u48
      replace hO := hO.upd u48 hc29 (by decide) (by decide)
      replace RO := (OwnA.rowat hO (by omega)).2
      replace hMw := Nat.le_trans hMw (Nat.le_of_eq u48.size.symm)
      replace hc42 := u48.heap hc42 ne45.symm
      replace G := G.upd u48 hgQ
      clear u48 hc29
      refine WL_nil ?_
      refine W_region rfl ?_
      refine stp (r_move_slice rfl ?_)
      refine stp (r_move_int rfl ?_)
      refine stp (r_add rfl rfl ?_ ?_); constructor <;> omega
      refine stp (r_indexR (R2.grow G) rfl rfl ?_ ?_ ?_); omega; omega
      refine stp (r_loadR (v := .int .u8 (ys.getD (((m : Int) + 2).toNat) 0)) (m := 0) (R2.grow G) rfl (map_get1 0 (by omega)) ?_)
      refine stp (r_quo rfl rfl ?_ ?_ ?_ ?_); omega; omega; (constructor <;> omega)
      refine stp (r_conv rfl ?_ ?_); constructor <;> omega
      refine stp (r_fieldAddr rfl ?_)
      refine stn (r_store1 (v := .int .i64 ((ys.getD (((m : Int) + 2).toNat) 0) / 16)) rfl rfl (by rfl) hc47 (by rfl) (by rfl) ?_)
      intro w49 hc50 u51
      replace hO := hO.upd u51 hc47 (by decide) (by decide)
      replace RO := (OwnA.rowat hO (by omega)).2
      replace hMw := Nat.le_trans hMw (Nat.le_of_eq u51.size.symm)
      replace hc42 := u51.heap hc42 ne45.symm
      replace G := G.upd u51 hgQ
      clear u51 hc47
      refine WL_nil ?_
      refine W_seq (W_region rfl ?_)
      refine stp (r_loadAll rfl hc50 (by rfl) ?_)
      refine WL_some (og rfl ?_)
      have hP : (⟨1 + ((ys.getD (((m : Int) + 2).toNat) 0) % 3), ((ys.getD (((m : Int) + 3).toNat) 0) % 16) - 4, 0, 0, bentZ ((ys.getD ((m : Int) + 2).toNat 0) % 4), (ys.getD (((m : Int) + 2).toNat) 0) / 16, 0, false⟩ : Pt) = bentP (ys.getD ((m : Int) + 2).toNat 0) (ys.getD ((m : Int) + 3).toNat 0) A.length := by unfold bentP; rw [if_neg (by omega), if_pos (by omega)]; rw [show 1 + (ys.getD ((m : Int) + 2).toNat 0) % 3 = 2 from by omega]
      refine r_gives (v := .tuple #[.int .u64 x, .int .i64 z]) rfl (gives_eq (rencode_calls _ ⟨1 + ((ys.getD (((m : Int) + 2).toNat) 0) % 3), ((ys.getD (((m : Int) + 3).toNat) 0) % 16) - 4, 0, 0, bentZ ((ys.getD ((m : Int) + 2).toNat 0) % 4), (ys.getD (((m : Int) + 2).toNat) 0) / 16, 0, false⟩) (y := .tuple #[.int .u64 x, .int .i64 z]) (by rw [hP, ← hxE, ← hzE])) ?_
      intro w52 g53
      replace hO := hO.grow g53
      replace RO := RO.grow g53
      replace hMw := Nat.le_trans hMw g53.size
      replace hc42 := g53.heap hc42
      replace hc50 := g53.heap hc50
      replace G := G.tr g53
      clear g53
      refine stp (r_move (v := .tuple #[.int .u64 x, .int .i64 z]) rfl ?_)
      refine stp (r_extract (v := .int .u64 x) rfl rfl ?_)
      refine stp (r_extract (v := .int .i64 z) rfl rfl ?_)
      refine stp (r_assign_int rfl ?_)
      refine stp (r_assign_int rfl ?_)
      refine WL_nil ?_
      refine W_region rfl ?_
      refine stp (r_move_slice rfl ?_)
      refine stp (r_move_int rfl ?_)
      refine stp (r_indexN RO rfl rfl ?_ ?_); omega
      refine stp (r_loadR (v := .slice (sa s) (len2 A s) (sc s)) (m := 0) RO rfl (by rw [Nat.mul_one]; exact hss) ?_)
      refine stp (r_move_int rfl ?_)
      refine stp (r_move_int rfl ?_)
      refine WL_some (og rfl ?_)
      have hos9 := hO.seg s _ _ hss (List.getElem?_eq_getElem hsA)
      have hlen9 : len2 A s = A[s].length := by rw [len2, getD_at hsA]
      obtain ⟨g5, c5, cur5, he5, hg5b, hg5, hc51, hc52, hc53, hc54⟩ := own_pos hos9 (by omega)
      simp only [Value.slice.injEq] at he5
      obtain ⟨hsa, -, hsc⟩ := he5
      refine r_indexAddr (b := g5) (o := 0) (n := len2 A s) (c := sc s) (i := (j : Int)) (show _ = _ from congrArg (fun a_ => Value.slice a_ (len2 A s) (sc s)) hsa) rfl (by omega) (by omega) ?_
      rw [Int.toNat_natCast, Nat.zero_add, Nat.mul_one]
      refine stn (r_store1 (v := .int .u64 x) rfl rfl rfl hg5 (Nat.ble_eq_true_of_le (by omega)) rfl ?_)
      intro w7 hs6 u7
      rw [hsa, hlen9] at hss
      have hO7 := hO.setw (i := j) (x := x) (by decide) (List.getElem?_eq_getElem hsA) hss hg5 hs6 (by simp) u7
      replace G := G.upd u7 hg5b
      have hset : A.set s (A[s].set j x) = setP A s j x := by unfold setP; rw [getD_at hsA]
      rw [hset] at hO7
      refine WL_nil ?_
      refine W_region rfl ?_
      refine stp (r_move_int rfl ?_)
      refine stp (r_add rfl rfl ?_ ?_); constructor <;> omega
      refine stp (r_assign_int rfl ?_)
      refine WL_nil ?_
      have hln := setP_length A s j x
      rw [show (Value.slice ado A.length co) = .slice ado (setP A s j x).length co from by rw [hln]] at hO7
      refine ⟨_, ?_, m + 4, ado, co, segs, setP A s j x, rfl, fr_of ⟨rfl, rfl, congrArg (Value.int .i64) (by omega), by rw [hln]; rfl, trivial⟩, by omega, by rw [hxE]; exact .put hA hsA hjA hd2.1 hd2.2 hd3.1 hd3.2, hO7, G⟩
      omega
     ·-- false
      replace h5 := of_decide_eq_false h5
      refine W_seq (W_region rfl ?_)
      refine stp (r_move_slice rfl ?_)
      refine stp (r_move_int rfl ?_)
      refine stp (r_add rfl rfl ?_ ?_); constructor <;> omega
      refine stp (r_indexR (R2.grow G) rfl rfl ?_ ?_ ?_); omega; omega
      refine stp (r_loadR (v := .int .u8 (ys.getD (((m : Int) + 3).toNat) 0)) (m := 0) (R2.grow G) rfl (map_get1 0 (by omega)) ?_)
      refine stp (r_rem rfl rfl ?_ ?_ ?_); omega; omega
      refine stp (r_conv rfl ?_ ?_); constructor <;> omega
      refine stp (r_fieldAddr rfl ?_)
      refine stn (r_store1 (v := .int .i64 ((ys.getD (((m : Int) + 3).toNat) 0) % 12)) rfl rfl (by rfl) hc29 (by rfl) (by rfl) ?_)
      intro w54 hc55 u56
      replace hO := hO.upd u56 hc29 (by decide) (by decide)
      replace RO := (OwnA.rowat hO (by omega)).2
      replace hMw := Nat.le_trans hMw (Nat.le_of_eq u56.size.symm)
      replace G := G.upd u56 hgQ
      clear u56 hc29
      refine WL_nil ?_
      refine W_seq (W_region rfl ?_)
      refine stp (r_move_slice rfl ?_)
      refine stp (r_move_int rfl ?_)
      refine stp (r_add rfl rfl ?_ ?_); constructor <;> omega
      refine stp (r_indexR (R2.grow G) rfl rfl ?_ ?_ ?_); omega; omega
      refine stp (r_loadR (v := .int .u8 (ys.getD (((m : Int) + 2).toNat) 0)) (m := 0) (R2.grow G) rfl (map_get1 0 (by omega)) ?_)
      refine stp (r_quo rfl rfl ?_ ?_ ?_ ?_); omega; omega; (constructor <;> omega)
      refine stp (r_conv rfl ?_ ?_); constructor <;> omega
      refine stp (r_move_slice rfl ?_)
      refine stp (r_len rfl rfl rfl ?_)
      refine stp (r_add rfl rfl ?_ ?_); constructor <;> omega
      refine stp (r_rem rfl rfl ?_ ?_ ?_); omega; omega
      refine stp (r_fieldAddr rfl ?_)
      refine stn (r_store1 (v := .int .i64 (((ys.getD (((m : Int) + 2).toNat) 0) / 3) % ((A.length : Int) + 1))) rfl rfl (by rfl) hc55 (by rfl) (by rfl) ?_)
      intro w57 hc58 u59
      replace hO := hO.upd u59 hc55 (by decide) (by decide)
      replace RO := (OwnA.rowat hO (by omega)).2
      replace hMw := Nat.le_trans hMw (Nat.le_of_eq u59.size.symm)
      replace G := G.upd u59 hgQ
      clear u59 hc55
      refine WL_nil ?_
      refine W_region rfl ?_
      refine stp (r_move_slice rfl ?_)
      refine stp (r_move_int rfl ?_)
      refine stp (r_add rfl rfl ?_ ?_); constructor <;> omega
      refine stp (r_indexR (R2.grow G) rfl rfl ?_ ?_ ?_); omega; omega
      refine stp (r_loadR (v := .int .u8 (ys.getD (((m : Int) + 2).toNat) 0)) (m := 0) (R2.grow G) rfl (map_get1 0 (by omega)) ?_)
      refine stp (r_rem rfl rfl ?_ ?_ ?_); omega; omega
      refine stp (r_eql rfl rfl ?_)
      refine stp (r_fieldAddr rfl ?_)
      refine stn (r_store1 (v := .bool (decide (((ys.getD (((m : Int) + 2).toNat) 0) % 2) = 1))) rfl rfl (by rfl) hc58 (by rfl) (by rfl) ?_)
      intro w60 hc61 u62
      replace hO := hO.upd u62 hc58 (by decide) (by decide)
      replace RO := (OwnA.rowat hO (by omega)).2
      replace hMw := Nat.le_trans hMw (Nat.le_of_eq u62.size.symm)
      replace G := G.upd u62 hgQ
      clear u62 hc58
      refine WL_nil ?_
      refine W_seq (W_region rfl ?_)
      refine stp (r_loadAll rfl hc61 (by rfl) ?_)
      refine WL_some (og rfl ?_)
      have hP : (⟨1 + ((ys.getD (((m : Int) + 2).toNat) 0) % 3), (ys.getD (((m : Int) + 3).toNat) 0) % 12, 0, 0, 0, 0, ((ys.getD (((m : Int) + 2).toNat) 0) / 3) % ((A.length : Int) + 1), (decide (((ys.getD (((m : Int) + 2).toNat) 0) % 2) = 1))⟩ : Pt) = bentP (ys.getD ((m : Int) + 2).toNat 0) (ys.getD ((m : Int) + 3).toNat 0) A.length := by unfold bentP; rw [if_neg (by omega), if_neg (by omega)]; rw [show 1 + (ys.getD ((m : Int) + 2).toNat 0) % 3 = 3 from by omega]
      refine r_gives (v := .tuple #[.int .u64 x, .int .i64 z]) rfl (gives_eq (rencode_calls _ ⟨1 + ((ys.getD (((m : Int) + 2).toNat) 0) % 3), (ys.getD (((m : Int) + 3).toNat) 0) % 12, 0, 0, 0, 0, ((ys.getD (((m : Int) + 2).toNat) 0) / 3) % ((A.length : Int) + 1), (decide (((ys.getD (((m : Int) + 2).toNat) 0) % 2) = 1))⟩) (y := .tuple #[.int .u64 x, .int .i64 z]) (by rw [hP, ← hxE, ← hzE])) ?_
      intro w63 g64
      replace hO := hO.grow g64
      replace RO := RO.grow g64
      replace hMw := Nat.le_trans hMw g64.size
      replace hc61 := g64.heap hc61
      replace G := G.tr g64
      clear g64
      refine stp (r_move (v := .tuple #[.int .u64 x, .int .i64 z]) rfl ?_)
      refine stp (r_extract (v := .int .u64 x) rfl rfl ?_)
      refine stp (r_extract (v := .int .i64 z) rfl rfl ?_)
      refine stp (r_assign_int rfl ?_)
      refine stp (r_assign_int rfl ?_)
      refine WL_nil ?_
      refine W_region rfl ?_
      refine stp (r_move_slice rfl ?_)
      refine stp (r_move_int rfl ?_)
      refine stp (r_indexN RO rfl rfl ?_ ?_); omega
      refine stp (r_loadR (v := .slice (sa s) (len2 A s) (sc s)) (m := 0) RO rfl (by rw [Nat.mul_one]; exact hss) ?_)
      refine stp (r_move_int rfl ?_)
      refine stp (r_move_int rfl ?_)
      refine WL_some (og rfl ?_)
      have hos9 := hO.seg s _ _ hss (List.getElem?_eq_getElem hsA)
      have hlen9 : len2 A s = A[s].length := by rw [len2, getD_at hsA]
      obtain ⟨g5, c5, cur5, he5, hg5b, hg5, hc51, hc52, hc53, hc54⟩ := own_pos hos9 (by omega)
      simp only [Value.slice.injEq] at he5
      obtain ⟨hsa, -, hsc⟩ := he5
      refine r_indexAddr (b := g5) (o := 0) (n := len2 A s) (c := sc s) (i := (j : Int)) (show _ = _ from congrArg (fun a_ => Value.slice a_ (len2 A s) (sc s)) hsa) rfl (by omega) (by omega) ?_
      rw [Int.toNat_natCast, Nat.zero_add, Nat.mul_one]
      refine stn (r_store1 (v := .int .u64 x) rfl rfl rfl hg5 (Nat.ble_eq_true_of_le (by omega)) rfl ?_)
      intro w7 hs6 u7
      rw [hsa, hlen9] at hss
      have hO7 := hO.setw (i := j) (x := x) (by decide) (List.getElem?_eq_getElem hsA) hss hg5 hs6 (by simp) u7
      replace G := G.upd u7 hg5b
      have hset : A.set s (A[s].set j x) = setP A s j x := by unfold setP; rw [getD_at hsA]
      rw [hset] at hO7
      refine WL_nil ?_
      refine W_region rfl ?_
      refine stp (r_move_int rfl ?_)
      refine stp (r_add rfl rfl ?_ ?_); constructor <;> omega
      refine stp (r_assign_int rfl ?_)
      refine WL_nil ?_
      have hln := setP_length A s j x
      rw [show (Value.slice ado A.length co) = .slice ado (setP A s j x).length co from by rw [hln]] at hO7
      refine ⟨_, ?_, m + 4, ado, co, segs, setP A s j x, rfl, fr_of ⟨rfl, rfl, congrArg (Value.int .i64) (by omega), by rw [hln]; rfl, trivial⟩, by omega, by rw [hxE]; exact .put hA hsA hjA hd2.1 hd2.2 hd3.1 hd3.2, hO7, G⟩
      omega
  ·-- false
   simp only [sb] at hlt
   refine W_exit ?_
   refine W_seq (W_region rfl ?_)
   refine stp (r_move_slice rfl ?_)
   refine stp (r_assign_slice rfl ?_)
   refine WL_nil ?_
   refine W_ret ?_
   refine ret1 (res_tmp (v := .slice ado A.length co) rfl) ⟨ado, co, segs, A, rfl, hO, by rw [hB] at hA; exact hA, G⟩
end Go.Proofs.YtifhcfhdajkhlaaGreat.K

namespace Go.Proofs.YtifhcfhdajkhlaaGreat.K
open Go Go.RowKit Go.Proofs
attribute [local irreducible] Run1 OpG WL W AO Gives
set_option maxRecDepth 100000 in
theorem path_calls (w : World) {n cp : Nat} {ad : Option Addr} {xs : List Int} {at_ : Int} (R : RowAt w 1 ad n (xs.map (.int .u8))) (hn : n = xs.length) (hx : isU8 xs) (a0 : 0 ≤ at_) (a1 : at_ ≤ 255) : Calls Tryz.prog 8 #[.slice ad n cp, .int .u8 at_] w (Ret fun v w' => ∃ ad2 c2, v = .agg #[.slice ad2 (pathP xs).length c2, .int .i64 (at_ % 12 - 2)] ∧ RowAt w' 1 ad2 (pathP xs).length ((pathP xs).map (.int .i64)) ∧ Grow w w') := by
 have ll := R.lim
 have G := Grow.rfl' w
 refine calls_ret Tryz.func8 Tryz.ntmps8 Tryz.results8 rfl rfl ?_
 refine W_seq (W_region rfl ?_)
 refine stp (r_alloc ?_)
 intro b1 w2 hb3 hc4 g5
 refine WL_nil ?_
 refine W_seq (W_region rfl ?_)
 refine stp (r_move_int rfl ?_)
 refine stp (r_rem rfl rfl ?_ ?_ ?_); omega; omega
 refine stp (r_conv rfl ?_ ?_); constructor <;> omega
 refine stp (r_sub rfl rfl ?_ ?_); constructor <;> omega
 refine stp (r_build (v := .agg #[.slice none 0 0, .int .i64 ((at_ % 12) - 2)]) (fun w => by kernel_rfl) ?_)
 have hge6 := Nat.le_trans G.size hb3
 replace G := G.tr g5
 clear g5 hb3
 refine stp (r_alloc ?_)
 intro b7 w8 hb9 hc10 g11
 refine stn (r_storeAll rfl rfl hc10 (by rfl) (by rfl) (by rfl) ?_)
 intro w12 hc13 u14
 have g15 := g11.upd u14 hb9
 have hge16 := Nat.le_trans G.size hb9
 have ne17 := Nat.ne_of_lt (Nat.lt_of_lt_of_le (lt_of_heap hc4) hb9)
 replace hc4 := g15.heap hc4
 replace G := G.tr g15
 clear u14 g11 hb9 hc10
 refine WL_nil ?_
 refine W_seq ?_
 refine W_seq (W_region rfl ?_)
 refine stp (r_assign_int rfl ?_)
 refine WL_nil ?_
 refine W_block ?_
 refine W_loop (fun m_ e_ w_ => ∃ (k : Nat) (ad3 : Option Addr) (n3 : Nat) (c3 : Nat), m_ = 6 - k ∧ Fr [(0, .slice ad n cp), (4, .pointer (some ⟨b1, 0, none⟩)), (5, .pointer (some ⟨b7, 0, none⟩)), (6, .int .i64 (k : Int))] e_ ∧ (k ≤ 6 ∧ k ≤ xs.length) ∧ (w_.heap[b1]? = some (.cells #[.slice none 0 0, .int .i64 0] 29 (0, 0))) ∧ (w_.heap[b7]? = some (.cells #[.slice ad3 n3 c3, .int .i64 (at_ % 12 - 2)] 29 (0, 0))) ∧ (w_.ownsRow w.heap.size 3 1 (.slice ad3 n3 c3) k (((xs.take k).map (· % 6)).map (.int .i64))) ∧ Grow w w_) _ ⟨0, none, 0, 0, rfl, fr_of ⟨rfl, rfl, rfl, rfl, trivial⟩, by omega, hc4, hc13, World.ownsRow_nil _ _ _ _, G⟩ ?_
 clear hc4 hc13
 clear G
 rintro m_ e_ w18 ⟨k, ad3, n3, c3, rfl, ⟨e19, rfl⟩, hk, hc4, hc13, own, G⟩
 refine W_seq ?_
 refine W_seq (W_region rfl ?_)
 refine stp (r_move_int rfl ?_)
 refine stp (r_move_slice rfl ?_)
 refine stp (r_len rfl rfl rfl ?_)
 refine stp (r_lss rfl rfl ?_)
 refine stp (r_move_bool rfl ?_)
 refine WL_some (og_if (s := .bool (decide ((k : Int) < (n : Int)))) (b := true) (v := .int .i64 (k : Int)) rfl (wgb_t _) (fun hc20 => ?_) ?_)
 ·
  have hc20_ := of_decide_eq_true hc20
  refine r_move_int rfl ?_
  exact ⟨rfl, rfl⟩
 refine WL_some (og_if (s := .bool (decide ((k : Int) < (n : Int)))) (b := true) (v := .bool (decide ((k : Int) < 6))) rfl (wgb_t _) (fun hc21 => ?_) ?_)
 ·
  have hc21_ := of_decide_eq_true hc21
  refine r_lss (gvt hc21) rfl ?_
  exact ⟨rfl, rfl⟩
 refine stp (r_and2 rfl rfl rfl ?_)
 refine WL_nil ?_
 refine W_cond2 (b := ((decide ((k : Int) < (n : Int))) && (decide ((k : Int) < 6)))) rfl (fun hlt => ?_) (fun hlt => ?_)
 ·-- true
  simp only [sb] at hlt
  obtain ⟨h1a, h1b⟩ := hlt
  have hu := getD_u8 hx k
  have hkx : k < xs.length := by omega
  refine W_skip ?_
  refine W_seq ?_
  refine W_block ?_
  refine W_any 9 [[], [0], [], [], [1, 0], [2, 1, 0], [3, 2, 1, 0], [4, 3, 2, 1, 0], [5, 4, 3, 2, 1, 0]] mixed (by kernel_rfl) (by kernel_rfl) (by kernel_rfl) ?_
  intro w22 g23
  replace hc4 := g23.heap hc4
  replace hc13 := g23.heap hc13
  replace own := own_grow own g23
  replace G := G.tr g23
  clear g23
  apply AO_ex
  ·intro w_ g_; refine og rfl ?_; refine r_fieldAddr rfl ?_; exact ⟨Grow.rfl' _, rfl⟩
  apply AO_ex
  ·intro w_ g_; refine og rfl ?_; refine r_load (v := .slice ad3 n3 c3) rfl (g_.heap hc13) rfl ?_; exact ⟨Grow.rfl' _, rfl⟩
  apply AO_ex
  ·intro w_ g_; refine og rfl ?_; refine r_move_slice rfl ?_; exact ⟨Grow.rfl' _, rfl⟩
  apply AO_ex
  ·intro w_ g_; refine og rfl ?_; refine r_move_int rfl ?_; exact ⟨Grow.rfl' _, rfl⟩
  apply AO_ex
  ·intro w_ g_; refine og rfl ?_; refine r_indexN (R.grow (G.tr g_)) rfl rfl ?_ ?_; omega; exact ⟨Grow.rfl' _, rfl⟩
  apply AO_ex
  ·intro w_ g_; refine og rfl ?_; refine r_loadR (v := .int .u8 (xs.getD k 0)) (m := 0) (R.grow (G.tr g_)) rfl (map_get1 0 (by omega)) ?_; exact ⟨Grow.rfl' _, rfl⟩
  apply AO_ex
  ·intro w_ g_; refine og rfl ?_; refine r_rem rfl rfl ?_ ?_ ?_; omega; omega; exact ⟨Grow.rfl' _, rfl⟩
  apply AO_ex
  ·intro w_ g_; refine og rfl ?_; refine r_conv rfl ?_ ?_; constructor <;> omega; exact ⟨Grow.rfl' _, rfl⟩
  refine AO_so (fun w_ v_ => Row w_ 1 v_ 1 [.int .i64 (xs.getD k 0 % 6)]) (fun _ _ _ g_ h_ => h_.grow g_) ?_ ?_
  ·intro w_ g_
   refine og rfl ?_
   refine r_buildSlice (cs := #[.int .i64 (xs.getD k 0 % 6)]) (el := 3) (fun w => by kernel_rfl) ?_
   intro bs_ w2_ hb_ hc_ g2_
   exact ⟨g2_, Row.of_block (n := 1) hc_ rfl rfl (by omega)⟩
  refine AO_nil ?_
  intro w24 g25
  replace hc4 := g25.heap hc4
  replace hc13 := g25.heap hc13
  replace own := own_grow own g25
  replace G := G.tr g25
  clear g25
  intro v_l hv_l
  refine stp (r_append rfl rfl rfl rfl own hv_l (fun q_ hq_ => by simp at hq_; subst hq_; rfl) (by simp only [maxLen]; omega) (by omega) G.size ?_)
  intro v26 w27 own6 gr6
  replace G := G.grown gr6 (own_ge own)
  replace hc4 := gr_heap gr6 hc4 (own_ne own hc4 (by decide))
  replace hc13 := gr_heap gr6 hc13 (own_ne own hc13 (by decide))
  clear own gr6
  obtain ⟨ad4, n4, c4, rfl⟩ := own_slice own6
  refine stp (r_fieldAddr rfl ?_)
  refine stn (r_store1 (v := .slice ad4 n4 c4) rfl rfl (by rfl) hc13 (by rfl) (by rfl) ?_)
  intro w28 hc29 u30
  replace hc4 := u30.heap hc4 ne17
  replace own6 := own_upd own6 u30 (own_ne own6 hc13 (by decide))
  replace G := G.upd u30 hge16
  clear u30 hc13
  refine WL_nil ?_
  refine W_region rfl ?_
  refine stp (r_move_int rfl ?_)
  refine stp (r_add rfl rfl ?_ ?_); constructor <;> omega
  refine stp (r_assign_int rfl ?_)
  refine WL_nil ?_
  refine ⟨_, ?_, k + 1, ad4, n4, c4, rfl, fr_of ⟨rfl, rfl, rfl, congrArg (Value.int .i64) (by omega), trivial⟩, by omega, hc4, hc29, (by rw [List.take_add_one, List.getElem?_eq_getElem hkx, Option.toList_some, List.map_append, List.map_append]; rw [getD_at hkx] at own6; exact own6), G⟩
  omega
 ·-- false
  simp only [sb] at hlt
  have hk6 : k = min 6 xs.length := by omega
  have htk : xs.take k = xs.take 6 := by rw [hk6]; rcases Nat.le_total 6 xs.length with h_ | h_; (rw [Nat.min_eq_left h_]); (rw [Nat.min_eq_right h_, List.take_length, List.take_of_length_le h_])
  have hpl : (pathP xs).length = k := by simp only [pathP, List.length_map, List.length_take]; omega
  refine W_exit ?_
  refine W_seq (W_region rfl ?_)
  refine stp (r_loadAll rfl hc13 (by rfl) ?_)
  refine stn (r_storeAll rfl rfl hc4 (by rfl) (by rfl) (by rfl) ?_)
  intro w31 hc32 u33
  replace hc13 := u33.heap hc13 ne17.symm
  replace own := own_upd own u33 (own_ne own hc4 (by decide))
  replace G := G.upd u33 hge6
  clear u33 hc4
  refine WL_nil ?_
  refine W_ret ?_
  obtain ⟨ad9, c9, hs9, -, -, R9⟩ := own_row own (by omega)
  simp only [Value.slice.injEq] at hs9
  obtain ⟨rfl, rfl, rfl⟩ := hs9
  rw [htk] at R9
  refine ret1 (res_all rfl hc32 (by rfl)) ⟨_, _, by rw [hpl], by rw [hpl]; exact R9, G⟩
end Go.Proofs.YtifhcfhdajkhlaaGreat.K

namespace Go.Proofs.YtifhcfhdajkhlaaGreat.K
open Go Go.RowKit
/-- A step, nothing handed back beside an error. -/
def stepO (s : Src) (o : Ob) (k : Int) : Ob × Int := (if (stepS s o k).2 ≠ 0 then Ob0 else (stepS s o k).1, (stepS s o k).2)
theorem found_err {s : Src} {p : Pt} {seg a : Int} (h : (foundS s p seg a).2 ≠ 0) : (foundS s p seg a).1 = Ob0 := by
  revert h; unfold foundS; (repeat' split) <;> simp
theorem follow_err {s : Src} {seg a : Int} (h : (followS s seg a).2 ≠ 0) : (followS s seg a).1 = Ob0 := by
  revert h; unfold followS
  split
  · intro _; rfl
  · split
    · exact found_err
    · split
      · unfold twiceS
        (repeat' split) <;> first | exact found_err | (intro _; rfl)
      · unfold landedS
        (repeat' split) <;> first | exact found_err | (intro _; rfl)
theorem follow_O (s : Src) (seg a : Int) : ((if (followS s seg a).2 ≠ 0 then Ob0 else (followS s seg a).1), (followS s seg a).2) = followS s seg a := by
  split
  · rename_i h; exact Prod.ext (follow_err h).symm rfl
  · rfl
theorem stepO_f {s : Src} {o : Ob} {k seg a : Int} (h : stepS s o k = followS s seg a) : stepO s o k = followS s seg a := by unfold stepO; rw [h]; exact follow_O s seg a
theorem stepO_e {s : Src} {o x : Ob} {k e : Int} (h : stepS s o k = (x, e)) (he : e ≠ 0 ∨ x = Ob0) : stepO s o k = (Ob0, e) := by
  unfold stepO; rw [h]
  rcases he with he | he
  · rw [if_pos he]
  · subst he; split <;> rfl
theorem SrcR.stepO_range {P : Program} {fw : FuncId} {w : World} {ua uh : Value} {b : Bool} {A : List (List Int)} {s : Src} (H : SrcR P fw w ua b uh A s) (o : Ob) (k : Int) : ObR (stepO s o k).1 := by
  unfold stepO
  split
  · exact Ob0_range
  · rename_i h
    revert h
    unfold stepS
    (repeat' split) <;> first | (intro _; exact Ob0_range) | (intro h; simp at h; done) | (intro _; exact H.follow_range _ _)
/-- What is left of a walk: so much was paid. -/
def tailW (s : Src) (steps : List Int) (a cost : Int) (i : Nat) (o : Ob) (e paid : Int) : Vl × Int :=
  if e ≠ 0 then (Vl0, e) else if paid + (1 + wordsO o) > cost then (Vl0, 22) else nextS s a (steps.drop i) o (cost - (paid + (1 + wordsO o)))
theorem tail_next {s : Src} {steps : List Int} {a cost : Int} {i : Nat} {o : Ob} {paid : Int} (hi : i < steps.length) (h : ¬ paid + (1 + wordsO o) > cost) :
    tailW s steps a cost i o 0 paid = tailW s steps a cost (i + 1) (stepO s o (steps.getD i 0)).1 (stepO s o (steps.getD i 0)).2 (paid + (1 + wordsO o)) := by
  unfold tailW
  rw [if_neg (by simp), if_neg h, show steps.drop i = steps.getD i 0 :: steps.drop (i + 1) from by rw [List.drop_eq_getElem_cons hi, getD_at hi], nextS]
  unfold stepO
  by_cases he : (stepS s o (steps.getD i 0)).2 ≠ 0
  · rw [if_pos he, if_pos he]
  · rw [if_neg he, if_neg he]
    simp only [if_neg he]
    by_cases hc : cost - (paid + (1 + wordsO o)) - (1 + wordsO (stepS s o (steps.getD i 0)).1) < 0
    · rw [if_pos hc, if_pos (by omega)]
    · rw [if_neg hc, if_neg (by omega), show cost - (paid + (1 + wordsO o)) - (1 + wordsO (stepS s o (steps.getD i 0)).1) = cost - (paid + (1 + wordsO o) + (1 + wordsO (stepS s o (steps.getD i 0)).1)) from by omega]
theorem tail_walk {s : Src} {steps : List Int} {a cost : Int} (h1 : ¬ ∃ k ∈ steps, k < 0) (h2 : ¬ (steps.length : Int) > 32) (hc : 0 ≤ cost) : walkS s steps a cost = tailW s steps a cost 0 (followS s 0 0).1 (followS s 0 0).2 0 := by
  unfold walkS tailW
  rw [if_neg h1, if_neg h2, show max cost (-1) = cost from by omega]
  by_cases h3 : (followS s 0 0).2 ≠ 0
  · rw [if_pos h3, if_pos h3]
  · rw [if_neg h3, if_neg h3]
    by_cases h4 : cost - (1 + wordsO (followS s 0 0).1) < 0
    · rw [if_pos h4, if_pos (by omega)]
    · rw [if_neg h4, if_neg (by omega), List.drop_zero, show cost - (0 + (1 + wordsO (followS s 0 0).1)) = cost - (1 + wordsO (followS s 0 0).1) from by omega]
theorem tail_end {s : Src} {steps : List Int} {a cost : Int} {o : Ob} {paid : Int} (h : ¬ paid + (1 + wordsO o) > cost) : tailW s steps a cost steps.length o 0 paid = valS s o a := by
  unfold tailW
  rw [if_neg (by simp), if_neg h, List.drop_length, nextS]
end Go.Proofs.YtifhcfhdajkhlaaGreat.K

namespace Go.Proofs.YtifhcfhdajkhlaaGreat.K
open Go Go.RowKit Go.Proofs
attribute [local irreducible] Run1 OpG WL W AO Gives
set_option maxRecDepth 100000 in
theorem rstep9_calls (w : World) {ua uh : Value} {b : Bool} {A : List (List Int)} {s : Src} (H : SrcR Tryz.prog 110 w ua b uh A s) (o : Ob) (ho : ObR o) (k : Int) (k0 : 0 ≤ k) : Gives Tryz.prog 68 #[.agg #[ua, .bool b, uh], .agg #[.int .i64 o.kind, .int .i64 o.seg, .int .i64 o.at_, .int .i64 o.data, .int .i64 o.ptrs, .int .i64 o.size, .int .i64 o.count], .int .i64 k] w (.tuple #[.agg #[.int .i64 ((stepO s o k).1.kind), .int .i64 ((stepO s o k).1.seg), .int .i64 ((stepO s o k).1.at_), .int .i64 ((stepO s o k).1.data), .int .i64 ((stepO s o k).1.ptrs), .int .i64 ((stepO s o k).1.size), .int .i64 ((stepO s o k).1.count)], .int .i64 ((stepO s o k).2)]) := by
 obtain ⟨rk, rs, ra, rd, rp, rz, rc⟩ := ho
 have G := Grow.rfl' w
 refine gives_of Tryz.func68 Tryz.ntmps68 Tryz.results68 rfl rfl ?_
 refine W_seq (W_region rfl ?_)
 refine WL_some (og rfl ?_)
 (first | refine r_box_agg rfl ?_ | refine r_box_int rfl ?_ | refine r_box_slice rfl ?_ | refine r_box rfl rfl ?_)
 intro b1 w2 hb3 hc4 g5
 have hge6 := Nat.le_trans G.size hb3
 replace G := G.tr g5
 clear g5 hb3
 refine WL_some (og rfl ?_)
 (first | refine r_box_agg rfl ?_ | refine r_box_int rfl ?_ | refine r_box_slice rfl ?_ | refine r_box rfl rfl ?_)
 intro b7 w8 hb9 hc10 g11
 have hge12 := Nat.le_trans G.size hb9
 replace hc4 := g11.heap hc4
 replace G := G.tr g11
 clear g11 hb9
 refine stp (r_alloc ?_)
 intro b13 w14 hb15 hc16 g17
 refine stp (r_assign_int rfl ?_)
 refine WL_nil ?_
 refine W_seq (W_region rfl ?_)
 refine stp (r_fieldAddr rfl ?_)
 have hge18 := Nat.le_trans G.size hb15
 have ne19 := Nat.ne_of_lt (Nat.lt_of_lt_of_le (lt_of_heap hc4) hb15)
 have ne20 := Nat.ne_of_lt (Nat.lt_of_lt_of_le (lt_of_heap hc10) hb15)
 replace hc4 := g17.heap hc4
 replace hc10 := g17.heap hc10
 replace G := G.tr g17
 clear g17 hb15
 refine stp (r_load (v := .int .i64 o.at_) rfl hc10 rfl ?_)
 refine stp (r_move_int rfl ?_)
 refine stp (r_addw rfl rfl ?_)
 obtain ⟨at9, hat9⟩ : ∃ x, x = IntKind.i64.wrap (o.at_ + k) := ⟨_, rfl⟩
 rw [← hat9]
 refine stp (r_assign_int rfl ?_)
 refine WL_nil ?_
 refine W_seq ?_
 refine W_seq (W_region rfl ?_)
 refine stp (r_fieldAddr rfl ?_)
 refine stp (r_load (v := .int .i64 o.kind) rfl hc10 rfl ?_)
 refine WL_nil ?_
 refine W_block ?_
 refine W_seq (W_region rfl ?_)
 refine stp (r_eql rfl rfl ?_)
 refine stp (r_assign_bool rfl ?_)
 refine WL_nil ?_
 refine W_cond2 (b := (decide (o.kind = 0))) rfl (fun h1 => ?_) (fun h1 => ?_)
 ·-- true
  replace h1 := of_decide_eq_true h1
  refine W_seq (W_region rfl ?_)
  refine stp (r_build (v := .agg #[.int .i64 0, .int .i64 0, .int .i64 0, .int .i64 0, .int .i64 0, .int .i64 0, .int .i64 0]) (fun w => by kernel_rfl) ?_)
  refine stn (r_storeAll rfl rfl hc16 (by rfl) (by rfl) (by rfl) ?_)
  intro w21 hc22 u23
  replace hc4 := u23.heap hc4 ne19
  replace hc10 := u23.heap hc10 ne20
  replace G := G.upd u23 hge18
  clear u23 hc16
  refine stp (r_assign_int rfl ?_)
  refine WL_nil ?_
  refine W_ret ?_
  have h8 : stepS s o k = (Ob0, 0) := by unfold stepS; rw [if_pos (.inl h1)]
  have h9 := stepO_e h8 (by simp)
  refine ret2 (res_all rfl hc22 (by rfl)) (res_tmp (v := .int .i64 0) rfl) ⟨?_, G⟩
  rw [h9]; rfl
 ·-- false
  replace h1 := of_decide_eq_false h1
  refine W_seq (W_region rfl ?_)
  refine stp (r_eql rfl rfl ?_)
  refine stp (r_assign_bool rfl ?_)
  refine WL_nil ?_
  refine W_cond2 (b := (decide (o.kind = 1))) rfl (fun h2 => ?_) (fun h2 => ?_)
  ·-- true
   replace h2 := of_decide_eq_true h2
   refine W_seq ?_
   refine W_seq (W_region rfl ?_)
   refine stp (r_move_int rfl ?_)
   refine stp (r_fieldAddr rfl ?_)
   refine stp (r_load (v := .int .i64 o.ptrs) rfl hc10 rfl ?_)
   refine stp (r_geq rfl rfl ?_)
   refine WL_nil ?_
   refine W_cond2 (b := (decide (k ≥ o.ptrs))) rfl (fun h3 => ?_) (fun h3 => ?_)
   ·-- true
    replace h3 := of_decide_eq_true h3
    refine W_seq (W_region rfl ?_)
    refine stp (r_build (v := .agg #[.int .i64 0, .int .i64 0, .int .i64 0, .int .i64 0, .int .i64 0, .int .i64 0, .int .i64 0]) (fun w => by kernel_rfl) ?_)
    refine stn (r_storeAll rfl rfl hc16 (by rfl) (by rfl) (by rfl) ?_)
    intro w24 hc25 u26
    replace hc4 := u26.heap hc4 ne19
    replace hc10 := u26.heap hc10 ne20
    replace G := G.upd u26 hge18
    clear u26 hc16
    refine stp (r_assign_int rfl ?_)
    refine WL_nil ?_
    refine W_ret ?_
    have h8 : stepS s o k = (Ob0, 0) := by unfold stepS; rw [if_pos (.inr ⟨h2, h3⟩)]
    have h9 := stepO_e h8 (by simp)
    refine ret2 (res_all rfl hc25 (by rfl)) (res_tmp (v := .int .i64 0) rfl) ⟨?_, G⟩
    rw [h9]; rfl
   ·-- false
    replace h3 := of_decide_eq_false h3
    have hat8 : at9 = o.at_ + k := by rw [hat9]; exact wrap_in (by simp only [inR]; omega)
    have h8 : stepS s o k = (followS s o.seg (at9 + o.data)) := by unfold stepS; rw [if_neg (by omega), if_pos h2, hat8]
    have h9 := stepO_f h8
    refine W_skip ?_
    refine W_region rfl ?_
    refine stp (r_move_int rfl ?_)
    refine stp (r_fieldAddr rfl ?_)
    refine stp (r_load (v := .int .i64 o.data) rfl hc10 rfl ?_)
    refine stp (r_add rfl rfl ?_ ?_); constructor <;> omega
    refine stp (r_assign_int rfl ?_)
    refine WL_nil ?_
    refine W_seq (W_region rfl ?_)
    refine stp (r_loadAll rfl hc4 (by rfl) ?_)
    refine stp (r_fieldAddr rfl ?_)
    refine stp (r_load (v := .int .i64 o.seg) rfl hc10 rfl ?_)
    refine stp (r_move_int rfl ?_)
    refine stp (r_gives (v := .tuple #[.agg #[.int .i64 ((followS s o.seg (at9 + o.data)).1.kind), .int .i64 ((followS s o.seg (at9 + o.data)).1.seg), .int .i64 ((followS s o.seg (at9 + o.data)).1.at_), .int .i64 ((followS s o.seg (at9 + o.data)).1.data), .int .i64 ((followS s o.seg (at9 + o.data)).1.ptrs), .int .i64 ((followS s o.seg (at9 + o.data)).1.size), .int .i64 ((followS s o.seg (at9 + o.data)).1.count)], .int .i64 ((followS s o.seg (at9 + o.data)).2)]) rfl (rfollow_calls _ (H.grow G) o.seg (at9 + o.data) (by simp only [inR]; omega) (by simp only [inR]; omega)) ?_)
    intro w27 g28
    replace hc4 := g28.heap hc4
    replace hc10 := g28.heap hc10
    replace hc16 := g28.heap hc16
    replace G := G.tr g28
    clear g28
    refine stp (r_move (v := .tuple #[.agg #[.int .i64 ((followS s o.seg (at9 + o.data)).1.kind), .int .i64 ((followS s o.seg (at9 + o.data)).1.seg), .int .i64 ((followS s o.seg (at9 + o.data)).1.at_), .int .i64 ((followS s o.seg (at9 + o.data)).1.data), .int .i64 ((followS s o.seg (at9 + o.data)).1.ptrs), .int .i64 ((followS s o.seg (at9 + o.data)).1.size), .int .i64 ((followS s o.seg (at9 + o.data)).1.count)], .int .i64 ((followS s o.seg (at9 + o.data)).2)]) rfl ?_)
    refine stp (r_extract (v := .agg #[.int .i64 ((followS s o.seg (at9 + o.data)).1.kind), .int .i64 ((followS s o.seg (at9 + o.data)).1.seg), .int .i64 ((followS s o.seg (at9 + o.data)).1.at_), .int .i64 ((followS s o.seg (at9 + o.data)).1.data), .int .i64 ((followS s o.seg (at9 + o.data)).1.ptrs), .int .i64 ((followS s o.seg (at9 + o.data)).1.size), .int .i64 ((followS s o.seg (at9 + o.data)).1.count)]) rfl rfl ?_)
    refine stp (r_extract (v := .int .i64 ((followS s o.seg (at9 + o.data)).2)) rfl rfl ?_)
    refine stp (r_alloc ?_)
    intro b29 w30 hb31 hc32 g33
    refine stn (r_storeAll rfl rfl hc32 (by rfl) (by rfl) (by rfl) ?_)
    intro w34 hc35 u36
    have g37 := g33.upd u36 hb31
    have hge38 := Nat.le_trans G.size hb31
    have ne39 := Nat.ne_of_lt (Nat.lt_of_lt_of_le (lt_of_heap hc4) hb31)
    have ne40 := Nat.ne_of_lt (Nat.lt_of_lt_of_le (lt_of_heap hc10) hb31)
    have ne41 := Nat.ne_of_lt (Nat.lt_of_lt_of_le (lt_of_heap hc16) hb31)
    replace hc4 := g37.heap hc4
    replace hc10 := g37.heap hc10
    replace hc16 := g37.heap hc16
    replace G := G.tr g37
    clear u36 g33 hb31 hc32
    refine stp (r_assign_int rfl ?_)
    refine WL_nil ?_
    refine W_seq (W_region rfl ?_)
    refine stp (r_loadAll rfl hc35 (by rfl) ?_)
    refine stp (r_move_int rfl ?_)
    refine stn (r_storeAll rfl rfl hc16 (by rfl) (by rfl) (by rfl) ?_)
    intro w42 hc43 u44
    replace hc4 := u44.heap hc4 ne19
    replace hc10 := u44.heap hc10 ne20
    replace hc35 := u44.heap hc35 ne41.symm
    replace G := G.upd u44 hge18
    clear u44 hc16
    refine stp (r_assign_int rfl ?_)
    refine WL_nil ?_
    refine W_ret ?_
    refine ret2 (res_all rfl hc43 (by rfl)) (res_tmp (v := .int .i64 ((followS s o.seg (at9 + o.data)).2)) rfl) ⟨?_, G⟩
    rw [h9]
  ·-- false
   replace h2 := of_decide_eq_false h2
   refine W_seq ?_
   refine W_seq (W_region rfl ?_)
   refine stp (r_fieldAddr rfl ?_)
   refine stp (r_load (v := .int .i64 o.size) rfl hc10 rfl ?_)
   refine stp (r_neq rfl rfl ?_)
   refine WL_nil ?_
   refine W_cond2 (b := (decide (o.size ≠ 6))) rfl (fun h3 => ?_) (fun h3 => ?_)
   ·-- true
    replace h3 := of_decide_eq_true h3
    refine W_seq (W_region rfl ?_)
    refine stp (r_build (v := .agg #[.int .i64 0, .int .i64 0, .int .i64 0, .int .i64 0, .int .i64 0, .int .i64 0, .int .i64 0]) (fun w => by kernel_rfl) ?_)
    refine stn (r_storeAll rfl rfl hc16 (by rfl) (by rfl) (by rfl) ?_)
    intro w45 hc46 u47
    replace hc4 := u47.heap hc4 ne19
    replace hc10 := u47.heap hc10 ne20
    replace G := G.upd u47 hge18
    clear u47 hc16
    refine stp (r_assign_int rfl ?_)
    refine WL_nil ?_
    refine W_ret ?_
    have h8 : stepS s o k = (o, 23) := by unfold stepS; rw [if_neg (by omega), if_neg h2, if_pos h3]
    have h9 := stepO_e h8 (by simp)
    refine ret2 (res_all rfl hc46 (by rfl)) (res_tmp (v := .int .i64 23) rfl) ⟨?_, G⟩
    rw [h9]; rfl
   ·-- false
    replace h3 := of_decide_eq_false h3
    refine W_skip ?_
    refine W_seq (W_region rfl ?_)
    refine stp (r_move_int rfl ?_)
    refine stp (r_fieldAddr rfl ?_)
    refine stp (r_load (v := .int .i64 o.count) rfl hc10 rfl ?_)
    refine stp (r_geq rfl rfl ?_)
    refine WL_nil ?_
    refine W_cond2 (b := (decide (k ≥ o.count))) rfl (fun h4 => ?_) (fun h4 => ?_)
    ·-- true
     replace h4 := of_decide_eq_true h4
     refine W_seq (W_region rfl ?_)
     refine stp (r_build (v := .agg #[.int .i64 0, .int .i64 0, .int .i64 0, .int .i64 0, .int .i64 0, .int .i64 0, .int .i64 0]) (fun w => by kernel_rfl) ?_)
     refine stn (r_storeAll rfl rfl hc16 (by rfl) (by rfl) (by rfl) ?_)
     intro w48 hc49 u50
     replace hc4 := u50.heap hc4 ne19
     replace hc10 := u50.heap hc10 ne20
     replace G := G.upd u50 hge18
     clear u50 hc16
     refine stp (r_assign_int rfl ?_)
     refine WL_nil ?_
     refine W_ret ?_
     have h8 : stepS s o k = (o, 20) := by unfold stepS; rw [if_neg (by omega), if_neg h2, if_neg h3, if_pos h4]
     have h9 := stepO_e h8 (by simp)
     refine ret2 (res_all rfl hc49 (by rfl)) (res_tmp (v := .int .i64 20) rfl) ⟨?_, G⟩
     rw [h9]; rfl
    ·-- false
     replace h4 := of_decide_eq_false h4
     have hat8 : at9 = o.at_ + k := by rw [hat9]; exact wrap_in (by simp only [inR]; omega)
     have h8 : stepS s o k = (followS s o.seg at9) := by unfold stepS; rw [if_neg (by omega), if_neg h2, if_neg h3, if_neg h4, hat8]
     have h9 := stepO_f h8
     refine W_skip ?_
     refine W_seq (W_region rfl ?_)
     refine stp (r_loadAll rfl hc4 (by rfl) ?_)
     refine stp (r_fieldAddr rfl ?_)
     refine stp (r_load (v := .int .i64 o.seg) rfl hc10 rfl ?_)
     refine stp (r_move_int rfl ?_)
     refine stp (r_gives (v := .tuple #[.agg #[.int .i64 ((followS s o.seg at9).1.kind), .int .i64 ((followS s o.seg at9).1.seg), .int .i64 ((followS s o.seg at9).1.at_), .int .i64 ((followS s o.seg at9).1.data), .int .i64 ((followS s o.seg at9).1.ptrs), .int .i64 ((followS s o.seg at9).1.size), .int .i64 ((followS s o.seg at9).1.count)], .int .i64 ((followS s o.seg at9).2)]) rfl (rfollow_calls _ (H.grow G) o.seg at9 (by simp only [inR]; omega) (by simp only [inR]; omega)) ?_)
     intro w51 g52
     replace hc4 := g52.heap hc4
     replace hc10 := g52.heap hc10
     replace hc16 := g52.heap hc16
     replace G := G.tr g52
     clear g52
     refine stp (r_move (v := .tuple #[.agg #[.int .i64 ((followS s o.seg at9).1.kind), .int .i64 ((followS s o.seg at9).1.seg), .int .i64 ((followS s o.seg at9).1.at_), .int .i64 ((followS s o.seg at9).1.data), .int .i64 ((followS s o.seg at9).1.ptrs), .int .i64 ((followS s o.seg at9).1.size), .int .i64 ((followS s o.seg at9).1.count)], .int .i64 ((followS s o.seg at9).2)]) rfl ?_)
     refine stp (r_extract (v := .agg #[.int .i64 ((followS s o.seg at9).1.kind), .int .i64 ((followS s o.seg at9).1.seg), .int .i64 ((followS s o.seg at9).1.at_), .int .i64 ((followS s o.seg at9).1.data), .int .i64 ((followS s o.seg at9).1.ptrs), .int .i64 ((followS s o.seg at9).1.size), .int .i64 ((followS s o.seg at9).1.count)]) rfl rfl ?_)
     refine stp (r_extract (v := .int .i64 ((followS s o.seg at9).2)) rfl rfl ?_)
     refine stp (r_alloc ?_)
     intro b53 w54 hb55 hc56 g57
     refine stn (r_storeAll rfl rfl hc56 (by rfl) (by rfl) (by rfl) ?_)
     intro w58 hc59 u60
     have g61 := g57.upd u60 hb55
     have hge62 := Nat.le_trans G.size hb55
     have ne63 := Nat.ne_of_lt (Nat.lt_of_lt_of_le (lt_of_heap hc4) hb55)
     have ne64 := Nat.ne_of_lt (Nat.lt_of_lt_of_le (lt_of_heap hc10) hb55)
     have ne65 := Nat.ne_of_lt (Nat.lt_of_lt_of_le (lt_of_heap hc16) hb55)
     replace hc4 := g61.heap hc4
     replace hc10 := g61.heap hc10
     replace hc16 := g61.heap hc16
     replace G := G.tr g61
     clear u60 g57 hb55 hc56
     refine stp (r_assign_int rfl ?_)
     refine WL_nil ?_
     refine W_seq (W_region rfl ?_)
     refine stp (r_loadAll rfl hc59 (by rfl) ?_)
     refine stp (r_move_int rfl ?_)
     refine stn (r_storeAll rfl rfl hc16 (by rfl) (by rfl) (by rfl) ?_)
     intro w66 hc67 u68
     replace hc4 := u68.heap hc4 ne19
     replace hc10 := u68.heap hc10 ne20
     replace hc59 := u68.heap hc59 ne65.symm
     replace G := G.upd u68 hge18
     clear u68 hc16
     refine stp (r_assign_int rfl ?_)
     refine WL_nil ?_
     refine W_ret ?_
     refine ret2 (res_all rfl hc67 (by rfl)) (res_tmp (v := .int .i64 ((followS s o.seg at9).2)) rfl) ⟨?_, G⟩
     rw [h9]

set_option maxRecDepth 100000 in
theorem rword9_calls (w : World) {ua uh : Value} {b : Bool} {A : List (List Int)} {s : Src} (H : SrcR Tryz.prog 110 w ua b uh A s) (o : Ob) (ho : ObR o) (k : Int) (k0 : 0 ≤ k) (k1 : k ≤ 9223372036854775807) : Gives Tryz.prog 107 #[.agg #[ua, .bool b, uh], .agg #[.int .i64 o.kind, .int .i64 o.seg, .int .i64 o.at_, .int .i64 o.data, .int .i64 o.ptrs, .int .i64 o.size, .int .i64 o.count], .int .i64 k] w (.tuple #[.int .u64 ((atS s o k).1), .int .i64 ((atS s o k).2)]) := by
 obtain ⟨rk, rs, ra, rd, rp, rz, rc⟩ := ho
 have G := Grow.rfl' w
 refine gives_of Tryz.func107 Tryz.ntmps107 Tryz.results107 rfl rfl ?_
 refine W_seq (W_region rfl ?_)
 refine WL_some (og rfl ?_)
 (first | refine r_box_agg rfl ?_ | refine r_box_int rfl ?_ | refine r_box_slice rfl ?_ | refine r_box rfl rfl ?_)
 intro b1 w2 hb3 hc4 g5
 have hge6 := Nat.le_trans G.size hb3
 replace G := G.tr g5
 clear g5 hb3
 refine WL_some (og rfl ?_)
 (first | refine r_box_agg rfl ?_ | refine r_box_int rfl ?_ | refine r_box_slice rfl ?_ | refine r_box rfl rfl ?_)
 intro b7 w8 hb9 hc10 g11
 have hge12 := Nat.le_trans G.size hb9
 replace hc4 := g11.heap hc4
 replace G := G.tr g11
 clear g11 hb9
 refine stp (r_assign_int rfl ?_)
 refine stp (r_assign_int rfl ?_)
 refine WL_nil ?_
 refine W_seq ?_
 refine W_seq (W_region rfl ?_)
 refine stp (r_fieldAddr rfl ?_)
 refine stp (r_load (v := .int .i64 o.kind) rfl hc10 rfl ?_)
 refine stp (r_eql rfl rfl ?_)
 refine stp (r_move_bool rfl ?_)
 refine WL_some (og_if (s := .bool (decide (o.kind = 0))) (b := false) (v := .pointer (some ⟨b7, 0, none⟩)) rfl (wgb_f _) (fun hc13 => ?_) ?_)
 ·
  have hc13_ := hc13
  try simp only [sb] at hc13_
  refine r_fieldAddr rfl ?_
  exact ⟨rfl, rfl⟩
 refine WL_some (og_if (s := .bool (decide (o.kind = 0))) (b := false) (v := .int .i64 o.kind) rfl (wgb_f _) (fun hc14 => ?_) ?_)
 ·
  have hc14_ := hc14
  try simp only [sb] at hc14_
  refine r_load (v := .int .i64 o.kind) (gvt hc14) hc10 rfl ?_
  exact ⟨rfl, rfl⟩
 refine WL_some (og_if (s := .bool (decide (o.kind = 0))) (b := false) (v := .bool (decide (o.kind = 1))) rfl (wgb_f _) (fun hc15 => ?_) ?_)
 ·
  have hc15_ := hc15
  try simp only [sb] at hc15_
  refine r_eql (gvt hc15) rfl ?_
  exact ⟨rfl, rfl⟩
 refine WL_some (og_if (s := .bool (decide (o.kind = 0))) (b := false) (v := .bool (decide (o.kind = 1))) rfl (wgb_f _) (fun hc16 => ?_) ?_)
 ·
  have hc16_ := hc16
  try simp only [sb] at hc16_
  refine r_move (v := .bool (decide (o.kind = 1))) (gvt hc16) ?_
  exact ⟨rfl, rfl⟩
 refine WL_some (og_if (s := gv (!(decide (o.kind = 0))) (.bool (decide (o.kind = 1)))) (b := true) (v := .int .i64 k) rfl (wgb_gt _ _) (fun hc17 => ?_) ?_)
 ·
  obtain ⟨hc17a, hc17b⟩ := and_t hc17
  have hc17a_ := hc17a
  try simp only [sb] at hc17a_
  have hc17b_ := of_decide_eq_true hc17b
  refine r_move_int rfl ?_
  exact ⟨rfl, rfl⟩
 refine WL_some (og_if (s := gv (!(decide (o.kind = 0))) (.bool (decide (o.kind = 1)))) (b := true) (v := .pointer (some ⟨b7, 3, none⟩)) rfl (wgb_gt _ _) (fun hc18 => ?_) ?_)
 ·
  obtain ⟨hc18a, hc18b⟩ := and_t hc18
  have hc18a_ := hc18a
  try simp only [sb] at hc18a_
  have hc18b_ := of_decide_eq_true hc18b
  refine r_fieldAddr rfl ?_
  exact ⟨rfl, rfl⟩
 refine WL_some (og_if (s := gv (!(decide (o.kind = 0))) (.bool (decide (o.kind = 1)))) (b := true) (v := .int .i64 o.data) rfl (wgb_gt _ _) (fun hc19 => ?_) ?_)
 ·
  obtain ⟨hc19a, hc19b⟩ := and_t hc19
  have hc19a_ := hc19a
  try simp only [sb] at hc19a_
  have hc19b_ := of_decide_eq_true hc19b
  refine r_load (v := .int .i64 o.data) (gvt hc19) hc10 rfl ?_
  exact ⟨rfl, rfl⟩
 refine WL_some (og_if (s := gv (!(decide (o.kind = 0))) (.bool (decide (o.kind = 1)))) (b := true) (v := .bool (decide (k ≥ o.data))) rfl (wgb_gt _ _) (fun hc20 => ?_) ?_)
 ·
  obtain ⟨hc20a, hc20b⟩ := and_t hc20
  have hc20a_ := hc20a
  try simp only [sb] at hc20a_
  have hc20b_ := of_decide_eq_true hc20b
  refine r_geq (gvt hc20) (gvt hc20) ?_
  exact ⟨rfl, rfl⟩
 refine WL_some (og_if (s := .bool (decide (o.kind = 0))) (b := false) (v := .bool ((decide (o.kind = 1)) && (decide (k ≥ o.data)))) rfl (wgb_f _) (fun hc21 => ?_) ?_)
 ·
  have hc21_ := hc21
  try simp only [sb] at hc21_
  refine r_and3 hc21 (gvt hc21) rfl rfl ?_
  exact ⟨rfl, rfl⟩
 refine stp (r_or2 rfl rfl rfl ?_)
 refine WL_nil ?_
 refine W_cond2 (b := ((decide (o.kind = 0)) || ((decide (o.kind = 1)) && (decide (k ≥ o.data))))) rfl (fun h1 => ?_) (fun h1 => ?_)
 ·-- true
  simp only [sb] at h1
  refine W_seq (W_region rfl ?_)
  refine stp (r_assign_int rfl ?_)
  refine stp (r_assign_int rfl ?_)
  refine WL_nil ?_
  refine W_ret ?_
  refine ret2 (res_tmp (v := .int .u64 0) rfl) (res_tmp (v := .int .i64 0) rfl) ⟨?_, G⟩
  have h9 : atS s o k = (0, 0) := by unfold atS; rw [if_pos (by omega)]
  rw [h9]
 ·-- false
  simp only [sb] at h1
  have h1n : ¬ (o.kind = 0 ∨ o.kind = 1 ∧ k ≥ o.data) := by omega
  refine W_skip ?_
  refine W_seq ?_
  refine W_seq (W_region rfl ?_)
  refine stp (r_fieldAddr rfl ?_)
  refine stp (r_load (v := .int .i64 o.kind) rfl hc10 rfl ?_)
  refine stp (r_eql rfl rfl ?_)
  refine WL_nil ?_
  refine W_cond2 (b := (decide (o.kind = 1))) rfl (fun h3 => ?_) (fun h3 => ?_)
  ·-- true
   replace h3 := of_decide_eq_true h3
   refine W_seq (W_region rfl ?_)
   refine stp (r_loadAll rfl hc4 (by rfl) ?_)
   refine stp (r_fieldAddr rfl ?_)
   refine stp (r_load (v := .int .i64 o.seg) rfl hc10 rfl ?_)
   refine stp (r_fieldAddr rfl ?_)
   refine stp (r_load (v := .int .i64 o.at_) rfl hc10 rfl ?_)
   refine stp (r_move_int rfl ?_)
   refine stp (r_add rfl rfl ?_ ?_); constructor <;> omega
   refine stp (r_gives (v := .tuple #[.int .u64 ((s.word o.seg (o.at_ + k)).1), .int .i64 ((s.word o.seg (o.at_ + k)).2)]) rfl (H.word _ G o.seg (o.at_ + k) (by simp only [inR]; omega) (by simp only [inR]; omega)) ?_)
   intro w22 g23
   replace hc4 := g23.heap hc4
   replace hc10 := g23.heap hc10
   replace G := G.tr g23
   clear g23
   refine stp (r_move (v := .tuple #[.int .u64 ((s.word o.seg (o.at_ + k)).1), .int .i64 ((s.word o.seg (o.at_ + k)).2)]) rfl ?_)
   refine stp (r_extract (v := .int .u64 ((s.word o.seg (o.at_ + k)).1)) rfl rfl ?_)
   refine stp (r_extract (v := .int .i64 ((s.word o.seg (o.at_ + k)).2)) rfl rfl ?_)
   refine stp (r_assign_int rfl ?_)
   refine stp (r_assign_int rfl ?_)
   refine WL_nil ?_
   refine W_seq (W_region rfl ?_)
   refine stp (r_move_int rfl ?_)
   refine stp (r_move_int rfl ?_)
   refine stp (r_assign_int rfl ?_)
   refine stp (r_assign_int rfl ?_)
   refine WL_nil ?_
   refine W_ret ?_
   refine ret2 (res_tmp (v := .int .u64 ((s.word o.seg (o.at_ + k)).1)) rfl) (res_tmp (v := .int .i64 ((s.word o.seg (o.at_ + k)).2)) rfl) ⟨?_, G⟩
   have h9 : atS s o k = s.word o.seg (o.at_ + k) := by unfold atS; rw [if_neg h1n, if_pos h3]
   rw [h9]
  ·-- false
   replace h3 := of_decide_eq_false h3
   refine W_skip ?_
   refine W_seq ?_
   refine W_seq (W_region rfl ?_)
   refine stp (r_fieldAddr rfl ?_)
   refine stp (r_load (v := .int .i64 o.size) rfl hc10 rfl ?_)
   refine stp (r_eql rfl rfl ?_)
   refine WL_nil ?_
   refine W_cond2 (b := (decide (o.size = 6))) rfl (fun h4 => ?_) (fun h4 => ?_)
   ·-- true
    replace h4 := of_decide_eq_true h4
    refine W_seq (W_region rfl ?_)
    refine stp (r_assign_int rfl ?_)
    refine stp (r_assign_int rfl ?_)
    refine WL_nil ?_
    refine W_ret ?_
    refine ret2 (res_tmp (v := .int .u64 0) rfl) (res_tmp (v := .int .i64 23) rfl) ⟨?_, G⟩
    have h9 : atS s o k = (0, 23) := by unfold atS; rw [if_neg h1n, if_neg h3, if_pos h4]
    rw [h9]
   ·-- false
    replace h4 := of_decide_eq_false h4
    refine W_skip ?_
    refine W_seq ?_
    refine W_seq (W_region rfl ?_)
    refine stp (r_move_int rfl ?_)
    refine stp (r_fieldAddr rfl ?_)
    refine stp (r_load (v := .int .i64 o.count) rfl hc10 rfl ?_)
    refine stp (r_geq rfl rfl ?_)
    refine WL_nil ?_
    refine W_cond2 (b := (decide (k ≥ o.count))) rfl (fun h5 => ?_) (fun h5 => ?_)
    ·-- true
     replace h5 := of_decide_eq_true h5
     refine W_seq (W_region rfl ?_)
     refine stp (r_assign_int rfl ?_)
     refine stp (r_assign_int rfl ?_)
     refine WL_nil ?_
     refine W_ret ?_
     refine ret2 (res_tmp (v := .int .u64 0) rfl) (res_tmp (v := .int .i64 20) rfl) ⟨?_, G⟩
     have h9 : atS s o k = (0, 20) := by unfold atS; rw [if_neg h1n, if_neg h3, if_neg h4, if_pos h5]
     rw [h9]
    ·-- false
     replace h5 := of_decide_eq_false h5
     refine W_skip ?_
     refine W_seq ?_
     refine W_seq (W_region rfl ?_)
     refine stp (r_fieldAddr rfl ?_)
     refine stp (r_load (v := .int .i64 o.size) rfl hc10 rfl ?_)
     refine stp (r_eql rfl rfl ?_)
     refine WL_nil ?_
     refine W_cond2 (b := (decide (o.size = 5))) rfl (fun h6 => ?_) (fun h6 => ?_)
     ·-- true
      replace h6 := of_decide_eq_true h6
      refine W_seq (W_region rfl ?_)
      refine stp (r_loadAll rfl hc4 (by rfl) ?_)
      refine stp (r_fieldAddr rfl ?_)
      refine stp (r_load (v := .int .i64 o.seg) rfl hc10 rfl ?_)
      refine stp (r_fieldAddr rfl ?_)
      refine stp (r_load (v := .int .i64 o.at_) rfl hc10 rfl ?_)
      refine stp (r_move_int rfl ?_)
      refine stp (r_add rfl rfl ?_ ?_); constructor <;> omega
      refine stp (r_gives (v := .tuple #[.int .u64 ((s.word o.seg (o.at_ + k)).1), .int .i64 ((s.word o.seg (o.at_ + k)).2)]) rfl (H.word _ G o.seg (o.at_ + k) (by simp only [inR]; omega) (by simp only [inR]; omega)) ?_)
      intro w24 g25
      replace hc4 := g25.heap hc4
      replace hc10 := g25.heap hc10
      replace G := G.tr g25
      clear g25
      refine stp (r_move (v := .tuple #[.int .u64 ((s.word o.seg (o.at_ + k)).1), .int .i64 ((s.word o.seg (o.at_ + k)).2)]) rfl ?_)
      refine stp (r_extract (v := .int .u64 ((s.word o.seg (o.at_ + k)).1)) rfl rfl ?_)
      refine stp (r_extract (v := .int .i64 ((s.word o.seg (o.at_ + k)).2)) rfl rfl ?_)
      refine stp (r_assign_int rfl ?_)
      refine stp (r_assign_int rfl ?_)
      refine WL_nil ?_
      refine W_seq (W_region rfl ?_)
      refine stp (r_move_int rfl ?_)
      refine stp (r_move_int rfl ?_)
      refine stp (r_assign_int rfl ?_)
      refine stp (r_assign_int rfl ?_)
      refine WL_nil ?_
      refine W_ret ?_
      refine ret2 (res_tmp (v := .int .u64 ((s.word o.seg (o.at_ + k)).1)) rfl) (res_tmp (v := .int .i64 ((s.word o.seg (o.at_ + k)).2)) rfl) ⟨?_, G⟩
      have h9 : atS s o k = s.word o.seg (o.at_ + k) := by unfold atS; rw [if_neg h1n, if_neg h3, if_neg h4, if_neg h5, if_pos h6]
      rw [h9]
     ·-- false
      replace h6 := of_decide_eq_false h6
      obtain ⟨n1, n2, -, -⟩ := H.num o.seg (o.at_ + k / 8)
      refine W_skip ?_
      refine W_seq (W_region rfl ?_)
      refine stp (r_loadAll rfl hc4 (by rfl) ?_)
      refine stp (r_fieldAddr rfl ?_)
      refine stp (r_load (v := .int .i64 o.seg) rfl hc10 rfl ?_)
      refine stp (r_fieldAddr rfl ?_)
      refine stp (r_load (v := .int .i64 o.at_) rfl hc10 rfl ?_)
      refine stp (r_move_int rfl ?_)
      refine stp (r_quo rfl rfl ?_ ?_ ?_ ?_); omega; omega; (constructor <;> omega)
      refine stp (r_add rfl rfl ?_ ?_); constructor <;> omega
      refine stp (r_gives (v := .tuple #[.int .u64 ((s.word o.seg (o.at_ + (k / 8))).1), .int .i64 ((s.word o.seg (o.at_ + (k / 8))).2)]) rfl (H.word _ G o.seg (o.at_ + (k / 8)) (by simp only [inR]; omega) (by simp only [inR]; omega)) ?_)
      intro w26 g27
      replace hc4 := g27.heap hc4
      replace hc10 := g27.heap hc10
      replace G := G.tr g27
      clear g27
      refine stp (r_move (v := .tuple #[.int .u64 ((s.word o.seg (o.at_ + (k / 8))).1), .int .i64 ((s.word o.seg (o.at_ + (k / 8))).2)]) rfl ?_)
      refine stp (r_extract (v := .int .u64 ((s.word o.seg (o.at_ + (k / 8))).1)) rfl rfl ?_)
      refine stp (r_extract (v := .int .i64 ((s.word o.seg (o.at_ + (k / 8))).2)) rfl rfl ?_)
      refine stp (r_assign_int rfl ?_)
      refine stp (r_assign_int rfl ?_)
      refine WL_nil ?_
      refine W_seq ?_
      refine W_seq (W_region rfl ?_)
      refine stp (r_assign_int rfl ?_)
      refine WL_nil ?_
      refine W_block ?_
      refine W_loop (fun m_ e_ w_ => ∃ (j : Nat), m_ = 8 - j ∧ Fr [(2, .int .i64 k), (6, .int .u64 0), (7, .int .i64 0), (13, .int .i64 ((s.word o.seg (o.at_ + (k / 8))).2)), (12, .int .u64 ((s.word o.seg (o.at_ + k / 8)).1 / 2 ^ (8 * j))), (14, .int .i64 (j : Int))] e_ ∧ ((j : Int) ≤ k % 8) ∧ (w_.heap[b1]? = some (.cells #[ua, .bool b, uh] 90 (0, 0))) ∧ (w_.heap[b7]? = some (.cells #[.int .i64 o.kind, .int .i64 o.seg, .int .i64 o.at_, .int .i64 o.data, .int .i64 o.ptrs, .int .i64 o.size, .int .i64 o.count] 93 (0, 0))) ∧ Grow w w_) _ ⟨0, rfl, fr_of ⟨rfl, rfl, rfl, rfl, congrArg (Value.int .u64) (by simp), rfl, trivial⟩, by omega, hc4, hc10, G⟩ ?_
      clear hc4 hc10
      clear G
      rintro m_ e_ w28 ⟨j, rfl, ⟨e29, rfl⟩, hj, hc4, hc10, G⟩
      have hsr := shr_range (s.word o.seg (o.at_ + k / 8)).1 j n1 n2
      refine W_seq ?_
      refine W_seq (W_region rfl ?_)
      refine stp (r_move_int rfl ?_)
      refine stp (r_move_int rfl ?_)
      refine stp (r_rem rfl rfl ?_ ?_ ?_); omega; omega
      refine stp (r_lss rfl rfl ?_)
      refine WL_nil ?_
      refine W_cond2 (b := (decide ((j : Int) < (k % 8)))) rfl (fun hlt => ?_) (fun hlt => ?_)
      ·-- true
       replace hlt := of_decide_eq_true hlt
       refine W_skip ?_
       refine W_seq ?_
       refine W_block ?_
       refine W_region rfl ?_
       refine stp (r_move_int rfl ?_)
       refine stp (r_quo rfl rfl ?_ ?_ ?_ ?_); omega; omega; (constructor <;> omega)
       refine stp (r_assign_int rfl ?_)
       refine WL_nil ?_
       refine W_region rfl ?_
       refine stp (r_move_int rfl ?_)
       refine stp (r_add rfl rfl ?_ ?_); constructor <;> omega
       refine stp (r_assign_int rfl ?_)
       refine WL_nil ?_
       refine ⟨_, ?_, j + 1, rfl, fr_of ⟨rfl, rfl, rfl, rfl, congrArg (Value.int .u64) (shr_step _ _), congrArg (Value.int .i64) (by omega), trivial⟩, by omega, hc4, hc10, G⟩
       omega
      ·-- false
       replace hlt := of_decide_eq_false hlt
       have hj9 : 8 * j = (k % 8 * 8).toNat := by omega
       rw [hj9] at hsr
       have h9 : atS s o k = ((s.word o.seg (o.at_ + k / 8)).1 / 2 ^ (8 * j) % 256, (s.word o.seg (o.at_ + k / 8)).2) := by rw [hj9]; unfold atS; rw [if_neg h1n, if_neg h3, if_neg h4, if_neg h5, if_neg h6]
       rw [← hj9] at hsr
       refine W_exit ?_
       refine W_seq (W_region rfl ?_)
       refine stp (r_move_int rfl ?_)
       refine stp (r_rem rfl rfl ?_ ?_ ?_); omega; omega
       refine stp (r_move_int rfl ?_)
       refine stp (r_assign_int rfl ?_)
       refine stp (r_assign_int rfl ?_)
       refine WL_nil ?_
       refine W_ret ?_
       refine ret2 (res_tmp (v := .int .u64 (((s.word o.seg (o.at_ + k / 8)).1 / 2 ^ (8 * j)) % 256)) rfl) (res_tmp (v := .int .i64 ((s.word o.seg (o.at_ + (k / 8))).2)) rfl) ⟨?_, G⟩
       rw [h9]

set_option maxRecDepth 100000 in
theorem rvalue9_calls (w : World) {ua uh : Value} {b : Bool} {A : List (List Int)} {s : Src} (H : SrcR Tryz.prog 110 w ua b uh A s) (o : Ob) (ho : ObR o) (k : Int) (k1 : inR .i64 k) : Gives Tryz.prog 69 #[.agg #[ua, .bool b, uh], .agg #[.int .i64 o.kind, .int .i64 o.seg, .int .i64 o.at_, .int .i64 o.data, .int .i64 o.ptrs, .int .i64 o.size, .int .i64 o.count], .int .i64 k] w (.tuple #[.agg #[.int .i64 ((valS s o k).1.kind), .int .i64 ((valS s o k).1.size), .int .i64 ((valS s o k).1.words), .int .i64 ((valS s o k).1.kids), .int .u64 ((valS s o k).1.word)], .int .i64 ((valS s o k).2)]) := by
 simp only [inR] at k1
 have G := Grow.rfl' w
 refine gives_of Tryz.func69 Tryz.ntmps69 Tryz.results69 rfl rfl ?_
 refine W_seq (W_region rfl ?_)
 refine WL_some (og rfl ?_)
 (first | refine r_box_agg rfl ?_ | refine r_box_int rfl ?_ | refine r_box_slice rfl ?_ | refine r_box rfl rfl ?_)
 intro b1 w2 hb3 hc4 g5
 have hge6 := Nat.le_trans G.size hb3
 replace G := G.tr g5
 clear g5 hb3
 refine WL_some (og rfl ?_)
 (first | refine r_box_agg rfl ?_ | refine r_box_int rfl ?_ | refine r_box_slice rfl ?_ | refine r_box rfl rfl ?_)
 intro b7 w8 hb9 hc10 g11
 have hge12 := Nat.le_trans G.size hb9
 replace hc4 := g11.heap hc4
 replace G := G.tr g11
 clear g11 hb9
 refine stp (r_alloc ?_)
 intro b13 w14 hb15 hc16 g17
 refine stp (r_assign_int rfl ?_)
 refine WL_nil ?_
 refine W_seq ?_
 refine W_seq (W_region rfl ?_)
 refine stp (r_move_int rfl ?_)
 refine stp (r_geq rfl rfl ?_)
 refine WL_nil ?_
 have hge18 := Nat.le_trans G.size hb15
 have ne19 := Nat.ne_of_lt (Nat.lt_of_lt_of_le (lt_of_heap hc4) hb15)
 have ne20 := Nat.ne_of_lt (Nat.lt_of_lt_of_le (lt_of_heap hc10) hb15)
 replace hc4 := g17.heap hc4
 replace hc10 := g17.heap hc10
 replace G := G.tr g17
 clear g17 hb15
 refine W_cond2 (b := (decide (k ≥ 0))) rfl (fun h1 => ?_) (fun h1 => ?_)
 ·-- true
  replace h1 := of_decide_eq_true h1
  refine W_seq (W_region rfl ?_)
  refine stp (r_loadAll rfl hc4 (by rfl) ?_)
  refine stp (r_loadAll rfl hc10 (by rfl) ?_)
  refine stp (r_move_int rfl ?_)
  refine stp (r_gives (v := .tuple #[.int .u64 ((atS s o k).1), .int .i64 ((atS s o k).2)]) rfl (rword9_calls _ (H.grow G) o ho k (by omega) (by omega)) ?_)
  intro w21 g22
  replace hc4 := g22.heap hc4
  replace hc10 := g22.heap hc10
  replace hc16 := g22.heap hc16
  replace G := G.tr g22
  clear g22
  refine stp (r_move (v := .tuple #[.int .u64 ((atS s o k).1), .int .i64 ((atS s o k).2)]) rfl ?_)
  refine stp (r_extract (v := .int .u64 ((atS s o k).1)) rfl rfl ?_)
  refine stp (r_extract (v := .int .i64 ((atS s o k).2)) rfl rfl ?_)
  refine stp (r_assign_int rfl ?_)
  refine stp (r_assign_int rfl ?_)
  refine WL_nil ?_
  refine W_seq ?_
  refine W_seq (W_region rfl ?_)
  refine stp (r_move_int rfl ?_)
  refine stp (r_neq rfl rfl ?_)
  refine WL_nil ?_
  refine W_cond2 (b := (decide (((atS s o k).2) ≠ 0))) rfl (fun h2 => ?_) (fun h2 => ?_)
  ·-- true
   replace h2 := of_decide_eq_true h2
   refine W_seq (W_region rfl ?_)
   refine stp (r_build (v := .agg #[.int .i64 0, .int .i64 0, .int .i64 0, .int .i64 0, .int .u64 0]) (fun w => by kernel_rfl) ?_)
   refine stp (r_move_int rfl ?_)
   refine stn (r_storeAll rfl rfl hc16 (by rfl) (by rfl) (by rfl) ?_)
   intro w23 hc24 u25
   replace hc4 := u25.heap hc4 ne19
   replace hc10 := u25.heap hc10 ne20
   replace G := G.upd u25 hge18
   clear u25 hc16
   refine stp (r_assign_int rfl ?_)
   refine WL_nil ?_
   refine W_ret ?_
   have h9 : valS s o k = (Vl0, (atS s o k).2) := by unfold valS; rw [if_neg (by omega), if_pos h2]
   refine ret2 (res_all rfl hc24 (by rfl)) (res_tmp (v := .int .i64 ((atS s o k).2)) rfl) ⟨?_, G⟩
   rw [h9] <;> rfl
  ·-- false
   replace h2 := of_decide_eq_false h2
   refine W_skip ?_
   refine W_seq (W_region rfl ?_)
   refine stp (r_fieldAddr rfl ?_)
   refine stp (r_load (v := .int .i64 o.kind) rfl hc10 rfl ?_)
   refine stp (r_move_int rfl ?_)
   refine stp (r_build (v := .agg #[.int .i64 o.kind, .int .i64 0, .int .i64 0, .int .i64 0, .int .u64 ((atS s o k).1)]) (fun w => by kernel_rfl) ?_)
   refine stn (r_storeAll rfl rfl hc16 (by rfl) (by rfl) (by rfl) ?_)
   intro w26 hc27 u28
   replace hc4 := u28.heap hc4 ne19
   replace hc10 := u28.heap hc10 ne20
   replace G := G.upd u28 hge18
   clear u28 hc16
   refine stp (r_assign_int rfl ?_)
   refine WL_nil ?_
   refine W_ret ?_
   have h9 : valS s o k = (⟨o.kind, 0, 0, 0, (atS s o k).1⟩, 0) := by unfold valS; rw [if_neg (by omega), if_neg h2]
   refine ret2 (res_all rfl hc27 (by rfl)) (res_tmp (v := .int .i64 0) rfl) ⟨?_, G⟩
   rw [h9] <;> rfl
 ·-- false
  replace h1 := of_decide_eq_false h1
  refine W_skip ?_
  refine W_seq (W_region rfl ?_)
  refine stp (r_fieldAddr rfl ?_)
  refine stp (r_load (v := .int .i64 o.kind) rfl hc10 rfl ?_)
  refine stp (r_fieldAddr rfl ?_)
  refine stp (r_load (v := .int .i64 o.size) rfl hc10 rfl ?_)
  refine stp (r_fieldAddr rfl ?_)
  refine stp (r_load (v := .int .i64 o.data) rfl hc10 rfl ?_)
  refine stp (r_fieldAddr rfl ?_)
  refine stp (r_load (v := .int .i64 o.ptrs) rfl hc10 rfl ?_)
  refine stp (r_build (v := .agg #[.int .i64 o.kind, .int .i64 o.size, .int .i64 o.data, .int .i64 o.ptrs, .int .u64 0]) (fun w => by kernel_rfl) ?_)
  refine stp (r_alloc ?_)
  intro b29 w30 hb31 hc32 g33
  refine stn (r_storeAll rfl rfl hc32 (by rfl) (by rfl) (by rfl) ?_)
  intro w34 hc35 u36
  have g37 := g33.upd u36 hb31
  have hge38 := Nat.le_trans G.size hb31
  have ne39 := Nat.ne_of_lt (Nat.lt_of_lt_of_le (lt_of_heap hc4) hb31)
  have ne40 := Nat.ne_of_lt (Nat.lt_of_lt_of_le (lt_of_heap hc10) hb31)
  have ne41 := Nat.ne_of_lt (Nat.lt_of_lt_of_le (lt_of_heap hc16) hb31)
  replace hc4 := g37.heap hc4
  replace hc10 := g37.heap hc10
  replace hc16 := g37.heap hc16
  replace G := G.tr g37
  clear u36 g33 hb31 hc32
  refine WL_nil ?_
  refine W_seq ?_
  refine W_seq (W_region rfl ?_)
  refine stp (r_fieldAddr rfl ?_)
  refine stp (r_load (v := .int .i64 o.kind) rfl hc10 rfl ?_)
  refine stp (r_eql rfl rfl ?_)
  refine stp (r_move_bool rfl ?_)
  refine WL_some (og_if (s := .bool (decide (o.kind = 2))) (b := true) (v := .pointer (some ⟨b7, 5, none⟩)) rfl (wgb_t _) (fun hc42 => ?_) ?_)
  ·
   have hc42_ := of_decide_eq_true hc42
   refine r_fieldAddr rfl ?_
   exact ⟨rfl, rfl⟩
  refine WL_some (og_if (s := .bool (decide (o.kind = 2))) (b := true) (v := .int .i64 o.size) rfl (wgb_t _) (fun hc43 => ?_) ?_)
  ·
   have hc43_ := of_decide_eq_true hc43
   refine r_load (v := .int .i64 o.size) (gvt hc43) hc10 rfl ?_
   exact ⟨rfl, rfl⟩
  refine WL_some (og_if (s := .bool (decide (o.kind = 2))) (b := true) (v := .bool (decide (o.size = 6))) rfl (wgb_t _) (fun hc44 => ?_) ?_)
  ·
   have hc44_ := of_decide_eq_true hc44
   refine r_eql (gvt hc44) rfl ?_
   exact ⟨rfl, rfl⟩
  refine stp (r_and2 rfl rfl rfl ?_)
  refine WL_nil ?_
  refine W_cond2 (b := ((decide (o.kind = 2)) && (decide (o.size = 6)))) rfl (fun h2 => ?_) (fun h2 => ?_)
  ·-- true
   simp only [sb] at h2
   refine W_region rfl ?_
   refine stp (r_fieldAddr rfl ?_)
   refine stp (r_load (v := .int .i64 o.count) rfl hc10 rfl ?_)
   refine stp (r_fieldAddr rfl ?_)
   refine stn (r_store1 (v := .int .i64 o.count) rfl rfl (by rfl) hc35 (by rfl) (by rfl) ?_)
   intro w45 hc46 u47
   replace hc4 := u47.heap hc4 ne39
   replace hc10 := u47.heap hc10 ne40
   replace hc16 := u47.heap hc16 ne41
   replace G := G.upd u47 hge38
   clear u47 hc35
   refine WL_nil ?_
   refine W_seq (W_region rfl ?_)
   refine stp (r_loadAll rfl hc46 (by rfl) ?_)
   refine stn (r_storeAll rfl rfl hc16 (by rfl) (by rfl) (by rfl) ?_)
   intro w48 hc49 u50
   replace hc4 := u50.heap hc4 ne19
   replace hc10 := u50.heap hc10 ne20
   replace hc46 := u50.heap hc46 ne41.symm
   replace G := G.upd u50 hge18
   clear u50 hc16
   refine stp (r_assign_int rfl ?_)
   refine WL_nil ?_
   refine W_ret ?_
   have h9 : valS s o k = (⟨o.kind, o.size, o.data, o.count, 0⟩, 0) := by unfold valS; rw [if_pos (by omega)]; unfold isS; rw [if_neg (by omega), if_pos (by omega)]
   refine ret2 (res_all rfl hc49 (by rfl)) (res_tmp (v := .int .i64 0) rfl) ⟨?_, G⟩
   rw [h9] <;> rfl
  ·-- false
   simp only [sb] at h2
   refine W_seq (W_region rfl ?_)
   refine stp (r_fieldAddr rfl ?_)
   refine stp (r_load (v := .int .i64 o.kind) rfl hc10 rfl ?_)
   refine stp (r_eql rfl rfl ?_)
   refine WL_nil ?_
   refine W_cond2 (b := (decide (o.kind = 2))) rfl (fun h3 => ?_) (fun h3 => ?_)
   ·-- true
    replace h3 := of_decide_eq_true h3
    refine W_region rfl ?_
    refine stp (r_fieldAddr rfl ?_)
    refine stp (r_load (v := .int .i64 o.count) rfl hc10 rfl ?_)
    refine stp (r_fieldAddr rfl ?_)
    refine stn (r_store1 (v := .int .i64 o.count) rfl rfl (by rfl) hc35 (by rfl) (by rfl) ?_)
    intro w51 hc52 u53
    replace hc4 := u53.heap hc4 ne39
    replace hc10 := u53.heap hc10 ne40
    replace hc16 := u53.heap hc16 ne41
    replace G := G.upd u53 hge38
    clear u53 hc35
    refine WL_nil ?_
    refine W_seq (W_region rfl ?_)
    refine stp (r_loadAll rfl hc52 (by rfl) ?_)
    refine stn (r_storeAll rfl rfl hc16 (by rfl) (by rfl) (by rfl) ?_)
    intro w54 hc55 u56
    replace hc4 := u56.heap hc4 ne19
    replace hc10 := u56.heap hc10 ne20
    replace hc52 := u56.heap hc52 ne41.symm
    replace G := G.upd u56 hge18
    clear u56 hc16
    refine stp (r_assign_int rfl ?_)
    refine WL_nil ?_
    refine W_ret ?_
    have h9 : valS s o k = (⟨o.kind, o.size, o.count, o.ptrs, 0⟩, 0) := by unfold valS; rw [if_pos (by omega)]; unfold isS; rw [if_pos (by omega), if_neg (by omega)]
    refine ret2 (res_all rfl hc55 (by rfl)) (res_tmp (v := .int .i64 0) rfl) ⟨?_, G⟩
    rw [h9] <;> rfl
   ·-- false
    replace h3 := of_decide_eq_false h3
    refine W_skip ?_
    refine W_seq (W_region rfl ?_)
    refine stp (r_loadAll rfl hc35 (by rfl) ?_)
    refine stn (r_storeAll rfl rfl hc16 (by rfl) (by rfl) (by rfl) ?_)
    intro w57 hc58 u59
    replace hc4 := u59.heap hc4 ne19
    replace hc10 := u59.heap hc10 ne20
    replace hc35 := u59.heap hc35 ne41.symm
    replace G := G.upd u59 hge18
    clear u59 hc16
    refine stp (r_assign_int rfl ?_)
    refine WL_nil ?_
    refine W_ret ?_
    have h9 : valS s o k = (⟨o.kind, o.size, o.data, o.ptrs, 0⟩, 0) := by unfold valS; rw [if_pos (by omega)]; unfold isS; rw [if_neg (by omega), if_neg (by omega)]
    refine ret2 (res_all rfl hc58 (by rfl)) (res_tmp (v := .int .i64 0) rfl) ⟨?_, G⟩
    rw [h9] <;> rfl

set_option maxRecDepth 100000 in
theorem rwalk9_calls (w : World) {ua uh : Value} {b : Bool} {A : List (List Int)} {s : Src} (H : SrcR Tryz.prog 110 w ua b uh A s) {ad : Option Addr} {c : Nat} {steps : List Int} {a cost : Int} (R : RowAt w 1 ad steps.length (steps.map (.int .i64))) (ha : inR .i64 a) (hc : 0 ≤ cost ∧ cost ≤ 9000000000000000000) : Gives Tryz.prog 27 #[.agg #[ua, .bool b, uh], .agg #[.slice ad steps.length c, .int .i64 a], .int .i64 cost] w (.tuple #[.agg #[.int .i64 ((walkS s steps a cost).1.kind), .int .i64 ((walkS s steps a cost).1.size), .int .i64 ((walkS s steps a cost).1.words), .int .i64 ((walkS s steps a cost).1.kids), .int .u64 ((walkS s steps a cost).1.word)], .int .i64 ((walkS s steps a cost).2)]) := by
 have ll := R.lim
 have G := Grow.rfl' w
 refine gives_of Tryz.func27 Tryz.ntmps27 Tryz.results27 rfl rfl ?_
 refine W_seq (W_region rfl ?_)
 refine WL_some (og rfl ?_)
 (first | refine r_box_agg rfl ?_ | refine r_box_int rfl ?_ | refine r_box_slice rfl ?_ | refine r_box rfl rfl ?_)
 intro b1 w2 hb3 hc4 g5
 have hge6 := Nat.le_trans G.size hb3
 replace G := G.tr g5
 clear g5 hb3
 refine WL_some (og rfl ?_)
 (first | refine r_box_agg rfl ?_ | refine r_box_int rfl ?_ | refine r_box_slice rfl ?_ | refine r_box rfl rfl ?_)
 intro b7 w8 hb9 hc10 g11
 have hge12 := Nat.le_trans G.size hb9
 replace hc4 := g11.heap hc4
 replace G := G.tr g11
 clear g11 hb9
 refine stp (r_alloc ?_)
 intro b13 w14 hb15 hc16 g17
 refine stp (r_assign_int rfl ?_)
 refine WL_nil ?_
 refine W_seq ?_
 refine W_seq (W_region rfl ?_)
 refine stp (r_assign_int rfl ?_)
 refine WL_nil ?_
 refine W_block ?_
 have hge18 := Nat.le_trans G.size hb15
 have ne19 := Nat.ne_of_lt (Nat.lt_of_lt_of_le (lt_of_heap hc4) hb15)
 have ne20 := Nat.ne_of_lt (Nat.lt_of_lt_of_le (lt_of_heap hc10) hb15)
 replace hc4 := g17.heap hc4
 replace hc10 := g17.heap hc10
 replace G := G.tr g17
 clear g17 hb15
 refine W_loop (fun m_ e_ w_ => ∃ (k : Nat), m_ = steps.length - k ∧ Fr [(2, .int .i64 cost), (3, .pointer (some ⟨b1, 0, none⟩)), (4, .pointer (some ⟨b7, 0, none⟩)), (6, .pointer (some ⟨b13, 0, none⟩)), (8, .int .i64 (k : Int))] e_ ∧ (k ≤ steps.length) ∧ (∀ j, j < k → 0 ≤ steps.getD j 0) ∧ (w_.heap[b1]? = some (.cells #[ua, .bool b, uh] 90 (0, 0))) ∧ (w_.heap[b7]? = some (.cells #[.slice ad steps.length c, .int .i64 a] 29 (0, 0))) ∧ (w_.heap[b13]? = some (.cells #[.int .i64 0, .int .i64 0, .int .i64 0, .int .i64 0, .int .u64 0] 35 (0, 0))) ∧ Grow w w_) _ ⟨0, rfl, fr_of ⟨rfl, rfl, rfl, rfl, rfl, trivial⟩, by omega, fun j hj => by omega, hc4, hc10, hc16, G⟩ ?_
 clear hc4 hc10 hc16
 clear G
 rintro m_ e_ w21 ⟨k, rfl, ⟨e22, rfl⟩, hk2, hnn, hc4, hc10, hc16, G⟩
 refine W_seq ?_
 refine W_seq (W_region rfl ?_)
 refine stp (r_move_int rfl ?_)
 refine stp (r_fieldAddr rfl ?_)
 refine stp (r_load (v := .slice ad steps.length c) rfl hc10 rfl ?_)
 refine stp (r_len rfl rfl rfl ?_)
 refine stp (r_lss rfl rfl ?_)
 refine WL_nil ?_
 refine W_cond2 (b := (decide ((k : Int) < (steps.length : Int)))) rfl (fun hlt1 => ?_) (fun hlt1 => ?_)
 ·-- true
  replace hlt1 := of_decide_eq_true hlt1
  have hi : k < steps.length := by omega
  refine W_skip ?_
  refine W_seq ?_
  refine W_block ?_
  refine W_seq (W_region rfl ?_)
  refine stp (r_fieldAddr rfl ?_)
  refine stp (r_load (v := .slice ad steps.length c) rfl hc10 rfl ?_)
  refine stp (r_move_int rfl ?_)
  refine stp (r_indexN (R.grow G) rfl rfl ?_ ?_); omega
  refine stp (r_loadR (v := .int .i64 (steps.getD k 0)) (m := 0) (R.grow G) rfl (map_get1 0 (by omega)) ?_)
  refine stp (r_lss rfl rfl ?_)
  refine WL_nil ?_
  refine W_cond2 (b := (decide ((steps.getD k 0) < 0))) rfl (fun h2 => ?_) (fun h2 => ?_)
  ·-- true
   replace h2 := of_decide_eq_true h2
   refine W_seq (W_region rfl ?_)
   refine stp (r_build (v := .agg #[.int .i64 0, .int .i64 0, .int .i64 0, .int .i64 0, .int .u64 0]) (fun w => by kernel_rfl) ?_)
   refine stn (r_storeAll rfl rfl hc16 (by rfl) (by rfl) (by rfl) ?_)
   intro w23 hc24 u25
   replace hc4 := u25.heap hc4 ne19
   replace hc10 := u25.heap hc10 ne20
   replace G := G.upd u25 hge18
   clear u25 hc16
   refine stp (r_assign_int rfl ?_)
   refine WL_nil ?_
   refine W_ret ?_
   have h9 : (walkS s steps a cost) = (Vl0, 1) := by unfold walkS; rw [if_pos ⟨_, getD_mem hi, h2⟩]
   refine ret2 (res_all rfl hc24 (by rfl)) (res_tmp (v := .int .i64 1) rfl) ⟨?_, G⟩
   rw [h9] <;> rfl
  ·-- false
   replace h2 := of_decide_eq_false h2
   refine W_skip ?_
   refine W_region rfl ?_
   refine stp (r_move_int rfl ?_)
   refine stp (r_add rfl rfl ?_ ?_); constructor <;> omega
   refine stp (r_assign_int rfl ?_)
   refine WL_nil ?_
   refine ⟨_, ?_, k + 1, rfl, fr_of ⟨rfl, rfl, rfl, rfl, rfl, trivial⟩, by omega, fun j hj => by rcases Nat.lt_succ_iff_lt_or_eq.1 hj with h_ | h_; exact hnn j h_; subst h_; omega, hc4, hc10, hc16, G⟩
   omega
 ·-- false
  replace hlt1 := of_decide_eq_false hlt1
  replace hnn : ∀ j, j < steps.length → 0 ≤ steps.getD j 0 := fun j hj => hnn j (by omega)
  have hno : ¬ ∃ k ∈ steps, k < 0 := fun ⟨x_, hx_, hlt_⟩ => by obtain ⟨j_, hj_, he_⟩ := List.getElem_of_mem hx_; have := hnn j_ hj_; rw [getD_at hj_] at this; omega
  refine W_exit ?_
  refine W_seq ?_
  refine W_seq (W_region rfl ?_)
  refine stp (r_fieldAddr rfl ?_)
  refine stp (r_load (v := .slice ad steps.length c) rfl hc10 rfl ?_)
  refine stp (r_len rfl rfl rfl ?_)
  refine stp (r_gtr rfl rfl ?_)
  refine WL_nil ?_
  refine W_cond2 (b := (decide ((steps.length : Int) > 32))) rfl (fun h3 => ?_) (fun h3 => ?_)
  ·-- true
   replace h3 := of_decide_eq_true h3
   refine W_seq (W_region rfl ?_)
   refine stp (r_build (v := .agg #[.int .i64 0, .int .i64 0, .int .i64 0, .int .i64 0, .int .u64 0]) (fun w => by kernel_rfl) ?_)
   refine stn (r_storeAll rfl rfl hc16 (by rfl) (by rfl) (by rfl) ?_)
   intro w26 hc27 u28
   replace hc4 := u28.heap hc4 ne19
   replace hc10 := u28.heap hc10 ne20
   replace G := G.upd u28 hge18
   clear u28 hc16
   refine stp (r_assign_int rfl ?_)
   refine WL_nil ?_
   refine W_ret ?_
   have h9 : (walkS s steps a cost) = (Vl0, 3) := by unfold walkS; rw [if_neg hno, if_pos h3]
   refine ret2 (res_all rfl hc27 (by rfl)) (res_tmp (v := .int .i64 3) rfl) ⟨?_, G⟩
   rw [h9] <;> rfl
  ·-- false
   replace h3 := of_decide_eq_false h3
   have hw0 := tail_walk (s := s) (a := a) hno h3 hc.1
   have ho0 := H.follow_range 0 0
   refine W_skip ?_
   refine W_seq (W_region rfl ?_)
   refine stp (r_loadAll rfl hc4 (by rfl) ?_)
   refine stp (r_gives (v := .tuple #[.agg #[.int .i64 ((followS s 0 0).1.kind), .int .i64 ((followS s 0 0).1.seg), .int .i64 ((followS s 0 0).1.at_), .int .i64 ((followS s 0 0).1.data), .int .i64 ((followS s 0 0).1.ptrs), .int .i64 ((followS s 0 0).1.size), .int .i64 ((followS s 0 0).1.count)], .int .i64 ((followS s 0 0).2)]) rfl (rfollow_calls _ (H.grow G) 0 0 (by simp [inR]) (by simp [inR])) ?_)
   intro w29 g30
   replace hc4 := g30.heap hc4
   replace hc10 := g30.heap hc10
   replace hc16 := g30.heap hc16
   replace G := G.tr g30
   clear g30
   refine stp (r_move (v := .tuple #[.agg #[.int .i64 ((followS s 0 0).1.kind), .int .i64 ((followS s 0 0).1.seg), .int .i64 ((followS s 0 0).1.at_), .int .i64 ((followS s 0 0).1.data), .int .i64 ((followS s 0 0).1.ptrs), .int .i64 ((followS s 0 0).1.size), .int .i64 ((followS s 0 0).1.count)], .int .i64 ((followS s 0 0).2)]) rfl ?_)
   refine stp (r_extract (v := .agg #[.int .i64 ((followS s 0 0).1.kind), .int .i64 ((followS s 0 0).1.seg), .int .i64 ((followS s 0 0).1.at_), .int .i64 ((followS s 0 0).1.data), .int .i64 ((followS s 0 0).1.ptrs), .int .i64 ((followS s 0 0).1.size), .int .i64 ((followS s 0 0).1.count)]) rfl rfl ?_)
   refine stp (r_extract (v := .int .i64 ((followS s 0 0).2)) rfl rfl ?_)
   refine stp (r_alloc ?_)
   intro b31 w32 hb33 hc34 g35
   refine stn (r_storeAll rfl rfl hc34 (by rfl) (by rfl) (by rfl) ?_)
   intro w36 hc37 u38
   have g39 := g35.upd u38 hb33
   have hge40 := Nat.le_trans G.size hb33
   have ne41 := Nat.ne_of_lt (Nat.lt_of_lt_of_le (lt_of_heap hc4) hb33)
   have ne42 := Nat.ne_of_lt (Nat.lt_of_lt_of_le (lt_of_heap hc10) hb33)
   have ne43 := Nat.ne_of_lt (Nat.lt_of_lt_of_le (lt_of_heap hc16) hb33)
   replace hc4 := g39.heap hc4
   replace hc10 := g39.heap hc10
   replace hc16 := g39.heap hc16
   replace G := G.tr g39
   clear u38 g35 hb33 hc34
   refine stp (r_assign_int rfl ?_)
   refine WL_nil ?_
   refine W_seq (W_region rfl ?_)
   refine stp (r_assign_int rfl ?_)
   refine WL_nil ?_
   refine W_seq ?_
   refine W_seq (W_region rfl ?_)
   refine stp (r_assign_int rfl ?_)
   refine WL_nil ?_
   refine W_block ?_
   refine W_loop (fun m_ e_ w_ => ∃ (i : Nat) (o : Ob) (e : Int) (paid : Int), m_ = steps.length + 1 - i ∧ Fr [(2, .int .i64 cost), (3, .pointer (some ⟨b1, 0, none⟩)), (4, .pointer (some ⟨b7, 0, none⟩)), (6, .pointer (some ⟨b13, 0, none⟩)), (9, .pointer (some ⟨b31, 0, none⟩)), (12, .int .i64 (i : Int)), (10, .int .i64 e), (11, .int .i64 paid)] e_ ∧ (i ≤ steps.length + 1) ∧ (ObR o) ∧ (0 ≤ paid ∧ paid ≤ 536870913 * (i : Int)) ∧ (i ≤ steps.length → (walkS s steps a cost) = tailW s steps a cost i o e paid) ∧ (i = steps.length + 1 → (walkS s steps a cost) = valS s o a) ∧ (w_.heap[b1]? = some (.cells #[ua, .bool b, uh] 90 (0, 0))) ∧ (w_.heap[b7]? = some (.cells #[.slice ad steps.length c, .int .i64 a] 29 (0, 0))) ∧ (w_.heap[b13]? = some (.cells #[.int .i64 0, .int .i64 0, .int .i64 0, .int .i64 0, .int .u64 0] 35 (0, 0))) ∧ (w_.heap[b31]? = some (.cells #[.int .i64 o.kind, .int .i64 o.seg, .int .i64 o.at_, .int .i64 o.data, .int .i64 o.ptrs, .int .i64 o.size, .int .i64 o.count] 93 (0, 0))) ∧ Grow w w_) _ ⟨0, (followS s 0 0).1, (followS s 0 0).2, 0, rfl, fr_of ⟨rfl, rfl, rfl, rfl, rfl, rfl, rfl, rfl, trivial⟩, by omega, ho0, by omega, fun _ => hw0, fun h_ => by omega, hc4, hc10, hc16, hc37, G⟩ ?_
   clear hc4 hc10 hc16 hc37
   clear G
   rintro m_ e_ w44 ⟨i, o, e, paid, rfl, ⟨e45, rfl⟩, hi1, ho, hpd, hw, hv0, hc4, hc10, hc16, hc37, G⟩
   have hwo := wordsO_range ho
   refine W_seq ?_
   refine W_seq (W_region rfl ?_)
   refine stp (r_move_int rfl ?_)
   refine stp (r_fieldAddr rfl ?_)
   refine stp (r_load (v := .slice ad steps.length c) rfl hc10 rfl ?_)
   refine stp (r_len rfl rfl rfl ?_)
   refine stp (r_leq rfl rfl ?_)
   refine WL_nil ?_
   refine W_cond2 (b := (decide ((i : Int) ≤ (steps.length : Int)))) rfl (fun hlt => ?_) (fun hlt => ?_)
   ·-- true
    replace hlt := of_decide_eq_true hlt
    have hil : i ≤ steps.length := by omega
    have hw1 := hw hil
    refine W_skip ?_
    refine W_seq ?_
    refine W_block ?_
    refine W_seq ?_
    refine W_seq (W_region rfl ?_)
    refine stp (r_move_int rfl ?_)
    refine stp (r_neq rfl rfl ?_)
    refine WL_nil ?_
    refine W_cond2 (b := (decide (e ≠ 0))) rfl (fun he => ?_) (fun he => ?_)
    ·-- true
     replace he := of_decide_eq_true he
     refine W_seq (W_region rfl ?_)
     refine stp (r_build (v := .agg #[.int .i64 0, .int .i64 0, .int .i64 0, .int .i64 0, .int .u64 0]) (fun w => by kernel_rfl) ?_)
     refine stp (r_move_int rfl ?_)
     refine stn (r_storeAll rfl rfl hc16 (by rfl) (by rfl) (by rfl) ?_)
     intro w46 hc47 u48
     replace hc4 := u48.heap hc4 ne19
     replace hc10 := u48.heap hc10 ne20
     replace hc37 := u48.heap hc37 ne43.symm
     replace G := G.upd u48 hge18
     clear u48 hc16
     refine stp (r_assign_int rfl ?_)
     refine WL_nil ?_
     refine W_ret ?_
     have h9 : (walkS s steps a cost) = (Vl0, e) := by rw [hw1]; unfold tailW; rw [if_pos he]
     refine ret2 (res_all rfl hc47 (by rfl)) (res_tmp (v := .int .i64 e) rfl) ⟨?_, G⟩
     rw [h9] <;> rfl
    ·-- false
     replace he := of_decide_eq_false he
     have he9 : e = 0 := by omega
     subst he9
     refine W_skip ?_
     refine W_seq (W_region rfl ?_)
     refine stp (r_move_int rfl ?_)
     refine stp (r_loadAll rfl hc37 (by rfl) ?_)
     refine stp (r_gives (v := .int .i64 (wordsO o)) rfl (rowords_calls _ o) ?_)
     intro w49 g50
     replace hc4 := g50.heap hc4
     replace hc10 := g50.heap hc10
     replace hc16 := g50.heap hc16
     replace hc37 := g50.heap hc37
     replace G := G.tr g50
     clear g50
     refine stp (r_add rfl rfl ?_ ?_); constructor <;> omega
     refine stp (r_add rfl rfl ?_ ?_); constructor <;> omega
     refine stp (r_assign_int rfl ?_)
     refine WL_nil ?_
     refine W_seq ?_
     refine W_seq (W_region rfl ?_)
     refine stp (r_move_int rfl ?_)
     refine stp (r_move_int rfl ?_)
     refine stp (r_gtr rfl rfl ?_)
     refine WL_nil ?_
     refine W_cond2 (b := (decide ((paid + (1 + (wordsO o))) > cost))) rfl (fun h7 => ?_) (fun h7 => ?_)
     ·-- true
      replace h7 := of_decide_eq_true h7
      refine W_seq (W_region rfl ?_)
      refine stp (r_build (v := .agg #[.int .i64 0, .int .i64 0, .int .i64 0, .int .i64 0, .int .u64 0]) (fun w => by kernel_rfl) ?_)
      refine stn (r_storeAll rfl rfl hc16 (by rfl) (by rfl) (by rfl) ?_)
      intro w51 hc52 u53
      replace hc4 := u53.heap hc4 ne19
      replace hc10 := u53.heap hc10 ne20
      replace hc37 := u53.heap hc37 ne43.symm
      replace G := G.upd u53 hge18
      clear u53 hc16
      refine stp (r_assign_int rfl ?_)
      refine WL_nil ?_
      refine W_ret ?_
      have h9 : (walkS s steps a cost) = (Vl0, 22) := by rw [hw1]; unfold tailW; rw [if_neg (by simp), if_pos (by omega)]
      refine ret2 (res_all rfl hc52 (by rfl)) (res_tmp (v := .int .i64 22) rfl) ⟨?_, G⟩
      rw [h9] <;> rfl
     ·-- false
      replace h7 := of_decide_eq_false h7
      have hnv : ¬ (paid + (1 + wordsO o)) > cost := by omega
      refine W_skip ?_
      refine W_seq (W_region rfl ?_)
      refine stp (r_move_int rfl ?_)
      refine stp (r_fieldAddr rfl ?_)
      refine stp (r_load (v := .slice ad steps.length c) rfl hc10 rfl ?_)
      refine stp (r_len rfl rfl rfl ?_)
      refine stp (r_lss rfl rfl ?_)
      refine WL_nil ?_
      refine W_cond2 (b := (decide ((i : Int) < (steps.length : Int)))) rfl (fun h8 => ?_) (fun h8 => ?_)
      ·-- true
       replace h8 := of_decide_eq_true h8
       have hi : i < steps.length := by omega
       have hkk := hnn i hi
       have hso := H.stepO_range o (steps.getD i 0)
       have hw2 := tail_next (s := s) (a := a) hi hnv
       have hsz54 : w49.heap.size ≤ w49.heap.size := Nat.le_refl _
       have ltf54_hc4 := lt_of_heap hc4
       have ltf54_hc10 := lt_of_heap hc10
       have ltf54_hc16 := lt_of_heap hc16
       have ltf54_hc37 := lt_of_heap hc37
       have hgz54 := G.size
       refine W_seq ?_
       have kb_hc4 : ∀ w_, (ktR 93 w49.heap.size).r w49 w_ → w_.heap[b1]? = some (.cells #[ua, .bool b, uh] 90 (0, 0)) := fun w_ k_ => (KtP.to_grow k_ (Grow.rfl' _)).heap hc4
       have kb_hc10 : ∀ w_, (ktR 93 w49.heap.size).r w49 w_ → w_.heap[b7]? = some (.cells #[.slice ad steps.length c, .int .i64 a] 29 (0, 0)) := fun w_ k_ => (KtP.to_grow k_ (Grow.rfl' _)).heap hc10
       have kb_hc16 : ∀ w_, (ktR 93 w49.heap.size).r w49 w_ → w_.heap[b13]? = some (.cells #[.int .i64 0, .int .i64 0, .int .i64 0, .int .i64 0, .int .u64 0] 35 (0, 0)) := fun w_ k_ => (KtP.to_grow k_ (Grow.rfl' _)).heap hc16
       have kb_hc37 : ∀ w_, (ktR 93 w49.heap.size).r w49 w_ → w_.heap[b31]? = some (.cells #[.int .i64 o.kind, .int .i64 o.seg, .int .i64 o.at_, .int .i64 o.data, .int .i64 o.ptrs, .int .i64 o.size, .int .i64 o.count] 93 (0, 0)) := fun w_ k_ => (KtP.to_grow k_ (Grow.rfl' _)).heap hc37
       have kb_hsz54 : ∀ w_, (ktR 93 w49.heap.size).r w49 w_ → w49.heap.size ≤ w_.heap.size := fun w_ k_ => Nat.le_trans hsz54 (KtP.to_grow k_ (Grow.rfl' _)).size
       have kb_G : ∀ w_, (ktR 93 w49.heap.size).r w49 w_ → Grow w w_ := fun w_ k_ => G.tr (KtP.to_grow k_ (Grow.rfl' _))
       refine W_anyU 13 [[], [], [], [0], [], [2, 1, 0], [3, 2, 1, 0], [6, 5, 4, 3, 2, 1, 0], [7, 6, 5, 4, 3, 2, 1, 0], [8, 7, 6, 5, 4, 3, 2, 1, 0], [9, 8, 7, 6, 5, 4, 3, 2, 1], [], [11, 10, 9, 8, 7, 6, 5, 4, 3, 2, 0]] [12] [13] (grQ (ktR 93 w49.heap.size)) (fun k_ e_ w_ => match k_ with | 0 => True | _ => ∃ b : Nat, e_ 13 = .pointer (some ⟨b, 0, none⟩) ∧ w49.heap.size ≤ b ∧ w_.heap[b]? = some (.cells #[.int .i64 ((stepO s o (steps.getD i 0)).1.kind), .int .i64 ((stepO s o (steps.getD i 0)).1.seg), .int .i64 ((stepO s o (steps.getD i 0)).1.at_), .int .i64 ((stepO s o (steps.getD i 0)).1.data), .int .i64 ((stepO s o (steps.getD i 0)).1.ptrs), .int .i64 ((stepO s o (steps.getD i 0)).1.size), .int .i64 ((stepO s o (steps.getD i 0)).1.count)] 93 (0, 0))) mixed (by kernel_rfl) (by kernel_rfl) (by kernel_rfl) (by kernel_rfl) (by kernel_rfl) (fun k_ _ _ _ g_ h_ => match k_, h_ with | 0, _ => trivial | _ + 1, ⟨b_, h1_, h2_, h3_⟩ => ⟨b_, h1_, h2_, g_.heap h3_⟩) (fun k_ _ _ _ hu_ h_ => match k_, h_ with | 0, _ => trivial | _ + 1, ⟨b_, h1_, h2_, h3_⟩ => ⟨b_, (hu_ _ (by simp)).symm.trans h1_, h2_, h3_⟩) (fun _ _ _ h_ => h_) (fun _ _ => trivial) ?_
       intro w55 g56
       replace kb_hc4 : ∀ w_, (ktR 93 w49.heap.size).r w55 w_ → w_.heap[b1]? = some (.cells #[ua, .bool b, uh] 90 (0, 0)) := fun w_ k_ => kb_hc4 w_ ((ktR 93 w49.heap.size).tr ((ktR 93 w49.heap.size).grow g56) k_)
       replace kb_hc10 : ∀ w_, (ktR 93 w49.heap.size).r w55 w_ → w_.heap[b7]? = some (.cells #[.slice ad steps.length c, .int .i64 a] 29 (0, 0)) := fun w_ k_ => kb_hc10 w_ ((ktR 93 w49.heap.size).tr ((ktR 93 w49.heap.size).grow g56) k_)
       replace kb_hc16 : ∀ w_, (ktR 93 w49.heap.size).r w55 w_ → w_.heap[b13]? = some (.cells #[.int .i64 0, .int .i64 0, .int .i64 0, .int .i64 0, .int .u64 0] 35 (0, 0)) := fun w_ k_ => kb_hc16 w_ ((ktR 93 w49.heap.size).tr ((ktR 93 w49.heap.size).grow g56) k_)
       replace kb_hc37 : ∀ w_, (ktR 93 w49.heap.size).r w55 w_ → w_.heap[b31]? = some (.cells #[.int .i64 o.kind, .int .i64 o.seg, .int .i64 o.at_, .int .i64 o.data, .int .i64 o.ptrs, .int .i64 o.size, .int .i64 o.count] 93 (0, 0)) := fun w_ k_ => kb_hc37 w_ ((ktR 93 w49.heap.size).tr ((ktR 93 w49.heap.size).grow g56) k_)
       replace kb_hsz54 : ∀ w_, (ktR 93 w49.heap.size).r w55 w_ → w49.heap.size ≤ w_.heap.size := fun w_ k_ => kb_hsz54 w_ ((ktR 93 w49.heap.size).tr ((ktR 93 w49.heap.size).grow g56) k_)
       replace kb_G : ∀ w_, (ktR 93 w49.heap.size).r w55 w_ → Grow w w_ := fun w_ k_ => kb_G w_ ((ktR 93 w49.heap.size).tr ((ktR 93 w49.heap.size).grow g56) k_)
       have k0_ : (ktR 93 w49.heap.size).r w49 w55 := ((ktR 93 w49.heap.size).grow g56)
       apply AOU_ex (hm := by rfl)
       ·intro w_ g_; refine og rfl ?_; refine r_loadAll rfl (kb_hc4 _ g_) (by rfl) ?_; exact ⟨Grow.rfl' _, rfl⟩
       apply AOU_ex (hm := by rfl)
       ·intro w_ g_; refine og rfl ?_; refine r_loadAll rfl (kb_hc37 _ g_) (by rfl) ?_; exact ⟨Grow.rfl' _, rfl⟩
       apply AOU_ex (hm := by rfl)
       ·intro w_ g_; refine og rfl ?_; refine r_fieldAddr rfl ?_; exact ⟨Grow.rfl' _, rfl⟩
       apply AOU_ex (hm := by rfl)
       ·intro w_ g_; refine og rfl ?_; refine r_load (v := .slice ad steps.length c) rfl (kb_hc10 _ g_) rfl ?_; exact ⟨Grow.rfl' _, rfl⟩
       apply AOU_ex (hm := by rfl)
       ·intro w_ g_; refine og rfl ?_; refine r_move_int rfl ?_; exact ⟨Grow.rfl' _, rfl⟩
       apply AOU_ex (hm := by rfl)
       ·intro w_ g_; refine og rfl ?_; refine r_indexN (R.grow (kb_G _ g_)) rfl rfl ?_ ?_; omega; exact ⟨Grow.rfl' _, rfl⟩
       apply AOU_ex (hm := by rfl)
       ·intro w_ g_; refine og rfl ?_; refine r_loadR (v := .int .i64 (steps.getD i 0)) (m := 0) (R.grow (kb_G _ g_)) rfl (map_get1 0 (by omega)) ?_; exact ⟨Grow.rfl' _, rfl⟩
       apply AOU_ex (hm := by rfl)
       ·intro w_ g_; refine og rfl ?_; exact r_gives (v := .tuple #[.agg #[.int .i64 ((stepO s o (steps.getD i 0)).1.kind), .int .i64 ((stepO s o (steps.getD i 0)).1.seg), .int .i64 ((stepO s o (steps.getD i 0)).1.at_), .int .i64 ((stepO s o (steps.getD i 0)).1.data), .int .i64 ((stepO s o (steps.getD i 0)).1.ptrs), .int .i64 ((stepO s o (steps.getD i 0)).1.size), .int .i64 ((stepO s o (steps.getD i 0)).1.count)], .int .i64 ((stepO s o (steps.getD i 0)).2)]) rfl (rstep9_calls _ (H.grow (kb_G _ g_)) o ho (steps.getD i 0) hkk) (fun w2_ g2_ => ⟨g2_, rfl⟩)
       apply AOU_ex (hm := by rfl)
       ·intro w_ g_; refine og rfl ?_; refine r_move (v := .tuple #[.agg #[.int .i64 ((stepO s o (steps.getD i 0)).1.kind), .int .i64 ((stepO s o (steps.getD i 0)).1.seg), .int .i64 ((stepO s o (steps.getD i 0)).1.at_), .int .i64 ((stepO s o (steps.getD i 0)).1.data), .int .i64 ((stepO s o (steps.getD i 0)).1.ptrs), .int .i64 ((stepO s o (steps.getD i 0)).1.size), .int .i64 ((stepO s o (steps.getD i 0)).1.count)], .int .i64 ((stepO s o (steps.getD i 0)).2)]) rfl ?_; exact ⟨Grow.rfl' _, rfl⟩
       apply AOU_ex (hm := by rfl)
       ·intro w_ g_; refine og rfl ?_; refine r_extract (v := .agg #[.int .i64 ((stepO s o (steps.getD i 0)).1.kind), .int .i64 ((stepO s o (steps.getD i 0)).1.seg), .int .i64 ((stepO s o (steps.getD i 0)).1.at_), .int .i64 ((stepO s o (steps.getD i 0)).1.data), .int .i64 ((stepO s o (steps.getD i 0)).1.ptrs), .int .i64 ((stepO s o (steps.getD i 0)).1.size), .int .i64 ((stepO s o (steps.getD i 0)).1.count)]) rfl rfl ?_; exact ⟨Grow.rfl' _, rfl⟩
       apply AOU_ex (hm := by rfl)
       ·intro w_ g_; refine og rfl ?_; refine r_extract (v := .int .i64 ((stepO s o (steps.getD i 0)).2)) rfl rfl ?_; exact ⟨Grow.rfl' _, rfl⟩
       refine AOU_so (fun w_ v_ => ∃ b cs, v_ = .pointer (some ⟨b, 0, none⟩) ∧ w49.heap.size ≤ b ∧ cs.size = 7 ∧ w_.heap[b]? = some (.cells cs 93 (0, 0))) (fun _ _ _ g_ ⟨b, cs, h1_, h2_, h3_, h4_⟩ => by obtain ⟨cs2, h5_, h6_⟩ := KtP.new g_ b cs h4_; exact ⟨b, cs2, h1_, h2_, h5_.trans h3_, h6_⟩) (by rfl) ?_ ?_
       ·intro w_ g_
        refine og rfl ?_
        refine r_alloc ?_
        intro b_ w2_ hb_ hc_ g2_
        exact ⟨g2_, b_, _, rfl, Nat.le_trans (kb_hsz54 _ g_) hb_, rfl, hc_⟩
       apply AOU_mut 0 (hm := by rfl)
       ·intro w_ g_
        intro v11_ hv11_
        intro s_
        show OpG _ _ _ _ _ _
        refine og rfl ?_
        obtain ⟨b_, cs_, rfl, hge_, hsz_, hb_⟩ := hv11_
        refine r_storeAll rfl rfl hb_ (by rfl) hsz_ (by rfl) ?_
        intro w2_ s2_ u_
        exact ⟨KtP.of_upd u_ hge_ hb_ s2_ hsz_.symm, ⟨b_, rfl, hge_, s2_⟩, rfl⟩
       refine AOU_nil ?_
       intro w57 g58
       replace k0_ := ((ktR 93 w49.heap.size).tr k0_ g58)
       replace hc4 := kb_hc4 _ g58
       clear kb_hc4
       replace hc10 := kb_hc10 _ g58
       clear kb_hc10
       replace hc16 := kb_hc16 _ g58
       clear kb_hc16
       replace hc37 := kb_hc37 _ g58
       clear kb_hc37
       replace hsz54 := kb_hsz54 _ g58
       clear kb_hsz54
       replace G := kb_G _ g58
       clear kb_G
       intro v_x54 hv_x54
       rintro ⟨bx54, hbe54, hge54, hc54⟩
       have hbv54 : v_x54 = .pointer (some ⟨bx54, 0, none⟩) := hbe54
       subst hbv54
       clear hv_x54 hbe54
       have hgx54 := Nat.le_trans hgz54 hge54
       refine stp (r_assign_int rfl ?_)
       refine WL_nil ?_
       refine W_seq (W_region rfl ?_)
       refine stp (r_loadAll rfl hc54 (by rfl) ?_)
       refine stn (r_storeAll rfl rfl hc37 (by rfl) (by rfl) (by rfl) ?_)
       intro w59 hc60 u61
       replace hc4 := u61.heap hc4 ne41
       replace hc10 := u61.heap hc10 ne42
       replace hc16 := u61.heap hc16 ne43
       replace hc54 := u61.heap hc54 (Nat.ne_of_lt (Nat.lt_of_lt_of_le ltf54_hc37 hge54)).symm
       replace G := G.upd u61 hge40
       clear u61 hc37
       refine WL_nil ?_
       refine W_region rfl ?_
       refine stp (r_move_int rfl ?_)
       refine stp (r_assign_int rfl ?_)
       refine WL_nil ?_
       refine W_region rfl ?_
       refine stp (r_move_int rfl ?_)
       refine stp (r_add rfl rfl ?_ ?_); constructor <;> omega
       refine stp (r_assign_int rfl ?_)
       refine WL_nil ?_
       refine ⟨_, ?_, i + 1, (stepO s o (steps.getD i 0)).1, (stepO s o (steps.getD i 0)).2, (paid + (1 + wordsO o)), rfl, fr_of ⟨rfl, rfl, rfl, rfl, rfl, congrArg (Value.int .i64) (by omega), rfl, rfl, trivial⟩, by omega, hso, by omega, fun _ => by rw [hw1]; exact hw2, fun h_ => by omega, hc4, hc10, hc16, hc60, G⟩
       omega
      ·-- false
       replace h8 := of_decide_eq_false h8
       have hi9 : i = steps.length := by omega
       refine W_skip ?_
       refine W_region rfl ?_
       refine stp (r_move_int rfl ?_)
       refine stp (r_add rfl rfl ?_ ?_); constructor <;> omega
       refine stp (r_assign_int rfl ?_)
       refine WL_nil ?_
       refine ⟨_, ?_, i + 1, o, 0, (paid + (1 + wordsO o)), rfl, fr_of ⟨rfl, rfl, rfl, rfl, rfl, congrArg (Value.int .i64) (by omega), rfl, rfl, trivial⟩, by omega, ho, by omega, fun h_ => by omega, fun _ => by rw [hw1, hi9]; exact tail_end hnv, hc4, hc10, hc16, hc37, G⟩
       omega
   ·-- false
    replace hlt := of_decide_eq_false hlt
    have hv := hv0 (by omega)
    refine W_exit ?_
    refine W_seq (W_region rfl ?_)
    refine stp (r_loadAll rfl hc4 (by rfl) ?_)
    refine stp (r_loadAll rfl hc37 (by rfl) ?_)
    refine stp (r_fieldAddr rfl ?_)
    refine stp (r_load (v := .int .i64 a) rfl hc10 rfl ?_)
    refine stp (r_gives (v := .tuple #[.agg #[.int .i64 ((valS s o a).1.kind), .int .i64 ((valS s o a).1.size), .int .i64 ((valS s o a).1.words), .int .i64 ((valS s o a).1.kids), .int .u64 ((valS s o a).1.word)], .int .i64 ((valS s o a).2)]) rfl (rvalue9_calls _ (H.grow G) o ho a ha) ?_)
    intro w62 g63
    replace hc4 := g63.heap hc4
    replace hc10 := g63.heap hc10
    replace hc16 := g63.heap hc16
    replace hc37 := g63.heap hc37
    replace G := G.tr g63
    clear g63
    refine stp (r_move (v := .tuple #[.agg #[.int .i64 ((valS s o a).1.kind), .int .i64 ((valS s o a).1.size), .int .i64 ((valS s o a).1.words), .int .i64 ((valS s o a).1.kids), .int .u64 ((valS s o a).1.word)], .int .i64 ((valS s o a).2)]) rfl ?_)
    refine stp (r_extract (v := .agg #[.int .i64 ((valS s o a).1.kind), .int .i64 ((valS s o a).1.size), .int .i64 ((valS s o a).1.words), .int .i64 ((valS s o a).1.kids), .int .u64 ((valS s o a).1.word)]) rfl rfl ?_)
    refine stp (r_extract (v := .int .i64 ((valS s o a).2)) rfl rfl ?_)
    refine stp (r_alloc ?_)
    intro b64 w65 hb66 hc67 g68
    refine stn (r_storeAll rfl rfl hc67 (by rfl) (by rfl) (by rfl) ?_)
    intro w69 hc70 u71
    have g72 := g68.upd u71 hb66
    have hge73 := Nat.le_trans G.size hb66
    have ne74 := Nat.ne_of_lt (Nat.lt_of_lt_of_le (lt_of_heap hc4) hb66)
    have ne75 := Nat.ne_of_lt (Nat.lt_of_lt_of_le (lt_of_heap hc10) hb66)
    have ne76 := Nat.ne_of_lt (Nat.lt_of_lt_of_le (lt_of_heap hc16) hb66)
    have ne77 := Nat.ne_of_lt (Nat.lt_of_lt_of_le (lt_of_heap hc37) hb66)
    replace hc4 := g72.heap hc4
    replace hc10 := g72.heap hc10
    replace hc16 := g72.heap hc16
    replace hc37 := g72.heap hc37
    replace G := G.tr g72
    clear u71 g68 hb66 hc67
    refine stp (r_assign_int rfl ?_)
    refine WL_nil ?_
    refine W_seq (W_region rfl ?_)
    refine stp (r_loadAll rfl hc70 (by rfl) ?_)
    refine stp (r_move_int rfl ?_)
    refine stn (r_storeAll rfl rfl hc16 (by rfl) (by rfl) (by rfl) ?_)
    intro w78 hc79 u80
    replace hc4 := u80.heap hc4 ne19
    replace hc10 := u80.heap hc10 ne20
    replace hc37 := u80.heap hc37 ne43.symm
    replace hc70 := u80.heap hc70 ne76.symm
    replace G := G.upd u80 hge18
    clear u80 hc16
    refine stp (r_assign_int rfl ?_)
    refine WL_nil ?_
    refine W_ret ?_
    refine ret2 (res_all rfl hc79 (by rfl)) (res_tmp (v := .int .i64 ((valS s o a).2)) rfl) ⟨?_, G⟩
    rw [hv]

set_option maxRecDepth 100000 in
theorem rof9_calls (w : World) {u : Value} {A : List (List Int)} (hA : ArenaR w u A) (hr : rightB A = true) (hx : AllU A) {ad : Option Addr} {c : Nat} {steps : List Int} {a cost : Int} (R : RowAt w 1 ad steps.length (steps.map (.int .i64))) (ha : inR .i64 a) (hc : 0 ≤ cost ∧ cost ≤ 9000000000000000000) : Gives Tryz.prog 11 #[u, .agg #[.slice ad steps.length c, .int .i64 a], .int .i64 cost] w (.tuple #[.agg #[.int .i64 ((walkS (wholeS A) steps a cost).1.kind), .int .i64 ((walkS (wholeS A) steps a cost).1.size), .int .i64 ((walkS (wholeS A) steps a cost).1.words), .int .i64 ((walkS (wholeS A) steps a cost).1.kids), .int .u64 ((walkS (wholeS A) steps a cost).1.word)], .int .i64 ((walkS (wholeS A) steps a cost).2)]) := by
 have hA0 := hA
 obtain ⟨r1, r2, r3, r4⟩ := of_decide_eq_true hr
 have hl : ∀ i, len2 A i ≤ 140737488355328 := fun i => by have := seg_le_total A i; omega
 obtain ⟨ada, ca, segs, sa, sc, rfl, hca, hca2, RA, hsf, hrf⟩ := hA.fn
 have G := Grow.rfl' w
 refine gives_of Tryz.func11 Tryz.ntmps11 Tryz.results11 rfl rfl ?_
 refine W_seq (W_region rfl ?_)
 refine WL_some (og rfl ?_)
 (first | refine r_box_agg rfl ?_ | refine r_box_int rfl ?_ | refine r_box_slice rfl ?_ | refine r_box rfl rfl ?_)
 intro b1 w2 hb3 hc4 g5
 have hge6 := Nat.le_trans G.size hb3
 replace G := G.tr g5
 clear g5 hb3
 refine stp (r_alloc ?_)
 intro b7 w8 hb9 hc10 g11
 refine stp (r_assign_int rfl ?_)
 refine WL_nil ?_
 refine W_seq ?_
 refine W_seq (W_region rfl ?_)
 refine stp (r_move_slice rfl ?_)
 have hge12 := Nat.le_trans G.size hb9
 have ne13 := Nat.ne_of_lt (Nat.lt_of_lt_of_le (lt_of_heap hc4) hb9)
 replace hc4 := g11.heap hc4
 replace G := G.tr g11
 clear g11 hb9
 refine stp (r_gives (v := .bool true) rfl (gives_eq (rright7_calls _ (hA0.grow G) (by omega)) (y := .bool true) (by rw [hr])) ?_)
 intro w14 g15
 replace hc4 := g15.heap hc4
 replace hc10 := g15.heap hc10
 replace G := G.tr g15
 clear g15
 refine stp (r_not_f rfl rfl ?_)
 refine WL_nil ?_
 refine W_false rfl ?_
 refine W_skip ?_
 refine W_seq (W_region rfl ?_)
 refine stp (r_move_slice rfl ?_)
 refine stp (r_build (v := .agg #[.slice ada A.length ca, .bool false, .slice none 0 0]) (fun w => by kernel_rfl) ?_)
 refine stp (r_loadAll rfl hc4 (by rfl) ?_)
 refine stp (r_move_int rfl ?_)
 refine stp (r_gives (v := .tuple #[.agg #[.int .i64 ((walkS (wholeS A) steps a cost).1.kind), .int .i64 ((walkS (wholeS A) steps a cost).1.size), .int .i64 ((walkS (wholeS A) steps a cost).1.words), .int .i64 ((walkS (wholeS A) steps a cost).1.kids), .int .u64 ((walkS (wholeS A) steps a cost).1.word)], .int .i64 ((walkS (wholeS A) steps a cost).2)]) rfl (rwalk9_calls _ (srcR_whole (uh := .slice none 0 0) (hA0.grow G) (by omega) hx hl) (R.grow G) ha hc) ?_)
 intro w16 g17
 replace hc4 := g17.heap hc4
 replace hc10 := g17.heap hc10
 replace G := G.tr g17
 clear g17
 refine stp (r_move (v := .tuple #[.agg #[.int .i64 ((walkS (wholeS A) steps a cost).1.kind), .int .i64 ((walkS (wholeS A) steps a cost).1.size), .int .i64 ((walkS (wholeS A) steps a cost).1.words), .int .i64 ((walkS (wholeS A) steps a cost).1.kids), .int .u64 ((walkS (wholeS A) steps a cost).1.word)], .int .i64 ((walkS (wholeS A) steps a cost).2)]) rfl ?_)
 refine stp (r_extract (v := .agg #[.int .i64 ((walkS (wholeS A) steps a cost).1.kind), .int .i64 ((walkS (wholeS A) steps a cost).1.size), .int .i64 ((walkS (wholeS A) steps a cost).1.words), .int .i64 ((walkS (wholeS A) steps a cost).1.kids), .int .u64 ((walkS (wholeS A) steps a cost).1.word)]) rfl rfl ?_)
 refine stp (r_extract (v := .int .i64 ((walkS (wholeS A) steps a cost).2)) rfl rfl ?_)
 refine stp (r_alloc ?_)
 intro b18 w19 hb20 hc21 g22
 refine stn (r_storeAll rfl rfl hc21 (by rfl) (by rfl) (by rfl) ?_)
 intro w23 hc24 u25
 have g26 := g22.upd u25 hb20
 have hge27 := Nat.le_trans G.size hb20
 have ne28 := Nat.ne_of_lt (Nat.lt_of_lt_of_le (lt_of_heap hc4) hb20)
 have ne29 := Nat.ne_of_lt (Nat.lt_of_lt_of_le (lt_of_heap hc10) hb20)
 replace hc4 := g26.heap hc4
 replace hc10 := g26.heap hc10
 replace G := G.tr g26
 clear u25 g22 hb20 hc21
 refine stp (r_assign_int rfl ?_)
 refine WL_nil ?_
 refine W_seq (W_region rfl ?_)
 refine stp (r_loadAll rfl hc24 (by rfl) ?_)
 refine stp (r_move_int rfl ?_)
 refine stn (r_storeAll rfl rfl hc10 (by rfl) (by rfl) (by rfl) ?_)
 intro w30 hc31 u32
 replace hc4 := u32.heap hc4 ne13
 replace hc24 := u32.heap hc24 ne29.symm
 replace G := G.upd u32 hge12
 clear u32 hc10
 refine stp (r_assign_int rfl ?_)
 refine WL_nil ?_
 refine W_ret ?_
 refine ret2 (res_all rfl hc31 (by rfl)) (res_tmp (v := .int .i64 ((walkS (wholeS A) steps a cost).2)) rfl) ⟨?_, G⟩
 rfl
end Go.Proofs.YtifhcfhdajkhlaaGreat.K

namespace Go.Proofs.YtifhcfhdajkhlaaGreat.K
open Go Go.RowKit
/-- The same words, but for those that are not there. -/
structure LeS (s s' : Src) : Prop where
  sizes : s.sizes = s'.sizes
  word : ∀ seg a, s.word seg a = s'.word seg a ∨ (s.word seg a).2 = 30
section
variable {s s' : Src}
theorem LeS.ptr (h : LeS s s') (seg a : Int) : ptrS s seg a = ptrS s' seg a ∨ (ptrS s seg a).2 = 30 := by
  rcases h.word seg a with he | he
  · left; unfold ptrS; rw [he]
  · right; unfold ptrS; rw [if_pos (by rw [he]; decide)]; exact he
theorem LeS.found (h : LeS s s') (p : Pt) (seg a : Int) : foundS s p seg a = foundS s' p seg a := by unfold foundS; rw [h.sizes]
theorem LeS.landed (h : LeS s s') (p : Pt) : landedS s p = landedS s' p ∨ (landedS s p).2 = 30 := by
  rcases h.ptr p.seg p.off with he | he
  · left; unfold landedS; rw [he]; simp only [h.found]
  · right; unfold landedS; rw [if_pos (by rw [he]; decide)]; exact he
theorem LeS.twice (h : LeS s s') (p : Pt) : twiceS s p = twiceS s' p ∨ (twiceS s p).2 = 30 := by
  rcases h.word p.seg p.off with he | he
  · by_cases h0 : (s'.word p.seg p.off).2 ≠ 0
    · left; unfold twiceS; rw [he, if_pos h0, if_pos h0]
    · rcases h.word p.seg (p.off + 1) with hf | hf
      · left; unfold twiceS; rw [he, hf]; simp only [h.found]
      · right; unfold twiceS; rw [he, if_neg h0, if_pos (by rw [hf]; decide)]; exact hf
  · right; unfold twiceS; rw [if_pos (by rw [he]; decide)]; exact he
theorem LeS.follow (h : LeS s s') (seg a : Int) : followS s seg a = followS s' seg a ∨ (followS s seg a).2 = 30 := by
  rcases h.ptr seg a with he | he
  · unfold followS
    rw [he]
    by_cases h1 : (ptrS s' seg a).2 ≠ 0 ∨ (ptrS s' seg a).1.kind = 0
    · left; rw [if_pos h1, if_pos h1]
    · rw [if_neg h1, if_neg h1]
      by_cases h2 : nearP (ptrS s' seg a).1 = true
      · left; rw [if_pos h2, if_pos h2, h.found]
      · rw [if_neg h2, if_neg h2]
        by_cases h3 : (ptrS s' seg a).1.dbl = true
        · rw [if_pos h3, if_pos h3]; exact h.twice _
        · rw [if_neg h3, if_neg h3]; exact h.landed _
  · right; unfold followS; rw [if_pos (.inl (by rw [he]; decide))]; exact he
theorem LeS.step (h : LeS s s') (o : Ob) (k : Int) : stepS s o k = stepS s' o k ∨ (stepS s o k).2 = 30 := by
  unfold stepS
  (repeat' split) <;> first | exact .inl rfl | exact h.follow _ _
theorem LeS.at_ (h : LeS s s') (o : Ob) (k : Int) : atS s o k = atS s' o k ∨ (atS s o k).2 = 30 := by
  unfold atS
  (repeat' split) <;> first | exact .inl rfl | exact h.word _ _ | skip
  rcases h.word o.seg (o.at_ + k / 8) with he | he
  · left; rw [he]
  · right; exact he
theorem LeS.val (h : LeS s s') (o : Ob) (k : Int) : valS s o k = valS s' o k ∨ (valS s o k).2 = 30 := by
  unfold valS
  split
  · exact .inl rfl
  · rcases h.at_ o k with he | he
    · left; rw [he]
    · right; rw [if_pos (by rw [he]; decide)]; exact he
theorem LeS.next (h : LeS s s') (a : Int) : ∀ (ks : List Int) (o : Ob) (left : Int), nextS s a ks o left = nextS s' a ks o left ∨ (nextS s a ks o left).2 = 30
  | [], o, left => by rw [nextS, nextS]; exact h.val o a
  | k :: ks, o, left => by
    rw [nextS, nextS]
    rcases h.step o k with he | he
    · rw [he]
      by_cases h1 : (stepS s' o k).2 ≠ 0
      · left; rw [if_pos h1, if_pos h1]
      · rw [if_neg h1, if_neg h1]
        by_cases h2 : left - (1 + wordsO (stepS s' o k).1) < 0
        · left; rw [if_pos h2, if_pos h2]
        · rw [if_neg h2, if_neg h2]; exact h.next a ks _ _
    · right; rw [if_pos (by rw [he]; decide)]; exact he
theorem LeS.walk (h : LeS s s') (ks : List Int) (a c : Int) : walkS s ks a c = walkS s' ks a c ∨ (walkS s ks a c).2 = 30 := by
  unfold walkS
  by_cases h1 : ∃ k ∈ ks, k < 0
  · left; rw [if_pos h1, if_pos h1]
  · rw [if_neg h1, if_neg h1]
    by_cases h2 : (ks.length : Int) > 32
    · left; rw [if_pos h2, if_pos h2]
    · rw [if_neg h2, if_neg h2]
      rcases h.follow 0 0 with he | he
      · rw [he]
        by_cases h3 : (followS s' 0 0).2 ≠ 0
        · left; rw [if_pos h3, if_pos h3]
        · rw [if_neg h3, if_neg h3]
          by_cases h4 : max c (-1) - (1 + wordsO (followS s' 0 0).1) < 0
          · left; rw [if_pos h4, if_pos h4]
          · rw [if_neg h4, if_neg h4]; exact h.next a ks _ _
      · right; rw [if_pos (by rw [he]; decide)]; exact he
end
/-! ### the words of an arena, one behind the other -/
theorem flat_get : ∀ (A : List (List Int)) (i j : Nat), i < A.length → j < len2 A i → (A.flatten).getD (j + (totalP (A.take i)).toNat) 0 = (A.getD i []).getD j 0
  | [], i, j, h, _ => by simp at h
  | s :: A, 0, j, _, hj => by
    simp only [len2, List.getD_cons_zero] at hj
    simp only [List.take_zero, totalP, Int.toNat_zero, Nat.add_zero, List.flatten_cons, List.getD_cons_zero]
    rw [List.getD_eq_getElem?_getD, List.getD_eq_getElem?_getD, List.getElem?_append_left hj]
  | s :: A, i + 1, j, h, hj => by
    have hj' : j < len2 A i := by simpa [len2] using hj
    have ih := flat_get A i j (by simpa using h) hj'
    have hn := totalP_nn (A.take i)
    simp only [List.take_succ_cons, totalP, List.flatten_cons, List.getD_cons_succ]
    rw [← ih, List.getD_eq_getElem?_getD, List.getD_eq_getElem?_getD, List.getElem?_append_right (by omega), show j + ((s.length : Int) + totalP (A.take i)).toNat - s.length = j + (totalP (A.take i)).toNat from by omega]
theorem place_arena {A : List (List Int)} (h : rightB A = true) (seg a : Int) : (placeM (sizesP A) seg a < 0 ∧ wordA A seg a = (0, 20)) ∨ ∃ k : Nat, placeM (sizesP A) seg a = (k : Int) ∧ k < A.flatten.length ∧ wordA A seg a = (A.flatten.getD k 0, 0) := by
  have hf : fitsL (sizesP A) = true := by rw [fits_right]; exact h
  have hsl := sizesP_len A
  have hg := sizesP_at A seg.toNat
  by_cases hc : 0 ≤ seg ∧ seg < A.length ∧ 0 ≤ a ∧ a < len2 A seg.toNat
  · right
    have hp : placeM (sizesP A) seg a = a + sumL ((sizesP A).take seg.toNat) := by unfold placeM; rw [if_pos ⟨hf, by omega, by omega, by omega, by omega⟩]
    have hst : sumL ((sizesP A).take seg.toNat) = totalP (A.take seg.toNat) := by
      rw [← sumL_sizes]; unfold sizesP; rw [List.map_take]
    have hn := totalP_nn (A.take seg.toNat)
    have hfg := flat_get A seg.toNat a.toNat (by omega) (by omega)
    have hl := (placeM_lt (sz := sizesP A) (seg := seg) (a := a) (by omega)).2.2.2.2.2.2
    have hw := (words_arena h).1
    refine ⟨a.toNat + (totalP (A.take seg.toNat)).toNat, by omega, by omega, ?_⟩
    unfold wordA
    rw [if_pos hc, hfg]
  · left
    refine ⟨?_, by unfold wordA; rw [if_neg hc]⟩
    unfold placeM
    rw [if_neg (by omega)]
    decide
theorem le_whole {A : List (List Int)} {wl kb : List Int} (h : rightB A = true) (H : InvA A wl kb) : LeS (srcP (sizesP A) wl kb) (wholeS A) := by
  refine ⟨rfl, fun seg a => ?_⟩
  show srcW (sizesP A) wl kb seg a = wordA A seg a ∨ (srcW (sizesP A) wl kb seg a).2 = 30
  unfold srcW
  rcases place_arena h seg a with ⟨h1, h2⟩ | ⟨k, h1, h2, h3⟩
  · left; rw [if_pos h1, h2]
  · rw [if_neg (by omega), show (placeM (sizesP A) seg a).toNat = k from by omega, h3]
    have hat := H.at_ k (by rw [H.len]; exact h2)
    split
    · rename_i hb; left; rw [hat, if_pos hb]
    · right; rfl
theorem le_more {A : List (List Int)} {wl kb wl' kb' : List Int} (h : rightB A = true) (H : InvA A wl kb) (H' : InvA A wl' kb') (hb : ∀ c, bitQ kb c = true → bitQ kb' c = true) : LeS (srcP (sizesP A) wl kb) (srcP (sizesP A) wl' kb') := by
  refine ⟨rfl, fun seg a => ?_⟩
  show srcW (sizesP A) wl kb seg a = srcW (sizesP A) wl' kb' seg a ∨ (srcW (sizesP A) wl kb seg a).2 = 30
  unfold srcW
  rcases place_arena h seg a with ⟨h1, h2⟩ | ⟨k, h1, h2, h3⟩
  · left; rw [if_pos h1, if_pos h1]
  · have hn : ¬ placeM (sizesP A) seg a < 0 := by omega
    rw [if_neg hn, if_neg hn, show (placeM (sizesP A) seg a).toNat = k from by omega]
    by_cases hc : bitQ kb (k / 8) = true
    · left; rw [if_pos hc, if_pos (hb _ hc), H.at_ k (by rw [H.len]; exact h2), H'.at_ k (by rw [H'.len]; exact h2), if_pos hc, if_pos (hb _ hc)]
    · right; rw [if_neg hc]
/-- What a part holds when it was filled as choices say. -/
def fillWK (A : List (List Int)) : List Int → List Int × List Int
  | [] => (List.replicate (wordsM (sizesP A)) 0, List.replicate ((chunksM (sizesP A) + 7) / 8) 0)
  | x :: xs => (putW (sizesP A) (fillWK A xs).1 (fillWK A xs).2 ((x % (chunksM (sizesP A) : Int)).toNat : Nat) (chunkA A (x % (chunksM (sizesP A) : Int)).toNat), putK (sizesP A) (fillWK A xs).2 ((x % (chunksM (sizesP A) : Int)).toNat : Nat) (chunkA A (x % (chunksM (sizesP A) : Int)).toNat).length)
theorem fill_inv {A : List (List Int)} (h : rightB A = true) (hu : AllU A) : ∀ xs, FilA A xs.reverse (fillWK A xs).1 (fillWK A xs).2
  | [] => FilA.nil h
  | x :: xs => by
    have hc := (words_arena h).2
    have h0 := Int.emod_nonneg x (show (chunksM (sizesP A) : Int) ≠ 0 by omega)
    have h1 := Int.emod_lt_of_pos x (show 0 < (chunksM (sizesP A) : Int) by omega)
    rw [List.reverse_cons]
    exact (fill_inv h hu xs).snoc h hu (q := (x % (chunksM (sizesP A) : Int)).toNat) (by omega) (by omega)
theorem fill_eq {A : List (List Int)} {xs wl kb : List Int} (h : rightB A = true) (hu : AllU A) (F : FilA A xs wl kb) : wl = (fillWK A xs).1 ∧ kb = (fillWK A xs).2 := F.same (fill_inv h hu xs) (fun x => List.mem_reverse.symm)
/-- The three answers: of some chunks, of more, of all. -/
theorem tells_law {A : List (List Int)} {xs ys wl kb wl' kb' : List Int} (h : rightB A = true) (F : FilA A xs wl kb) (F' : FilA A (xs ++ ys) wl' kb') (ks : List Int) (a c : Int) :
    (walkS (srcP (sizesP A) wl kb) ks a c = walkS (wholeS A) ks a c ∨ (walkS (srcP (sizesP A) wl kb) ks a c).2 = 30) ∧ (walkS (srcP (sizesP A) wl' kb') ks a c = walkS (wholeS A) ks a c ∨ (walkS (srcP (sizesP A) wl' kb') ks a c).2 = 30) ∧
    (walkS (srcP (sizesP A) wl kb) ks a c = walkS (srcP (sizesP A) wl' kb') ks a c ∨ (walkS (srcP (sizesP A) wl kb) ks a c).2 = 30) :=
  ⟨(le_whole h F.inv).walk ks a c, (le_whole h F'.inv).walk ks a c, (le_more h F.inv F'.inv fun q hq => by
    obtain ⟨x, hx, he⟩ := (F.bits q).1 hq
    exact (F'.bits q).2 ⟨x, List.mem_append_left _ hx, he⟩).walk ks a c⟩
theorem own_kt {T T2 : TypeId} {base base2 n sz : Nat} {w w' : World} {v : Value} {xs : List Value} (h : w.ownsRow base T2 sz v n xs) (k : KtP T base2 w w') (hT : T2 ≠ T) : w'.ownsRow base T2 sz v n xs := by
  refine ⟨h.1, ?_⟩
  rcases h.2 with hn | ⟨q, cap, cur, rfl, hb, hg, rest⟩
  · exact .inl hn
  · exact .inr ⟨q, cap, cur, rfl, hb, k.heap hg hT, rest⟩
theorem PartR.kt {TP TI TW TB T : TypeId} {w w' : World} {base base2 b g h : Nat} {ses sum : Int} {sz wl kb : List Int} (H : PartR TP TI TW TB w base b g h ses sum sz wl kb) (k : KtP T base2 w w') (h1 : TP ≠ T) (h2 : TI ≠ T) (h3 : TW ≠ T) (h4 : TB ≠ T) : PartR TP TI TW TB w' base b g h ses sum sz wl kb := by
  obtain ⟨a1, a2, a3, a4, a5, a6, ads, cs, cw, ck, hB, oS, oW, oK⟩ := H
  exact ⟨a1, a2, a3, a4, a5, a6, ads, cs, cw, ck, k.heap hB h1, own_kt oS k h2, own_kt oW k h3, own_kt oK k h4⟩
theorem walk_err {s : Src} (hn : ∀ seg a : Int, 0 ≤ (s.word seg a).2 ∧ (s.word seg a).2 ≤ 65535) (ks : List Int) (a c : Int) : 0 ≤ (walkS s ks a c).2 ∧ (walkS s ks a c).2 ≤ 65535 := by
  have hs : ∀ o k, 0 ≤ (stepS s o k).2 ∧ (stepS s o k).2 ≤ 65535 := fun o k => by
    unfold stepS; (repeat' split) <;> first | exact followS_err hn _ _ | simp
  have ha : ∀ o k, 0 ≤ (atS s o k).2 ∧ (atS s o k).2 ≤ 65535 := fun o k => by
    unfold atS; (repeat' split) <;> first | exact hn _ _ | simp
  have hx : ∀ (ks : List Int) (o : Ob) (l : Int), 0 ≤ (nextS s a ks o l).2 ∧ (nextS s a ks o l).2 ≤ 65535 := fun ks => by
    induction ks with
    | nil => intro o l; rw [nextS]; unfold valS; (repeat' split) <;> first | exact ha _ _ | simp
    | cons k ks ih => intro o l; rw [nextS]; (repeat' split) <;> first | exact hs _ _ | exact ih _ _ | simp
  have hf := followS_err hn 0 0
  unfold walkS
  (repeat' split) <;> first | exact hx _ _ _ | exact hf | simp
theorem part_err (sz wl kb : List Int) (ks : List Int) (a c : Int) : 0 ≤ (walkS (srcP sz wl kb) ks a c).2 ∧ (walkS (srcP sz wl kb) ks a c).2 ≤ 65535 := by
  refine walk_err (fun seg a => ?_) ks a c
  show 0 ≤ (srcW sz wl kb seg a).2 ∧ (srcW sz wl kb seg a).2 ≤ 65535
  unfold srcW; (repeat' split) <;> simp
end Go.Proofs.YtifhcfhdajkhlaaGreat.K

namespace Go.Proofs.YtifhcfhdajkhlaaGreat.K
open Go Go.RowKit Go.Proofs
attribute [local irreducible] Run1 OpG WL W AO Gives
set_option maxRecDepth 100000 in
theorem PartTells_calls (w : World) {ad0 : Option Addr} {c0 : Nat} {xs0 : List Int} (R0 : RowAt w 1 ad0 xs0.length (xs0.map (.int .u8))) (hx0 : isU8 xs0) (hc0 : xs0.length ≤ c0) (hm0 : c0 ≤ maxLen) {ad1 : Option Addr} {c1 : Nat} {xs1 : List Int} (R1 : RowAt w 1 ad1 xs1.length (xs1.map (.int .u8))) (hx1 : isU8 xs1) (hc1 : xs1.length ≤ c1) (hm1 : c1 ≤ maxLen) {ad2 : Option Addr} {c2 : Nat} {xs2 : List Int} (R2 : RowAt w 1 ad2 xs2.length (xs2.map (.int .u8))) (hx2 : isU8 xs2) (hc2 : xs2.length ≤ c2) (hm2 : c2 ≤ maxLen) {k at_ : Int} (k0 : 0 ≤ k) (k1 : k ≤ 255) (a0 : 0 ≤ at_) (a1 : at_ ≤ 255) {ad5 : Option Addr} {c5 : Nat} {xs5 : List Int} (R5 : RowAt w 1 ad5 xs5.length (xs5.map (.int .u8))) (hx5 : isU8 xs5) (hc5 : xs5.length ≤ c5) (hm5 : c5 ≤ maxLen) {ad6 : Option Addr} {c6 : Nat} {xs6 : List Int} (R6 : RowAt w 1 ad6 xs6.length (xs6.map (.int .u8))) (hx6 : isU8 xs6) (hc6 : xs6.length ≤ c6) (hm6 : c6 ≤ maxLen) : Gives Tryz.prog 3 #[.slice ad0 xs0.length c0, .slice ad1 xs1.length c1, .slice ad2 xs2.length c2, .int .u8 k, .int .u8 at_, .slice ad5 xs5.length c5, .slice ad6 xs6.length c6] w (.bool true) := by
 have lR := R0.lim
 have l5 := R5.lim
 have l6 := R6.lim
 have G := Grow.rfl' w
 refine gives_of Tryz.func3 Tryz.ntmps3 Tryz.results3 rfl rfl ?_
 refine W_seq (W_region rfl ?_)
 refine stp (r_assign (v := .bool false) rfl ?_)
 refine WL_nil ?_
 refine W_seq ?_
 refine W_seq (W_region rfl ?_)
 refine stp (r_move_slice rfl ?_)
 refine stp (r_len rfl rfl rfl ?_)
 refine stp (r_gtr rfl rfl ?_)
 refine stp (r_move_bool rfl ?_)
 refine WL_some (og_if (s := .bool (decide ((xs0.length : Int) > 100))) (b := false) (v := .slice ad5 xs5.length c5) rfl (wgb_f _) (fun hc1 => ?_) ?_)
 ·
  have hc1_ := hc1
  try simp only [sb] at hc1_
  refine r_move_slice rfl ?_
  exact ⟨rfl, rfl⟩
 refine WL_some (og_if (s := .bool (decide ((xs0.length : Int) > 100))) (b := false) (v := .int .i64 (xs5.length : Int)) rfl (wgb_f _) (fun hc2 => ?_) ?_)
 ·
  have hc2_ := hc2
  try simp only [sb] at hc2_
  refine r_len rfl rfl (gvt hc2) ?_
  exact ⟨rfl, rfl⟩
 refine WL_some (og_if (s := .bool (decide ((xs0.length : Int) > 100))) (b := false) (v := .slice ad6 xs6.length c6) rfl (wgb_f _) (fun hc3 => ?_) ?_)
 ·
  have hc3_ := hc3
  try simp only [sb] at hc3_
  refine r_move_slice rfl ?_
  exact ⟨rfl, rfl⟩
 refine WL_some (og_if (s := .bool (decide ((xs0.length : Int) > 100))) (b := false) (v := .int .i64 (xs6.length : Int)) rfl (wgb_f _) (fun hc4 => ?_) ?_)
 ·
  have hc4_ := hc4
  try simp only [sb] at hc4_
  refine r_len rfl rfl (gvt hc4) ?_
  exact ⟨rfl, rfl⟩
 refine WL_some (og_if (s := .bool (decide ((xs0.length : Int) > 100))) (b := false) (v := .int .i64 ((xs5.length : Int) + (xs6.length : Int))) rfl (wgb_f _) (fun hc5 => ?_) ?_)
 ·
  have hc5_ := hc5
  try simp only [sb] at hc5_
  refine r_add (gvt hc5) (gvt hc5) ?_ ?_; constructor <;> omega
  exact ⟨rfl, rfl⟩
 refine WL_some (og_if (s := .bool (decide ((xs0.length : Int) > 100))) (b := false) (v := .bool (decide (((xs5.length : Int) + (xs6.length : Int)) > 60))) rfl (wgb_f _) (fun hc6 => ?_) ?_)
 ·
  have hc6_ := hc6
  try simp only [sb] at hc6_
  refine r_gtr (gvt hc6) rfl ?_
  exact ⟨rfl, rfl⟩
 refine stp (r_or2 rfl rfl rfl ?_)
 refine WL_nil ?_
 refine W_cond2 (b := ((decide ((xs0.length : Int) > 100)) || (decide (((xs5.length : Int) + (xs6.length : Int)) > 60)))) rfl (fun h1 => ?_) (fun h1 => ?_)
 ·-- true
  simp only [sb] at h1
  refine W_seq (W_region rfl ?_)
  refine stp (r_gives (v := .bool true) rfl (known16_calls _) ?_)
  intro w7 g8
  replace G := G.tr g8
  clear g8
  refine stp (r_assign (v := .bool true) rfl ?_)
  refine WL_nil ?_
  refine W_ret ?_
  refine ret1 (res_tmp (v := .bool true) rfl) ⟨?_, G⟩
  rfl
 ·-- false
  simp only [sb] at h1
  have hpr := pathP_range (c := xs2)
  have hR9 : ∀ x ∈ pathP xs2, inR .i64 x := fun x_ hx_ => by have := hpr x_ hx_; simp only [inR]; omega
  refine W_skip ?_
  refine W_seq (W_region rfl ?_)
  refine stp (r_move_slice rfl ?_)
  refine stp (r_move_slice rfl ?_)
  refine stp (r_move_int rfl ?_)
  refine WL_some (og rfl ?_)
  refine r_call rfl (bent_calls _ (R0.grow G) hx0 hc0 hm0 (by omega) (R1.grow G) hx1 k0 k1) ?_
  rintro v_ w9 ⟨adA, cA, sgA, A, rfl, hO, hB, g_⟩
  replace G := G.tr g_
  clear g_
  obtain ⟨hr, hx, -, -, h1A, h16A, hsA⟩ := Bent1.ok hB hx0 (by omega)
  have hA := hO.arena (by omega) hsA
  clear hO
  obtain ⟨hw1, hch1⟩ := words_arena hr
  have hfit : fitsL (sizesP A) = true := by rw [fits_right]; exact hr
  have hrz : ∀ x ∈ sizesP A, inR .i64 x := fits_rng hfit
  have hle := wordsM_le (sizesP A)
  have hch : chunksM (sizesP A) = (wordsM (sizesP A) + 7) / 8 := rfl
  refine stp (r_assign_slice rfl ?_)
  refine WL_nil ?_
  refine W_seq (W_region rfl ?_)
  refine stp (r_move_slice rfl ?_)
  refine stp (r_move_int rfl ?_)
  refine WL_some (og rfl ?_)
  refine r_call rfl (path_calls _ (R2.grow G) rfl hx2 a0 a1) ?_
  rintro v_ w10 ⟨ad9, c9, rfl, R9, g_⟩
  replace hA := hA.grow g_
  replace G := G.tr g_
  clear g_
  refine stp (r_alloc ?_)
  intro b11 w12 hb13 hc14 g15
  refine stn (r_storeAll rfl rfl hc14 (by rfl) (by rfl) (by rfl) ?_)
  intro w16 hc17 u18
  have g19 := g15.upd u18 hb13
  have hge20 := Nat.le_trans G.size hb13
  replace hA := hA.grow g19
  replace R9 := R9.grow g19
  replace G := G.tr g19
  clear u18 g15 hb13 hc14
  refine WL_nil ?_
  refine W_seq (W_region rfl ?_)
  refine stp (r_move_slice rfl ?_)
  refine stp (r_move_slice rfl ?_)
  refine WL_some (og rfl ?_)
  refine r_call rfl (filled_calls _ hA hr hx (R5.grow G) hx5) ?_
  rintro v_ w21 ⟨bp, gp, hp, wlp, kbp, rfl, HPp, hFp, g_⟩
  replace hA := hA.grow g_
  replace R9 := R9.grow g_
  replace hc17 := g_.heap hc17
  replace G := G.tr g_
  clear g_
  refine stp (r_assign (v := .pointer (some ⟨bp, 0, none⟩)) rfl ?_)
  refine WL_nil ?_
  refine W_seq (W_region rfl ?_)
  refine stp (r_move (v := .pointer (some ⟨bp, 0, none⟩)) rfl ?_)
  refine stp (r_loadAll rfl hc17 (by rfl) ?_)
  refine WL_some (og rfl ?_)
  obtain ⟨P, hP⟩ : ∃ r, r = (walkS (srcP (sizesP A) wlp kbp) (pathP xs2) (at_ % 12 - 2) 8192) := ⟨_, rfl⟩
  refine r_gives (v := .tuple #[.agg #[.int .i64 P.1.kind, .int .i64 P.1.size, .int .i64 P.1.words, .int .i64 P.1.kids, .int .u64 P.1.word], .int .u16 P.2]) rfl (gives_eq (pread_calls _ HPp R9 hR9 (a := at_ % 12 - 2) (c := c9) (by simp only [inR]; omega)) (y := .tuple #[.agg #[.int .i64 P.1.kind, .int .i64 P.1.size, .int .i64 P.1.words, .int .i64 P.1.kids, .int .u64 P.1.word], .int .u16 P.2]) (by rw [← hP])) ?_
  intro w22 g23
  replace hA := hA.grow g23
  replace R9 := R9.grow g23
  replace hc17 := g23.heap hc17
  replace HPp := HPp.grow g23
  replace G := G.tr g23
  clear g23
  refine stp (r_move (v := .tuple #[.agg #[.int .i64 P.1.kind, .int .i64 P.1.size, .int .i64 P.1.words, .int .i64 P.1.kids, .int .u64 P.1.word], .int .u16 P.2]) rfl ?_)
  refine stp (r_extract (v := .agg #[.int .i64 P.1.kind, .int .i64 P.1.size, .int .i64 P.1.words, .int .i64 P.1.kids, .int .u64 P.1.word]) rfl rfl ?_)
  refine stp (r_extract (v := .int .u16 P.2) rfl rfl ?_)
  refine stp (r_alloc ?_)
  intro b24 w25 hb26 hc27 g28
  refine stn (r_storeAll rfl rfl hc27 (by rfl) (by rfl) (by rfl) ?_)
  intro w29 hc30 u31
  have g32 := g28.upd u31 hb26
  have hge33 := Nat.le_trans G.size hb26
  have ne34 := Nat.ne_of_lt (Nat.lt_of_lt_of_le (lt_of_heap hc17) hb26)
  replace hA := hA.grow g32
  replace R9 := R9.grow g32
  replace hc17 := g32.heap hc17
  replace HPp := HPp.grow g32
  replace G := G.tr g32
  clear u31 g28 hb26 hc27
  refine stp (r_assign_int rfl ?_)
  refine WL_nil ?_
  refine W_seq (W_region rfl ?_)
  refine stp (r_assign_slice rfl ?_)
  refine WL_nil ?_
  have hG8 := G.size
  have GM := Grow.rfl' w29
  have zhA := hA
  have zR9 := R9
  have zhc17 := hc17
  have zHPp := HPp
  have zhc30 := hc30
  have own0 : w29.ownsRow w29.heap.size 5 1 (.slice none 0 0) 0 [] := World.ownsRow_nil _ _ _ _
  refine W_seq (W_region rfl ?_)
  refine stp (r_move_slice rfl ?_)
  refine stp (r_move_slice rfl ?_)
  refine stp (r_append rfl rfl rfl rfl own0 ⟨_, _, rfl, hc5, hm5, R5.grow G⟩ (fun q_ hq_ => by obtain ⟨z_, -, rfl⟩ := List.mem_map.1 hq_; rfl) (by simp only [maxLen]; omega) (by omega) GM.size ?_)
  intro v6 w6own1 own1 gr6
  replace G := G.grown gr6 (fun k_ hk_ => Nat.le_trans hG8 (own_ge own0 k_ hk_))
  replace GM := GM.grown gr6 (own_ge own0)
  obtain ⟨adown1, nown1, cown1, rfl⟩ := own_slice own1
  refine stp (r_assign_slice rfl ?_)
  refine WL_nil ?_
  rw [Nat.zero_add, List.nil_append] at own1
  refine W_seq (W_region rfl ?_)
  refine stp (r_move_slice rfl ?_)
  refine stp (r_move_slice rfl ?_)
  refine stp (r_append rfl rfl rfl rfl own1 ⟨_, _, rfl, hc6, hm6, R6.grow G⟩ (fun q_ hq_ => by obtain ⟨z_, -, rfl⟩ := List.mem_map.1 hq_; rfl) (by simp only [maxLen]; omega) (by omega) GM.size ?_)
  intro v6 w6own2 own2 gr6
  replace G := G.grown gr6 (fun k_ hk_ => Nat.le_trans hG8 (own_ge own1 k_ hk_))
  replace GM := GM.grown gr6 (own_ge own1)
  obtain ⟨adown2, nown2, cown2, rfl⟩ := own_slice own2
  refine stp (r_assign_slice rfl ?_)
  refine WL_nil ?_
  rw [← List.map_append, ← List.length_append] at own2
  have hno := own_len own2
  subst hno
  have hlxy : (xs5 ++ xs6).length = xs5.length + xs6.length := List.length_append
  obtain ⟨_, _, hs9, -, -, RY⟩ := own_row own2 (by omega)
  cases hs9
  have hxy : isU8 (xs5 ++ xs6) := fun x_ hx_ => by rcases List.mem_append.1 hx_ with h_ | h_; exact hx5 x_ h_; exact hx6 x_ h_
  replace hA := zhA.grow GM
  replace R9 := zR9.grow GM
  replace hc17 := GM.heap zhc17
  replace HPp := zHPp.grow GM
  replace hc30 := GM.heap zhc30
  obtain ⟨Q, hQ⟩ : ∃ r, r = (walkS (srcP (sizesP A) (fillWK A (xs5 ++ xs6)).1 (fillWK A (xs5 ++ xs6)).2) (pathP xs2) (at_ % 12 - 2) 8192) := ⟨_, rfl⟩
  have hsz35 : w6own2.heap.size ≤ w6own2.heap.size := Nat.le_refl _
  have ltf35_hc17 := lt_of_heap hc17
  have ltf35_hc30 := lt_of_heap hc30
  have hgz35 := G.size
  refine W_seq ?_
  have kb_hA : ∀ w_, (ktR 35 w6own2.heap.size).r w6own2 w_ → ArenaR w_ (.slice adA A.length cA) A := fun w_ k_ => hA.grow (KtP.to_grow k_ (Grow.rfl' _))
  have kb_R9 : ∀ w_, (ktR 35 w6own2.heap.size).r w6own2 w_ → RowAt w_ 1 ad9 (pathP xs2).length ((pathP xs2).map (.int .i64)) := fun w_ k_ => R9.grow (KtP.to_grow k_ (Grow.rfl' _))
  have kb_hc17 : ∀ w_, (ktR 35 w6own2.heap.size).r w6own2 w_ → w_.heap[b11]? = some (.cells #[.slice ad9 ((pathP xs2).length) c9, .int .i64 (at_ % 12 - 2)] 29 (0, 0)) := fun w_ k_ => (KtP.to_grow k_ (Grow.rfl' _)).heap hc17
  have kb_hc30 : ∀ w_, (ktR 35 w6own2.heap.size).r w6own2 w_ → w_.heap[b24]? = some (.cells #[.int .i64 P.1.kind, .int .i64 P.1.size, .int .i64 P.1.words, .int .i64 P.1.kids, .int .u64 P.1.word] 35 (0, 0)) := fun w_ k_ => (KtP.to_grow k_ (Grow.rfl' _)).heap hc30
  have kb_RY : ∀ w_, (ktR 35 w6own2.heap.size).r w6own2 w_ → RowAt w_ 1 adown2 (xs5 ++ xs6).length ((xs5 ++ xs6).map (.int .u8)) := fun w_ k_ => RY.grow (KtP.to_grow k_ (Grow.rfl' _))
  have kb_hsz35 : ∀ w_, (ktR 35 w6own2.heap.size).r w6own2 w_ → w6own2.heap.size ≤ w_.heap.size := fun w_ k_ => Nat.le_trans hsz35 (KtP.to_grow k_ (Grow.rfl' _)).size
  have kb_G : ∀ w_, (ktR 35 w6own2.heap.size).r w6own2 w_ → Grow w w_ := fun w_ k_ => G.tr (KtP.to_grow k_ (Grow.rfl' _))
  refine W_anyU 10 [[], [], [1, 0], [], [3, 2, 1, 0], [4, 3, 2, 1, 0], [5, 4, 3, 2, 1, 0], [6, 5, 4, 3, 2, 1], [], [8, 7, 6, 5, 4, 3, 2, 0]] [9] [21] (grQ (ktR 35 w6own2.heap.size)) (fun k_ e_ w_ => match k_ with | 0 => True | _ => ∃ b : Nat, e_ 21 = .pointer (some ⟨b, 0, none⟩) ∧ w6own2.heap.size ≤ b ∧ w_.heap[b]? = some (.cells #[.int .i64 Q.1.kind, .int .i64 Q.1.size, .int .i64 Q.1.words, .int .i64 Q.1.kids, .int .u64 Q.1.word] 35 (0, 0))) mixed (by kernel_rfl) (by kernel_rfl) (by kernel_rfl) (by kernel_rfl) (by kernel_rfl) (fun k_ _ _ _ g_ h_ => match k_, h_ with | 0, _ => trivial | _ + 1, ⟨b_, h1_, h2_, h3_⟩ => ⟨b_, h1_, h2_, g_.heap h3_⟩) (fun k_ _ _ _ hu_ h_ => match k_, h_ with | 0, _ => trivial | _ + 1, ⟨b_, h1_, h2_, h3_⟩ => ⟨b_, (hu_ _ (by simp)).symm.trans h1_, h2_, h3_⟩) (fun _ _ _ h_ => h_) (fun _ _ => trivial) ?_
  intro w36 g37
  replace kb_hA : ∀ w_, (ktR 35 w6own2.heap.size).r w36 w_ → ArenaR w_ (.slice adA A.length cA) A := fun w_ k_ => kb_hA w_ ((ktR 35 w6own2.heap.size).tr ((ktR 35 w6own2.heap.size).grow g37) k_)
  replace kb_R9 : ∀ w_, (ktR 35 w6own2.heap.size).r w36 w_ → RowAt w_ 1 ad9 (pathP xs2).length ((pathP xs2).map (.int .i64)) := fun w_ k_ => kb_R9 w_ ((ktR 35 w6own2.heap.size).tr ((ktR 35 w6own2.heap.size).grow g37) k_)
  replace kb_hc17 : ∀ w_, (ktR 35 w6own2.heap.size).r w36 w_ → w_.heap[b11]? = some (.cells #[.slice ad9 ((pathP xs2).length) c9, .int .i64 (at_ % 12 - 2)] 29 (0, 0)) := fun w_ k_ => kb_hc17 w_ ((ktR 35 w6own2.heap.size).tr ((ktR 35 w6own2.heap.size).grow g37) k_)
  replace kb_hc30 : ∀ w_, (ktR 35 w6own2.heap.size).r w36 w_ → w_.heap[b24]? = some (.cells #[.int .i64 P.1.kind, .int .i64 P.1.size, .int .i64 P.1.words, .int .i64 P.1.kids, .int .u64 P.1.word] 35 (0, 0)) := fun w_ k_ => kb_hc30 w_ ((ktR 35 w6own2.heap.size).tr ((ktR 35 w6own2.heap.size).grow g37) k_)
  replace kb_RY : ∀ w_, (ktR 35 w6own2.heap.size).r w36 w_ → RowAt w_ 1 adown2 (xs5 ++ xs6).length ((xs5 ++ xs6).map (.int .u8)) := fun w_ k_ => kb_RY w_ ((ktR 35 w6own2.heap.size).tr ((ktR 35 w6own2.heap.size).grow g37) k_)
  replace kb_hsz35 : ∀ w_, (ktR 35 w6own2.heap.size).r w36 w_ → w6own2.heap.size ≤ w_.heap.size := fun w_ k_ => kb_hsz35 w_ ((ktR 35 w6own2.heap.size).tr ((ktR 35 w6own2.heap.size).grow g37) k_)
  replace kb_G : ∀ w_, (ktR 35 w6own2.heap.size).r w36 w_ → Grow w w_ := fun w_ k_ => kb_G w_ ((ktR 35 w6own2.heap.size).tr ((ktR 35 w6own2.heap.size).grow g37) k_)
  have k0_ : (ktR 35 w6own2.heap.size).r w6own2 w36 := ((ktR 35 w6own2.heap.size).grow g37)
  apply AOU_ex (hm := by rfl)
  ·intro w_ g_; refine og rfl ?_; refine r_move_slice rfl ?_; exact ⟨Grow.rfl' _, rfl⟩
  apply AOU_ex (hm := by rfl)
  ·intro w_ g_; refine og rfl ?_; refine r_move_slice rfl ?_; exact ⟨Grow.rfl' _, rfl⟩
  refine AOU_so (fun w_ v_ => ∃ b g h, v_ = .pointer (some ⟨b, 0, none⟩) ∧ PartR 86 3 33 5 w_ 0 b g h 9 (sumA 9 A) (sizesP A) (fillWK A (xs5 ++ xs6)).1 (fillWK A (xs5 ++ xs6)).2 ∧ FilA A (xs5 ++ xs6) (fillWK A (xs5 ++ xs6)).1 (fillWK A (xs5 ++ xs6)).2) (fun _ _ _ g_ ⟨b, g, h, h1_, h2_, h3_⟩ => ⟨b, g, h, h1_, h2_.kt g_ (by decide) (by decide) (by decide) (by decide), h3_⟩) (by rfl) ?_ ?_
  ·intro w_ g_
   refine og rfl ?_
   refine r_call rfl (filled_calls _ (kb_hA _ g_) hr hx (kb_RY _ g_) hxy) ?_
   rintro v9_ w9_ ⟨b_, g2_, h_, wl_, kb_, rfl, HP_, hF_, g9_⟩
   obtain ⟨rfl, rfl⟩ := fill_eq hr hx hF_
   exact ⟨g9_, b_, g2_, h_, rfl, HP_.lower (Nat.zero_le _), hF_⟩
  apply AOU_ex (hm := by rfl)
  ·intro w_ g_; refine og rfl ?_; refine r_loadAll rfl (kb_hc17 _ g_) (by rfl) ?_; exact ⟨Grow.rfl' _, rfl⟩
  apply AOU_ex (hm := by rfl)
  ·intro w_ g_; intro v2_ hv2_; show OpG _ _ _ _ _ _; refine og rfl ?_; obtain ⟨b_, g2_, h_, rfl, HP_, hF_⟩ := hv2_; exact r_gives (v := .tuple #[.agg #[.int .i64 Q.1.kind, .int .i64 Q.1.size, .int .i64 Q.1.words, .int .i64 Q.1.kids, .int .u64 Q.1.word], .int .u16 Q.2]) rfl (gives_eq (pread_calls _ HP_ (kb_R9 _ g_) hR9 (a := at_ % 12 - 2) (c := c9) (by simp only [inR]; omega)) (by rw [← hQ])) (fun w2_ g2_ => ⟨g2_, rfl⟩)
  apply AOU_ex (hm := by rfl)
  ·intro w_ g_; intro v2_ hv2_; show OpG _ _ _ _ _ _; refine og rfl ?_; refine r_move (v := .tuple #[.agg #[.int .i64 Q.1.kind, .int .i64 Q.1.size, .int .i64 Q.1.words, .int .i64 Q.1.kids, .int .u64 Q.1.word], .int .u16 Q.2]) rfl ?_; exact ⟨Grow.rfl' _, rfl⟩
  apply AOU_ex (hm := by rfl)
  ·intro w_ g_; intro v2_ hv2_; show OpG _ _ _ _ _ _; refine og rfl ?_; refine r_extract (v := .agg #[.int .i64 Q.1.kind, .int .i64 Q.1.size, .int .i64 Q.1.words, .int .i64 Q.1.kids, .int .u64 Q.1.word]) rfl rfl ?_; exact ⟨Grow.rfl' _, rfl⟩
  apply AOU_ex (hm := by rfl)
  ·intro w_ g_; intro v2_ hv2_; show OpG _ _ _ _ _ _; refine og rfl ?_; refine r_extract (v := .int .u16 Q.2) rfl rfl ?_; exact ⟨Grow.rfl' _, rfl⟩
  refine AOU_so (fun w_ v_ => ∃ b cs, v_ = .pointer (some ⟨b, 0, none⟩) ∧ w6own2.heap.size ≤ b ∧ cs.size = 5 ∧ w_.heap[b]? = some (.cells cs 35 (0, 0))) (fun _ _ _ g_ ⟨b, cs, h1_, h2_, h3_, h4_⟩ => by obtain ⟨cs2, h5_, h6_⟩ := KtP.new g_ b cs h4_; exact ⟨b, cs2, h1_, h2_, h5_.trans h3_, h6_⟩) (by rfl) ?_ ?_
  ·intro w_ g_
   refine og rfl ?_
   refine r_alloc ?_
   intro b_ w2_ hb_ hc_ g2_
   exact ⟨g2_, b_, _, rfl, Nat.le_trans (kb_hsz35 _ g_) hb_, rfl, hc_⟩
  apply AOU_mut 0 (hm := by rfl)
  ·intro w_ g_
   intro v2_ hv2_; intro v8_ hv8_
   intro s_
   show OpG _ _ _ _ _ _
   refine og rfl ?_
   obtain ⟨b_, cs_, rfl, hge_, hsz_, hb_⟩ := hv8_
   refine r_storeAll rfl rfl hb_ (by rfl) hsz_ (by rfl) ?_
   intro w2_ s2_ u_
   exact ⟨KtP.of_upd u_ hge_ hb_ s2_ hsz_.symm, ⟨b_, rfl, hge_, s2_⟩, rfl⟩
  refine AOU_nil ?_
  intro w38 g39
  replace k0_ := ((ktR 35 w6own2.heap.size).tr k0_ g39)
  replace hA := kb_hA _ g39
  clear kb_hA
  replace R9 := kb_R9 _ g39
  clear kb_R9
  replace hc17 := kb_hc17 _ g39
  clear kb_hc17
  replace hc30 := kb_hc30 _ g39
  clear kb_hc30
  replace RY := kb_RY _ g39
  clear kb_RY
  replace hsz35 := kb_hsz35 _ g39
  clear kb_hsz35
  replace G := kb_G _ g39
  clear kb_G
  intro v_y hv_y
  intro v_x35 hv_x35
  rintro ⟨bx35, hbe35, hge35, hc35⟩
  have hbv35 : v_x35 = .pointer (some ⟨bx35, 0, none⟩) := hbe35
  subst hbv35
  clear hv_x35 hbe35
  have hgx35 := Nat.le_trans hgz35 hge35
  refine stp (r_assign_int rfl ?_)
  refine WL_nil ?_
  obtain ⟨_, _, _, -, -, hFq⟩ := hv_y
  obtain ⟨hT1, hT2, hT3⟩ := tells_law hr hFp hFq (pathP xs2) (at_ % 12 - 2) 8192
  obtain ⟨R, hR⟩ : ∃ r, r = (walkS (wholeS A) (pathP xs2) (at_ % 12 - 2) 8192) := ⟨_, rfl⟩
  rw [← hP, ← hR] at hT1
  rw [← hQ, ← hR] at hT2
  rw [← hP, ← hQ] at hT3
  have heP := part_err (sizesP A) wlp kbp (pathP xs2) (at_ % 12 - 2) 8192
  rw [← hP] at heP
  have heQ := part_err (sizesP A) (fillWK A (xs5 ++ xs6)).1 (fillWK A (xs5 ++ xs6)).2 (pathP xs2) (at_ % 12 - 2) 8192
  rw [← hQ] at heQ
  refine W_seq (W_region rfl ?_)
  refine stp (r_move_slice rfl ?_)
  refine stp (r_loadAll rfl hc17 (by rfl) ?_)
  refine stp (r_gives (v := .tuple #[.agg #[.int .i64 R.1.kind, .int .i64 R.1.size, .int .i64 R.1.words, .int .i64 R.1.kids, .int .u64 R.1.word], .int .i64 R.2]) rfl (gives_eq (rof9_calls _ hA hr hx R9 (a := at_ % 12 - 2) (c := c9) (by simp only [inR]; omega) (by decide)) (y := .tuple #[.agg #[.int .i64 R.1.kind, .int .i64 R.1.size, .int .i64 R.1.words, .int .i64 R.1.kids, .int .u64 R.1.word], .int .i64 R.2]) (by rw [← hR])) ?_)
  intro w40 g41
  replace hA := hA.grow g41
  replace R9 := R9.grow g41
  replace hc17 := g41.heap hc17
  replace hc30 := g41.heap hc30
  replace RY := RY.grow g41
  replace hsz35 := Nat.le_trans hsz35 g41.size
  replace hc35 := g41.heap hc35
  replace G := G.tr g41
  clear g41
  refine stp (r_move (v := .tuple #[.agg #[.int .i64 R.1.kind, .int .i64 R.1.size, .int .i64 R.1.words, .int .i64 R.1.kids, .int .u64 R.1.word], .int .i64 R.2]) rfl ?_)
  refine stp (r_extract (v := .agg #[.int .i64 R.1.kind, .int .i64 R.1.size, .int .i64 R.1.words, .int .i64 R.1.kids, .int .u64 R.1.word]) rfl rfl ?_)
  refine stp (r_extract (v := .int .i64 R.2) rfl rfl ?_)
  refine stp (r_alloc ?_)
  intro b42 w43 hb44 hc45 g46
  refine stn (r_storeAll rfl rfl hc45 (by rfl) (by rfl) (by rfl) ?_)
  intro w47 hc48 u49
  have g50 := g46.upd u49 hb44
  have hge51 := Nat.le_trans G.size hb44
  have ne52 := Nat.ne_of_lt (Nat.lt_of_lt_of_le (lt_of_heap hc17) hb44)
  have ne53 := Nat.ne_of_lt (Nat.lt_of_lt_of_le (lt_of_heap hc30) hb44)
  have ne54 := Nat.ne_of_lt (Nat.lt_of_lt_of_le (lt_of_heap hc35) hb44)
  replace hA := hA.grow g50
  replace R9 := R9.grow g50
  replace hc17 := g50.heap hc17
  replace hc30 := g50.heap hc30
  replace RY := RY.grow g50
  replace hsz35 := Nat.le_trans hsz35 g50.size
  replace hc35 := g50.heap hc35
  replace G := G.tr g50
  clear u49 g46 hb44 hc45
  refine stp (r_assign_int rfl ?_)
  refine WL_nil ?_
  by_cases hp30 : P.2 = 30
  ·
   by_cases hq30 : Q.2 = 30
   ·
    refine W_seq (W_region rfl ?_)
    refine stp (r_gives (v := .bool true) rfl (known16_calls _) ?_)
    intro w55 g56
    replace hA := hA.grow g56
    replace R9 := R9.grow g56
    replace hc17 := g56.heap hc17
    replace hc30 := g56.heap hc30
    replace RY := RY.grow g56
    replace hsz35 := Nat.le_trans hsz35 g56.size
    replace hc35 := g56.heap hc35
    replace hc48 := g56.heap hc48
    replace G := G.tr g56
    clear g56
    refine stp (r_move (v := .bool true) rfl ?_)
    refine stp (r_move_int rfl ?_)
    refine stp (r_eql_t rfl rfl (hp30) ?_)
    refine stp (r_move (v := .bool true) rfl ?_)
    refine WL_some (og_no rfl ?_)
    refine WL_some (og_no rfl ?_)
    refine WL_some (og_no rfl ?_)
    refine WL_some (og_no rfl ?_)
    refine WL_some (og_no rfl ?_)
    refine WL_some (og_no rfl ?_)
    refine WL_some (og_no rfl ?_)
    refine WL_some (og_no rfl ?_)
    refine WL_some (og_no rfl ?_)
    refine stp (r_pick_t (v := .bool true) rfl rfl rfl ?_)
    refine stp (r_pick_t (v := .bool true) rfl rfl rfl ?_)
    refine stp (r_move (v := .bool true) rfl ?_)
    refine stp (r_move_int rfl ?_)
    refine stp (r_eql_t rfl rfl (hq30) ?_)
    refine stp (r_move (v := .bool true) rfl ?_)
    refine WL_some (og_no rfl ?_)
    refine WL_some (og_no rfl ?_)
    refine WL_some (og_no rfl ?_)
    refine WL_some (og_no rfl ?_)
    refine WL_some (og_no rfl ?_)
    refine WL_some (og_no rfl ?_)
    refine WL_some (og_no rfl ?_)
    refine WL_some (og_no rfl ?_)
    refine WL_some (og_no rfl ?_)
    refine stp (r_pick_t (v := .bool true) rfl rfl rfl ?_)
    refine stp (r_pick_t (v := .bool true) rfl rfl rfl ?_)
    refine stp (r_move (v := .bool true) rfl ?_)
    refine stp (r_move_int rfl ?_)
    refine stp (r_eql_t rfl rfl (hp30) ?_)
    refine stp (r_move (v := .bool true) rfl ?_)
    refine WL_some (og_no rfl ?_)
    refine WL_some (og_no rfl ?_)
    refine stp (r_pick_t (v := .bool true) rfl rfl rfl ?_)
    refine stp (r_pick_t (v := .bool true) rfl rfl rfl ?_)
    refine stp (r_assign (v := .bool true) rfl ?_)
    refine WL_nil ?_
    refine W_ret ?_
    refine ret1 (res_tmp (v := .bool true) rfl) ⟨?_, G⟩
    rfl
   ·
    have hQR : Q = R := hT2.resolve_right hq30
    refine W_seq (W_region rfl ?_)
    refine stp (r_gives (v := .bool true) rfl (known16_calls _) ?_)
    intro w57 g58
    replace hA := hA.grow g58
    replace R9 := R9.grow g58
    replace hc17 := g58.heap hc17
    replace hc30 := g58.heap hc30
    replace RY := RY.grow g58
    replace hsz35 := Nat.le_trans hsz35 g58.size
    replace hc35 := g58.heap hc35
    replace hc48 := g58.heap hc48
    replace G := G.tr g58
    clear g58
    refine stp (r_move (v := .bool true) rfl ?_)
    refine stp (r_move_int rfl ?_)
    refine stp (r_eql_t rfl rfl (hp30) ?_)
    refine stp (r_move (v := .bool true) rfl ?_)
    refine WL_some (og_no rfl ?_)
    refine WL_some (og_no rfl ?_)
    refine WL_some (og_no rfl ?_)
    refine WL_some (og_no rfl ?_)
    refine WL_some (og_no rfl ?_)
    refine WL_some (og_no rfl ?_)
    refine WL_some (og_no rfl ?_)
    refine WL_some (og_no rfl ?_)
    refine WL_some (og_no rfl ?_)
    refine stp (r_pick_t (v := .bool true) rfl rfl rfl ?_)
    refine stp (r_pick_t (v := .bool true) rfl rfl rfl ?_)
    refine stp (r_move (v := .bool true) rfl ?_)
    refine stp (r_move_int rfl ?_)
    refine stp (r_eql_f rfl rfl (hq30) ?_)
    refine stp (r_move (v := .bool false) rfl ?_)
    refine stp (r_loadAll rfl hc35 (by rfl) ?_)
    refine stp (r_loadAll rfl hc48 (by rfl) ?_)
    refine stp (r_eqlS' (r' := true) rfl rfl (by rfl) (by rw [hQR]; simp) ?_)
    refine stp (r_move (v := .bool true) rfl ?_)
    refine stp (r_move_int rfl ?_)
    refine stp (r_conv rfl ?_ ?_); constructor <;> omega
    refine stp (r_move_int rfl ?_)
    refine stp (r_eql_t rfl rfl (by rw [hQR]) ?_)
    refine stp (r_pick_t (v := .bool true) rfl rfl rfl ?_)
    refine stp (r_pick_f (v := .bool true) rfl rfl rfl ?_)
    refine stp (r_pick_t (v := .bool true) rfl rfl rfl ?_)
    refine stp (r_move (v := .bool true) rfl ?_)
    refine stp (r_move_int rfl ?_)
    refine stp (r_eql_t rfl rfl (hp30) ?_)
    refine stp (r_move (v := .bool true) rfl ?_)
    refine WL_some (og_no rfl ?_)
    refine WL_some (og_no rfl ?_)
    refine stp (r_pick_t (v := .bool true) rfl rfl rfl ?_)
    refine stp (r_pick_t (v := .bool true) rfl rfl rfl ?_)
    refine stp (r_assign (v := .bool true) rfl ?_)
    refine WL_nil ?_
    refine W_ret ?_
    refine ret1 (res_tmp (v := .bool true) rfl) ⟨?_, G⟩
    rfl
  ·
   have hPR : P = R := hT1.resolve_right hp30
   have hPQ : P = Q := hT3.resolve_right hp30
   have hQR : Q = R := by rw [← hPQ]; exact hPR
   have hq30 : Q.2 ≠ 30 := by rw [← hPQ]; exact hp30
   refine W_seq (W_region rfl ?_)
   refine stp (r_gives (v := .bool true) rfl (known16_calls _) ?_)
   intro w59 g60
   replace hA := hA.grow g60
   replace R9 := R9.grow g60
   replace hc17 := g60.heap hc17
   replace hc30 := g60.heap hc30
   replace RY := RY.grow g60
   replace hsz35 := Nat.le_trans hsz35 g60.size
   replace hc35 := g60.heap hc35
   replace hc48 := g60.heap hc48
   replace G := G.tr g60
   clear g60
   refine stp (r_move (v := .bool true) rfl ?_)
   refine stp (r_move_int rfl ?_)
   refine stp (r_eql_f rfl rfl (hp30) ?_)
   refine stp (r_move (v := .bool false) rfl ?_)
   refine stp (r_loadAll rfl hc30 (by rfl) ?_)
   refine stp (r_loadAll rfl hc48 (by rfl) ?_)
   refine stp (r_eqlS' (r' := true) rfl rfl (by rfl) (by rw [hPR]; simp) ?_)
   refine stp (r_move (v := .bool true) rfl ?_)
   refine stp (r_move_int rfl ?_)
   refine stp (r_conv rfl ?_ ?_); constructor <;> omega
   refine stp (r_move_int rfl ?_)
   refine stp (r_eql_t rfl rfl (by rw [hPR]) ?_)
   refine stp (r_pick_t (v := .bool true) rfl rfl rfl ?_)
   refine stp (r_pick_f (v := .bool true) rfl rfl rfl ?_)
   refine stp (r_pick_t (v := .bool true) rfl rfl rfl ?_)
   refine stp (r_move (v := .bool true) rfl ?_)
   refine stp (r_move_int rfl ?_)
   refine stp (r_eql_f rfl rfl (hq30) ?_)
   refine stp (r_move (v := .bool false) rfl ?_)
   refine stp (r_loadAll rfl hc35 (by rfl) ?_)
   refine stp (r_loadAll rfl hc48 (by rfl) ?_)
   refine stp (r_eqlS' (r' := true) rfl rfl (by rfl) (by rw [hQR]; simp) ?_)
   refine stp (r_move (v := .bool true) rfl ?_)
   refine stp (r_move_int rfl ?_)
   refine stp (r_conv rfl ?_ ?_); constructor <;> omega
   refine stp (r_move_int rfl ?_)
   refine stp (r_eql_t rfl rfl (by rw [hQR]) ?_)
   refine stp (r_pick_t (v := .bool true) rfl rfl rfl ?_)
   refine stp (r_pick_f (v := .bool true) rfl rfl rfl ?_)
   refine stp (r_pick_t (v := .bool true) rfl rfl rfl ?_)
   refine stp (r_move (v := .bool true) rfl ?_)
   refine stp (r_move_int rfl ?_)
   refine stp (r_eql_f rfl rfl (hp30) ?_)
   refine stp (r_move (v := .bool false) rfl ?_)
   refine stp (r_move_int rfl ?_)
   refine stp (r_neq_t rfl rfl (hq30) ?_)
   refine stp (r_pick_f (v := .bool true) rfl rfl rfl ?_)
   refine stp (r_pick_t (v := .bool true) rfl rfl rfl ?_)
   refine stp (r_assign (v := .bool true) rfl ?_)
   refine WL_nil ?_
   refine W_ret ?_
   refine ret1 (res_tmp (v := .bool true) rfl) ⟨?_, G⟩
   rfl
end Go.Proofs.YtifhcfhdajkhlaaGreat.K

namespace Go.Proofs.YtifhcfhdajkhlaaGreat.K
open Go Go.RowKit Go.ChangeShapes Go.WideShapes

section
variable {H : Type} {enc : TypeId × Value → H} {P : Program} {w : World}
/-- What is told of an argument, or of a part of it: it is read so, and is no greater than memory is. -/
structure Told (enc : TypeId × Value → H) (P : Program) (w : World) (fuel : Nat) (t : TypeId) (cs : List Value) : Prop where
  h : ∃ d p, DataW.trod enc P w 0 (fun _ => true) true fuel t cs = some (d, p) ∧ ∀ n ∈ d.weights P t, n ≤ reachBytes
theorem told_of {ts : List TypeId} {ds : List (DataW H)} {j : Nat} {t : TypeId} {d : DataW H} {v : Value} {p : List MemPlace} (h : DataW.Trod enc P w 0 (fun _ => true) true t v d p) (hz : (DataW.weightsEach P ts ds).all (· ≤ reachBytes) = true) (ht : ts[j]? = some t) (hd : ds[j]? = some d) : ∃ fuel, Told enc P w fuel t v.cells.toList := by
  obtain ⟨fuel, hf⟩ := h
  exact ⟨fuel, ⟨d, p, hf, fun n hn => by simpa using List.all_eq_true.1 hz n (DataW.weights_mem_each ht hd n hn)⟩⟩
theorem mapM_ex {α β : Type} {f : α → Option β} : ∀ {l : List α} {r : List β}, l.mapM f = some r → ∀ (i : Nat) (x : α), l[i]? = some x → ∃ y, f x = some y ∧ r[i]? = some y := by
  intro l r h i x hx
  have h1 := mapM_some_get h i x hx
  have hl := mapM_some_length h
  have hi : i < r.length := by rw [hl]; exact (List.getElem?_eq_some_iff.1 hx).1
  rw [List.getElem?_eq_getElem hi] at h1
  exact ⟨_, h1, List.getElem?_eq_getElem hi⟩
theorem weightsAll_mem {e : TypeId} : ∀ {ds : List (DataW H)} {i : Nat} {d : DataW H}, ds[i]? = some d → ∀ n ∈ d.weights P e, n ∈ DataW.weightsAll P e ds
  | [], i, d, h, _, _ => by simp at h
  | x :: ds, 0, d, h, n, hn => by
    simp only [List.getElem?_cons_zero, Option.some.injEq] at h
    subst h
    simp only [DataW.weightsAll, List.mem_append]; exact .inl hn
  | x :: ds, i + 1, d, h, n, hn => by
    simp only [DataW.weightsAll, List.mem_append]; exact .inr (weightsAll_mem (by simpa using h) n hn)
/-- A slice, opened: what it holds, and each element. -/
theorem told_slice {t e : TypeId} {sz by_ fuel : Nat} {cs : List Value} (ht : P.underlying t = some (.slice e)) (hc : P.cellsOf e = sz) (hsz : 0 < sz) (hby : P.bytesOf e = by_) (hby1 : 1 ≤ by_) (h : Told enc P w fuel t cs) :
    ∃ f ad n c xs, fuel = f + 1 ∧ cs = [.slice ad n c] ∧ n ≤ c ∧ c ≤ maxLen ∧ RowAt w sz ad n xs ∧ ∀ i, i < n → Told enc P w f e ((xs.drop (i * sz)).take sz) := by
  obtain ⟨d, p, hd, hw⟩ := h
  rcases DataW.trod_slice ht hd with ⟨rfl, hx⟩ | ⟨a, len, cap, elems, rest, n, rfl, rfl, hx, _, hl, hm, hlen, hel, _, _⟩
  · cases fuel with
    | zero => simp [DataW.trod] at hd
    | succ f => exact ⟨f, none, 0, 0, [], rfl, rfl, Nat.le_refl _, Nat.zero_le _, RowAt.empty _ _ _, fun i hi => by omega⟩
  · simp only [Prod.mk.injEq] at hx
    obtain ⟨rfl, _⟩ := hx
    have hwt : ∀ n ∈ DataW.weightsAll P e (elems.map (·.1)), n ≤ reachBytes := fun n hn => hw n (by simp only [DataW.weights, ht, List.mem_cons, List.mem_append]; exact .inr (.inl hn))
    have hlim : len * by_ ≤ reachBytes := by
      have := hw (((elems.map (·.1)).length + (rest.map (·.1)).length) * P.bytesOf e) (by simp only [DataW.weights, ht, List.mem_cons, true_or])
      rw [hby, List.length_map, hlen, List.length_map, Nat.add_mul] at this
      omega
    have hlen2 : len ≤ 140737488355328 := by
      have h1 : len * 1 ≤ len * by_ := Nat.mul_le_mul_left _ hby1
      have h2 : reachBytes ≤ 140737488355328 := by decide
      omega
    -- each element
    have each : ∀ i, i < len → ∃ ys x, w.cells? 0 (a.add (i * sz)) sz = some ys ∧ DataW.trod enc P w 0 (fun _ => true) true n e ys = some x ∧ elems[i]? = some x := by
      intro i hi
      have hh := hel i hi
      have hi2 : i < elems.length := by omega
      rw [List.getElem?_eq_getElem hi2, hc] at hh
      simp only [Option.bind_eq_some_iff] at hh
      obtain ⟨ys, h1, h2⟩ := hh
      exact ⟨ys, _, h1, h2, List.getElem?_eq_getElem hi2⟩
    rcases Nat.eq_zero_or_pos len with h0 | h0
    · subst h0
      exact ⟨n, some a, 0, cap, [], rfl, rfl, hl, hm, RowAt.empty _ _ _, fun i hi => by omega⟩
    · -- the block
      have cell : ∀ i j, i < len → j < sz → ∃ v, w.cell? ((a.add (i * sz)).add j) = some v := by
        intro i j hi hj
        obtain ⟨ys, x, h1, _, _⟩ := each i hi
        unfold World.cells? at h1
        rw [if_pos (Nat.zero_le _)] at h1
        obtain ⟨y, hy, _⟩ := mapM_ex h1 j j (by simp [hj])
        exact ⟨y, hy⟩
      obtain ⟨blk, off, spot⟩ := a
      obtain ⟨v0, hv0⟩ := cell 0 0 h0 hsz
      have hadd0 : ((⟨blk, off, spot⟩ : Addr).add (0 * sz)).add 0 = ⟨blk, off, spot⟩ := by simp [Addr.add]
      rw [hadd0] at hv0
      unfold World.cell? at hv0
      cases hb : w.heap[blk]? with
      | none => rw [hb] at hv0; cases hv0
      | some o =>
        rw [hb] at hv0
        cases o with
        | cells c T fr =>
          simp only at hv0
          have hspot : spot = none := by
            cases spot with
            | none => rfl
            | some _ => simp at hv0
          subst hspot
          have hcell : ∀ k, k < len * sz → ∃ v, c[off + k]? = some v := by
            intro k hk
            have hdm := Nat.div_add_mod k sz
            have h1 : k / sz < len := (Nat.div_lt_iff_lt_mul hsz).2 hk
            obtain ⟨v, hv⟩ := cell (k / sz) (k % sz) h1 (Nat.mod_lt _ hsz)
            rw [add_lit, add_lit, cell_of_row w blk _ c T fr hb] at hv
            refine ⟨v, ?_⟩
            have : off + k / sz * sz + k % sz = off + k := by rw [Nat.mul_comm]; omega
            rwa [this] at hv
          have hsize : off + len * sz ≤ c.size := by
            have hp : 0 < len * sz := Nat.mul_pos h0 hsz
            obtain ⟨v, hv⟩ := hcell (len * sz - 1) (by omega)
            have := (Array.getElem?_eq_some_iff.1 hv).1
            omega
          refine ⟨n, some ⟨blk, off, none⟩, len, cap, (c.toList.drop off).take (len * sz), rfl, rfl, hl, hm, ⟨by rw [List.length_take, List.length_drop, Array.length_toList]; omega, hlen2, fun _ => ⟨blk, off, c, T, fr, rfl, hb, rfl⟩⟩, fun i hi => ?_⟩
          obtain ⟨ys, x, h1, h2, h3⟩ := each i hi
          have hys : ys = (((c.toList.drop off).take (len * sz)).drop (i * sz)).take sz := by
            unfold World.cells? at h1
            rw [if_pos (Nat.zero_le _)] at h1
            have hl2 := mapM_some_length h1
            simp only [List.length_range] at hl2
            have hle : (i + 1) * sz ≤ len * sz := Nat.mul_le_mul_right _ hi
            rw [Nat.add_mul, Nat.one_mul] at hle
            apply List.ext_getElem?
            intro j
            by_cases hj : j < sz
            · obtain ⟨y, hy, hy2⟩ := mapM_ex h1 j j (by simp [hj])
              rw [add_lit, add_lit, cell_of_row w blk _ c T fr hb] at hy
              rw [hy2, List.getElem?_take, if_pos hj, List.getElem?_drop, List.getElem?_take, if_pos (by omega), List.getElem?_drop, Array.getElem?_toList, ← Nat.add_assoc, hy]
            · rw [List.getElem?_eq_none (by omega), List.getElem?_eq_none (by rw [List.length_take]; omega)]
          rw [← hys]
          exact ⟨⟨x.1, x.2, h2, fun m hm_ => hwt m (weightsAll_mem (i := i) (by rw [List.getElem?_map, h3]; rfl) m hm_)⟩⟩
        | _ => cases hv0
theorem told_int {t : TypeId} {k : IntKind} {fuel : Nat} {cs : List Value} (ht : P.underlying t = some (.int k)) (h : Told enc P w fuel t cs) : ∃ n, cs = [.int k n] ∧ inR k n := by
  obtain ⟨d, p, hd, _⟩ := h
  obtain ⟨n, h1, _, hw⟩ := DataW.trod_int ht hd
  refine ⟨n, h1, ?_⟩
  cases k <;> simpa [Lit.wf, IntKind.min, IntKind.max, IntKind.bits, IntKind.signed, inR] using hw
/-- A row of which each element is one cell, told by a function. -/
theorem row_map {α : Type} {sz n : Nat} {xs : List Value} {f : α → Value} (hl : xs.length = n) (h : ∀ i, i < n → ∃ a, (xs.drop (i * 1)).take 1 = [f a]) : ∃ l : List α, l.length = n ∧ xs = l.map f := by
  induction xs generalizing n with
  | nil => exact ⟨[], by simpa using hl, rfl⟩
  | cons x xs ih =>
    obtain ⟨a, ha⟩ := h 0 (by simp at hl; omega)
    simp at ha
    obtain ⟨l, h1, h2⟩ := ih (n := n - 1) (by simp at hl; omega) fun i hi => by
      obtain ⟨b, hb⟩ := h (i + 1) (by omega)
      exact ⟨b, by simpa using hb⟩
    exact ⟨a :: l, by simp at hl ⊢; omega, by simp [ha, h2]⟩
theorem told_ints {t e : TypeId} {k : IntKind} {fuel by_ : Nat} {cs : List Value} (ht : P.underlying t = some (.slice e)) (he : P.underlying e = some (.int k)) (hc : P.cellsOf e = 1) (hby : P.bytesOf e = by_) (hby1 : 1 ≤ by_) (h : Told enc P w fuel t cs) :
    ∃ ad n c, ∃ zs : List Int, cs = [.slice ad n c] ∧ n = zs.length ∧ n ≤ c ∧ c ≤ maxLen ∧ RowAt w 1 ad n (zs.map (.int k)) ∧ ∀ z ∈ zs, inR k z := by
  obtain ⟨f, ad, n, c, xs, rfl, rfl, h1, h2, R, hel⟩ := told_slice ht hc (by omega) hby hby1 h
  obtain ⟨l, hl, rfl⟩ := row_map (sz := 1) (f := fun a : { z : Int // inR k z } => Value.int k a.1) (by rw [R.len, Nat.mul_one]) fun i hi => by
    obtain ⟨z, hz, hr⟩ := told_int he (hel i hi)
    exact ⟨⟨z, hr⟩, hz⟩
  refine ⟨ad, n, c, l.map (·.1), rfl, by simp [hl], h1, h2, by rw [List.map_map]; exact R, fun z hz => ?_⟩
  obtain ⟨a, _, rfl⟩ := List.mem_map.1 hz
  exact a.2
theorem cells_slice {t e : TypeId} {r : Reach} {b0 : Nat} {v : Value} (ht : P.underlying t = some (.slice e)) (hv : Value.okWide P w r b0 t v) {ad : Option Addr} {n c : Nat} (h : v.cells.toList = [.slice ad n c]) : v = .slice ad n c := by
  unfold Value.okWide at hv
  rw [ht] at hv
  unfold Cell.okWide at hv
  rw [ht] at hv
  cases v <;> first | (simp only [Cell.ok, ht] at hv; done) | (simp [Value.cells] at h; try (obtain ⟨rfl, rfl, rfl⟩ := h); try rfl) | skip
end
end Go.Proofs.YtifhcfhdajkhlaaGreat.K

