/- Laid together: BN, PH, O09, RV, T16, A04, H16, U16, SZ, TT, OF, Ro. Each part is plain law, a rule, or a walk of the functions that its names tell. -/
import Derived.Test.YtifhcfhdajkhlaaGreatX5
import Derived.WalkKit
import Derived.ProofKit
import Derived.OpenShut
import Derived.ChangeOld
import Derived.Carry
import Derived.SizedLaws
set_option linter.unusedVariables false
set_option linter.unusedSimpArgs false
namespace Go.Proofs.YtifhcfhdajkhlaaGreat.K
open Go Go.RowKit Go.Proofs
attribute [local irreducible] Run1 OpG WL W AO Gives
set_option maxRecDepth 100000 in
theorem bent_calls (w : World) {ad ae : Option Addr} {cp cq : Nat} {xs ys : List Int} (R : RowAt w 1 ad xs.length (xs.map (.int .u8))) (hx : ∀ x ∈ xs, inR .u8 x) (hcp : xs.length ≤ cp) (hcp2 : cp ≤ maxLen) (hl : xs.length ≤ 200) (R2 : RowAt w 1 ae ys.length (ys.map (.int .u8))) (hy : ∀ x ∈ ys, inR .u8 x) {k : Int} (k0 : 0 ≤ k) (k1 : k ≤ 255) : Calls Tryz.prog 7 #[.slice ad xs.length cp, .slice ae ys.length cq, .int .u8 k] w (Ret fun v w' => ∃ ado co segs A, v = .slice ado A.length co ∧ OwnA 67 33 w' w.heap.size (.slice ado A.length co) segs A ∧ Bent1 xs k A ∧ Grow w w') := by
 have lR2 := R2.lim
 have hri := bentT_right (xs := xs) hx
 have G := Grow.rfl' w
 refine calls_ret Tryz.func7 Tryz.ntmps7 Tryz.results7 rfl rfl ?_
 refine W_seq (W_region rfl ?_)
 refine stp (r_assign_slice rfl ?_)
 refine WL_nil ?_
 refine W_seq (W_region rfl ?_)
 refine stp (r_move_slice rfl ?_)
 refine stp (r_move_slice rfl ?_)
 refine stp (r_len rfl rfl rfl ?_)
 refine WL_some (og rfl ?_)
 refine r_min rfl rfl rfl ?_
 rw [if_neg (by omega)]
 refine stp (r_sliceH rfl rfl (by omega) (by omega) ?_)
 have R1 := R.sliceH (m := xs.length) hcp (Nat.le_refl _) (by decide)
 rw [List.take_of_length_le (by rw [List.length_map]; omega)] at R1
 rw [Int.toNat_natCast]
 generalize (if cp = 0 then ad else ad.map (·.add (0 * 1))) = ad1 at R1 ⊢
 refine WL_some (og rfl ?_)
 refine r_call rfl (tree_calls _ _ R1 G rfl hx hcp hcp2 (d := 6) (by decide) (Nat.le_refl _)) ?_
 rintro v_ w1 ⟨cells_, ad9, n9, c9, rfl, hX_, -, -, -, -, g_⟩
 have hX := hX_.sees (Sees.seen _ _)
 clear hX_
 replace G := G.tr g_
 clear g_
 obtain ⟨x0, x1, xa, xn, xc, pa, pn, pc, qa, qn, qc, rfl⟩ := hX.cells
 have hX : NodeR w1 [.int .i64 x0, .int .i64 x1, .slice xa xn xc, .slice pa pn pc, .slice qa qn qc] (bentT xs) := hX
 refine stp (r_move (v := .tuple #[.agg #[.int .i64 x0, .int .i64 x1, .slice xa xn xc, .slice pa pn pc, .slice qa qn qc], .slice ad9 n9 c9]) rfl ?_)
 refine stp (r_extract (v := .agg #[.int .i64 x0, .int .i64 x1, .slice xa xn xc, .slice pa pn pc, .slice qa qn qc]) rfl rfl ?_)
 refine stp (r_extract (v := .slice ad9 n9 c9) rfl rfl ?_)
 refine stp (r_alloc ?_)
 intro b2 w3 hb4 hc5 g6
 refine stn (r_storeAll rfl rfl hc5 (by rfl) (by rfl) (by rfl) ?_)
 intro w7 hc8 u9
 have g10 := g6.upd u9 hb4
 have hge11 := Nat.le_trans G.size hb4
 replace hX := hX.grow g10
 replace G := G.tr g10
 clear u9 g6 hb4 hc5
 refine stp (r_assign_slice rfl ?_)
 refine WL_nil ?_
 refine W_seq (W_region rfl ?_)
 refine stp (r_loadAll rfl hc8 (by rfl) ?_)
 refine stp (r_move_int rfl ?_)
 refine stp (r_rem rfl rfl ?_ ?_ ?_); omega; omega
 refine stp (r_conv rfl ?_ ?_); constructor <;> omega
 refine stp (r_add rfl rfl ?_ ?_); constructor <;> omega
 refine WL_some (og rfl ?_)
 have hcal := rBuild_calls _ hX (3 + k % 30)
 have hszp := G.size
 refine r_call rfl hcal ?_
 rintro v_ w12 ⟨so_, segsp, rfl, hO_, g_⟩
 clear hcal
 replace hX := hX.grow g_
 replace hc8 := g_.heap hc8
 replace G := G.tr g_
 clear g_
 have hOp := hO_.lower hszp
 clear hO_
 obtain ⟨adp, cp, rfl, -⟩ := own_shape hOp.out
 refine stp (r_move (v := .tuple #[.slice adp (((bentT xs).build (3 + k % 30)).1.length) cp, .int .i64 (((bentT xs).build (3 + k % 30)).2)]) rfl ?_)
 refine stp (r_extract (v := .slice adp (((bentT xs).build (3 + k % 30)).1.length) cp) rfl rfl ?_)
 refine stp (r_extract (v := .int .i64 (((bentT xs).build (3 + k % 30)).2)) rfl rfl ?_)
 refine stp (r_assign_slice rfl ?_)
 refine stp (r_assign_int rfl ?_)
 refine WL_nil ?_
 have hB0 := bentB_len (xs := xs) hx hl k
 obtain ⟨B, hB⟩ : ∃ B, B = bentB xs k := ⟨_, rfl⟩
 rw [← hB] at hB0
 refine W_cut1 (fun e_ w_ => ∃ (ado : Option Addr) (co : Nat) (segs : List Value), Fr [(1, .slice ae ys.length cq), (6, .slice none 0 0), (9, .slice ado B.length co)] e_ ∧ (OwnA 67 33 w_ w.heap.size (.slice ado B.length co) segs B) ∧ Grow w w_) ?_ ?_
 ·-- the parts
  refine W_seq (W_region rfl ?_)
  refine stp (r_move_int rfl ?_)
  refine stp (r_neq rfl rfl ?_)
  refine WL_nil ?_
  refine W_cond2 (b := (decide ((((bentT xs).build (3 + k % 30)).2) ≠ 0))) rfl (fun h1 => ?_) (fun h1 => ?_)
  ·-- true
   replace h1 := of_decide_eq_true h1
   refine W_seq (W_region rfl ?_)
   refine stp (r_loadAll rfl hc8 (by rfl) ?_)
   refine WL_some (og rfl ?_)
   have hcal := rBuild_calls _ hX 4096
   have hszq := G.size
   refine r_call rfl hcal ?_
   rintro v_ w13 ⟨so_, segsq, rfl, hO_, g_⟩
   clear hcal
   replace hX := hX.grow g_
   replace hc8 := g_.heap hc8
   replace hOp := hOp.grow g_
   replace G := G.tr g_
   clear g_
   have hOq := hO_.lower hszq
   clear hO_
   obtain ⟨adq, cq, rfl, -⟩ := own_shape hOq.out
   refine stp (r_move (v := .tuple #[.slice adq (((bentT xs).build 4096).1.length) cq, .int .i64 (((bentT xs).build 4096).2)]) rfl ?_)
   refine stp (r_extract (v := .slice adq (((bentT xs).build 4096).1.length) cq) rfl rfl ?_)
   refine stp (r_extract (v := .int .i64 (((bentT xs).build 4096).2)) rfl rfl ?_)
   refine stp (r_assign_slice rfl ?_)
   refine stp (r_assign_int rfl ?_)
   refine WL_nil ?_
   refine W_region rfl ?_
   refine stp (r_move_slice rfl ?_)
   refine stp (r_assign_slice rfl ?_)
   refine WL_nil ?_
   have hBe : B = ((bentT xs).build 4096).1 := by rw [hB]; unfold bentB; rw [if_pos h1]
   exact ⟨adq, cq, segsq, fr_of ⟨rfl, rfl, by rw [hBe]; rfl, trivial⟩, (by rw [hBe]; exact hOq), G⟩
  ·-- false
   replace h1 := of_decide_eq_false h1
   refine W_skip ?_
   have hBe : B = ((bentT xs).build (3 + k % 30)).1 := by rw [hB]; unfold bentB; rw [if_neg h1]
   exact ⟨adp, cp, segsp, fr_of ⟨rfl, rfl, by rw [hBe]; rfl, trivial⟩, (by rw [hBe]; exact hOp), G⟩
 ·-- behind them
  clear hX hc8 hOp
  clear G
  rintro e_ w14 ⟨ado, co, segs, ⟨e15, rfl⟩, hO, G⟩
  refine W_seq ?_
  refine W_seq (W_region rfl ?_)
  refine stp (r_assign_int rfl ?_)
  refine WL_nil ?_
  refine W_block ?_
  refine W_loop (fun m_ e_ w_ => ∃ (m : Nat) (ado : Option Addr) (co : Nat) (segs : List Value) (A : List (List Int)), m_ = 12 - m ∧ Fr [(1, .slice ae ys.length cq), (6, .slice none 0 0), (13, .int .i64 (m : Int)), (9, .slice ado A.length co)] e_ ∧ (m ≤ 15) ∧ (BentA B A) ∧ (OwnA 67 33 w_ w.heap.size (.slice ado A.length co) segs A) ∧ Grow w w_) _ ⟨0, ado, co, segs, B, rfl, fr_of ⟨rfl, rfl, rfl, rfl, trivial⟩, by omega, .refl, hO, G⟩ ?_
  clear hO
  clear G
  rintro m_ e_ w16 ⟨m, ado, co, segs, A, rfl, ⟨e17, rfl⟩, hm15, hA, hO, G⟩
  refine W_seq ?_
  refine W_seq (W_region rfl ?_)
  refine stp (r_move_int rfl ?_)
  refine stp (r_add rfl rfl ?_ ?_); constructor <;> omega
  refine stp (r_move_slice rfl ?_)
  refine stp (r_len rfl rfl rfl ?_)
  refine stp (r_lss rfl rfl ?_)
  refine stp (r_move_bool rfl ?_)
  refine WL_some (og_if (s := .bool (decide (((m : Int) + 3) < (ys.length : Int)))) (b := true) (v := .int .i64 (m : Int)) rfl (wgb_t _) (fun hc18 => ?_) ?_)
  ·
   have hc18_ := of_decide_eq_true hc18
   refine r_move_int rfl ?_
   exact ⟨rfl, rfl⟩
  refine WL_some (og_if (s := .bool (decide (((m : Int) + 3) < (ys.length : Int)))) (b := true) (v := .bool (decide ((m : Int) < 12))) rfl (wgb_t _) (fun hc19 => ?_) ?_)
  ·
   have hc19_ := of_decide_eq_true hc19
   refine r_lss (gvt hc19) rfl ?_
   exact ⟨rfl, rfl⟩
  refine stp (r_and2 rfl rfl rfl ?_)
  refine WL_nil ?_
  refine W_cond2 (b := ((decide (((m : Int) + 3) < (ys.length : Int))) && (decide ((m : Int) < 12)))) rfl (fun hlt => ?_) (fun hlt => ?_)
  ·-- true
   simp only [sb] at hlt
   have hd0 := getD_u8 hy m
   have hd1 := getD_u8 hy ((m : Int) + 1).toNat
   have hd2 := getD_u8 hy ((m : Int) + 2).toNat
   have hd3 := getD_u8 hy ((m : Int) + 3).toNat
   have hAl : A.length = B.length := (BentA.len hA).1
   obtain ⟨ado1, co1, sa, sc, hso, hco1, hco2, RO, hsf⟩ := hO.fn (by omega)
   simp only [Value.slice.injEq, true_and] at hso
   obtain ⟨rfl, rfl⟩ := hso
   obtain ⟨s, hsE⟩ : ∃ s : Nat, (s : Int) = ys.getD m 0 % (A.length : Int) := ⟨(ys.getD m 0 % (A.length : Int)).toNat, by have := Int.emod_nonneg (ys.getD m 0) (show (A.length : Int) ≠ 0 by omega); omega⟩
   have hsA : s < A.length := by have := Int.emod_lt_of_pos (ys.getD m 0) (show 0 < (A.length : Int) by omega); omega
   obtain ⟨hss, hos⟩ := hsf s hsA
   refine W_skip ?_
   refine W_seq ?_
   refine W_block ?_
   refine W_seq (W_region rfl ?_)
   refine stp (r_move_slice rfl ?_)
   refine stp (r_move_int rfl ?_)
   refine stp (r_indexN (R2.grow G) rfl rfl ?_ ?_); omega
   refine stp (r_loadR (v := .int .u8 (ys.getD m 0)) (m := 0) (R2.grow G) rfl (map_get1 0 (by omega)) ?_)
   refine stp (r_conv rfl ?_ ?_); constructor <;> omega
   refine stp (r_move_slice rfl ?_)
   refine stp (r_len rfl rfl rfl ?_)
   refine WL_some (og rfl ?_)
   refine r_rem rfl rfl ?_ ?_ ?_; omega; omega
   rw [← hsE]
   refine stp (r_assign_int rfl ?_)
   refine WL_nil ?_
   refine W_seq ?_
   refine W_seq (W_region rfl ?_)
   refine stp (r_move_slice rfl ?_)
   refine stp (r_move_int rfl ?_)
   refine stp (r_indexN RO rfl rfl ?_ ?_); omega
   refine stp (r_loadR (v := .slice (sa s) (len2 A s) (sc s)) (m := 0) RO rfl (by rw [Nat.mul_one]; exact hss) ?_)
   refine stp (r_len rfl rfl rfl ?_)
   refine stp (r_eql rfl rfl ?_)
   refine WL_nil ?_
   refine W_cond2 (b := (decide (((len2 A s) : Int) = 0))) rfl (fun h3 => ?_) (fun h3 => ?_)
   ·-- true
    replace h3 := of_decide_eq_true h3
    refine W_exit ?_
    refine W_region rfl ?_
    refine stp (r_move_int rfl ?_)
    refine stp (r_add rfl rfl ?_ ?_); constructor <;> omega
    refine stp (r_assign_int rfl ?_)
    refine WL_nil ?_
    refine ⟨_, ?_, m + 4, ado, co, segs, A, rfl, fr_of ⟨rfl, rfl, congrArg (Value.int .i64) (by omega), rfl, trivial⟩, by omega, hA, hO, G⟩
    omega
   ·-- false
    replace h3 := of_decide_eq_false h3
    have hs0 : 0 < len2 A s := by omega
    obtain ⟨j, hjE⟩ : ∃ j : Nat, (j : Int) = (ys.getD ((m : Int) + 1).toNat 0) % (len2 A s : Int) := ⟨((ys.getD ((m : Int) + 1).toNat 0) % (len2 A s : Int)).toNat, by have := Int.emod_nonneg (ys.getD ((m : Int) + 1).toNat 0) (show (len2 A s : Int) ≠ 0 by omega); omega⟩
    have hjA : j < len2 A s := by have := Int.emod_lt_of_pos (ys.getD ((m : Int) + 1).toNat 0) (show 0 < (len2 A s : Int) by omega); omega
    refine W_skip ?_
    refine W_seq ?_
    refine W_any 13 [[], [], [0], [2, 1, 0], [3, 2, 1, 0], [4, 3, 2, 1, 0], [], [], [1, 0], [2, 1, 0], [3, 2, 1, 0], [10, 9, 8, 7, 6, 5, 4, 3, 2, 1, 0], [11, 10, 9, 8, 7, 6, 5, 4, 3, 2, 1, 0]] mixed (by kernel_rfl) (by kernel_rfl) (by kernel_rfl) ?_
    intro w20 g21
    replace hO := hO.grow g21
    replace RO := RO.grow g21
    replace G := G.tr g21
    clear g21
    apply AO_ex
    ·intro w_ g_; refine og rfl ?_; refine r_move_slice rfl ?_; exact ⟨Grow.rfl' _, rfl⟩
    apply AO_ex
    ·intro w_ g_; refine og rfl ?_; refine r_move_int rfl ?_; exact ⟨Grow.rfl' _, rfl⟩
    apply AO_ex
    ·intro w_ g_; refine og rfl ?_; refine r_add rfl rfl ?_ ?_; constructor <;> omega; exact ⟨Grow.rfl' _, rfl⟩
    apply AO_ex
    ·intro w_ g_; refine og rfl ?_; refine r_indexR (R2.grow (G.tr g_)) rfl rfl ?_ ?_ ?_; omega; omega; exact ⟨Grow.rfl' _, rfl⟩
    apply AO_ex
    ·intro w_ g_; refine og rfl ?_; refine r_loadR (v := .int .u8 (ys.getD (((m : Int) + 1).toNat) 0)) (m := 0) (R2.grow (G.tr g_)) rfl (map_get1 0 (by omega)) ?_; exact ⟨Grow.rfl' _, rfl⟩
    apply AO_ex
    ·intro w_ g_; refine og rfl ?_; refine r_conv rfl ?_ ?_; constructor <;> omega; exact ⟨Grow.rfl' _, rfl⟩
    apply AO_ex
    ·intro w_ g_; refine og rfl ?_; refine r_move_slice rfl ?_; exact ⟨Grow.rfl' _, rfl⟩
    apply AO_ex
    ·intro w_ g_; refine og rfl ?_; refine r_move_int rfl ?_; exact ⟨Grow.rfl' _, rfl⟩
    apply AO_ex
    ·intro w_ g_; refine og rfl ?_; refine r_indexN (RO.grow g_) rfl rfl ?_ ?_; omega; exact ⟨Grow.rfl' _, rfl⟩
    apply AO_ex
    ·intro w_ g_; refine og rfl ?_; refine r_loadR (v := .slice (sa s) (len2 A s) (sc s)) (m := 0) (RO.grow g_) rfl (by rw [Nat.mul_one]; exact hss) ?_; exact ⟨Grow.rfl' _, rfl⟩
    apply AO_ex
    ·intro w_ g_; refine og rfl ?_; refine r_len rfl rfl rfl ?_; exact ⟨Grow.rfl' _, rfl⟩
    apply AO_ex
    ·intro w_ g_; refine og rfl ?_; refine r_rem rfl rfl ?_ ?_ ?_; omega; omega; rw [← hjE]; exact ⟨Grow.rfl' _, rfl⟩
    apply AO_ex
    ·intro w_ g_; refine og rfl ?_; refine r_assign_int rfl ?_; exact ⟨Grow.rfl' _, rfl⟩
    refine AO_nil ?_
    intro w22 g23
    replace hO := hO.grow g23
    replace RO := RO.grow g23
    replace G := G.tr g23
    clear g23
    refine WL_nil ?_
    have hsG := G.size
    obtain ⟨M, hM⟩ : ∃ M, M = w22.heap.size := ⟨_, rfl⟩
    have hMw : M ≤ w22.heap.size := by rw [hM]; exact Nat.le_refl _
    have hwM : w.heap.size ≤ M := by rw [hM]; exact hsG
    clear hM hsG
    obtain ⟨x, hxE⟩ : ∃ x, x = encR (bentP (ys.getD ((m : Int) + 2).toNat 0) (ys.getD ((m : Int) + 3).toNat 0) A.length) := ⟨_, rfl⟩
    obtain ⟨z, hzE⟩ : ∃ z, z = encE (bentP (ys.getD ((m : Int) + 2).toNat 0) (ys.getD ((m : Int) + 3).toNat 0) A.length) := ⟨_, rfl⟩
    refine W_seq ?_
    refine W_any 18 [[], [], [0], [2, 1, 0], [3, 2, 1, 0], [4, 3, 2, 1, 0], [5, 4, 3, 2, 1, 0], [6, 5, 4, 3, 2, 1, 0], [], [], [0], [2, 1, 0], [3, 2, 1, 0], [4, 3, 2, 1, 0], [5, 4, 3, 2, 1, 0], [6, 5, 4, 3, 2, 1, 0], [15, 14, 13, 12, 11, 10, 9, 8, 7, 6, 5, 4, 3, 2, 1, 0], []] mixed (by kernel_rfl) (by kernel_rfl) (by kernel_rfl) ?_
    intro w24 g25
    replace hO := hO.grow g25
    replace RO := RO.grow g25
    replace hMw := Nat.le_trans hMw g25.size
    replace G := G.tr g25
    clear g25
    apply AO_ex
    ·intro w_ g_; refine og rfl ?_; refine r_move_slice rfl ?_; exact ⟨Grow.rfl' _, rfl⟩
    apply AO_ex
    ·intro w_ g_; refine og rfl ?_; refine r_move_int rfl ?_; exact ⟨Grow.rfl' _, rfl⟩
    apply AO_ex
    ·intro w_ g_; refine og rfl ?_; refine r_add rfl rfl ?_ ?_; constructor <;> omega; exact ⟨Grow.rfl' _, rfl⟩
    apply AO_ex
    ·intro w_ g_; refine og rfl ?_; refine r_indexR (R2.grow (G.tr g_)) rfl rfl ?_ ?_ ?_; omega; omega; exact ⟨Grow.rfl' _, rfl⟩
    apply AO_ex
    ·intro w_ g_; refine og rfl ?_; refine r_loadR (v := .int .u8 (ys.getD (((m : Int) + 2).toNat) 0)) (m := 0) (R2.grow (G.tr g_)) rfl (map_get1 0 (by omega)) ?_; exact ⟨Grow.rfl' _, rfl⟩
    apply AO_ex
    ·intro w_ g_; refine og rfl ?_; refine r_rem rfl rfl ?_ ?_ ?_; omega; omega; exact ⟨Grow.rfl' _, rfl⟩
    apply AO_ex
    ·intro w_ g_; refine og rfl ?_; refine r_conv rfl ?_ ?_; constructor <;> omega; exact ⟨Grow.rfl' _, rfl⟩
    apply AO_ex
    ·intro w_ g_; refine og rfl ?_; refine r_add rfl rfl ?_ ?_; constructor <;> omega; exact ⟨Grow.rfl' _, rfl⟩
    apply AO_ex
    ·intro w_ g_; refine og rfl ?_; refine r_move_slice rfl ?_; exact ⟨Grow.rfl' _, rfl⟩
    apply AO_ex
    ·intro w_ g_; refine og rfl ?_; refine r_move_int rfl ?_; exact ⟨Grow.rfl' _, rfl⟩
    apply AO_ex
    ·intro w_ g_; refine og rfl ?_; refine r_add rfl rfl ?_ ?_; constructor <;> omega; exact ⟨Grow.rfl' _, rfl⟩
    apply AO_ex
    ·intro w_ g_; refine og rfl ?_; refine r_indexR (R2.grow (G.tr g_)) rfl rfl ?_ ?_ ?_; omega; omega; exact ⟨Grow.rfl' _, rfl⟩
    apply AO_ex
    ·intro w_ g_; refine og rfl ?_; refine r_loadR (v := .int .u8 (ys.getD (((m : Int) + 3).toNat) 0)) (m := 0) (R2.grow (G.tr g_)) rfl (map_get1 0 (by omega)) ?_; exact ⟨Grow.rfl' _, rfl⟩
    apply AO_ex
    ·intro w_ g_; refine og rfl ?_; refine r_rem rfl rfl ?_ ?_ ?_; omega; omega; exact ⟨Grow.rfl' _, rfl⟩
    apply AO_ex
    ·intro w_ g_; refine og rfl ?_; refine r_conv rfl ?_ ?_; constructor <;> omega; exact ⟨Grow.rfl' _, rfl⟩
    apply AO_ex
    ·intro w_ g_; refine og rfl ?_; refine r_sub rfl rfl ?_ ?_; constructor <;> omega; exact ⟨Grow.rfl' _, rfl⟩
    apply AO_ex
    ·intro w_ g_; refine og rfl ?_; refine r_build (v := .agg #[.int .i64 (1 + ((ys.getD (((m : Int) + 2).toNat) 0) % 3)), .int .i64 (((ys.getD (((m : Int) + 3).toNat) 0) % 16) - 4), .int .i64 0, .int .i64 0, .int .i64 0, .int .i64 0, .int .i64 0, .bool false]) (fun w => by kernel_rfl) ?_; exact ⟨Grow.rfl' _, rfl⟩
    refine AO_so (fun w_ v_ => ∃ b, v_ = .pointer (some ⟨b, 0, none⟩) ∧ M ≤ b ∧ w_.heap[b]? = some (.cells #[.int .i64 0, .int .i64 0, .int .i64 0, .int .i64 0, .int .i64 0, .int .i64 0, .int .i64 0, .bool false] 77 (0, 0))) (fun _ _ _ g_ ⟨b, h1_, h2_, h3_⟩ => ⟨b, h1_, h2_, g_.heap h3_⟩) ?_ ?_
    ·intro w_ g_
     refine og rfl ?_
     refine r_alloc ?_
     intro b_ w2_ hb_ hc_ g2_
     exact ⟨g2_, b_, rfl, Nat.le_trans hMw (Nat.le_trans g_.size hb_), hc_⟩
    refine AO_nil ?_
    intro w26 g27
    replace hO := hO.grow g27
    replace RO := RO.grow g27
    replace hMw := Nat.le_trans hMw g27.size
    replace G := G.tr g27
    clear g27
    intro v_p hv_p
    obtain ⟨bp, rfl, hgP, hcP⟩ := hv_p
    have hgQ := Nat.le_trans hwM hgP
    refine stn (r_storeAll rfl rfl hcP (by rfl) (by rfl) (by rfl) ?_)
    intro w28 hc29 u30
    replace hO := hO.upd u30 hcP (by decide) (by decide)
    replace RO := (OwnA.rowat hO (by omega)).2
    replace hMw := Nat.le_trans hMw (Nat.le_of_eq u30.size.symm)
    replace G := G.upd u30 hgQ
    clear u30 hcP
    refine WL_nil ?_
    refine W_seq ?_
    refine W_seq (W_region rfl ?_)
    refine stp (r_fieldAddr rfl ?_)
    refine stp (r_load (v := .int .i64 (1 + ((ys.getD (((m : Int) + 2).toNat) 0) % 3))) rfl hc29 rfl ?_)
    refine WL_nil ?_
    refine W_block ?_
    refine W_seq (W_region rfl ?_)
    refine stp (r_eql rfl rfl ?_)
    refine stp (r_assign_bool rfl ?_)
    refine WL_nil ?_
    refine W_cond2 (b := (decide ((1 + ((ys.getD (((m : Int) + 2).toNat) 0) % 3)) = 1))) rfl (fun h4 => ?_) (fun h4 => ?_)
    ·-- true
     replace h4 := of_decide_eq_true h4
     refine W_seq (W_region rfl ?_)
     refine stp (r_move_slice rfl ?_)
     refine stp (r_move_int rfl ?_)
     refine stp (r_add rfl rfl ?_ ?_); constructor <;> omega
     refine stp (r_indexR (R2.grow G) rfl rfl ?_ ?_ ?_); omega; omega
     refine stp (r_loadR (v := .int .u8 (ys.getD (((m : Int) + 2).toNat) 0)) (m := 0) (R2.grow G) rfl (map_get1 0 (by omega)) ?_)
     refine stp (r_rem rfl rfl ?_ ?_ ?_); omega; omega
     refine stp (r_conv rfl ?_ ?_); constructor <;> omega
     refine stp (r_fieldAddr rfl ?_)
     refine stn (r_store1 (v := .int .i64 ((ys.getD (((m : Int) + 2).toNat) 0) % 4)) rfl rfl (by rfl) hc29 (by rfl) (by rfl) ?_)
     intro w31 hc32 u33
     replace hO := hO.upd u33 hc29 (by decide) (by decide)
     replace RO := (OwnA.rowat hO (by omega)).2
     replace hMw := Nat.le_trans hMw (Nat.le_of_eq u33.size.symm)
     replace G := G.upd u33 hgQ
     clear u33 hc29
     refine WL_nil ?_
     refine W_region rfl ?_
     refine stp (r_move_slice rfl ?_)
     refine stp (r_move_int rfl ?_)
     refine stp (r_add rfl rfl ?_ ?_); constructor <;> omega
     refine stp (r_indexR (R2.grow G) rfl rfl ?_ ?_ ?_); omega; omega
     refine stp (r_loadR (v := .int .u8 (ys.getD (((m : Int) + 2).toNat) 0)) (m := 0) (R2.grow G) rfl (map_get1 0 (by omega)) ?_)
     refine stp (r_quo rfl rfl ?_ ?_ ?_ ?_); omega; omega; (constructor <;> omega)
     refine stp (r_conv rfl ?_ ?_); constructor <;> omega
     refine stp (r_fieldAddr rfl ?_)
     refine stn (r_store1 (v := .int .i64 ((ys.getD (((m : Int) + 2).toNat) 0) / 64)) rfl rfl (by rfl) hc32 (by rfl) (by rfl) ?_)
     intro w34 hc35 u36
     replace hO := hO.upd u36 hc32 (by decide) (by decide)
     replace RO := (OwnA.rowat hO (by omega)).2
     replace hMw := Nat.le_trans hMw (Nat.le_of_eq u36.size.symm)
     replace G := G.upd u36 hgQ
     clear u36 hc32
     refine WL_nil ?_
     refine W_seq (W_region rfl ?_)
     refine stp (r_loadAll rfl hc35 (by rfl) ?_)
     refine WL_some (og rfl ?_)
     have hP : (⟨1 + ((ys.getD (((m : Int) + 2).toNat) 0) % 3), ((ys.getD (((m : Int) + 3).toNat) 0) % 16) - 4, (ys.getD (((m : Int) + 2).toNat) 0) % 4, (ys.getD (((m : Int) + 2).toNat) 0) / 64, 0, 0, 0, false⟩ : Pt) = bentP (ys.getD ((m : Int) + 2).toNat 0) (ys.getD ((m : Int) + 3).toNat 0) A.length := by unfold bentP; rw [if_pos (by omega)]; rw [show 1 + (ys.getD ((m : Int) + 2).toNat 0) % 3 = 1 from by omega]
     refine r_gives (v := .tuple #[.int .u64 x, .int .i64 z]) rfl (gives_eq (rencode_calls _ ⟨1 + ((ys.getD (((m : Int) + 2).toNat) 0) % 3), ((ys.getD (((m : Int) + 3).toNat) 0) % 16) - 4, (ys.getD (((m : Int) + 2).toNat) 0) % 4, (ys.getD (((m : Int) + 2).toNat) 0) / 64, 0, 0, 0, false⟩) (y := .tuple #[.int .u64 x, .int .i64 z]) (by rw [hP, ← hxE, ← hzE])) ?_
     intro w37 g38
     replace hO := hO.grow g38
     replace RO := RO.grow g38
     replace hMw := Nat.le_trans hMw g38.size
     replace hc35 := g38.heap hc35
     replace G := G.tr g38
     clear g38
     refine stp (r_move (v := .tuple #[.int .u64 x, .int .i64 z]) rfl ?_)
     refine stp (r_extract (v := .int .u64 x) rfl rfl ?_)
     refine stp (r_extract (v := .int .i64 z) rfl rfl ?_)
     refine stp (r_assign_int rfl ?_)
     refine stp (r_assign_int rfl ?_)
     refine WL_nil ?_
     refine W_region rfl ?_
     refine stp (r_move_slice rfl ?_)
     refine stp (r_move_int rfl ?_)
     refine stp (r_indexN RO rfl rfl ?_ ?_); omega
     refine stp (r_loadR (v := .slice (sa s) (len2 A s) (sc s)) (m := 0) RO rfl (by rw [Nat.mul_one]; exact hss) ?_)
     refine stp (r_move_int rfl ?_)
     refine stp (r_move_int rfl ?_)
     refine WL_some (og rfl ?_)
     have hos9 := hO.seg s _ _ hss (List.getElem?_eq_getElem hsA)
     have hlen9 : len2 A s = A[s].length := by rw [len2, getD_at hsA]
     obtain ⟨g5, c5, cur5, he5, hg5b, hg5, hc51, hc52, hc53, hc54⟩ := own_pos hos9 (by omega)
     simp only [Value.slice.injEq] at he5
     obtain ⟨hsa, -, hsc⟩ := he5
     refine r_indexAddr (b := g5) (o := 0) (n := len2 A s) (c := sc s) (i := (j : Int)) (show _ = _ from congrArg (fun a_ => Value.slice a_ (len2 A s) (sc s)) hsa) rfl (by omega) (by omega) ?_
     rw [Int.toNat_natCast, Nat.zero_add, Nat.mul_one]
     refine stn (r_store1 (v := .int .u64 x) rfl rfl rfl hg5 (Nat.ble_eq_true_of_le (by omega)) rfl ?_)
     intro w7 hs6 u7
     rw [hsa, hlen9] at hss
     have hO7 := hO.setw (i := j) (x := x) (by decide) (List.getElem?_eq_getElem hsA) hss hg5 hs6 (by simp) u7
     replace G := G.upd u7 hg5b
     have hset : A.set s (A[s].set j x) = setP A s j x := by unfold setP; rw [getD_at hsA]
     rw [hset] at hO7
     refine WL_nil ?_
     refine W_region rfl ?_
     refine stp (r_move_int rfl ?_)
     refine stp (r_add rfl rfl ?_ ?_); constructor <;> omega
     refine stp (r_assign_int rfl ?_)
     refine WL_nil ?_
     have hln := setP_length A s j x
     rw [show (Value.slice ado A.length co) = .slice ado (setP A s j x).length co from by rw [hln]] at hO7
     refine ⟨_, ?_, m + 4, ado, co, segs, setP A s j x, rfl, fr_of ⟨rfl, rfl, congrArg (Value.int .i64) (by omega), by rw [hln]; rfl, trivial⟩, by omega, by rw [hxE]; exact .put hA hsA hjA hd2.1 hd2.2 hd3.1 hd3.2, hO7, G⟩
     omega
    ·-- false
     replace h4 := of_decide_eq_false h4
     refine W_seq (W_region rfl ?_)
     refine stp (r_eql rfl rfl ?_)
     refine stp (r_assign_bool rfl ?_)
     refine WL_nil ?_
     refine W_cond2 (b := (decide ((1 + ((ys.getD (((m : Int) + 2).toNat) 0) % 3)) = 2))) rfl (fun h5 => ?_) (fun h5 => ?_)
     ·-- true
      replace h5 := of_decide_eq_true h5
      refine W_seq (W_region rfl ?_)
      refine stp (r_buildSlice (cs := #[.int .i64 2, .int .i64 5, .int .i64 6, .int .i64 3]) (el := 3) (fun w => by kernel_rfl) ?_)
      intro bs39 w40 hb41 hc42 g43
      have hge44 := Nat.le_trans G.size hb41
      have ne45 := Nat.ne_of_lt (Nat.lt_of_lt_of_le (lt_of_heap hc29) hb41)
      replace hO := hO.grow g43
      replace RO := RO.grow g43
      replace hMw := Nat.le_trans hMw g43.size
      replace hc29 := g43.heap hc29
      replace G := G.tr g43
      clear g43
      refine stp (r_move_slice rfl ?_)
      refine stp (r_move_int rfl ?_)
      refine stp (r_add rfl rfl ?_ ?_); constructor <;> omega
      refine stp (r_indexR (R2.grow G) rfl rfl ?_ ?_ ?_); omega; omega
      refine stp (r_loadR (v := .int .u8 (ys.getD (((m : Int) + 2).toNat) 0)) (m := 0) (R2.grow G) rfl (map_get1 0 (by omega)) ?_)
      refine stp (r_rem rfl rfl ?_ ?_ ?_); omega; omega
      refine WL_some (og rfl ?_)
      have RL := Row.of_block (n := 4) (sz := 1) hc42 rfl rfl (by decide)
      obtain ⟨_, _, hr_, -, -, RL⟩ := RL
      cases hr_
      refine r_indexR RL rfl rfl ?_ ?_ ?_; omega; omega
      refine stp (r_loadR (v := .int .i64 (bentZ ((ys.getD ((m : Int) + 2).toNat 0) % 4))) (m := 0) RL rfl (bentZ_at _ (by omega) (by omega)) ?_)
      refine stp (r_fieldAddr rfl ?_)
      refine stn (r_store1 (v := .int .i64 (bentZ ((ys.getD ((m : Int) + 2).toNat 0) % 4))) rfl rfl (by rfl) hc29 (by rfl) (by rfl) ?_)
      intro w46 hc47 u48
      replace hO := hO.upd u48 hc29 (by decide) (by decide)
      replace RO := (OwnA.rowat hO (by omega)).2
      replace hMw := Nat.le_trans hMw (Nat.le_of_eq u48.size.symm)
      replace hc42 := u48.heap hc42 ne45.symm
      replace G := G.upd u48 hgQ
      clear u48 hc29
      refine WL_nil ?_
      refine W_region rfl ?_
      refine stp (r_move_slice rfl ?_)
      refine stp (r_move_int rfl ?_)
      refine stp (r_add rfl rfl ?_ ?_); constructor <;> omega
      refine stp (r_indexR (R2.grow G) rfl rfl ?_ ?_ ?_); omega; omega
      refine stp (r_loadR (v := .int .u8 (ys.getD (((m : Int) + 2).toNat) 0)) (m := 0) (R2.grow G) rfl (map_get1 0 (by omega)) ?_)
      refine stp (r_quo rfl rfl ?_ ?_ ?_ ?_); omega; omega; (constructor <;> omega)
      refine stp (r_conv rfl ?_ ?_); constructor <;> omega
      refine stp (r_fieldAddr rfl ?_)
      refine stn (r_store1 (v := .int .i64 ((ys.getD (((m : Int) + 2).toNat) 0) / 16)) rfl rfl (by rfl) hc47 (by rfl) (by rfl) ?_)
      intro w49 hc50 u51
      replace hO := hO.upd u51 hc47 (by decide) (by decide)
      replace RO := (OwnA.rowat hO (by omega)).2
      replace hMw := Nat.le_trans hMw (Nat.le_of_eq u51.size.symm)
      replace hc42 := u51.heap hc42 ne45.symm
      replace G := G.upd u51 hgQ
      clear u51 hc47
      refine WL_nil ?_
      refine W_seq (W_region rfl ?_)
      refine stp (r_loadAll rfl hc50 (by rfl) ?_)
      refine WL_some (og rfl ?_)
      have hP : (⟨1 + ((ys.getD (((m : Int) + 2).toNat) 0) % 3), ((ys.getD (((m : Int) + 3).toNat) 0) % 16) - 4, 0, 0, bentZ ((ys.getD ((m : Int) + 2).toNat 0) % 4), (ys.getD (((m : Int) + 2).toNat) 0) / 16, 0, false⟩ : Pt) = bentP (ys.getD ((m : Int) + 2).toNat 0) (ys.getD ((m : Int) + 3).toNat 0) A.length := by unfold bentP; rw [if_neg (by omega), if_pos (by omega)]; rw [show 1 + (ys.getD ((m : Int) + 2).toNat 0) % 3 = 2 from by omega]
      refine r_gives (v := .tuple #[.int .u64 x, .int .i64 z]) rfl (gives_eq (rencode_calls _ ⟨1 + ((ys.getD (((m : Int) + 2).toNat) 0) % 3), ((ys.getD (((m : Int) + 3).toNat) 0) % 16) - 4, 0, 0, bentZ ((ys.getD ((m : Int) + 2).toNat 0) % 4), (ys.getD (((m : Int) + 2).toNat) 0) / 16, 0, false⟩) (y := .tuple #[.int .u64 x, .int .i64 z]) (by rw [hP, ← hxE, ← hzE])) ?_
      intro w52 g53
      replace hO := hO.grow g53
      replace RO := RO.grow g53
      replace hMw := Nat.le_trans hMw g53.size
      replace hc42 := g53.heap hc42
      replace hc50 := g53.heap hc50
      replace G := G.tr g53
      clear g53
      refine stp (r_move (v := .tuple #[.int .u64 x, .int .i64 z]) rfl ?_)
      refine stp (r_extract (v := .int .u64 x) rfl rfl ?_)
      refine stp (r_extract (v := .int .i64 z) rfl rfl ?_)
      refine stp (r_assign_int rfl ?_)
      refine stp (r_assign_int rfl ?_)
      refine WL_nil ?_
      refine W_region rfl ?_
      refine stp (r_move_slice rfl ?_)
      refine stp (r_move_int rfl ?_)
      refine stp (r_indexN RO rfl rfl ?_ ?_); omega
      refine stp (r_loadR (v := .slice (sa s) (len2 A s) (sc s)) (m := 0) RO rfl (by rw [Nat.mul_one]; exact hss) ?_)
      refine stp (r_move_int rfl ?_)
      refine stp (r_move_int rfl ?_)
      refine WL_some (og rfl ?_)
      have hos9 := hO.seg s _ _ hss (List.getElem?_eq_getElem hsA)
      have hlen9 : len2 A s = A[s].length := by rw [len2, getD_at hsA]
      obtain ⟨g5, c5, cur5, he5, hg5b, hg5, hc51, hc52, hc53, hc54⟩ := own_pos hos9 (by omega)
      simp only [Value.slice.injEq] at he5
      obtain ⟨hsa, -, hsc⟩ := he5
      refine r_indexAddr (b := g5) (o := 0) (n := len2 A s) (c := sc s) (i := (j : Int)) (show _ = _ from congrArg (fun a_ => Value.slice a_ (len2 A s) (sc s)) hsa) rfl (by omega) (by omega) ?_
      rw [Int.toNat_natCast, Nat.zero_add, Nat.mul_one]
      refine stn (r_store1 (v := .int .u64 x) rfl rfl rfl hg5 (Nat.ble_eq_true_of_le (by omega)) rfl ?_)
      intro w7 hs6 u7
      rw [hsa, hlen9] at hss
      have hO7 := hO.setw (i := j) (x := x) (by decide) (List.getElem?_eq_getElem hsA) hss hg5 hs6 (by simp) u7
      replace G := G.upd u7 hg5b
      have hset : A.set s (A[s].set j x) = setP A s j x := by unfold setP; rw [getD_at hsA]
      rw [hset] at hO7
      refine WL_nil ?_
      refine W_region rfl ?_
      refine stp (r_move_int rfl ?_)
      refine stp (r_add rfl rfl ?_ ?_); constructor <;> omega
      refine stp (r_assign_int rfl ?_)
      refine WL_nil ?_
      have hln := setP_length A s j x
      rw [show (Value.slice ado A.length co) = .slice ado (setP A s j x).length co from by rw [hln]] at hO7
      refine ⟨_, ?_, m + 4, ado, co, segs, setP A s j x, rfl, fr_of ⟨rfl, rfl, congrArg (Value.int .i64) (by omega), by rw [hln]; rfl, trivial⟩, by omega, by rw [hxE]; exact .put hA hsA hjA hd2.1 hd2.2 hd3.1 hd3.2, hO7, G⟩
      omega
     ·-- false
      replace h5 := of_decide_eq_false h5
      refine W_seq (W_region rfl ?_)
      refine stp (r_move_slice rfl ?_)
      refine stp (r_move_int rfl ?_)
      refine stp (r_add rfl rfl ?_ ?_); constructor <;> omega
      refine stp (r_indexR (R2.grow G) rfl rfl ?_ ?_ ?_); omega; omega
      refine stp (r_loadR (v := .int .u8 (ys.getD (((m : Int) + 3).toNat) 0)) (m := 0) (R2.grow G) rfl (map_get1 0 (by omega)) ?_)
      refine stp (r_rem rfl rfl ?_ ?_ ?_); omega; omega
      refine stp (r_conv rfl ?_ ?_); constructor <;> omega
      refine stp (r_fieldAddr rfl ?_)
      refine stn (r_store1 (v := .int .i64 ((ys.getD (((m : Int) + 3).toNat) 0) % 12)) rfl rfl (by rfl) hc29 (by rfl) (by rfl) ?_)
      intro w54 hc55 u56
      replace hO := hO.upd u56 hc29 (by decide) (by decide)
      replace RO := (OwnA.rowat hO (by omega)).2
      replace hMw := Nat.le_trans hMw (Nat.le_of_eq u56.size.symm)
      replace G := G.upd u56 hgQ
      clear u56 hc29
      refine WL_nil ?_
      refine W_seq (W_region rfl ?_)
      refine stp (r_move_slice rfl ?_)
      refine stp (r_move_int rfl ?_)
      refine stp (r_add rfl rfl ?_ ?_); constructor <;> omega
      refine stp (r_indexR (R2.grow G) rfl rfl ?_ ?_ ?_); omega; omega
      refine stp (r_loadR (v := .int .u8 (ys.getD (((m : Int) + 2).toNat) 0)) (m := 0) (R2.grow G) rfl (map_get1 0 (by omega)) ?_)
      refine stp (r_quo rfl rfl ?_ ?_ ?_ ?_); omega; omega; (constructor <;> omega)
      refine stp (r_conv rfl ?_ ?_); constructor <;> omega
      refine stp (r_move_slice rfl ?_)
      refine stp (r_len rfl rfl rfl ?_)
      refine stp (r_add rfl rfl ?_ ?_); constructor <;> omega
      refine stp (r_rem rfl rfl ?_ ?_ ?_); omega; omega
      refine stp (r_fieldAddr rfl ?_)
      refine stn (r_store1 (v := .int .i64 (((ys.getD (((m : Int) + 2).toNat) 0) / 3) % ((A.length : Int) + 1))) rfl rfl (by rfl) hc55 (by rfl) (by rfl) ?_)
      intro w57 hc58 u59
      replace hO := hO.upd u59 hc55 (by decide) (by decide)
      replace RO := (OwnA.rowat hO (by omega)).2
      replace hMw := Nat.le_trans hMw (Nat.le_of_eq u59.size.symm)
      replace G := G.upd u59 hgQ
      clear u59 hc55
      refine WL_nil ?_
      refine W_region rfl ?_
      refine stp (r_move_slice rfl ?_)
      refine stp (r_move_int rfl ?_)
      refine stp (r_add rfl rfl ?_ ?_); constructor <;> omega
      refine stp (r_indexR (R2.grow G) rfl rfl ?_ ?_ ?_); omega; omega
      refine stp (r_loadR (v := .int .u8 (ys.getD (((m : Int) + 2).toNat) 0)) (m := 0) (R2.grow G) rfl (map_get1 0 (by omega)) ?_)
      refine stp (r_rem rfl rfl ?_ ?_ ?_); omega; omega
      refine stp (r_eql rfl rfl ?_)
      refine stp (r_fieldAddr rfl ?_)
      refine stn (r_store1 (v := .bool (decide (((ys.getD (((m : Int) + 2).toNat) 0) % 2) = 1))) rfl rfl (by rfl) hc58 (by rfl) (by rfl) ?_)
      intro w60 hc61 u62
      replace hO := hO.upd u62 hc58 (by decide) (by decide)
      replace RO := (OwnA.rowat hO (by omega)).2
      replace hMw := Nat.le_trans hMw (Nat.le_of_eq u62.size.symm)
      replace G := G.upd u62 hgQ
      clear u62 hc58
      refine WL_nil ?_
      refine W_seq (W_region rfl ?_)
      refine stp (r_loadAll rfl hc61 (by rfl) ?_)
      refine WL_some (og rfl ?_)
      have hP : (⟨1 + ((ys.getD (((m : Int) + 2).toNat) 0) % 3), (ys.getD (((m : Int) + 3).toNat) 0) % 12, 0, 0, 0, 0, ((ys.getD (((m : Int) + 2).toNat) 0) / 3) % ((A.length : Int) + 1), (decide (((ys.getD (((m : Int) + 2).toNat) 0) % 2) = 1))⟩ : Pt) = bentP (ys.getD ((m : Int) + 2).toNat 0) (ys.getD ((m : Int) + 3).toNat 0) A.length := by unfold bentP; rw [if_neg (by omega), if_neg (by omega)]; rw [show 1 + (ys.getD ((m : Int) + 2).toNat 0) % 3 = 3 from by omega]
      refine r_gives (v := .tuple #[.int .u64 x, .int .i64 z]) rfl (gives_eq (rencode_calls _ ⟨1 + ((ys.getD (((m : Int) + 2).toNat) 0) % 3), (ys.getD (((m : Int) + 3).toNat) 0) % 12, 0, 0, 0, 0, ((ys.getD (((m : Int) + 2).toNat) 0) / 3) % ((A.length : Int) + 1), (decide (((ys.getD (((m : Int) + 2).toNat) 0) % 2) = 1))⟩) (y := .tuple #[.int .u64 x, .int .i64 z]) (by rw [hP, ← hxE, ← hzE])) ?_
      intro w63 g64
      replace hO := hO.grow g64
      replace RO := RO.grow g64
      replace hMw := Nat.le_trans hMw g64.size
      replace hc61 := g64.heap hc61
      replace G := G.tr g64
      clear g64
      refine stp (r_move (v := .tuple #[.int .u64 x, .int .i64 z]) rfl ?_)
      refine stp (r_extract (v := .int .u64 x) rfl rfl ?_)
      refine stp (r_extract (v := .int .i64 z) rfl rfl ?_)
      refine stp (r_assign_int rfl ?_)
      refine stp (r_assign_int rfl ?_)
      refine WL_nil ?_
      refine W_region rfl ?_
      refine stp (r_move_slice rfl ?_)
      refine stp (r_move_int rfl ?_)
      refine stp (r_indexN RO rfl rfl ?_ ?_); omega
      refine stp (r_loadR (v := .slice (sa s) (len2 A s) (sc s)) (m := 0) RO rfl (by rw [Nat.mul_one]; exact hss) ?_)
      refine stp (r_move_int rfl ?_)
      refine stp (r_move_int rfl ?_)
      refine WL_some (og rfl ?_)
      have hos9 := hO.seg s _ _ hss (List.getElem?_eq_getElem hsA)
      have hlen9 : len2 A s = A[s].length := by rw [len2, getD_at hsA]
      obtain ⟨g5, c5, cur5, he5, hg5b, hg5, hc51, hc52, hc53, hc54⟩ := own_pos hos9 (by omega)
      simp only [Value.slice.injEq] at he5
      obtain ⟨hsa, -, hsc⟩ := he5
      refine r_indexAddr (b := g5) (o := 0) (n := len2 A s) (c := sc s) (i := (j : Int)) (show _ = _ from congrArg (fun a_ => Value.slice a_ (len2 A s) (sc s)) hsa) rfl (by omega) (by omega) ?_
      rw [Int.toNat_natCast, Nat.zero_add, Nat.mul_one]
      refine stn (r_store1 (v := .int .u64 x) rfl rfl rfl hg5 (Nat.ble_eq_true_of_le (by omega)) rfl ?_)
      intro w7 hs6 u7
      rw [hsa, hlen9] at hss
      have hO7 := hO.setw (i := j) (x := x) (by decide) (List.getElem?_eq_getElem hsA) hss hg5 hs6 (by simp) u7
      replace G := G.upd u7 hg5b
      have hset : A.set s (A[s].set j x) = setP A s j x := by unfold setP; rw [getD_at hsA]
      rw [hset] at hO7
      refine WL_nil ?_
      refine W_region rfl ?_
      refine stp (r_move_int rfl ?_)
      refine stp (r_add rfl rfl ?_ ?_); constructor <;> omega
      refine stp (r_assign_int rfl ?_)
      refine WL_nil ?_
      have hln := setP_length A s j x
      rw [show (Value.slice ado A.length co) = .slice ado (setP A s j x).length co from by rw [hln]] at hO7
      refine ⟨_, ?_, m + 4, ado, co, segs, setP A s j x, rfl, fr_of ⟨rfl, rfl, congrArg (Value.int .i64) (by omega), by rw [hln]; rfl, trivial⟩, by omega, by rw [hxE]; exact .put hA hsA hjA hd2.1 hd2.2 hd3.1 hd3.2, hO7, G⟩
      omega
  ·-- false
   simp only [sb] at hlt
   refine W_exit ?_
   refine W_seq (W_region rfl ?_)
   refine stp (r_move_slice rfl ?_)
   refine stp (r_assign_slice rfl ?_)
   refine WL_nil ?_
   refine W_ret ?_
   refine ret1 (res_tmp (v := .slice ado A.length co) rfl) ⟨ado, co, segs, A, rfl, hO, by rw [hB] at hA; exact hA, G⟩
end Go.Proofs.YtifhcfhdajkhlaaGreat.K

namespace Go.Proofs.YtifhcfhdajkhlaaGreat.K
open Go Go.RowKit Go.Proofs
attribute [local irreducible] Run1 OpG WL W AO Gives
set_option maxRecDepth 100000 in
theorem path_calls (w : World) {n cp : Nat} {ad : Option Addr} {xs : List Int} {at_ : Int} (R : RowAt w 1 ad n (xs.map (.int .u8))) (hn : n = xs.length) (hx : isU8 xs) (a0 : 0 ≤ at_) (a1 : at_ ≤ 255) : Calls Tryz.prog 8 #[.slice ad n cp, .int .u8 at_] w (Ret fun v w' => ∃ ad2 c2, v = .agg #[.slice ad2 (pathP xs).length c2, .int .i64 (at_ % 12 - 2)] ∧ RowAt w' 1 ad2 (pathP xs).length ((pathP xs).map (.int .i64)) ∧ Grow w w') := by
 have ll := R.lim
 have G := Grow.rfl' w
 refine calls_ret Tryz.func8 Tryz.ntmps8 Tryz.results8 rfl rfl ?_
 refine W_seq (W_region rfl ?_)
 refine stp (r_alloc ?_)
 intro b1 w2 hb3 hc4 g5
 refine WL_nil ?_
 refine W_seq (W_region rfl ?_)
 refine stp (r_move_int rfl ?_)
 refine stp (r_rem rfl rfl ?_ ?_ ?_); omega; omega
 refine stp (r_conv rfl ?_ ?_); constructor <;> omega
 refine stp (r_sub rfl rfl ?_ ?_); constructor <;> omega
 refine stp (r_build (v := .agg #[.slice none 0 0, .int .i64 ((at_ % 12) - 2)]) (fun w => by kernel_rfl) ?_)
 have hge6 := Nat.le_trans G.size hb3
 replace G := G.tr g5
 clear g5 hb3
 refine stp (r_alloc ?_)
 intro b7 w8 hb9 hc10 g11
 refine stn (r_storeAll rfl rfl hc10 (by rfl) (by rfl) (by rfl) ?_)
 intro w12 hc13 u14
 have g15 := g11.upd u14 hb9
 have hge16 := Nat.le_trans G.size hb9
 have ne17 := Nat.ne_of_lt (Nat.lt_of_lt_of_le (lt_of_heap hc4) hb9)
 replace hc4 := g15.heap hc4
 replace G := G.tr g15
 clear u14 g11 hb9 hc10
 refine WL_nil ?_
 refine W_seq ?_
 refine W_seq (W_region rfl ?_)
 refine stp (r_assign_int rfl ?_)
 refine WL_nil ?_
 refine W_block ?_
 refine W_loop (fun m_ e_ w_ => ∃ (k : Nat) (ad3 : Option Addr) (n3 : Nat) (c3 : Nat), m_ = 6 - k ∧ Fr [(0, .slice ad n cp), (4, .pointer (some ⟨b1, 0, none⟩)), (5, .pointer (some ⟨b7, 0, none⟩)), (6, .int .i64 (k : Int))] e_ ∧ (k ≤ 6 ∧ k ≤ xs.length) ∧ (w_.heap[b1]? = some (.cells #[.slice none 0 0, .int .i64 0] 29 (0, 0))) ∧ (w_.heap[b7]? = some (.cells #[.slice ad3 n3 c3, .int .i64 (at_ % 12 - 2)] 29 (0, 0))) ∧ (w_.ownsRow w.heap.size 3 1 (.slice ad3 n3 c3) k (((xs.take k).map (· % 6)).map (.int .i64))) ∧ Grow w w_) _ ⟨0, none, 0, 0, rfl, fr_of ⟨rfl, rfl, rfl, rfl, trivial⟩, by omega, hc4, hc13, World.ownsRow_nil _ _ _ _, G⟩ ?_
 clear hc4 hc13
 clear G
 rintro m_ e_ w18 ⟨k, ad3, n3, c3, rfl, ⟨e19, rfl⟩, hk, hc4, hc13, own, G⟩
 refine W_seq ?_
 refine W_seq (W_region rfl ?_)
 refine stp (r_move_int rfl ?_)
 refine stp (r_move_slice rfl ?_)
 refine stp (r_len rfl rfl rfl ?_)
 refine stp (r_lss rfl rfl ?_)
 refine stp (r_move_bool rfl ?_)
 refine WL_some (og_if (s := .bool (decide ((k : Int) < (n : Int)))) (b := true) (v := .int .i64 (k : Int)) rfl (wgb_t _) (fun hc20 => ?_) ?_)
 ·
  have hc20_ := of_decide_eq_true hc20
  refine r_move_int rfl ?_
  exact ⟨rfl, rfl⟩
 refine WL_some (og_if (s := .bool (decide ((k : Int) < (n : Int)))) (b := true) (v := .bool (decide ((k : Int) < 6))) rfl (wgb_t _) (fun hc21 => ?_) ?_)
 ·
  have hc21_ := of_decide_eq_true hc21
  refine r_lss (gvt hc21) rfl ?_
  exact ⟨rfl, rfl⟩
 refine stp (r_and2 rfl rfl rfl ?_)
 refine WL_nil ?_
 refine W_cond2 (b := ((decide ((k : Int) < (n : Int))) && (decide ((k : Int) < 6)))) rfl (fun hlt => ?_) (fun hlt => ?_)
 ·-- true
  simp only [sb] at hlt
  obtain ⟨h1a, h1b⟩ := hlt
  have hu := getD_u8 hx k
  have hkx : k < xs.length := by omega
  refine W_skip ?_
  refine W_seq ?_
  refine W_block ?_
  refine W_any 9 [[], [0], [], [], [1, 0], [2, 1, 0], [3, 2, 1, 0], [4, 3, 2, 1, 0], [5, 4, 3, 2, 1, 0]] mixed (by kernel_rfl) (by kernel_rfl) (by kernel_rfl) ?_
  intro w22 g23
  replace hc4 := g23.heap hc4
  replace hc13 := g23.heap hc13
  replace own := own_grow own g23
  replace G := G.tr g23
  clear g23
  apply AO_ex
  ·intro w_ g_; refine og rfl ?_; refine r_fieldAddr rfl ?_; exact ⟨Grow.rfl' _, rfl⟩
  apply AO_ex
  ·intro w_ g_; refine og rfl ?_; refine r_load (v := .slice ad3 n3 c3) rfl (g_.heap hc13) rfl ?_; exact ⟨Grow.rfl' _, rfl⟩
  apply AO_ex
  ·intro w_ g_; refine og rfl ?_; refine r_move_slice rfl ?_; exact ⟨Grow.rfl' _, rfl⟩
  apply AO_ex
  ·intro w_ g_; refine og rfl ?_; refine r_move_int rfl ?_; exact ⟨Grow.rfl' _, rfl⟩
  apply AO_ex
  ·intro w_ g_; refine og rfl ?_; refine r_indexN (R.grow (G.tr g_)) rfl rfl ?_ ?_; omega; exact ⟨Grow.rfl' _, rfl⟩
  apply AO_ex
  ·intro w_ g_; refine og rfl ?_; refine r_loadR (v := .int .u8 (xs.getD k 0)) (m := 0) (R.grow (G.tr g_)) rfl (map_get1 0 (by omega)) ?_; exact ⟨Grow.rfl' _, rfl⟩
  apply AO_ex
  ·intro w_ g_; refine og rfl ?_; refine r_rem rfl rfl ?_ ?_ ?_; omega; omega; exact ⟨Grow.rfl' _, rfl⟩
  apply AO_ex
  ·intro w_ g_; refine og rfl ?_; refine r_conv rfl ?_ ?_; constructor <;> omega; exact ⟨Grow.rfl' _, rfl⟩
  refine AO_so (fun w_ v_ => Row w_ 1 v_ 1 [.int .i64 (xs.getD k 0 % 6)]) (fun _ _ _ g_ h_ => h_.grow g_) ?_ ?_
  ·intro w_ g_
   refine og rfl ?_
   refine r_buildSlice (cs := #[.int .i64 (xs.getD k 0 % 6)]) (el := 3) (fun w => by kernel_rfl) ?_
   intro bs_ w2_ hb_ hc_ g2_
   exact ⟨g2_, Row.of_block (n := 1) hc_ rfl rfl (by omega)⟩
  refine AO_nil ?_
  intro w24 g25
  replace hc4 := g25.heap hc4
  replace hc13 := g25.heap hc13
  replace own := own_grow own g25
  replace G := G.tr g25
  clear g25
  intro v_l hv_l
  refine stp (r_append rfl rfl rfl rfl own hv_l (fun q_ hq_ => by simp at hq_; subst hq_; rfl) (by simp only [maxLen]; omega) (by omega) G.size ?_)
  intro v26 w27 own6 gr6
  replace G := G.grown gr6 (own_ge own)
  replace hc4 := gr_heap gr6 hc4 (own_ne own hc4 (by decide))
  replace hc13 := gr_heap gr6 hc13 (own_ne own hc13 (by decide))
  clear own gr6
  obtain ⟨ad4, n4, c4, rfl⟩ := own_slice own6
  refine stp (r_fieldAddr rfl ?_)
  refine stn (r_store1 (v := .slice ad4 n4 c4) rfl rfl (by rfl) hc13 (by rfl) (by rfl) ?_)
  intro w28 hc29 u30
  replace hc4 := u30.heap hc4 ne17
  replace own6 := own_upd own6 u30 (own_ne own6 hc13 (by decide))
  replace G := G.upd u30 hge16
  clear u30 hc13
  refine WL_nil ?_
  refine W_region rfl ?_
  refine stp (r_move_int rfl ?_)
  refine stp (r_add rfl rfl ?_ ?_); constructor <;> omega
  refine stp (r_assign_int rfl ?_)
  refine WL_nil ?_
  refine ⟨_, ?_, k + 1, ad4, n4, c4, rfl, fr_of ⟨rfl, rfl, rfl, congrArg (Value.int .i64) (by omega), trivial⟩, by omega, hc4, hc29, (by rw [List.take_add_one, List.getElem?_eq_getElem hkx, Option.toList_some, List.map_append, List.map_append]; rw [getD_at hkx] at own6; exact own6), G⟩
  omega
 ·-- false
  simp only [sb] at hlt
  have hk6 : k = min 6 xs.length := by omega
  have htk : xs.take k = xs.take 6 := by rw [hk6]; rcases Nat.le_total 6 xs.length with h_ | h_; (rw [Nat.min_eq_left h_]); (rw [Nat.min_eq_right h_, List.take_length, List.take_of_length_le h_])
  have hpl : (pathP xs).length = k := by simp only [pathP, List.length_map, List.length_take]; omega
  refine W_exit ?_
  refine W_seq (W_region rfl ?_)
  refine stp (r_loadAll rfl hc13 (by rfl) ?_)
  refine stn (r_storeAll rfl rfl hc4 (by rfl) (by rfl) (by rfl) ?_)
  intro w31 hc32 u33
  replace hc13 := u33.heap hc13 ne17.symm
  replace own := own_upd own u33 (own_ne own hc4 (by decide))
  replace G := G.upd u33 hge6
  clear u33 hc4
  refine WL_nil ?_
  refine W_ret ?_
  obtain ⟨ad9, c9, hs9, -, -, R9⟩ := own_row own (by omega)
  simp only [Value.slice.injEq] at hs9
  obtain ⟨rfl, rfl, rfl⟩ := hs9
  rw [htk] at R9
  refine ret1 (res_all rfl hc32 (by rfl)) ⟨_, _, by rw [hpl], by rw [hpl]; exact R9, G⟩
end Go.Proofs.YtifhcfhdajkhlaaGreat.K

namespace Go.Proofs.YtifhcfhdajkhlaaGreat.K
open Go Go.RowKit
/-- A step, nothing handed back beside an error. -/
def stepO (s : Src) (o : Ob) (k : Int) : Ob × Int := (if (stepS s o k).2 ≠ 0 then Ob0 else (stepS s o k).1, (stepS s o k).2)
theorem found_err {s : Src} {p : Pt} {seg a : Int} (h : (foundS s p seg a).2 ≠ 0) : (foundS s p seg a).1 = Ob0 := by
  revert h; unfold foundS; (repeat' split) <;> simp
theorem follow_err {s : Src} {seg a : Int} (h : (followS s seg a).2 ≠ 0) : (followS s seg a).1 = Ob0 := by
  revert h; unfold followS
  split
  · intro _; rfl
  · split
    · exact found_err
    · split
      · unfold twiceS
        (repeat' split) <;> first | exact found_err | (intro _; rfl)
      · unfold landedS
        (repeat' split) <;> first | exact found_err | (intro _; rfl)
theorem follow_O (s : Src) (seg a : Int) : ((if (followS s seg a).2 ≠ 0 then Ob0 else (followS s seg a).1), (followS s seg a).2) = followS s seg a := by
  split
  · rename_i h; exact Prod.ext (follow_err h).symm rfl
  · rfl
theorem stepO_f {s : Src} {o : Ob} {k seg a : Int} (h : stepS s o k = followS s seg a) : stepO s o k = followS s seg a := by unfold stepO; rw [h]; exact follow_O s seg a
theorem stepO_e {s : Src} {o x : Ob} {k e : Int} (h : stepS s o k = (x, e)) (he : e ≠ 0 ∨ x = Ob0) : stepO s o k = (Ob0, e) := by
  unfold stepO; rw [h]
  rcases he with he | he
  · rw [if_pos he]
  · subst he; split <;> rfl
theorem SrcR.stepO_range {P : Program} {fw : FuncId} {w : World} {ua uh : Value} {b : Bool} {A : List (List Int)} {s : Src} (H : SrcR P fw w ua b uh A s) (o : Ob) (k : Int) : ObR (stepO s o k).1 := by
  unfold stepO
  split
  · exact Ob0_range
  · rename_i h
    revert h
    unfold stepS
    (repeat' split) <;> first | (intro _; exact Ob0_range) | (intro h; simp at h; done) | (intro _; exact H.follow_range _ _)
/-- What is left of a walk: so much was paid. -/
def tailW (s : Src) (steps : List Int) (a cost : Int) (i : Nat) (o : Ob) (e paid : Int) : Vl × Int :=
  if e ≠ 0 then (Vl0, e) else if paid + (1 + wordsO o) > cost then (Vl0, 22) else nextS s a (steps.drop i) o (cost - (paid + (1 + wordsO o)))
theorem tail_next {s : Src} {steps : List Int} {a cost : Int} {i : Nat} {o : Ob} {paid : Int} (hi : i < steps.length) (h : ¬ paid + (1 + wordsO o) > cost) :
    tailW s steps a cost i o 0 paid = tailW s steps a cost (i + 1) (stepO s o (steps.getD i 0)).1 (stepO s o (steps.getD i 0)).2 (paid + (1 + wordsO o)) := by
  unfold tailW
  rw [if_neg (by simp), if_neg h, show steps.drop i = steps.getD i 0 :: steps.drop (i + 1) from by rw [List.drop_eq_getElem_cons hi, getD_at hi], nextS]
  unfold stepO
  by_cases he : (stepS s o (steps.getD i 0)).2 ≠ 0
  · rw [if_pos he, if_pos he]
  · rw [if_neg he, if_neg he]
    simp only [if_neg he]
    by_cases hc : cost - (paid + (1 + wordsO o)) - (1 + wordsO (stepS s o (steps.getD i 0)).1) < 0
    · rw [if_pos hc, if_pos (by omega)]
    · rw [if_neg hc, if_neg (by omega), show cost - (paid + (1 + wordsO o)) - (1 + wordsO (stepS s o (steps.getD i 0)).1) = cost - (paid + (1 + wordsO o) + (1 + wordsO (stepS s o (steps.getD i 0)).1)) from by omega]
theorem tail_walk {s : Src} {steps : List Int} {a cost : Int} (h1 : ¬ ∃ k ∈ steps, k < 0) (h2 : ¬ (steps.length : Int) > 32) (hc : 0 ≤ cost) : walkS s steps a cost = tailW s steps a cost 0 (followS s 0 0).1 (followS s 0 0).2 0 := by
  unfold walkS tailW
  rw [if_neg h1, if_neg h2, show max cost (-1) = cost from by omega]
  by_cases h3 : (followS s 0 0).2 ≠ 0
  · rw [if_pos h3, if_pos h3]
  · rw [if_neg h3, if_neg h3]
    by_cases h4 : cost - (1 + wordsO (followS s 0 0).1) < 0
    · rw [if_pos h4, if_pos (by omega)]
    · rw [if_neg h4, if_neg (by omega), List.drop_zero, show cost - (0 + (1 + wordsO (followS s 0 0).1)) = cost - (1 + wordsO (followS s 0 0).1) from by omega]
theorem tail_end {s : Src} {steps : List Int} {a cost : Int} {o : Ob} {paid : Int} (h : ¬ paid + (1 + wordsO o) > cost) : tailW s steps a cost steps.length o 0 paid = valS s o a := by
  unfold tailW
  rw [if_neg (by simp), if_neg h, List.drop_length, nextS]
end Go.Proofs.YtifhcfhdajkhlaaGreat.K

namespace Go.Proofs.YtifhcfhdajkhlaaGreat.K
open Go Go.RowKit Go.Proofs
attribute [local irreducible] Run1 OpG WL W AO Gives
set_option maxRecDepth 100000 in
theorem rstep9_calls (w : World) {ua uh : Value} {b : Bool} {A : List (List Int)} {s : Src} (H : SrcR Tryz.prog 110 w ua b uh A s) (o : Ob) (ho : ObR o) (k : Int) (k0 : 0 ≤ k) : Gives Tryz.prog 68 #[.agg #[ua, .bool b, uh], .agg #[.int .i64 o.kind, .int .i64 o.seg, .int .i64 o.at_, .int .i64 o.data, .int .i64 o.ptrs, .int .i64 o.size, .int .i64 o.count], .int .i64 k] w (.tuple #[.agg #[.int .i64 ((stepO s o k).1.kind), .int .i64 ((stepO s o k).1.seg), .int .i64 ((stepO s o k).1.at_), .int .i64 ((stepO s o k).1.data), .int .i64 ((stepO s o k).1.ptrs), .int .i64 ((stepO s o k).1.size), .int .i64 ((stepO s o k).1.count)], .int .i64 ((stepO s o k).2)]) := by
 obtain ⟨rk, rs, ra, rd, rp, rz, rc⟩ := ho
 have G := Grow.rfl' w
 refine gives_of Tryz.func68 Tryz.ntmps68 Tryz.results68 rfl rfl ?_
 refine W_seq (W_region rfl ?_)
 refine WL_some (og rfl ?_)
 (first | refine r_box_agg rfl ?_ | refine r_box_int rfl ?_ | refine r_box_slice rfl ?_ | refine r_box rfl rfl ?_)
 intro b1 w2 hb3 hc4 g5
 have hge6 := Nat.le_trans G.size hb3
 replace G := G.tr g5
 clear g5 hb3
 refine WL_some (og rfl ?_)
 (first | refine r_box_agg rfl ?_ | refine r_box_int rfl ?_ | refine r_box_slice rfl ?_ | refine r_box rfl rfl ?_)
 intro b7 w8 hb9 hc10 g11
 have hge12 := Nat.le_trans G.size hb9
 replace hc4 := g11.heap hc4
 replace G := G.tr g11
 clear g11 hb9
 refine stp (r_alloc ?_)
 intro b13 w14 hb15 hc16 g17
 refine stp (r_assign_int rfl ?_)
 refine WL_nil ?_
 refine W_seq (W_region rfl ?_)
 refine stp (r_fieldAddr rfl ?_)
 have hge18 := Nat.le_trans G.size hb15
 have ne19 := Nat.ne_of_lt (Nat.lt_of_lt_of_le (lt_of_heap hc4) hb15)
 have ne20 := Nat.ne_of_lt (Nat.lt_of_lt_of_le (lt_of_heap hc10) hb15)
 replace hc4 := g17.heap hc4
 replace hc10 := g17.heap hc10
 replace G := G.tr g17
 clear g17 hb15
 refine stp (r_load (v := .int .i64 o.at_) rfl hc10 rfl ?_)
 refine stp (r_move_int rfl ?_)
 refine stp (r_addw rfl rfl ?_)
 obtain ⟨at9, hat9⟩ : ∃ x, x = IntKind.i64.wrap (o.at_ + k) := ⟨_, rfl⟩
 rw [← hat9]
 refine stp (r_assign_int rfl ?_)
 refine WL_nil ?_
 refine W_seq ?_
 refine W_seq (W_region rfl ?_)
 refine stp (r_fieldAddr rfl ?_)
 refine stp (r_load (v := .int .i64 o.kind) rfl hc10 rfl ?_)
 refine WL_nil ?_
 refine W_block ?_
 refine W_seq (W_region rfl ?_)
 refine stp (r_eql rfl rfl ?_)
 refine stp (r_assign_bool rfl ?_)
 refine WL_nil ?_
 refine W_cond2 (b := (decide (o.kind = 0))) rfl (fun h1 => ?_) (fun h1 => ?_)
 ·-- true
  replace h1 := of_decide_eq_true h1
  refine W_seq (W_region rfl ?_)
  refine stp (r_build (v := .agg #[.int .i64 0, .int .i64 0, .int .i64 0, .int .i64 0, .int .i64 0, .int .i64 0, .int .i64 0]) (fun w => by kernel_rfl) ?_)
  refine stn (r_storeAll rfl rfl hc16 (by rfl) (by rfl) (by rfl) ?_)
  intro w21 hc22 u23
  replace hc4 := u23.heap hc4 ne19
  replace hc10 := u23.heap hc10 ne20
  replace G := G.upd u23 hge18
  clear u23 hc16
  refine stp (r_assign_int rfl ?_)
  refine WL_nil ?_
  refine W_ret ?_
  have h8 : stepS s o k = (Ob0, 0) := by unfold stepS; rw [if_pos (.inl h1)]
  have h9 := stepO_e h8 (by simp)
  refine ret2 (res_all rfl hc22 (by rfl)) (res_tmp (v := .int .i64 0) rfl) ⟨?_, G⟩
  rw [h9]; rfl
 ·-- false
  replace h1 := of_decide_eq_false h1
  refine W_seq (W_region rfl ?_)
  refine stp (r_eql rfl rfl ?_)
  refine stp (r_assign_bool rfl ?_)
  refine WL_nil ?_
  refine W_cond2 (b := (decide (o.kind = 1))) rfl (fun h2 => ?_) (fun h2 => ?_)
  ·-- true
   replace h2 := of_decide_eq_true h2
   refine W_seq ?_
   refine W_seq (W_region rfl ?_)
   refine stp (r_move_int rfl ?_)
   refine stp (r_fieldAddr rfl ?_)
   refine stp (r_load (v := .int .i64 o.ptrs) rfl hc10 rfl ?_)
   refine stp (r_geq rfl rfl ?_)
   refine WL_nil ?_
   refine W_cond2 (b := (decide (k ≥ o.ptrs))) rfl (fun h3 => ?_) (fun h3 => ?_)
   ·-- true
    replace h3 := of_decide_eq_true h3
    refine W_seq (W_region rfl ?_)
    refine stp (r_build (v := .agg #[.int .i64 0, .int .i64 0, .int .i64 0, .int .i64 0, .int .i64 0, .int .i64 0, .int .i64 0]) (fun w => by kernel_rfl) ?_)
    refine stn (r_storeAll rfl rfl hc16 (by rfl) (by rfl) (by rfl) ?_)
    intro w24 hc25 u26
    replace hc4 := u26.heap hc4 ne19
    replace hc10 := u26.heap hc10 ne20
    replace G := G.upd u26 hge18
    clear u26 hc16
    refine stp (r_assign_int rfl ?_)
    refine WL_nil ?_
    refine W_ret ?_
    have h8 : stepS s o k = (Ob0, 0) := by unfold stepS; rw [if_pos (.inr ⟨h2, h3⟩)]
    have h9 := stepO_e h8 (by simp)
    refine ret2 (res_all rfl hc25 (by rfl)) (res_tmp (v := .int .i64 0) rfl) ⟨?_, G⟩
    rw [h9]; rfl
   ·-- false
    replace h3 := of_decide_eq_false h3
    have hat8 : at9 = o.at_ + k := by rw [hat9]; exact wrap_in (by simp only [inR]; omega)
    have h8 : stepS s o k = (followS s o.seg (at9 + o.data)) := by unfold stepS; rw [if_neg (by omega), if_pos h2, hat8]
    have h9 := stepO_f h8
    refine W_skip ?_
    refine W_region rfl ?_
    refine stp (r_move_int rfl ?_)
    refine stp (r_fieldAddr rfl ?_)
    refine stp (r_load (v := .int .i64 o.data) rfl hc10 rfl ?_)
    refine stp (r_add rfl rfl ?_ ?_); constructor <;> omega
    refine stp (r_assign_int rfl ?_)
    refine WL_nil ?_
    refine W_seq (W_region rfl ?_)
    refine stp (r_loadAll rfl hc4 (by rfl) ?_)
    refine stp (r_fieldAddr rfl ?_)
    refine stp (r_load (v := .int .i64 o.seg) rfl hc10 rfl ?_)
    refine stp (r_move_int rfl ?_)
    refine stp (r_gives (v := .tuple #[.agg #[.int .i64 ((followS s o.seg (at9 + o.data)).1.kind), .int .i64 ((followS s o.seg (at9 + o.data)).1.seg), .int .i64 ((followS s o.seg (at9 + o.data)).1.at_), .int .i64 ((followS s o.seg (at9 + o.data)).1.data), .int .i64 ((followS s o.seg (at9 + o.data)).1.ptrs), .int .i64 ((followS s o.seg (at9 + o.data)).1.size), .int .i64 ((followS s o.seg (at9 + o.data)).1.count)], .int .i64 ((followS s o.seg (at9 + o.data)).2)]) rfl (rfollow_calls _ (H.grow G) o.seg (at9 + o.data) (by simp only [inR]; omega) (by simp only [inR]; omega)) ?_)
    intro w27 g28
    replace hc4 := g28.heap hc4
    replace hc10 := g28.heap hc10
    replace hc16 := g28.heap hc16
    replace G := G.tr g28
    clear g28
    refine stp (r_move (v := .tuple #[.agg #[.int .i64 ((followS s o.seg (at9 + o.data)).1.kind), .int .i64 ((followS s o.seg (at9 + o.data)).1.seg), .int .i64 ((followS s o.seg (at9 + o.data)).1.at_), .int .i64 ((followS s o.seg (at9 + o.data)).1.data), .int .i64 ((followS s o.seg (at9 + o.data)).1.ptrs), .int .i64 ((followS s o.seg (at9 + o.data)).1.size), .int .i64 ((followS s o.seg (at9 + o.data)).1.count)], .int .i64 ((followS s o.seg (at9 + o.data)).2)]) rfl ?_)
    refine stp (r_extract (v := .agg #[.int .i64 ((followS s o.seg (at9 + o.data)).1.kind), .int .i64 ((followS s o.seg (at9 + o.data)).1.seg), .int .i64 ((followS s o.seg (at9 + o.data)).1.at_), .int .i64 ((followS s o.seg (at9 + o.data)).1.data), .int .i64 ((followS s o.seg (at9 + o.data)).1.ptrs), .int .i64 ((followS s o.seg (at9 + o.data)).1.size), .int .i64 ((followS s o.seg (at9 + o.data)).1.count)]) rfl rfl ?_)
    refine stp (r_extract (v := .int .i64 ((followS s o.seg (at9 + o.data)).2)) rfl rfl ?_)
    refine stp (r_alloc ?_)
    intro b29 w30 hb31 hc32 g33
    refine stn (r_storeAll rfl rfl hc32 (by rfl) (by rfl) (by rfl) ?_)
    intro w34 hc35 u36
    have g37 := g33.upd u36 hb31
    have hge38 := Nat.le_trans G.size hb31
    have ne39 := Nat.ne_of_lt (Nat.lt_of_lt_of_le (lt_of_heap hc4) hb31)
    have ne40 := Nat.ne_of_lt (Nat.lt_of_lt_of_le (lt_of_heap hc10) hb31)
    have ne41 := Nat.ne_of_lt (Nat.lt_of_lt_of_le (lt_of_heap hc16) hb31)
    replace hc4 := g37.heap hc4
    replace hc10 := g37.heap hc10
    replace hc16 := g37.heap hc16
    replace G := G.tr g37
    clear u36 g33 hb31 hc32
    refine stp (r_assign_int rfl ?_)
    refine WL_nil ?_
    refine W_seq (W_region rfl ?_)
    refine stp (r_loadAll rfl hc35 (by rfl) ?_)
    refine stp (r_move_int rfl ?_)
    refine stn (r_storeAll rfl rfl hc16 (by rfl) (by rfl) (by rfl) ?_)
    intro w42 hc43 u44
    replace hc4 := u44.heap hc4 ne19
    replace hc10 := u44.heap hc10 ne20
    replace hc35 := u44.heap hc35 ne41.symm
    replace G := G.upd u44 hge18
    clear u44 hc16
    refine stp (r_assign_int rfl ?_)
    refine WL_nil ?_
    refine W_ret ?_
    refine ret2 (res_all rfl hc43 (by rfl)) (res_tmp (v := .int .i64 ((followS s o.seg (at9 + o.data)).2)) rfl) ⟨?_, G⟩
    rw [h9]
  ·-- false
   replace h2 := of_decide_eq_false h2
   refine W_seq ?_
   refine W_seq (W_region rfl ?_)
   refine stp (r_fieldAddr rfl ?_)
   refine stp (r_load (v := .int .i64 o.size) rfl hc10 rfl ?_)
   refine stp (r_neq rfl rfl ?_)
   refine WL_nil ?_
   refine W_cond2 (b := (decide (o.size ≠ 6))) rfl (fun h3 => ?_) (fun h3 => ?_)
   ·-- true
    replace h3 := of_decide_eq_true h3
    refine W_seq (W_region rfl ?_)
    refine stp (r_build (v := .agg #[.int .i64 0, .int .i64 0, .int .i64 0, .int .i64 0, .int .i64 0, .int .i64 0, .int .i64 0]) (fun w => by kernel_rfl) ?_)
    refine stn (r_storeAll rfl rfl hc16 (by rfl) (by rfl) (by rfl) ?_)
    intro w45 hc46 u47
    replace hc4 := u47.heap hc4 ne19
    replace hc10 := u47.heap hc10 ne20
    replace G := G.upd u47 hge18
    clear u47 hc16
    refine stp (r_assign_int rfl ?_)
    refine WL_nil ?_
    refine W_ret ?_
    have h8 : stepS s o k = (o, 23) := by unfold stepS; rw [if_neg (by omega), if_neg h2, if_pos h3]
    have h9 := stepO_e h8 (by simp)
    refine ret2 (res_all rfl hc46 (by rfl)) (res_tmp (v := .int .i64 23) rfl) ⟨?_, G⟩
    rw [h9]; rfl
   ·-- false
    replace h3 := of_decide_eq_false h3
    refine W_skip ?_
    refine W_seq (W_region rfl ?_)
    refine stp (r_move_int rfl ?_)
    refine stp (r_fieldAddr rfl ?_)
    refine stp (r_load (v := .int .i64 o.count) rfl hc10 rfl ?_)
    refine stp (r_geq rfl rfl ?_)
    refine WL_nil ?_
    refine W_cond2 (b := (decide (k ≥ o.count))) rfl (fun h4 => ?_) (fun h4 => ?_)
    ·-- true
     replace h4 := of_decide_eq_true h4
     refine W_seq (W_region rfl ?_)
     refine stp (r_build (v := .agg #[.int .i64 0, .int .i64 0, .int .i64 0, .int .i64 0, .int .i64 0, .int .i64 0, .int .i64 0]) (fun w => by kernel_rfl) ?_)
     refine stn (r_storeAll rfl rfl hc16 (by rfl) (by rfl) (by rfl) ?_)
     intro w48 hc49 u50
     replace hc4 := u50.heap hc4 ne19
     replace hc10 := u50.heap hc10 ne20
     replace G := G.upd u50 hge18
     clear u50 hc16
     refine stp (r_assign_int rfl ?_)
     refine WL_nil ?_
     refine W_ret ?_
     have h8 : stepS s o k = (o, 20) := by unfold stepS; rw [if_neg (by omega), if_neg h2, if_neg h3, if_pos h4]
     have h9 := stepO_e h8 (by simp)
     refine ret2 (res_all rfl hc49 (by rfl)) (res_tmp (v := .int .i64 20) rfl) ⟨?_, G⟩
     rw [h9]; rfl
    ·-- false
     replace h4 := of_decide_eq_false h4
     have hat8 : at9 = o.at_ + k := by rw [hat9]; exact wrap_in (by simp only [inR]; omega)
     have h8 : stepS s o k = (followS s o.seg at9) := by unfold stepS; rw [if_neg (by omega), if_neg h2, if_neg h3, if_neg h4, hat8]
     have h9 := stepO_f h8
     refine W_skip ?_
     refine W_seq (W_region rfl ?_)
     refine stp (r_loadAll rfl hc4 (by rfl) ?_)
     refine stp (r_fieldAddr rfl ?_)
     refine stp (r_load (v := .int .i64 o.seg) rfl hc10 rfl ?_)
     refine stp (r_move_int rfl ?_)
     refine stp (r_gives (v := .tuple #[.agg #[.int .i64 ((followS s o.seg at9).1.kind), .int .i64 ((followS s o.seg at9).1.seg), .int .i64 ((followS s o.seg at9).1.at_), .int .i64 ((followS s o.seg at9).1.data), .int .i64 ((followS s o.seg at9).1.ptrs), .int .i64 ((followS s o.seg at9).1.size), .int .i64 ((followS s o.seg at9).1.count)], .int .i64 ((followS s o.seg at9).2)]) rfl (rfollow_calls _ (H.grow G) o.seg at9 (by simp only [inR]; omega) (by simp only [inR]; omega)) ?_)
     intro w51 g52
     replace hc4 := g52.heap hc4
     replace hc10 := g52.heap hc10
     replace hc16 := g52.heap hc16
     replace G := G.tr g52
     clear g52
     refine stp (r_move (v := .tuple #[.agg #[.int .i64 ((followS s o.seg at9).1.kind), .int .i64 ((followS s o.seg at9).1.seg), .int .i64 ((followS s o.seg at9).1.at_), .int .i64 ((followS s o.seg at9).1.data), .int .i64 ((followS s o.seg at9).1.ptrs), .int .i64 ((followS s o.seg at9).1.size), .int .i64 ((followS s o.seg at9).1.count)], .int .i64 ((followS s o.seg at9).2)]) rfl ?_)
     refine stp (r_extract (v := .agg #[.int .i64 ((followS s o.seg at9).1.kind), .int .i64 ((followS s o.seg at9).1.seg), .int .i64 ((followS s o.seg at9).1.at_), .int .i64 ((followS s o.seg at9).1.data), .int .i64 ((followS s o.seg at9).1.ptrs), .int .i64 ((followS s o.seg at9).1.size), .int .i64 ((followS s o.seg at9).1.count)]) rfl rfl ?_)
     refine stp (r_extract (v := .int .i64 ((followS s o.seg at9).2)) rfl rfl ?_)
     refine stp (r_alloc ?_)
     intro b53 w54 hb55 hc56 g57
     refine stn (r_storeAll rfl rfl hc56 (by rfl) (by rfl) (by rfl) ?_)
     intro w58 hc59 u60
     have g61 := g57.upd u60 hb55
     have hge62 := Nat.le_trans G.size hb55
     have ne63 := Nat.ne_of_lt (Nat.lt_of_lt_of_le (lt_of_heap hc4) hb55)
     have ne64 := Nat.ne_of_lt (Nat.lt_of_lt_of_le (lt_of_heap hc10) hb55)
     have ne65 := Nat.ne_of_lt (Nat.lt_of_lt_of_le (lt_of_heap hc16) hb55)
     replace hc4 := g61.heap hc4
     replace hc10 := g61.heap hc10
     replace hc16 := g61.heap hc16
     replace G := G.tr g61
     clear u60 g57 hb55 hc56
     refine stp (r_assign_int rfl ?_)
     refine WL_nil ?_
     refine W_seq (W_region rfl ?_)
     refine stp (r_loadAll rfl hc59 (by rfl) ?_)
     refine stp (r_move_int rfl ?_)
     refine stn (r_storeAll rfl rfl hc16 (by rfl) (by rfl) (by rfl) ?_)
     intro w66 hc67 u68
     replace hc4 := u68.heap hc4 ne19
     replace hc10 := u68.heap hc10 ne20
     replace hc59 := u68.heap hc59 ne65.symm
     replace G := G.upd u68 hge18
     clear u68 hc16
     refine stp (r_assign_int rfl ?_)
     refine WL_nil ?_
     refine W_ret ?_
     refine ret2 (res_all rfl hc67 (by rfl)) (res_tmp (v := .int .i64 ((followS s o.seg at9).2)) rfl) ⟨?_, G⟩
     rw [h9]

set_option maxRecDepth 100000 in
theorem rword9_calls (w : World) {ua uh : Value} {b : Bool} {A : List (List Int)} {s : Src} (H : SrcR Tryz.prog 110 w ua b uh A s) (o : Ob) (ho : ObR o) (k : Int) (k0 : 0 ≤ k) (k1 : k ≤ 9223372036854775807) : Gives Tryz.prog 107 #[.agg #[ua, .bool b, uh], .agg #[.int .i64 o.kind, .int .i64 o.seg, .int .i64 o.at_, .int .i64 o.data, .int .i64 o.ptrs, .int .i64 o.size, .int .i64 o.count], .int .i64 k] w (.tuple #[.int .u64 ((atS s o k).1), .int .i64 ((atS s o k).2)]) := by
 obtain ⟨rk, rs, ra, rd, rp, rz, rc⟩ := ho
 have G := Grow.rfl' w
 refine gives_of Tryz.func107 Tryz.ntmps107 Tryz.results107 rfl rfl ?_
 refine W_seq (W_region rfl ?_)
 refine WL_some (og rfl ?_)
 (first | refine r_box_agg rfl ?_ | refine r_box_int rfl ?_ | refine r_box_slice rfl ?_ | refine r_box rfl rfl ?_)
 intro b1 w2 hb3 hc4 g5
 have hge6 := Nat.le_trans G.size hb3
 replace G := G.tr g5
 clear g5 hb3
 refine WL_some (og rfl ?_)
 (first | refine r_box_agg rfl ?_ | refine r_box_int rfl ?_ | refine r_box_slice rfl ?_ | refine r_box rfl rfl ?_)
 intro b7 w8 hb9 hc10 g11
 have hge12 := Nat.le_trans G.size hb9
 replace hc4 := g11.heap hc4
 replace G := G.tr g11
 clear g11 hb9
 refine stp (r_assign_int rfl ?_)
 refine stp (r_assign_int rfl ?_)
 refine WL_nil ?_
 refine W_seq ?_
 refine W_seq (W_region rfl ?_)
 refine stp (r_fieldAddr rfl ?_)
 refine stp (r_load (v := .int .i64 o.kind) rfl hc10 rfl ?_)
 refine stp (r_eql rfl rfl ?_)
 refine stp (r_move_bool rfl ?_)
 refine WL_some (og_if (s := .bool (decide (o.kind = 0))) (b := false) (v := .pointer (some ⟨b7, 0, none⟩)) rfl (wgb_f _) (fun hc13 => ?_) ?_)
 ·
  have hc13_ := hc13
  try simp only [sb] at hc13_
  refine r_fieldAddr rfl ?_
  exact ⟨rfl, rfl⟩
 refine WL_some (og_if (s := .bool (decide (o.kind = 0))) (b := false) (v := .int .i64 o.kind) rfl (wgb_f _) (fun hc14 => ?_) ?_)
 ·
  have hc14_ := hc14
  try simp only [sb] at hc14_
  refine r_load (v := .int .i64 o.kind) (gvt hc14) hc10 rfl ?_
  exact ⟨rfl, rfl⟩
 refine WL_some (og_if (s := .bool (decide (o.kind = 0))) (b := false) (v := .bool (decide (o.kind = 1))) rfl (wgb_f _) (fun hc15 => ?_) ?_)
 ·
  have hc15_ := hc15
  try simp only [sb] at hc15_
  refine r_eql (gvt hc15) rfl ?_
  exact ⟨rfl, rfl⟩
 refine WL_some (og_if (s := .bool (decide (o.kind = 0))) (b := false) (v := .bool (decide (o.kind = 1))) rfl (wgb_f _) (fun hc16 => ?_) ?_)
 ·
  have hc16_ := hc16
  try simp only [sb] at hc16_
  refine r_move (v := .bool (decide (o.kind = 1))) (gvt hc16) ?_
  exact ⟨rfl, rfl⟩
 refine WL_some (og_if (s := gv (!(decide (o.kind = 0))) (.bool (decide (o.kind = 1)))) (b := true) (v := .int .i64 k) rfl (wgb_gt _ _) (fun hc17 => ?_) ?_)
 ·
  obtain ⟨hc17a, hc17b⟩ := and_t hc17
  have hc17a_ := hc17a
  try simp only [sb] at hc17a_
  have hc17b_ := of_decide_eq_true hc17b
  refine r_move_int rfl ?_
  exact ⟨rfl, rfl⟩
 refine WL_some (og_if (s := gv (!(decide (o.kind = 0))) (.bool (decide (o.kind = 1)))) (b := true) (v := .pointer (some ⟨b7, 3, none⟩)) rfl (wgb_gt _ _) (fun hc18 => ?_) ?_)
 ·
  obtain ⟨hc18a, hc18b⟩ := and_t hc18
  have hc18a_ := hc18a
  try simp only [sb] at hc18a_
  have hc18b_ := of_decide_eq_true hc18b
  refine r_fieldAddr rfl ?_
  exact ⟨rfl, rfl⟩
 refine WL_some (og_if (s := gv (!(decide (o.kind = 0))) (.bool (decide (o.kind = 1)))) (b := true) (v := .int .i64 o.data) rfl (wgb_gt _ _) (fun hc19 => ?_) ?_)
 ·
  obtain ⟨hc19a, hc19b⟩ := and_t hc19
  have hc19a_ := hc19a
  try simp only [sb] at hc19a_
  have hc19b_ := of_decide_eq_true hc19b
  refine r_load (v := .int .i64 o.data) (gvt hc19) hc10 rfl ?_
  exact ⟨rfl, rfl⟩
 refine WL_some (og_if (s := gv (!(decide (o.kind = 0))) (.bool (decide (o.kind = 1)))) (b := true) (v := .bool (decide (k ≥ o.data))) rfl (wgb_gt _ _) (fun hc20 => ?_) ?_)
 ·
  obtain ⟨hc20a, hc20b⟩ := and_t hc20
  have hc20a_ := hc20a
  try simp only [sb] at hc20a_
  have hc20b_ := of_decide_eq_true hc20b
  refine r_geq (gvt hc20) (gvt hc20) ?_
  exact ⟨rfl, rfl⟩
 refine WL_some (og_if (s := .bool (decide (o.kind = 0))) (b := false) (v := .bool ((decide (o.kind = 1)) && (decide (k ≥ o.data)))) rfl (wgb_f _) (fun hc21 => ?_) ?_)
 ·
  have hc21_ := hc21
  try simp only [sb] at hc21_
  refine r_and3 hc21 (gvt hc21) rfl rfl ?_
  exact ⟨rfl, rfl⟩
 refine stp (r_or2 rfl rfl rfl ?_)
 refine WL_nil ?_
 refine W_cond2 (b := ((decide (o.kind = 0)) || ((decide (o.kind = 1)) && (decide (k ≥ o.data))))) rfl (fun h1 => ?_) (fun h1 => ?_)
 ·-- true
  simp only [sb] at h1
  refine W_seq (W_region rfl ?_)
  refine stp (r_assign_int rfl ?_)
  refine stp (r_assign_int rfl ?_)
  refine WL_nil ?_
  refine W_ret ?_
  refine ret2 (res_tmp (v := .int .u64 0) rfl) (res_tmp (v := .int .i64 0) rfl) ⟨?_, G⟩
  have h9 : atS s o k = (0, 0) := by unfold atS; rw [if_pos (by omega)]
  rw [h9]
 ·-- false
  simp only [sb] at h1
  have h1n : ¬ (o.kind = 0 ∨ o.kind = 1 ∧ k ≥ o.data) := by omega
  refine W_skip ?_
  refine W_seq ?_
  refine W_seq (W_region rfl ?_)
  refine stp (r_fieldAddr rfl ?_)
  refine stp (r_load (v := .int .i64 o.kind) rfl hc10 rfl ?_)
  refine stp (r_eql rfl rfl ?_)
  refine WL_nil ?_
  refine W_cond2 (b := (decide (o.kind = 1))) rfl (fun h3 => ?_) (fun h3 => ?_)
  ·-- true
   replace h3 := of_decide_eq_true h3
   refine W_seq (W_region rfl ?_)
   refine stp (r_loadAll rfl hc4 (by rfl) ?_)
   refine stp (r_fieldAddr rfl ?_)
   refine stp (r_load (v := .int .i64 o.seg) rfl hc10 rfl ?_)
   refine stp (r_fieldAddr rfl ?_)
   refine stp (r_load (v := .int .i64 o.at_) rfl hc10 rfl ?_)
   refine stp (r_move_int rfl ?_)
   refine stp (r_add rfl rfl ?_ ?_); constructor <;> omega
   refine stp (r_gives (v := .tuple #[.int .u64 ((s.word o.seg (o.at_ + k)).1), .int .i64 ((s.word o.seg (o.at_ + k)).2)]) rfl (H.word _ G o.seg (o.at_ + k) (by simp only [inR]; omega) (by simp only [inR]; omega)) ?_)
   intro w22 g23
   replace hc4 := g23.heap hc4
   replace hc10 := g23.heap hc10
   replace G := G.tr g23
   clear g23
   refine stp (r_move (v := .tuple #[.int .u64 ((s.word o.seg (o.at_ + k)).1), .int .i64 ((s.word o.seg (o.at_ + k)).2)]) rfl ?_)
   refine stp (r_extract (v := .int .u64 ((s.word o.seg (o.at_ + k)).1)) rfl rfl ?_)
   refine stp (r_extract (v := .int .i64 ((s.word o.seg (o.at_ + k)).2)) rfl rfl ?_)
   refine stp (r_assign_int rfl ?_)
   refine stp (r_assign_int rfl ?_)
   refine WL_nil ?_
   refine W_seq (W_region rfl ?_)
   refine stp (r_move_int rfl ?_)
   refine stp (r_move_int rfl ?_)
   refine stp (r_assign_int rfl ?_)
   refine stp (r_assign_int rfl ?_)
   refine WL_nil ?_
   refine W_ret ?_
   refine ret2 (res_tmp (v := .int .u64 ((s.word o.seg (o.at_ + k)).1)) rfl) (res_tmp (v := .int .i64 ((s.word o.seg (o.at_ + k)).2)) rfl) ⟨?_, G⟩
   have h9 : atS s o k = s.word o.seg (o.at_ + k) := by unfold atS; rw [if_neg h1n, if_pos h3]
   rw [h9]
  ·-- false
   replace h3 := of_decide_eq_false h3
   refine W_skip ?_
   refine W_seq ?_
   refine W_seq (W_region rfl ?_)
   refine stp (r_fieldAddr rfl ?_)
   refine stp (r_load (v := .int .i64 o.size) rfl hc10 rfl ?_)
   refine stp (r_eql rfl rfl ?_)
   refine WL_nil ?_
   refine W_cond2 (b := (decide (o.size = 6))) rfl (fun h4 => ?_) (fun h4 => ?_)
   ·-- true
    replace h4 := of_decide_eq_true h4
    refine W_seq (W_region rfl ?_)
    refine stp (r_assign_int rfl ?_)
    refine stp (r_assign_int rfl ?_)
    refine WL_nil ?_
    refine W_ret ?_
    refine ret2 (res_tmp (v := .int .u64 0) rfl) (res_tmp (v := .int .i64 23) rfl) ⟨?_, G⟩
    have h9 : atS s o k = (0, 23) := by unfold atS; rw [if_neg h1n, if_neg h3, if_pos h4]
    rw [h9]
   ·-- false
    replace h4 := of_decide_eq_false h4
    refine W_skip ?_
    refine W_seq ?_
    refine W_seq (W_region rfl ?_)
    refine stp (r_move_int rfl ?_)
    refine stp (r_fieldAddr rfl ?_)
    refine stp (r_load (v := .int .i64 o.count) rfl hc10 rfl ?_)
    refine stp (r_geq rfl rfl ?_)
    refine WL_nil ?_
    refine W_cond2 (b := (decide (k ≥ o.count))) rfl (fun h5 => ?_) (fun h5 => ?_)
    ·-- true
     replace h5 := of_decide_eq_true h5
     refine W_seq (W_region rfl ?_)
     refine stp (r_assign_int rfl ?_)
     refine stp (r_assign_int rfl ?_)
     refine WL_nil ?_
     refine W_ret ?_
     refine ret2 (res_tmp (v := .int .u64 0) rfl) (res_tmp (v := .int .i64 20) rfl) ⟨?_, G⟩
     have h9 : atS s o k = (0, 20) := by unfold atS; rw [if_neg h1n, if_neg h3, if_neg h4, if_pos h5]
     rw [h9]
    ·-- false
     replace h5 := of_decide_eq_false h5
     refine W_skip ?_
     refine W_seq ?_
     refine W_seq (W_region rfl ?_)
     refine stp (r_fieldAddr rfl ?_)
     refine stp (r_load (v := .int .i64 o.size) rfl hc10 rfl ?_)
     refine stp (r_eql rfl rfl ?_)
     refine WL_nil ?_
     refine W_cond2 (b := (decide (o.size = 5))) rfl (fun h6 => ?_) (fun h6 => ?_)
     ·-- true
      replace h6 := of_decide_eq_true h6
      refine W_seq (W_region rfl ?_)
      refine stp (r_loadAll rfl hc4 (by rfl) ?_)
      refine stp (r_fieldAddr rfl ?_)
      refine stp (r_load (v := .int .i64 o.seg) rfl hc10 rfl ?_)
      refine stp (r_fieldAddr rfl ?_)
      refine stp (r_load (v := .int .i64 o.at_) rfl hc10 rfl ?_)
      refine stp (r_move_int rfl ?_)
      refine stp (r_add rfl rfl ?_ ?_); constructor <;> omega
      refine stp (r_gives (v := .tuple #[.int .u64 ((s.word o.seg (o.at_ + k)).1), .int .i64 ((s.word o.seg (o.at_ + k)).2)]) rfl (H.word _ G o.seg (o.at_ + k) (by simp only [inR]; omega) (by simp only [inR]; omega)) ?_)
      intro w24 g25
      replace hc4 := g25.heap hc4
      replace hc10 := g25.heap hc10
      replace G := G.tr g25
      clear g25
      refine stp (r_move (v := .tuple #[.int .u64 ((s.word o.seg (o.at_ + k)).1), .int .i64 ((s.word o.seg (o.at_ + k)).2)]) rfl ?_)
      refine stp (r_extract (v := .int .u64 ((s.word o.seg (o.at_ + k)).1)) rfl rfl ?_)
      refine stp (r_extract (v := .int .i64 ((s.word o.seg (o.at_ + k)).2)) rfl rfl ?_)
      refine stp (r_assign_int rfl ?_)
      refine stp (r_assign_int rfl ?_)
      refine WL_nil ?_
      refine W_seq (W_region rfl ?_)
      refine stp (r_move_int rfl ?_)
      refine stp (r_move_int rfl ?_)
      refine stp (r_assign_int rfl ?_)
      refine stp (r_assign_int rfl ?_)
      refine WL_nil ?_
      refine W_ret ?_
      refine ret2 (res_tmp (v := .int .u64 ((s.word o.seg (o.at_ + k)).1)) rfl) (res_tmp (v := .int .i64 ((s.word o.seg (o.at_ + k)).2)) rfl) ⟨?_, G⟩
      have h9 : atS s o k = s.word o.seg (o.at_ + k) := by unfold atS; rw [if_neg h1n, if_neg h3, if_neg h4, if_neg h5, if_pos h6]
      rw [h9]
     ·-- false
      replace h6 := of_decide_eq_false h6
      obtain ⟨n1, n2, -, -⟩ := H.num o.seg (o.at_ + k / 8)
      refine W_skip ?_
      refine W_seq (W_region rfl ?_)
      refine stp (r_loadAll rfl hc4 (by rfl) ?_)
      refine stp (r_fieldAddr rfl ?_)
      refine stp (r_load (v := .int .i64 o.seg) rfl hc10 rfl ?_)
      refine stp (r_fieldAddr rfl ?_)
      refine stp (r_load (v := .int .i64 o.at_) rfl hc10 rfl ?_)
      refine stp (r_move_int rfl ?_)
      refine stp (r_quo rfl rfl ?_ ?_ ?_ ?_); omega; omega; (constructor <;> omega)
      refine stp (r_add rfl rfl ?_ ?_); constructor <;> omega
      refine stp (r_gives (v := .tuple #[.int .u64 ((s.word o.seg (o.at_ + (k / 8))).1), .int .i64 ((s.word o.seg (o.at_ + (k / 8))).2)]) rfl (H.word _ G o.seg (o.at_ + (k / 8)) (by simp only [inR]; omega) (by simp only [inR]; omega)) ?_)
      intro w26 g27
      replace hc4 := g27.heap hc4
      replace hc10 := g27.heap hc10
      replace G := G.tr g27
      clear g27
      refine stp (r_move (v := .tuple #[.int .u64 ((s.word o.seg (o.at_ + (k / 8))).1), .int .i64 ((s.word o.seg (o.at_ + (k / 8))).2)]) rfl ?_)
      refine stp (r_extract (v := .int .u64 ((s.word o.seg (o.at_ + (k / 8))).1)) rfl rfl ?_)
      refine stp (r_extract (v := .int .i64 ((s.word o.seg (o.at_ + (k / 8))).2)) rfl rfl ?_)
      refine stp (r_assign_int rfl ?_)
      refine stp (r_assign_int rfl ?_)
      refine WL_nil ?_
      refine W_seq ?_
      refine W_seq (W_region rfl ?_)
      refine stp (r_assign_int rfl ?_)
      refine WL_nil ?_
      refine W_block ?_
      refine W_loop (fun m_ e_ w_ => ∃ (j : Nat), m_ = 8 - j ∧ Fr [(2, .int .i64 k), (6, .int .u64 0), (7, .int .i64 0), (13, .int .i64 ((s.word o.seg (o.at_ + (k / 8))).2)), (12, .int .u64 ((s.word o.seg (o.at_ + k / 8)).1 / 2 ^ (8 * j))), (14, .int .i64 (j : Int))] e_ ∧ ((j : Int) ≤ k % 8) ∧ (w_.heap[b1]? = some (.cells #[ua, .bool b, uh] 90 (0, 0))) ∧ (w_.heap[b7]? = some (.cells #[.int .i64 o.kind, .int .i64 o.seg, .int .i64 o.at_, .int .i64 o.data, .int .i64 o.ptrs, .int .i64 o.size, .int .i64 o.count] 93 (0, 0))) ∧ Grow w w_) _ ⟨0, rfl, fr_of ⟨rfl, rfl, rfl, rfl, congrArg (Value.int .u64) (by simp), rfl, trivial⟩, by omega, hc4, hc10, G⟩ ?_
      clear hc4 hc10
      clear G
      rintro m_ e_ w28 ⟨j, rfl, ⟨e29, rfl⟩, hj, hc4, hc10, G⟩
      have hsr := shr_range (s.word o.seg (o.at_ + k / 8)).1 j n1 n2
      refine W_seq ?_
      refine W_seq (W_region rfl ?_)
      refine stp (r_move_int rfl ?_)
      refine stp (r_move_int rfl ?_)
      refine stp (r_rem rfl rfl ?_ ?_ ?_); omega; omega
      refine stp (r_lss rfl rfl ?_)
      refine WL_nil ?_
      refine W_cond2 (b := (decide ((j : Int) < (k % 8)))) rfl (fun hlt => ?_) (fun hlt => ?_)
      ·-- true
       replace hlt := of_decide_eq_true hlt
       refine W_skip ?_
       refine W_seq ?_
       refine W_block ?_
       refine W_region rfl ?_
       refine stp (r_move_int rfl ?_)
       refine stp (r_quo rfl rfl ?_ ?_ ?_ ?_); omega; omega; (constructor <;> omega)
       refine stp (r_assign_int rfl ?_)
       refine WL_nil ?_
       refine W_region rfl ?_
       refine stp (r_move_int rfl ?_)
       refine stp (r_add rfl rfl ?_ ?_); constructor <;> omega
       refine stp (r_assign_int rfl ?_)
       refine WL_nil ?_
       refine ⟨_, ?_, j + 1, rfl, fr_of ⟨rfl, rfl, rfl, rfl, congrArg (Value.int .u64) (shr_step _ _), congrArg (Value.int .i64) (by omega), trivial⟩, by omega, hc4, hc10, G⟩
       omega
      ·-- false
       replace hlt := of_decide_eq_false hlt
       have hj9 : 8 * j = (k % 8 * 8).toNat := by omega
       rw [hj9] at hsr
       have h9 : atS s o k = ((s.word o.seg (o.at_ + k / 8)).1 / 2 ^ (8 * j) % 256, (s.word o.seg (o.at_ + k / 8)).2) := by rw [hj9]; unfold atS; rw [if_neg h1n, if_neg h3, if_neg h4, if_neg h5, if_neg h6]
       rw [← hj9] at hsr
       refine W_exit ?_
       refine W_seq (W_region rfl ?_)
       refine stp (r_move_int rfl ?_)
       refine stp (r_rem rfl rfl ?_ ?_ ?_); omega; omega
       refine stp (r_move_int rfl ?_)
       refine stp (r_assign_int rfl ?_)
       refine stp (r_assign_int rfl ?_)
       refine WL_nil ?_
       refine W_ret ?_
       refine ret2 (res_tmp (v := .int .u64 (((s.word o.seg (o.at_ + k / 8)).1 / 2 ^ (8 * j)) % 256)) rfl) (res_tmp (v := .int .i64 ((s.word o.seg (o.at_ + (k / 8))).2)) rfl) ⟨?_, G⟩
       rw [h9]

set_option maxRecDepth 100000 in
theorem rvalue9_calls (w : World) {ua uh : Value} {b : Bool} {A : List (List Int)} {s : Src} (H : SrcR Tryz.prog 110 w ua b uh A s) (o : Ob) (ho : ObR o) (k : Int) (k1 : inR .i64 k) : Gives Tryz.prog 69 #[.agg #[ua, .bool b, uh], .agg #[.int .i64 o.kind, .int .i64 o.seg, .int .i64 o.at_, .int .i64 o.data, .int .i64 o.ptrs, .int .i64 o.size, .int .i64 o.count], .int .i64 k] w (.tuple #[.agg #[.int .i64 ((valS s o k).1.kind), .int .i64 ((valS s o k).1.size), .int .i64 ((valS s o k).1.words), .int .i64 ((valS s o k).1.kids), .int .u64 ((valS s o k).1.word)], .int .i64 ((valS s o k).2)]) := by
 simp only [inR] at k1
 have G := Grow.rfl' w
 refine gives_of Tryz.func69 Tryz.ntmps69 Tryz.results69 rfl rfl ?_
 refine W_seq (W_region rfl ?_)
 refine WL_some (og rfl ?_)
 (first | refine r_box_agg rfl ?_ | refine r_box_int rfl ?_ | refine r_box_slice rfl ?_ | refine r_box rfl rfl ?_)
 intro b1 w2 hb3 hc4 g5
 have hge6 := Nat.le_trans G.size hb3
 replace G := G.tr g5
 clear g5 hb3
 refine WL_some (og rfl ?_)
 (first | refine r_box_agg rfl ?_ | refine r_box_int rfl ?_ | refine r_box_slice rfl ?_ | refine r_box rfl rfl ?_)
 intro b7 w8 hb9 hc10 g11
 have hge12 := Nat.le_trans G.size hb9
 replace hc4 := g11.heap hc4
 replace G := G.tr g11
 clear g11 hb9
 refine stp (r_alloc ?_)
 intro b13 w14 hb15 hc16 g17
 refine stp (r_assign_int rfl ?_)
 refine WL_nil ?_
 refine W_seq ?_
 refine W_seq (W_region rfl ?_)
 refine stp (r_move_int rfl ?_)
 refine stp (r_geq rfl rfl ?_)
 refine WL_nil ?_
 have hge18 := Nat.le_trans G.size hb15
 have ne19 := Nat.ne_of_lt (Nat.lt_of_lt_of_le (lt_of_heap hc4) hb15)
 have ne20 := Nat.ne_of_lt (Nat.lt_of_lt_of_le (lt_of_heap hc10) hb15)
 replace hc4 := g17.heap hc4
 replace hc10 := g17.heap hc10
 replace G := G.tr g17
 clear g17 hb15
 refine W_cond2 (b := (decide (k ≥ 0))) rfl (fun h1 => ?_) (fun h1 => ?_)
 ·-- true
  replace h1 := of_decide_eq_true h1
  refine W_seq (W_region rfl ?_)
  refine stp (r_loadAll rfl hc4 (by rfl) ?_)
  refine stp (r_loadAll rfl hc10 (by rfl) ?_)
  refine stp (r_move_int rfl ?_)
  refine stp (r_gives (v := .tuple #[.int .u64 ((atS s o k).1), .int .i64 ((atS s o k).2)]) rfl (rword9_calls _ (H.grow G) o ho k (by omega) (by omega)) ?_)
  intro w21 g22
  replace hc4 := g22.heap hc4
  replace hc10 := g22.heap hc10
  replace hc16 := g22.heap hc16
  replace G := G.tr g22
  clear g22
  refine stp (r_move (v := .tuple #[.int .u64 ((atS s o k).1), .int .i64 ((atS s o k).2)]) rfl ?_)
  refine stp (r_extract (v := .int .u64 ((atS s o k).1)) rfl rfl ?_)
  refine stp (r_extract (v := .int .i64 ((atS s o k).2)) rfl rfl ?_)
  refine stp (r_assign_int rfl ?_)
  refine stp (r_assign_int rfl ?_)
  refine WL_nil ?_
  refine W_seq ?_
  refine W_seq (W_region rfl ?_)
  refine stp (r_move_int rfl ?_)
  refine stp (r_neq rfl rfl ?_)
  refine WL_nil ?_
  refine W_cond2 (b := (decide (((atS s o k).2) ≠ 0))) rfl (fun h2 => ?_) (fun h2 => ?_)
  ·-- true
   replace h2 := of_decide_eq_true h2
   refine W_seq (W_region rfl ?_)
   refine stp (r_build (v := .agg #[.int .i64 0, .int .i64 0, .int .i64 0, .int .i64 0, .int .u64 0]) (fun w => by kernel_rfl) ?_)
   refine stp (r_move_int rfl ?_)
   refine stn (r_storeAll rfl rfl hc16 (by rfl) (by rfl) (by rfl) ?_)
   intro w23 hc24 u25
   replace hc4 := u25.heap hc4 ne19
   replace hc10 := u25.heap hc10 ne20
   replace G := G.upd u25 hge18
   clear u25 hc16
   refine stp (r_assign_int rfl ?_)
   refine WL_nil ?_
   refine W_ret ?_
   have h9 : valS s o k = (Vl0, (atS s o k).2) := by unfold valS; rw [if_neg (by omega), if_pos h2]
   refine ret2 (res_all rfl hc24 (by rfl)) (res_tmp (v := .int .i64 ((atS s o k).2)) rfl) ⟨?_, G⟩
   rw [h9] <;> rfl
  ·-- false
   replace h2 := of_decide_eq_false h2
   refine W_skip ?_
   refine W_seq (W_region rfl ?_)
   refine stp (r_fieldAddr rfl ?_)
   refine stp (r_load (v := .int .i64 o.kind) rfl hc10 rfl ?_)
   refine stp (r_move_int rfl ?_)
   refine stp (r_build (v := .agg #[.int .i64 o.kind, .int .i64 0, .int .i64 0, .int .i64 0, .int .u64 ((atS s o k).1)]) (fun w => by kernel_rfl) ?_)
   refine stn (r_storeAll rfl rfl hc16 (by rfl) (by rfl) (by rfl) ?_)
   intro w26 hc27 u28
   replace hc4 := u28.heap hc4 ne19
   replace hc10 := u28.heap hc10 ne20
   replace G := G.upd u28 hge18
   clear u28 hc16
   refine stp (r_assign_int rfl ?_)
   refine WL_nil ?_
   refine W_ret ?_
   have h9 : valS s o k = (⟨o.kind, 0, 0, 0, (atS s o k).1⟩, 0) := by unfold valS; rw [if_neg (by omega), if_neg h2]
   refine ret2 (res_all rfl hc27 (by rfl)) (res_tmp (v := .int .i64 0) rfl) ⟨?_, G⟩
   rw [h9] <;> rfl
 ·-- false
  replace h1 := of_decide_eq_false h1
  refine W_skip ?_
  refine W_seq (W_region rfl ?_)
  refine stp (r_fieldAddr rfl ?_)
  refine stp (r_load (v := .int .i64 o.kind) rfl hc10 rfl ?_)
  refine stp (r_fieldAddr rfl ?_)
  refine stp (r_load (v := .int .i64 o.size) rfl hc10 rfl ?_)
  refine stp (r_fieldAddr rfl ?_)
  refine stp (r_load (v := .int .i64 o.data) rfl hc10 rfl ?_)
  refine stp (r_fieldAddr rfl ?_)
  refine stp (r_load (v := .int .i64 o.ptrs) rfl hc10 rfl ?_)
  refine stp (r_build (v := .agg #[.int .i64 o.kind, .int .i64 o.size, .int .i64 o.data, .int .i64 o.ptrs, .int .u64 0]) (fun w => by kernel_rfl) ?_)
  refine stp (r_alloc ?_)
  intro b29 w30 hb31 hc32 g33
  refine stn (r_storeAll rfl rfl hc32 (by rfl) (by rfl) (by rfl) ?_)
  intro w34 hc35 u36
  have g37 := g33.upd u36 hb31
  have hge38 := Nat.le_trans G.size hb31
  have ne39 := Nat.ne_of_lt (Nat.lt_of_lt_of_le (lt_of_heap hc4) hb31)
  have ne40 := Nat.ne_of_lt (Nat.lt_of_lt_of_le (lt_of_heap hc10) hb31)
  have ne41 := Nat.ne_of_lt (Nat.lt_of_lt_of_le (lt_of_heap hc16) hb31)
  replace hc4 := g37.heap hc4
  replace hc10 := g37.heap hc10
  replace hc16 := g37.heap hc16
  replace G := G.tr g37
  clear u36 g33 hb31 hc32
  refine WL_nil ?_
  refine W_seq ?_
  refine W_seq (W_region rfl ?_)
  refine stp (r_fieldAddr rfl ?_)
  refine stp (r_load (v := .int .i64 o.kind) rfl hc10 rfl ?_)
  refine stp (r_eql rfl rfl ?_)
  refine stp (r_move_bool rfl ?_)
  refine WL_some (og_if (s := .bool (decide (o.kind = 2))) (b := true) (v := .pointer (some ⟨b7, 5, none⟩)) rfl (wgb_t _) (fun hc42 => ?_) ?_)
  ·
   have hc42_ := of_decide_eq_true hc42
   refine r_fieldAddr rfl ?_
   exact ⟨rfl, rfl⟩
  refine WL_some (og_if (s := .bool (decide (o.kind = 2))) (b := true) (v := .int .i64 o.size) rfl (wgb_t _) (fun hc43 => ?_) ?_)
  ·
   have hc43_ := of_decide_eq_true hc43
   refine r_load (v := .int .i64 o.size) (gvt hc43) hc10 rfl ?_
   exact ⟨rfl, rfl⟩
  refine WL_some (og_if (s := .bool (decide (o.kind = 2))) (b := true) (v := .bool (decide (o.size = 6))) rfl (wgb_t _) (fun hc44 => ?_) ?_)
  ·
   have hc44_ := of_decide_eq_true hc44
   refine r_eql (gvt hc44) rfl ?_
   exact ⟨rfl, rfl⟩
  refine stp (r_and2 rfl rfl rfl ?_)
  refine WL_nil ?_
  refine W_cond2 (b := ((decide (o.kind = 2)) && (decide (o.size = 6)))) rfl (fun h2 => ?_) (fun h2 => ?_)
  ·-- true
   simp only [sb] at h2
   refine W_region rfl ?_
   refine stp (r_fieldAddr rfl ?_)
   refine stp (r_load (v := .int .i64 o.count) rfl hc10 rfl ?_)
   refine stp (r_fieldAddr rfl ?_)
   refine stn (r_store1 (v := .int .i64 o.count) rfl rfl (by rfl) hc35 (by rfl) (by rfl) ?_)
   intro w45 hc46 u47
   replace hc4 := u47.heap hc4 ne39
   replace hc10 := u47.heap hc10 ne40
   replace hc16 := u47.heap hc16 ne41
   replace G := G.upd u47 hge38
   clear u47 hc35
   refine WL_nil ?_
   refine W_seq (W_region rfl ?_)
   refine stp (r_loadAll rfl hc46 (by rfl) ?_)
   refine stn (r_storeAll rfl rfl hc16 (by rfl) (by rfl) (by rfl) ?_)
   intro w48 hc49 u50
   replace hc4 := u50.heap hc4 ne19
   replace hc10 := u50.heap hc10 ne20
   replace hc46 := u50.heap hc46 ne41.symm
   replace G := G.upd u50 hge18
   clear u50 hc16
   refine stp (r_assign_int rfl ?_)
   refine WL_nil ?_
   refine W_ret ?_
   have h9 : valS s o k = (⟨o.kind, o.size, o.data, o.count, 0⟩, 0) := by unfold valS; rw [if_pos (by omega)]; unfold isS; rw [if_neg (by omega), if_pos (by omega)]
   refine ret2 (res_all rfl hc49 (by rfl)) (res_tmp (v := .int .i64 0) rfl) ⟨?_, G⟩
   rw [h9] <;> rfl
  ·-- false
   simp only [sb] at h2
   refine W_seq (W_region rfl ?_)
   refine stp (r_fieldAddr rfl ?_)
   refine stp (r_load (v := .int .i64 o.kind) rfl hc10 rfl ?_)
   refine stp (r_eql rfl rfl ?_)
   refine WL_nil ?_
   refine W_cond2 (b := (decide (o.kind = 2))) rfl (fun h3 => ?_) (fun h3 => ?_)
   ·-- true
    replace h3 := of_decide_eq_true h3
    refine W_region rfl ?_
    refine stp (r_fieldAddr rfl ?_)
    refine stp (r_load (v := .int .i64 o.count) rfl hc10 rfl ?_)
    refine stp (r_fieldAddr rfl ?_)
    refine stn (r_store1 (v := .int .i64 o.count) rfl rfl (by rfl) hc35 (by rfl) (by rfl) ?_)
    intro w51 hc52 u53
    replace hc4 := u53.heap hc4 ne39
    replace hc10 := u53.heap hc10 ne40
    replace hc16 := u53.heap hc16 ne41
    replace G := G.upd u53 hge38
    clear u53 hc35
    refine WL_nil ?_
    refine W_seq (W_region rfl ?_)
    refine stp (r_loadAll rfl hc52 (by rfl) ?_)
    refine stn (r_storeAll rfl rfl hc16 (by rfl) (by rfl) (by rfl) ?_)
    intro w54 hc55 u56
    replace hc4 := u56.heap hc4 ne19
    replace hc10 := u56.heap hc10 ne20
    replace hc52 := u56.heap hc52 ne41.symm
    replace G := G.upd u56 hge18
    clear u56 hc16
    refine stp (r_assign_int rfl ?_)
    refine WL_nil ?_
    refine W_ret ?_
    have h9 : valS s o k = (⟨o.kind, o.size, o.count, o.ptrs, 0⟩, 0) := by unfold valS; rw [if_pos (by omega)]; unfold isS; rw [if_pos (by omega), if_neg (by omega)]
    refine ret2 (res_all rfl hc55 (by rfl)) (res_tmp (v := .int .i64 0) rfl) ⟨?_, G⟩
    rw [h9] <;> rfl
   ·-- false
    replace h3 := of_decide_eq_false h3
    refine W_skip ?_
    refine W_seq (W_region rfl ?_)
    refine stp (r_loadAll rfl hc35 (by rfl) ?_)
    refine stn (r_storeAll rfl rfl hc16 (by rfl) (by rfl) (by rfl) ?_)
    intro w57 hc58 u59
    replace hc4 := u59.heap hc4 ne19
    replace hc10 := u59.heap hc10 ne20
    replace hc35 := u59.heap hc35 ne41.symm
    replace G := G.upd u59 hge18
    clear u59 hc16
    refine stp (r_assign_int rfl ?_)
    refine WL_nil ?_
    refine W_ret ?_
    have h9 : valS s o k = (⟨o.kind, o.size, o.data, o.ptrs, 0⟩, 0) := by unfold valS; rw [if_pos (by omega)]; unfold isS; rw [if_neg (by omega), if_neg (by omega)]
    refine ret2 (res_all rfl hc58 (by rfl)) (res_tmp (v := .int .i64 0) rfl) ⟨?_, G⟩
    rw [h9] <;> rfl

set_option maxRecDepth 100000 in
theorem rwalk9_calls (w : World) {ua uh : Value} {b : Bool} {A : List (List Int)} {s : Src} (H : SrcR Tryz.prog 110 w ua b uh A s) {ad : Option Addr} {c : Nat} {steps : List Int} {a cost : Int} (R : RowAt w 1 ad steps.length (steps.map (.int .i64))) (ha : inR .i64 a) (hc : 0 ≤ cost ∧ cost ≤ 9000000000000000000) : Gives Tryz.prog 27 #[.agg #[ua, .bool b, uh], .agg #[.slice ad steps.length c, .int .i64 a], .int .i64 cost] w (.tuple #[.agg #[.int .i64 ((walkS s steps a cost).1.kind), .int .i64 ((walkS s steps a cost).1.size), .int .i64 ((walkS s steps a cost).1.words), .int .i64 ((walkS s steps a cost).1.kids), .int .u64 ((walkS s steps a cost).1.word)], .int .i64 ((walkS s steps a cost).2)]) := by
 have ll := R.lim
 have G := Grow.rfl' w
 refine gives_of Tryz.func27 Tryz.ntmps27 Tryz.results27 rfl rfl ?_
 refine W_seq (W_region rfl ?_)
 refine WL_some (og rfl ?_)
 (first | refine r_box_agg rfl ?_ | refine r_box_int rfl ?_ | refine r_box_slice rfl ?_ | refine r_box rfl rfl ?_)
 intro b1 w2 hb3 hc4 g5
 have hge6 := Nat.le_trans G.size hb3
 replace G := G.tr g5
 clear g5 hb3
 refine WL_some (og rfl ?_)
 (first | refine r_box_agg rfl ?_ | refine r_box_int rfl ?_ | refine r_box_slice rfl ?_ | refine r_box rfl rfl ?_)
 intro b7 w8 hb9 hc10 g11
 have hge12 := Nat.le_trans G.size hb9
 replace hc4 := g11.heap hc4
 replace G := G.tr g11
 clear g11 hb9
 refine stp (r_alloc ?_)
 intro b13 w14 hb15 hc16 g17
 refine stp (r_assign_int rfl ?_)
 refine WL_nil ?_
 refine W_seq ?_
 refine W_seq (W_region rfl ?_)
 refine stp (r_assign_int rfl ?_)
 refine WL_nil ?_
 refine W_block ?_
 have hge18 := Nat.le_trans G.size hb15
 have ne19 := Nat.ne_of_lt (Nat.lt_of_lt_of_le (lt_of_heap hc4) hb15)
 have ne20 := Nat.ne_of_lt (Nat.lt_of_lt_of_le (lt_of_heap hc10) hb15)
 replace hc4 := g17.heap hc4
 replace hc10 := g17.heap hc10
 replace G := G.tr g17
 clear g17 hb15
 refine W_loop (fun m_ e_ w_ => ∃ (k : Nat), m_ = steps.length - k ∧ Fr [(2, .int .i64 cost), (3, .pointer (some ⟨b1, 0, none⟩)), (4, .pointer (some ⟨b7, 0, none⟩)), (6, .pointer (some ⟨b13, 0, none⟩)), (8, .int .i64 (k : Int))] e_ ∧ (k ≤ steps.length) ∧ (∀ j, j < k → 0 ≤ steps.getD j 0) ∧ (w_.heap[b1]? = some (.cells #[ua, .bool b, uh] 90 (0, 0))) ∧ (w_.heap[b7]? = some (.cells #[.slice ad steps.length c, .int .i64 a] 29 (0, 0))) ∧ (w_.heap[b13]? = some (.cells #[.int .i64 0, .int .i64 0, .int .i64 0, .int .i64 0, .int .u64 0] 35 (0, 0))) ∧ Grow w w_) _ ⟨0, rfl, fr_of ⟨rfl, rfl, rfl, rfl, rfl, trivial⟩, by omega, fun j hj => by omega, hc4, hc10, hc16, G⟩ ?_
 clear hc4 hc10 hc16
 clear G
 rintro m_ e_ w21 ⟨k, rfl, ⟨e22, rfl⟩, hk2, hnn, hc4, hc10, hc16, G⟩
 refine W_seq ?_
 refine W_seq (W_region rfl ?_)
 refine stp (r_move_int rfl ?_)
 refine stp (r_fieldAddr rfl ?_)
 refine stp (r_load (v := .slice ad steps.length c) rfl hc10 rfl ?_)
 refine stp (r_len rfl rfl rfl ?_)
 refine stp (r_lss rfl rfl ?_)
 refine WL_nil ?_
 refine W_cond2 (b := (decide ((k : Int) < (steps.length : Int)))) rfl (fun hlt1 => ?_) (fun hlt1 => ?_)
 ·-- true
  replace hlt1 := of_decide_eq_true hlt1
  have hi : k < steps.length := by omega
  refine W_skip ?_
  refine W_seq ?_
  refine W_block ?_
  refine W_seq (W_region rfl ?_)
  refine stp (r_fieldAddr rfl ?_)
  refine stp (r_load (v := .slice ad steps.length c) rfl hc10 rfl ?_)
  refine stp (r_move_int rfl ?_)
  refine stp (r_indexN (R.grow G) rfl rfl ?_ ?_); omega
  refine stp (r_loadR (v := .int .i64 (steps.getD k 0)) (m := 0) (R.grow G) rfl (map_get1 0 (by omega)) ?_)
  refine stp (r_lss rfl rfl ?_)
  refine WL_nil ?_
  refine W_cond2 (b := (decide ((steps.getD k 0) < 0))) rfl (fun h2 => ?_) (fun h2 => ?_)
  ·-- true
   replace h2 := of_decide_eq_true h2
   refine W_seq (W_region rfl ?_)
   refine stp (r_build (v := .agg #[.int .i64 0, .int .i64 0, .int .i64 0, .int .i64 0, .int .u64 0]) (fun w => by kernel_rfl) ?_)
   refine stn (r_storeAll rfl rfl hc16 (by rfl) (by rfl) (by rfl) ?_)
   intro w23 hc24 u25
   replace hc4 := u25.heap hc4 ne19
   replace hc10 := u25.heap hc10 ne20
   replace G := G.upd u25 hge18
   clear u25 hc16
   refine stp (r_assign_int rfl ?_)
   refine WL_nil ?_
   refine W_ret ?_
   have h9 : (walkS s steps a cost) = (Vl0, 1) := by unfold walkS; rw [if_pos ⟨_, getD_mem hi, h2⟩]
   refine ret2 (res_all rfl hc24 (by rfl)) (res_tmp (v := .int .i64 1) rfl) ⟨?_, G⟩
   rw [h9] <;> rfl
  ·-- false
   replace h2 := of_decide_eq_false h2
   refine W_skip ?_
   refine W_region rfl ?_
   refine stp (r_move_int rfl ?_)
   refine stp (r_add rfl rfl ?_ ?_); constructor <;> omega
   refine stp (r_assign_int rfl ?_)
   refine WL_nil ?_
   refine ⟨_, ?_, k + 1, rfl, fr_of ⟨rfl, rfl, rfl, rfl, rfl, trivial⟩, by omega, fun j hj => by rcases Nat.lt_succ_iff_lt_or_eq.1 hj with h_ | h_; exact hnn j h_; subst h_; omega, hc4, hc10, hc16, G⟩
   omega
 ·-- false
  replace hlt1 := of_decide_eq_false hlt1
  replace hnn : ∀ j, j < steps.length → 0 ≤ steps.getD j 0 := fun j hj => hnn j (by omega)
  have hno : ¬ ∃ k ∈ steps, k < 0 := fun ⟨x_, hx_, hlt_⟩ => by obtain ⟨j_, hj_, he_⟩ := List.getElem_of_mem hx_; have := hnn j_ hj_; rw [getD_at hj_] at this; omega
  refine W_exit ?_
  refine W_seq ?_
  refine W_seq (W_region rfl ?_)
  refine stp (r_fieldAddr rfl ?_)
  refine stp (r_load (v := .slice ad steps.length c) rfl hc10 rfl ?_)
  refine stp (r_len rfl rfl rfl ?_)
  refine stp (r_gtr rfl rfl ?_)
  refine WL_nil ?_
  refine W_cond2 (b := (decide ((steps.length : Int) > 32))) rfl (fun h3 => ?_) (fun h3 => ?_)
  ·-- true
   replace h3 := of_decide_eq_true h3
   refine W_seq (W_region rfl ?_)
   refine stp (r_build (v := .agg #[.int .i64 0, .int .i64 0, .int .i64 0, .int .i64 0, .int .u64 0]) (fun w => by kernel_rfl) ?_)
   refine stn (r_storeAll rfl rfl hc16 (by rfl) (by rfl) (by rfl) ?_)
   intro w26 hc27 u28
   replace hc4 := u28.heap hc4 ne19
   replace hc10 := u28.heap hc10 ne20
   replace G := G.upd u28 hge18
   clear u28 hc16
   refine stp (r_assign_int rfl ?_)
   refine WL_nil ?_
   refine W_ret ?_
   have h9 : (walkS s steps a cost) = (Vl0, 3) := by unfold walkS; rw [if_neg hno, if_pos h3]
   refine ret2 (res_all rfl hc27 (by rfl)) (res_tmp (v := .int .i64 3) rfl) ⟨?_, G⟩
   rw [h9] <;> rfl
  ·-- false
   replace h3 := of_decide_eq_false h3
   have hw0 := tail_walk (s := s) (a := a) hno h3 hc.1
   have ho0 := H.follow_range 0 0
   refine W_skip ?_
   refine W_seq (W_region rfl ?_)
   refine stp (r_loadAll rfl hc4 (by rfl) ?_)
   refine stp (r_gives (v := .tuple #[.agg #[.int .i64 ((followS s 0 0).1.kind), .int .i64 ((followS s 0 0).1.seg), .int .i64 ((followS s 0 0).1.at_), .int .i64 ((followS s 0 0).1.data), .int .i64 ((followS s 0 0).1.ptrs), .int .i64 ((followS s 0 0).1.size), .int .i64 ((followS s 0 0).1.count)], .int .i64 ((followS s 0 0).2)]) rfl (rfollow_calls _ (H.grow G) 0 0 (by simp [inR]) (by simp [inR])) ?_)
   intro w29 g30
   replace hc4 := g30.heap hc4
   replace hc10 := g30.heap hc10
   replace hc16 := g30.heap hc16
   replace G := G.tr g30
   clear g30
   refine stp (r_move (v := .tuple #[.agg #[.int .i64 ((followS s 0 0).1.kind), .int .i64 ((followS s 0 0).1.seg), .int .i64 ((followS s 0 0).1.at_), .int .i64 ((followS s 0 0).1.data), .int .i64 ((followS s 0 0).1.ptrs), .int .i64 ((followS s 0 0).1.size), .int .i64 ((followS s 0 0).1.count)], .int .i64 ((followS s 0 0).2)]) rfl ?_)
   refine stp (r_extract (v := .agg #[.int .i64 ((followS s 0 0).1.kind), .int .i64 ((followS s 0 0).1.seg), .int .i64 ((followS s 0 0).1.at_), .int .i64 ((followS s 0 0).1.data), .int .i64 ((followS s 0 0).1.ptrs), .int .i64 ((followS s 0 0).1.size), .int .i64 ((followS s 0 0).1.count)]) rfl rfl ?_)
   refine stp (r_extract (v := .int .i64 ((followS s 0 0).2)) rfl rfl ?_)
   refine stp (r_alloc ?_)
   intro b31 w32 hb33 hc34 g35
   refine stn (r_storeAll rfl rfl hc34 (by rfl) (by rfl) (by rfl) ?_)
   intro w36 hc37 u38
   have g39 := g35.upd u38 hb33
   have hge40 := Nat.le_trans G.size hb33
   have ne41 := Nat.ne_of_lt (Nat.lt_of_lt_of_le (lt_of_heap hc4) hb33)
   have ne42 := Nat.ne_of_lt (Nat.lt_of_lt_of_le (lt_of_heap hc10) hb33)
   have ne43 := Nat.ne_of_lt (Nat.lt_of_lt_of_le (lt_of_heap hc16) hb33)
   replace hc4 := g39.heap hc4
   replace hc10 := g39.heap hc10
   replace hc16 := g39.heap hc16
   replace G := G.tr g39
   clear u38 g35 hb33 hc34
   refine stp (r_assign_int rfl ?_)
   refine WL_nil ?_
   refine W_seq (W_region rfl ?_)
   refine stp (r_assign_int rfl ?_)
   refine WL_nil ?_
   refine W_seq ?_
   refine W_seq (W_region rfl ?_)
   refine stp (r_assign_int rfl ?_)
   refine WL_nil ?_
   refine W_block ?_
   refine W_loop (fun m_ e_ w_ => ∃ (i : Nat) (o : Ob) (e : Int) (paid : Int), m_ = steps.length + 1 - i ∧ Fr [(2, .int .i64 cost), (3, .pointer (some ⟨b1, 0, none⟩)), (4, .pointer (some ⟨b7, 0, none⟩)), (6, .pointer (some ⟨b13, 0, none⟩)), (9, .pointer (some ⟨b31, 0, none⟩)), (12, .int .i64 (i : Int)), (10, .int .i64 e), (11, .int .i64 paid)] e_ ∧ (i ≤ steps.length + 1) ∧ (ObR o) ∧ (0 ≤ paid ∧ paid ≤ 536870913 * (i : Int)) ∧ (i ≤ steps.length → (walkS s steps a cost) = tailW s steps a cost i o e paid) ∧ (i = steps.length + 1 → (walkS s steps a cost) = valS s o a) ∧ (w_.heap[b1]? = some (.cells #[ua, .bool b, uh] 90 (0, 0))) ∧ (w_.heap[b7]? = some (.cells #[.slice ad steps.length c, .int .i64 a] 29 (0, 0))) ∧ (w_.heap[b13]? = some (.cells #[.int .i64 0, .int .i64 0, .int .i64 0, .int .i64 0, .int .u64 0] 35 (0, 0))) ∧ (w_.heap[b31]? = some (.cells #[.int .i64 o.kind, .int .i64 o.seg, .int .i64 o.at_, .int .i64 o.data, .int .i64 o.ptrs, .int .i64 o.size, .int .i64 o.count] 93 (0, 0))) ∧ Grow w w_) _ ⟨0, (followS s 0 0).1, (followS s 0 0).2, 0, rfl, fr_of ⟨rfl, rfl, rfl, rfl, rfl, rfl, rfl, rfl, trivial⟩, by omega, ho0, by omega, fun _ => hw0, fun h_ => by omega, hc4, hc10, hc16, hc37, G⟩ ?_
   clear hc4 hc10 hc16 hc37
   clear G
   rintro m_ e_ w44 ⟨i, o, e, paid, rfl, ⟨e45, rfl⟩, hi1, ho, hpd, hw, hv0, hc4, hc10, hc16, hc37, G⟩
   have hwo := wordsO_range ho
   refine W_seq ?_
   refine W_seq (W_region rfl ?_)
   refine stp (r_move_int rfl ?_)
   refine stp (r_fieldAddr rfl ?_)
   refine stp (r_load (v := .slice ad steps.length c) rfl hc10 rfl ?_)
   refine stp (r_len rfl rfl rfl ?_)
   refine stp (r_leq rfl rfl ?_)
   refine WL_nil ?_
   refine W_cond2 (b := (decide ((i : Int) ≤ (steps.length : Int)))) rfl (fun hlt => ?_) (fun hlt => ?_)
   ·-- true
    replace hlt := of_decide_eq_true hlt
    have hil : i ≤ steps.length := by omega
    have hw1 := hw hil
    refine W_skip ?_
    refine W_seq ?_
    refine W_block ?_
    refine W_seq ?_
    refine W_seq (W_region rfl ?_)
    refine stp (r_move_int rfl ?_)
    refine stp (r_neq rfl rfl ?_)
    refine WL_nil ?_
    refine W_cond2 (b := (decide (e ≠ 0))) rfl (fun he => ?_) (fun he => ?_)
    ·-- true
     replace he := of_decide_eq_true he
     refine W_seq (W_region rfl ?_)
     refine stp (r_build (v := .agg #[.int .i64 0, .int .i64 0, .int .i64 0, .int .i64 0, .int .u64 0]) (fun w => by kernel_rfl) ?_)
     refine stp (r_move_int rfl ?_)
     refine stn (r_storeAll rfl rfl hc16 (by rfl) (by rfl) (by rfl) ?_)
     intro w46 hc47 u48
     replace hc4 := u48.heap hc4 ne19
     replace hc10 := u48.heap hc10 ne20
     replace hc37 := u48.heap hc37 ne43.symm
     replace G := G.upd u48 hge18
     clear u48 hc16
     refine stp (r_assign_int rfl ?_)
     refine WL_nil ?_
     refine W_ret ?_
     have h9 : (walkS s steps a cost) = (Vl0, e) := by rw [hw1]; unfold tailW; rw [if_pos he]
     refine ret2 (res_all rfl hc47 (by rfl)) (res_tmp (v := .int .i64 e) rfl) ⟨?_, G⟩
     rw [h9] <;> rfl
    ·-- false
     replace he := of_decide_eq_false he
     have he9 : e = 0 := by omega
     subst he9
     refine W_skip ?_
     refine W_seq (W_region rfl ?_)
     refine stp (r_move_int rfl ?_)
     refine stp (r_loadAll rfl hc37 (by rfl) ?_)
     refine stp (r_gives (v := .int .i64 (wordsO o)) rfl (rowords_calls _ o) ?_)
     intro w49 g50
     replace hc4 := g50.heap hc4
     replace hc10 := g50.heap hc10
     replace hc16 := g50.heap hc16
     replace hc37 := g50.heap hc37
     replace G := G.tr g50
     clear g50
     refine stp (r_add rfl rfl ?_ ?_); constructor <;> omega
     refine stp (r_add rfl rfl ?_ ?_); constructor <;> omega
     refine stp (r_assign_int rfl ?_)
     refine WL_nil ?_
     refine W_seq ?_
     refine W_seq (W_region rfl ?_)
     refine stp (r_move_int rfl ?_)
     refine stp (r_move_int rfl ?_)
     refine stp (r_gtr rfl rfl ?_)
     refine WL_nil ?_
     refine W_cond2 (b := (decide ((paid + (1 + (wordsO o))) > cost))) rfl (fun h7 => ?_) (fun h7 => ?_)
     ·-- true
      replace h7 := of_decide_eq_true h7
      refine W_seq (W_region rfl ?_)
      refine stp (r_build (v := .agg #[.int .i64 0, .int .i64 0, .int .i64 0, .int .i64 0, .int .u64 0]) (fun w => by kernel_rfl) ?_)
      refine stn (r_storeAll rfl rfl hc16 (by rfl) (by rfl) (by rfl) ?_)
      intro w51 hc52 u53
      replace hc4 := u53.heap hc4 ne19
      replace hc10 := u53.heap hc10 ne20
      replace hc37 := u53.heap hc37 ne43.symm
      replace G := G.upd u53 hge18
      clear u53 hc16
      refine stp (r_assign_int rfl ?_)
      refine WL_nil ?_
      refine W_ret ?_
      have h9 : (walkS s steps a cost) = (Vl0, 22) := by rw [hw1]; unfold tailW; rw [if_neg (by simp), if_pos (by omega)]
      refine ret2 (res_all rfl hc52 (by rfl)) (res_tmp (v := .int .i64 22) rfl) ⟨?_, G⟩
      rw [h9] <;> rfl
     ·-- false
      replace h7 := of_decide_eq_false h7
      have hnv : ¬ (paid + (1 + wordsO o)) > cost := by omega
      refine W_skip ?_
      refine W_seq (W_region rfl ?_)
      refine stp (r_move_int rfl ?_)
      refine stp (r_fieldAddr rfl ?_)
      refine stp (r_load (v := .slice ad steps.length c) rfl hc10 rfl ?_)
      refine stp (r_len rfl rfl rfl ?_)
      refine stp (r_lss rfl rfl ?_)
      refine WL_nil ?_
      refine W_cond2 (b := (decide ((i : Int) < (steps.length : Int)))) rfl (fun h8 => ?_) (fun h8 => ?_)
      ·-- true
       replace h8 := of_decide_eq_true h8
       have hi : i < steps.length := by omega
       have hkk := hnn i hi
       have hso := H.stepO_range o (steps.getD i 0)
       have hw2 := tail_next (s := s) (a := a) hi hnv
       have hsz54 : w49.heap.size ≤ w49.heap.size := Nat.le_refl _
       have ltf54_hc4 := lt_of_heap hc4
       have ltf54_hc10 := lt_of_heap hc10
       have ltf54_hc16 := lt_of_heap hc16
       have ltf54_hc37 := lt_of_heap hc37
       have hgz54 := G.size
       refine W_seq ?_
       have kb_hc4 : ∀ w_, (ktR 93 w49.heap.size).r w49 w_ → w_.heap[b1]? = some (.cells #[ua, .bool b, uh] 90 (0, 0)) := fun w_ k_ => (KtP.to_grow k_ (Grow.rfl' _)).heap hc4
       have kb_hc10 : ∀ w_, (ktR 93 w49.heap.size).r w49 w_ → w_.heap[b7]? = some (.cells #[.slice ad steps.length c, .int .i64 a] 29 (0, 0)) := fun w_ k_ => (KtP.to_grow k_ (Grow.rfl' _)).heap hc10
       have kb_hc16 : ∀ w_, (ktR 93 w49.heap.size).r w49 w_ → w_.heap[b13]? = some (.cells #[.int .i64 0, .int .i64 0, .int .i64 0, .int .i64 0, .int .u64 0] 35 (0, 0)) := fun w_ k_ => (KtP.to_grow k_ (Grow.rfl' _)).heap hc16
       have kb_hc37 : ∀ w_, (ktR 93 w49.heap.size).r w49 w_ → w_.heap[b31]? = some (.cells #[.int .i64 o.kind, .int .i64 o.seg, .int .i64 o.at_, .int .i64 o.data, .int .i64 o.ptrs, .int .i64 o.size, .int .i64 o.count] 93 (0, 0)) := fun w_ k_ => (KtP.to_grow k_ (Grow.rfl' _)).heap hc37
       have kb_hsz54 : ∀ w_, (ktR 93 w49.heap.size).r w49 w_ → w49.heap.size ≤ w_.heap.size := fun w_ k_ => Nat.le_trans hsz54 (KtP.to_grow k_ (Grow.rfl' _)).size
       have kb_G : ∀ w_, (ktR 93 w49.heap.size).r w49 w_ → Grow w w_ := fun w_ k_ => G.tr (KtP.to_grow k_ (Grow.rfl' _))
       refine W_anyU 13 [[], [], [], [0], [], [2, 1, 0], [3, 2, 1, 0], [6, 5, 4, 3, 2, 1, 0], [7, 6, 5, 4, 3, 2, 1, 0], [8, 7, 6, 5, 4, 3, 2, 1, 0], [9, 8, 7, 6, 5, 4, 3, 2, 1], [], [11, 10, 9, 8, 7, 6, 5, 4, 3, 2, 0]] [12] [13] (grQ (ktR 93 w49.heap.size)) (fun k_ e_ w_ => match k_ with | 0 => True | _ => ∃ b : Nat, e_ 13 = .pointer (some ⟨b, 0, none⟩) ∧ w49.heap.size ≤ b ∧ w_.heap[b]? = some (.cells #[.int .i64 ((stepO s o (steps.getD i 0)).1.kind), .int .i64 ((stepO s o (steps.getD i 0)).1.seg), .int .i64 ((stepO s o (steps.getD i 0)).1.at_), .int .i64 ((stepO s o (steps.getD i 0)).1.data), .int .i64 ((stepO s o (steps.getD i 0)).1.ptrs), .int .i64 ((stepO s o (steps.getD i 0)).1.size), .int .i64 ((stepO s o (steps.getD i 0)).1.count)] 93 (0, 0))) mixed (by kernel_rfl) (by kernel_rfl) (by kernel_rfl) (by kernel_rfl) (by kernel_rfl) (fun k_ _ _ _ g_ h_ => match k_, h_ with | 0, _ => trivial | _ + 1, ⟨b_, h1_, h2_, h3_⟩ => ⟨b_, h1_, h2_, g_.heap h3_⟩) (fun k_ _ _ _ hu_ h_ => match k_, h_ with | 0, _ => trivial | _ + 1, ⟨b_, h1_, h2_, h3_⟩ => ⟨b_, (hu_ _ (by simp)).symm.trans h1_, h2_, h3_⟩) (fun _ _ _ h_ => h_) (fun _ _ => trivial) ?_
       intro w55 g56
       replace kb_hc4 : ∀ w_, (ktR 93 w49.heap.size).r w55 w_ → w_.heap[b1]? = some (.cells #[ua, .bool b, uh] 90 (0, 0)) := fun w_ k_ => kb_hc4 w_ ((ktR 93 w49.heap.size).tr ((ktR 93 w49.heap.size).grow g56) k_)
       replace kb_hc10 : ∀ w_, (ktR 93 w49.heap.size).r w55 w_ → w_.heap[b7]? = some (.cells #[.slice ad steps.length c, .int .i64 a] 29 (0, 0)) := fun w_ k_ => kb_hc10 w_ ((ktR 93 w49.heap.size).tr ((ktR 93 w49.heap.size).grow g56) k_)
       replace kb_hc16 : ∀ w_, (ktR 93 w49.heap.size).r w55 w_ → w_.heap[b13]? = some (.cells #[.int .i64 0, .int .i64 0, .int .i64 0, .int .i64 0, .int .u64 0] 35 (0, 0)) := fun w_ k_ => kb_hc16 w_ ((ktR 93 w49.heap.size).tr ((ktR 93 w49.heap.size).grow g56) k_)
       replace kb_hc37 : ∀ w_, (ktR 93 w49.heap.size).r w55 w_ → w_.heap[b31]? = some (.cells #[.int .i64 o.kind, .int .i64 o.seg, .int .i64 o.at_, .int .i64 o.data, .int .i64 o.ptrs, .int .i64 o.size, .int .i64 o.count] 93 (0, 0)) := fun w_ k_ => kb_hc37 w_ ((ktR 93 w49.heap.size).tr ((ktR 93 w49.heap.size).grow g56) k_)
       replace kb_hsz54 : ∀ w_, (ktR 93 w49.heap.size).r w55 w_ → w49.heap.size ≤ w_.heap.size := fun w_ k_ => kb_hsz54 w_ ((ktR 93 w49.heap.size).tr ((ktR 93 w49.heap.size).grow g56) k_)
       replace kb_G : ∀ w_, (ktR 93 w49.heap.size).r w55 w_ → Grow w w_ := fun w_ k_ => kb_G w_ ((ktR 93 w49.heap.size).tr ((ktR 93 w49.heap.size).grow g56) k_)
       have k0_ : (ktR 93 w49.heap.size).r w49 w55 := ((ktR 93 w49.heap.size).grow g56)
       apply AOU_ex (hm := by rfl)
       ·intro w_ g_; refine og rfl ?_; refine r_loadAll rfl (kb_hc4 _ g_) (by rfl) ?_; exact ⟨Grow.rfl' _, rfl⟩
       apply AOU_ex (hm := by rfl)
       ·intro w_ g_; refine og rfl ?_; refine r_loadAll rfl (kb_hc37 _ g_) (by rfl) ?_; exact ⟨Grow.rfl' _, rfl⟩
       apply AOU_ex (hm := by rfl)
       ·intro w_ g_; refine og rfl ?_; refine r_fieldAddr rfl ?_; exact ⟨Grow.rfl' _, rfl⟩
       apply AOU_ex (hm := by rfl)
       ·intro w_ g_; refine og rfl ?_; refine r_load (v := .slice ad steps.length c) rfl (kb_hc10 _ g_) rfl ?_; exact ⟨Grow.rfl' _, rfl⟩
       apply AOU_ex (hm := by rfl)
       ·intro w_ g_; refine og rfl ?_; refine r_move_int rfl ?_; exact ⟨Grow.rfl' _, rfl⟩
       apply AOU_ex (hm := by rfl)
       ·intro w_ g_; refine og rfl ?_; refine r_indexN (R.grow (kb_G _ g_)) rfl rfl ?_ ?_; omega; exact ⟨Grow.rfl' _, rfl⟩
       apply AOU_ex (hm := by rfl)
       ·intro w_ g_; refine og rfl ?_; refine r_loadR (v := .int .i64 (steps.getD i 0)) (m := 0) (R.grow (kb_G _ g_)) rfl (map_get1 0 (by omega)) ?_; exact ⟨Grow.rfl' _, rfl⟩
       apply AOU_ex (hm := by rfl)
       ·intro w_ g_; refine og rfl ?_; exact r_gives (v := .tuple #[.agg #[.int .i64 ((stepO s o (steps.getD i 0)).1.kind), .int .i64 ((stepO s o (steps.getD i 0)).1.seg), .int .i64 ((stepO s o (steps.getD i 0)).1.at_), .int .i64 ((stepO s o (steps.getD i 0)).1.data), .int .i64 ((stepO s o (steps.getD i 0)).1.ptrs), .int .i64 ((stepO s o (steps.getD i 0)).1.size), .int .i64 ((stepO s o (steps.getD i 0)).1.count)], .int .i64 ((stepO s o (steps.getD i 0)).2)]) rfl (rstep9_calls _ (H.grow (kb_G _ g_)) o ho (steps.getD i 0) hkk) (fun w2_ g2_ => ⟨g2_, rfl⟩)
       apply AOU_ex (hm := by rfl)
       ·intro w_ g_; refine og rfl ?_; refine r_move (v := .tuple #[.agg #[.int .i64 ((stepO s o (steps.getD i 0)).1.kind), .int .i64 ((stepO s o (steps.getD i 0)).1.seg), .int .i64 ((stepO s o (steps.getD i 0)).1.at_), .int .i64 ((stepO s o (steps.getD i 0)).1.data), .int .i64 ((stepO s o (steps.getD i 0)).1.ptrs), .int .i64 ((stepO s o (steps.getD i 0)).1.size), .int .i64 ((stepO s o (steps.getD i 0)).1.count)], .int .i64 ((stepO s o (steps.getD i 0)).2)]) rfl ?_; exact ⟨Grow.rfl' _, rfl⟩
       apply AOU_ex (hm := by rfl)
       ·intro w_ g_; refine og rfl ?_; refine r_extract (v := .agg #[.int .i64 ((stepO s o (steps.getD i 0)).1.kind), .int .i64 ((stepO s o (steps.getD i 0)).1.seg), .int .i64 ((stepO s o (steps.getD i 0)).1.at_), .int .i64 ((stepO s o (steps.getD i 0)).1.data), .int .i64 ((stepO s o (steps.getD i 0)).1.ptrs), .int .i64 ((stepO s o (steps.getD i 0)).1.size), .int .i64 ((stepO s o (steps.getD i 0)).1.count)]) rfl rfl ?_; exact ⟨Grow.rfl' _, rfl⟩
       apply AOU_ex (hm := by rfl)
       ·intro w_ g_; refine og rfl ?_; refine r_extract (v := .int .i64 ((stepO s o (steps.getD i 0)).2)) rfl rfl ?_; exact ⟨Grow.rfl' _, rfl⟩
       refine AOU_so (fun w_ v_ => ∃ b cs, v_ = .pointer (some ⟨b, 0, none⟩) ∧ w49.heap.size ≤ b ∧ cs.size = 7 ∧ w_.heap[b]? = some (.cells cs 93 (0, 0))) (fun _ _ _ g_ ⟨b, cs, h1_, h2_, h3_, h4_⟩ => by obtain ⟨cs2, h5_, h6_⟩ := KtP.new g_ b cs h4_; exact ⟨b, cs2, h1_, h2_, h5_.trans h3_, h6_⟩) (by rfl) ?_ ?_
       ·intro w_ g_
        refine og rfl ?_
        refine r_alloc ?_
        intro b_ w2_ hb_ hc_ g2_
        exact ⟨g2_, b_, _, rfl, Nat.le_trans (kb_hsz54 _ g_) hb_, rfl, hc_⟩
       apply AOU_mut 0 (hm := by rfl)
       ·intro w_ g_
        intro v11_ hv11_
        intro s_
        show OpG _ _ _ _ _ _
        refine og rfl ?_
        obtain ⟨b_, cs_, rfl, hge_, hsz_, hb_⟩ := hv11_
        refine r_storeAll rfl rfl hb_ (by rfl) hsz_ (by rfl) ?_
        intro w2_ s2_ u_
        exact ⟨KtP.of_upd u_ hge_ hb_ s2_ hsz_.symm, ⟨b_, rfl, hge_, s2_⟩, rfl⟩
       refine AOU_nil ?_
       intro w57 g58
       replace k0_ := ((ktR 93 w49.heap.size).tr k0_ g58)
       replace hc4 := kb_hc4 _ g58
       clear kb_hc4
       replace hc10 := kb_hc10 _ g58
       clear kb_hc10
       replace hc16 := kb_hc16 _ g58
       clear kb_hc16
       replace hc37 := kb_hc37 _ g58
       clear kb_hc37
       replace hsz54 := kb_hsz54 _ g58
       clear kb_hsz54
       replace G := kb_G _ g58
       clear kb_G
       intro v_x54 hv_x54
       rintro ⟨bx54, hbe54, hge54, hc54⟩
       have hbv54 : v_x54 = .pointer (some ⟨bx54, 0, none⟩) := hbe54
       subst hbv54
       clear hv_x54 hbe54
       have hgx54 := Nat.le_trans hgz54 hge54
       refine stp (r_assign_int rfl ?_)
       refine WL_nil ?_
       refine W_seq (W_region rfl ?_)
       refine stp (r_loadAll rfl hc54 (by rfl) ?_)
       refine stn (r_storeAll rfl rfl hc37 (by rfl) (by rfl) (by rfl) ?_)
       intro w59 hc60 u61
       replace hc4 := u61.heap hc4 ne41
       replace hc10 := u61.heap hc10 ne42
       replace hc16 := u61.heap hc16 ne43
       replace hc54 := u61.heap hc54 (Nat.ne_of_lt (Nat.lt_of_lt_of_le ltf54_hc37 hge54)).symm
       replace G := G.upd u61 hge40
       clear u61 hc37
       refine WL_nil ?_
       refine W_region rfl ?_
       refine stp (r_move_int rfl ?_)
       refine stp (r_assign_int rfl ?_)
       refine WL_nil ?_
       refine W_region rfl ?_
       refine stp (r_move_int rfl ?_)
       refine stp (r_add rfl rfl ?_ ?_); constructor <;> omega
       refine stp (r_assign_int rfl ?_)
       refine WL_nil ?_
       refine ⟨_, ?_, i + 1, (stepO s o (steps.getD i 0)).1, (stepO s o (steps.getD i 0)).2, (paid + (1 + wordsO o)), rfl, fr_of ⟨rfl, rfl, rfl, rfl, rfl, congrArg (Value.int .i64) (by omega), rfl, rfl, trivial⟩, by omega, hso, by omega, fun _ => by rw [hw1]; exact hw2, fun h_ => by omega, hc4, hc10, hc16, hc60, G⟩
       omega
      ·-- false
       replace h8 := of_decide_eq_false h8
       have hi9 : i = steps.length := by omega
       refine W_skip ?_
       refine W_region rfl ?_
       refine stp (r_move_int rfl ?_)
       refine stp (r_add rfl rfl ?_ ?_); constructor <;> omega
       refine stp (r_assign_int rfl ?_)
       refine WL_nil ?_
       refine ⟨_, ?_, i + 1, o, 0, (paid + (1 + wordsO o)), rfl, fr_of ⟨rfl, rfl, rfl, rfl, rfl, congrArg (Value.int .i64) (by omega), rfl, rfl, trivial⟩, by omega, ho, by omega, fun h_ => by omega, fun _ => by rw [hw1, hi9]; exact tail_end hnv, hc4, hc10, hc16, hc37, G⟩
       omega
   ·-- false
    replace hlt := of_decide_eq_false hlt
    have hv := hv0 (by omega)
    refine W_exit ?_
    refine W_seq (W_region rfl ?_)
    refine stp (r_loadAll rfl hc4 (by rfl) ?_)
    refine stp (r_loadAll rfl hc37 (by rfl) ?_)
    refine stp (r_fieldAddr rfl ?_)
    refine stp (r_load (v := .int .i64 a) rfl hc10 rfl ?_)
    refine stp (r_gives (v := .tuple #[.agg #[.int .i64 ((valS s o a).1.kind), .int .i64 ((valS s o a).1.size), .int .i64 ((valS s o a).1.words), .int .i64 ((valS s o a).1.kids), .int .u64 ((valS s o a).1.word)], .int .i64 ((valS s o a).2)]) rfl (rvalue9_calls _ (H.grow G) o ho a ha) ?_)
    intro w62 g63
    replace hc4 := g63.heap hc4
    replace hc10 := g63.heap hc10
    replace hc16 := g63.heap hc16
    replace hc37 := g63.heap hc37
    replace G := G.tr g63
    clear g63
    refine stp (r_move (v := .tuple #[.agg #[.int .i64 ((valS s o a).1.kind), .int .i64 ((valS s o a).1.size), .int .i64 ((valS s o a).1.words), .int .i64 ((valS s o a).1.kids), .int .u64 ((valS s o a).1.word)], .int .i64 ((valS s o a).2)]) rfl ?_)
    refine stp (r_extract (v := .agg #[.int .i64 ((valS s o a).1.kind), .int .i64 ((valS s o a).1.size), .int .i64 ((valS s o a).1.words), .int .i64 ((valS s o a).1.kids), .int .u64 ((valS s o a).1.word)]) rfl rfl ?_)
    refine stp (r_extract (v := .int .i64 ((valS s o a).2)) rfl rfl ?_)
    refine stp (r_alloc ?_)
    intro b64 w65 hb66 hc67 g68
    refine stn (r_storeAll rfl rfl hc67 (by rfl) (by rfl) (by rfl) ?_)
    intro w69 hc70 u71
    have g72 := g68.upd u71 hb66
    have hge73 := Nat.le_trans G.size hb66
    have ne74 := Nat.ne_of_lt (Nat.lt_of_lt_of_le (lt_of_heap hc4) hb66)
    have ne75 := Nat.ne_of_lt (Nat.lt_of_lt_of_le (lt_of_heap hc10) hb66)
    have ne76 := Nat.ne_of_lt (Nat.lt_of_lt_of_le (lt_of_heap hc16) hb66)
    have ne77 := Nat.ne_of_lt (Nat.lt_of_lt_of_le (lt_of_heap hc37) hb66)
    replace hc4 := g72.heap hc4
    replace hc10 := g72.heap hc10
    replace hc16 := g72.heap hc16
    replace hc37 := g72.heap hc37
    replace G := G.tr g72
    clear u71 g68 hb66 hc67
    refine stp (r_assign_int rfl ?_)
    refine WL_nil ?_
    refine W_seq (W_region rfl ?_)
    refine stp (r_loadAll rfl hc70 (by rfl) ?_)
    refine stp (r_move_int rfl ?_)
    refine stn (r_storeAll rfl rfl hc16 (by rfl) (by rfl) (by rfl) ?_)
    intro w78 hc79 u80
    replace hc4 := u80.heap hc4 ne19
    replace hc10 := u80.heap hc10 ne20
    replace hc37 := u80.heap hc37 ne43.symm
    replace hc70 := u80.heap hc70 ne76.symm
    replace G := G.upd u80 hge18
    clear u80 hc16
    refine stp (r_assign_int rfl ?_)
    refine WL_nil ?_
    refine W_ret ?_
    refine ret2 (res_all rfl hc79 (by rfl)) (res_tmp (v := .int .i64 ((valS s o a).2)) rfl) ⟨?_, G⟩
    rw [hv]

set_option maxRecDepth 100000 in
theorem rof9_calls (w : World) {u : Value} {A : List (List Int)} (hA : ArenaR w u A) (hr : rightB A = true) (hx : AllU A) {ad : Option Addr} {c : Nat} {steps : List Int} {a cost : Int} (R : RowAt w 1 ad steps.length (steps.map (.int .i64))) (ha : inR .i64 a) (hc : 0 ≤ cost ∧ cost ≤ 9000000000000000000) : Gives Tryz.prog 11 #[u, .agg #[.slice ad steps.length c, .int .i64 a], .int .i64 cost] w (.tuple #[.agg #[.int .i64 ((walkS (wholeS A) steps a cost).1.kind), .int .i64 ((walkS (wholeS A) steps a cost).1.size), .int .i64 ((walkS (wholeS A) steps a cost).1.words), .int .i64 ((walkS (wholeS A) steps a cost).1.kids), .int .u64 ((walkS (wholeS A) steps a cost).1.word)], .int .i64 ((walkS (wholeS A) steps a cost).2)]) := by
 have hA0 := hA
 obtain ⟨r1, r2, r3, r4⟩ := of_decide_eq_true hr
 have hl : ∀ i, len2 A i ≤ 140737488355328 := fun i => by have := seg_le_total A i; omega
 obtain ⟨ada, ca, segs, sa, sc, rfl, hca, hca2, RA, hsf, hrf⟩ := hA.fn
 have G := Grow.rfl' w
 refine gives_of Tryz.func11 Tryz.ntmps11 Tryz.results11 rfl rfl ?_
 refine W_seq (W_region rfl ?_)
 refine WL_some (og rfl ?_)
 (first | refine r_box_agg rfl ?_ | refine r_box_int rfl ?_ | refine r_box_slice rfl ?_ | refine r_box rfl rfl ?_)
 intro b1 w2 hb3 hc4 g5
 have hge6 := Nat.le_trans G.size hb3
 replace G := G.tr g5
 clear g5 hb3
 refine stp (r_alloc ?_)
 intro b7 w8 hb9 hc10 g11
 refine stp (r_assign_int rfl ?_)
 refine WL_nil ?_
 refine W_seq ?_
 refine W_seq (W_region rfl ?_)
 refine stp (r_move_slice rfl ?_)
 have hge12 := Nat.le_trans G.size hb9
 have ne13 := Nat.ne_of_lt (Nat.lt_of_lt_of_le (lt_of_heap hc4) hb9)
 replace hc4 := g11.heap hc4
 replace G := G.tr g11
 clear g11 hb9
 refine stp (r_gives (v := .bool true) rfl (gives_eq (rright7_calls _ (hA0.grow G) (by omega)) (y := .bool true) (by rw [hr])) ?_)
 intro w14 g15
 replace hc4 := g15.heap hc4
 replace hc10 := g15.heap hc10
 replace G := G.tr g15
 clear g15
 refine stp (r_not_f rfl rfl ?_)
 refine WL_nil ?_
 refine W_false rfl ?_
 refine W_skip ?_
 refine W_seq (W_region rfl ?_)
 refine stp (r_move_slice rfl ?_)
 refine stp (r_build (v := .agg #[.slice ada A.length ca, .bool false, .slice none 0 0]) (fun w => by kernel_rfl) ?_)
 refine stp (r_loadAll rfl hc4 (by rfl) ?_)
 refine stp (r_move_int rfl ?_)
 refine stp (r_gives (v := .tuple #[.agg #[.int .i64 ((walkS (wholeS A) steps a cost).1.kind), .int .i64 ((walkS (wholeS A) steps a cost).1.size), .int .i64 ((walkS (wholeS A) steps a cost).1.words), .int .i64 ((walkS (wholeS A) steps a cost).1.kids), .int .u64 ((walkS (wholeS A) steps a cost).1.word)], .int .i64 ((walkS (wholeS A) steps a cost).2)]) rfl (rwalk9_calls _ (srcR_whole (uh := .slice none 0 0) (hA0.grow G) (by omega) hx hl) (R.grow G) ha hc) ?_)
 intro w16 g17
 replace hc4 := g17.heap hc4
 replace hc10 := g17.heap hc10
 replace G := G.tr g17
 clear g17
 refine stp (r_move (v := .tuple #[.agg #[.int .i64 ((walkS (wholeS A) steps a cost).1.kind), .int .i64 ((walkS (wholeS A) steps a cost).1.size), .int .i64 ((walkS (wholeS A) steps a cost).1.words), .int .i64 ((walkS (wholeS A) steps a cost).1.kids), .int .u64 ((walkS (wholeS A) steps a cost).1.word)], .int .i64 ((walkS (wholeS A) steps a cost).2)]) rfl ?_)
 refine stp (r_extract (v := .agg #[.int .i64 ((walkS (wholeS A) steps a cost).1.kind), .int .i64 ((walkS (wholeS A) steps a cost).1.size), .int .i64 ((walkS (wholeS A) steps a cost).1.words), .int .i64 ((walkS (wholeS A) steps a cost).1.kids), .int .u64 ((walkS (wholeS A) steps a cost).1.word)]) rfl rfl ?_)
 refine stp (r_extract (v := .int .i64 ((walkS (wholeS A) steps a cost).2)) rfl rfl ?_)
 refine stp (r_alloc ?_)
 intro b18 w19 hb20 hc21 g22
 refine stn (r_storeAll rfl rfl hc21 (by rfl) (by rfl) (by rfl) ?_)
 intro w23 hc24 u25
 have g26 := g22.upd u25 hb20
 have hge27 := Nat.le_trans G.size hb20
 have ne28 := Nat.ne_of_lt (Nat.lt_of_lt_of_le (lt_of_heap hc4) hb20)
 have ne29 := Nat.ne_of_lt (Nat.lt_of_lt_of_le (lt_of_heap hc10) hb20)
 replace hc4 := g26.heap hc4
 replace hc10 := g26.heap hc10
 replace G := G.tr g26
 clear u25 g22 hb20 hc21
 refine stp (r_assign_int rfl ?_)
 refine WL_nil ?_
 refine W_seq (W_region rfl ?_)
 refine stp (r_loadAll rfl hc24 (by rfl) ?_)
 refine stp (r_move_int rfl ?_)
 refine stn (r_storeAll rfl rfl hc10 (by rfl) (by rfl) (by rfl) ?_)
 intro w30 hc31 u32
 replace hc4 := u32.heap hc4 ne13
 replace hc24 := u32.heap hc24 ne29.symm
 replace G := G.upd u32 hge12
 clear u32 hc10
 refine stp (r_assign_int rfl ?_)
 refine WL_nil ?_
 refine W_ret ?_
 refine ret2 (res_all rfl hc31 (by rfl)) (res_tmp (v := .int .i64 ((walkS (wholeS A) steps a cost).2)) rfl) ⟨?_, G⟩
 rfl
end Go.Proofs.YtifhcfhdajkhlaaGreat.K

namespace Go.Proofs.YtifhcfhdajkhlaaGreat.K
open Go Go.RowKit
/-- The same words, but for those that are not there. -/
structure LeS (s s' : Src) : Prop where
  sizes : s.sizes = s'.sizes
  word : ∀ seg a, s.word seg a = s'.word seg a ∨ (s.word seg a).2 = 30
section
variable {s s' : Src}
theorem LeS.found (h : LeS s s') (p : Pt) (seg a : Int) : foundS s p seg a = foundS s' p seg a := by unfold foundS; rw [h.sizes]
end
/-! ### the words of an arena, one behind the other -/
theorem flat_get : ∀ (A : List (List Int)) (i j : Nat), i < A.length → j < len2 A i → (A.flatten).getD (j + (totalP (A.take i)).toNat) 0 = (A.getD i []).getD j 0
  | [], i, j, h, _ => by simp at h
  | s :: A, 0, j, _, hj => by
    simp only [len2, List.getD_cons_zero] at hj
    simp only [List.take_zero, totalP, Int.toNat_zero, Nat.add_zero, List.flatten_cons, List.getD_cons_zero]
    rw [List.getD_eq_getElem?_getD, List.getD_eq_getElem?_getD, List.getElem?_append_left hj]
  | s :: A, i + 1, j, h, hj => by
    have hj' : j < len2 A i := by simpa [len2] using hj
    have ih := flat_get A i j (by simpa using h) hj'
    have hn := totalP_nn (A.take i)
    simp only [List.take_succ_cons, totalP, List.flatten_cons, List.getD_cons_succ]
    rw [← ih, List.getD_eq_getElem?_getD, List.getD_eq_getElem?_getD, List.getElem?_append_right (by omega), show j + ((s.length : Int) + totalP (A.take i)).toNat - s.length = j + (totalP (A.take i)).toNat from by omega]
theorem place_arena {A : List (List Int)} (h : rightB A = true) (seg a : Int) : (placeM (sizesP A) seg a < 0 ∧ wordA A seg a = (0, 20)) ∨ ∃ k : Nat, placeM (sizesP A) seg a = (k : Int) ∧ k < A.flatten.length ∧ wordA A seg a = (A.flatten.getD k 0, 0) := by
  have hf : fitsL (sizesP A) = true := by rw [fits_right]; exact h
  have hsl := sizesP_len A
  have hg := sizesP_at A seg.toNat
  by_cases hc : 0 ≤ seg ∧ seg < A.length ∧ 0 ≤ a ∧ a < len2 A seg.toNat
  · right
    have hp : placeM (sizesP A) seg a = a + sumL ((sizesP A).take seg.toNat) := by unfold placeM; rw [if_pos ⟨hf, by omega, by omega, by omega, by omega⟩]
    have hst : sumL ((sizesP A).take seg.toNat) = totalP (A.take seg.toNat) := by
      rw [← sumL_sizes]; unfold sizesP; rw [List.map_take]
    have hn := totalP_nn (A.take seg.toNat)
    have hfg := flat_get A seg.toNat a.toNat (by omega) (by omega)
    have hl := (placeM_lt (sz := sizesP A) (seg := seg) (a := a) (by omega)).2.2.2.2.2.2
    have hw := (words_arena h).1
    refine ⟨a.toNat + (totalP (A.take seg.toNat)).toNat, by omega, by omega, ?_⟩
    unfold wordA
    rw [if_pos hc, hfg]
  · left
    refine ⟨?_, by unfold wordA; rw [if_neg hc]⟩
    unfold placeM
    rw [if_neg (by omega)]
    decide
theorem le_whole {A : List (List Int)} {wl kb : List Int} (h : rightB A = true) (H : InvA A wl kb) : LeS (srcP (sizesP A) wl kb) (wholeS A) := by
  refine ⟨rfl, fun seg a => ?_⟩
  show srcW (sizesP A) wl kb seg a = wordA A seg a ∨ (srcW (sizesP A) wl kb seg a).2 = 30
  unfold srcW
  rcases place_arena h seg a with ⟨h1, h2⟩ | ⟨k, h1, h2, h3⟩
  · left; rw [if_pos h1, h2]
  · rw [if_neg (by omega), show (placeM (sizesP A) seg a).toNat = k from by omega, h3]
    have hat := H.at_ k (by rw [H.len]; exact h2)
    split
    · rename_i hb; left; rw [hat, if_pos hb]
    · right; rfl
/-- What a part holds when it was filled as choices say. -/
def fillWK (A : List (List Int)) : List Int → List Int × List Int
  | [] => (List.replicate (wordsM (sizesP A)) 0, List.replicate ((chunksM (sizesP A) + 7) / 8) 0)
  | x :: xs => (putW (sizesP A) (fillWK A xs).1 (fillWK A xs).2 ((x % (chunksM (sizesP A) : Int)).toNat : Nat) (chunkA A (x % (chunksM (sizesP A) : Int)).toNat), putK (sizesP A) (fillWK A xs).2 ((x % (chunksM (sizesP A) : Int)).toNat : Nat) (chunkA A (x % (chunksM (sizesP A) : Int)).toNat).length)
theorem fill_inv {A : List (List Int)} (h : rightB A = true) (hu : AllU A) : ∀ xs, FilA A xs.reverse (fillWK A xs).1 (fillWK A xs).2
  | [] => FilA.nil h
  | x :: xs => by
    have hc := (words_arena h).2
    have h0 := Int.emod_nonneg x (show (chunksM (sizesP A) : Int) ≠ 0 by omega)
    have h1 := Int.emod_lt_of_pos x (show 0 < (chunksM (sizesP A) : Int) by omega)
    rw [List.reverse_cons]
    exact (fill_inv h hu xs).snoc h hu (q := (x % (chunksM (sizesP A) : Int)).toNat) (by omega) (by omega)
theorem fill_eq {A : List (List Int)} {xs wl kb : List Int} (h : rightB A = true) (hu : AllU A) (F : FilA A xs wl kb) : wl = (fillWK A xs).1 ∧ kb = (fillWK A xs).2 := F.same (fill_inv h hu xs) (fun x => List.mem_reverse.symm)
theorem own_kt {T T2 : TypeId} {base base2 n sz : Nat} {w w' : World} {v : Value} {xs : List Value} (h : w.ownsRow base T2 sz v n xs) (k : KtP T base2 w w') (hT : T2 ≠ T) : w'.ownsRow base T2 sz v n xs := by
  refine ⟨h.1, ?_⟩
  rcases h.2 with hn | ⟨q, cap, cur, rfl, hb, hg, rest⟩
  · exact .inl hn
  · exact .inr ⟨q, cap, cur, rfl, hb, k.heap hg hT, rest⟩
theorem PartR.kt {TP TI TW TB T : TypeId} {w w' : World} {base base2 b g h : Nat} {ses sum : Int} {sz wl kb : List Int} (H : PartR TP TI TW TB w base b g h ses sum sz wl kb) (k : KtP T base2 w w') (h1 : TP ≠ T) (h2 : TI ≠ T) (h3 : TW ≠ T) (h4 : TB ≠ T) : PartR TP TI TW TB w' base b g h ses sum sz wl kb := by
  obtain ⟨a1, a2, a3, a4, a5, a6, ads, cs, cw, ck, hB, oS, oW, oK⟩ := H
  exact ⟨a1, a2, a3, a4, a5, a6, ads, cs, cw, ck, k.heap hB h1, own_kt oS k h2, own_kt oW k h3, own_kt oK k h4⟩
end Go.Proofs.YtifhcfhdajkhlaaGreat.K

namespace Go.Proofs.YtifhcfhdajkhlaaGreat.K
open Go Go.RowKit
abbrev Spn := Int × Int
def encS (s : Spn) : List Value := [.int .i64 s.1, .int .i64 s.2]
def encL (L : List Spn) : List Value := L.flatMap encS
theorem encL_len (L : List Spn) : (encL L).length = L.length * 2 := by
  induction L with
  | nil => rfl
  | cons s L ih => simp only [encL, List.flatMap_cons, List.length_append, List.length_cons] at ih ⊢; rw [ih]; simp [encS]; omega
theorem encL_append (A B : List Spn) : encL (A ++ B) = encL A ++ encL B := by simp [encL]
theorem encL_at : ∀ {L : List Spn} {i : Nat} (h : i < L.length), ((encL L).drop (i * 2)).take 2 = encS L[i]
  | [], i, h => by simp at h
  | s :: L, 0, _ => by simp [encL, encS]
  | s :: L, i + 1, h => by
    have := encL_at (L := L) (i := i) (by simpa using h)
    rw [show (i + 1) * 2 = i * 2 + 1 + 1 from by omega]
    simpa [encL, encS] using this
theorem encL_one {L : List Spn} : ∀ q ∈ encL L, q.oneCell' = true := by
  intro q hq
  obtain ⟨s, -, h⟩ := List.mem_flatMap.1 hq
  simp only [encS, List.mem_cons, List.not_mem_nil, or_false] at h
  rcases h with rfl | rfl <;> rfl
def noneS (s : Spn) : Bool := decide (s.2 ≤ s.1)
/-- Is a place there? -/
def inS (L : List Spn) (n : Int) : Prop := ∃ s ∈ L, s.1 ≤ n ∧ n < s.2
theorem inS_cons (s : Spn) (L : List Spn) (n : Int) : inS (s :: L) n ↔ (s.1 ≤ n ∧ n < s.2) ∨ inS L n := by simp [inS]
theorem inS_append (A B : List Spn) (n : Int) : inS (A ++ B) n ↔ inS A n ∨ inS B n := by
  unfold inS
  constructor
  · rintro ⟨s, h, h2⟩
    rcases List.mem_append.1 h with h | h
    · exact .inl ⟨s, h, h2⟩
    · exact .inr ⟨s, h, h2⟩
  · rintro (⟨s, h, h2⟩ | ⟨s, h, h2⟩)
    · exact ⟨s, List.mem_append_left _ h, h2⟩
    · exact ⟨s, List.mem_append_right _ h, h2⟩
/-- They rise, apart. -/
def RightS : List Spn → Prop
  | [] => True
  | s :: L => s.1 < s.2 ∧ (∀ t ∈ L, s.2 < t.1) ∧ RightS L
/-! ### Norm: what is sorted is joined; the last one is at the list's head here -/
/-- Norm: right, and the same places. -/
structure NormOf (L N : List Spn) : Prop where
  right : RightS N
  pts : ∀ n, inS N n ↔ inS L n
/-! ### holes -/
end Go.Proofs.YtifhcfhdajkhlaaGreat.K

namespace Go.Proofs.YtifhcfhdajkhlaaGreat.K
open Go Go.RowKit
theorem encL_get {L : List Spn} {i c : Nat} (hi : i < L.length) (hc : c < 2) : (encL L)[i * 2 + c]? = (encS L[i])[c]? := by
  have := congrArg (fun l : List Value => l[c]?) (encL_at hi)
  simp only [List.getElem?_take, hc, if_true, List.getElem?_drop] at this
  exact this
theorem own_lenS {w : World} {base n m c sz : Nat} {T : TypeId} {ad : Option Addr} {xs : List Value} (h : w.ownsRow base T sz (.slice ad n c) m xs) : n = m := by
  rcases h.2 with ⟨hv, hm⟩ | ⟨q, cap, cur, hv, _⟩
  · simp only [Value.slice.injEq] at hv
    omega
  · simp only [Value.slice.injEq] at hv
    exact hv.2.1
abbrev gS (L : List Spn) (i : Nat) : Spn := L.getD i (0, 0)
theorem gS_get {L : List Spn} {i : Nat} (h : i < L.length) : gS L i = L[i] := by simp [gS, List.getD_eq_getElem?_getD, h]
theorem row_gS {w : World} {ad : Option Addr} {n i : Nat} {L : List Spn} (R : RowAt w 2 ad n (encL L)) (h : i < n) : ((encL L).drop (i * 2)).take 2 = [.int .i64 (gS L i).1, .int .i64 (gS L i).2] := by
  have hl := R.len
  rw [encL_len] at hl
  rw [encL_at (show i < L.length by omega), gS_get (show i < L.length by omega)]; rfl
theorem row_gS0 {w : World} {ad : Option Addr} {n i : Nat} {L : List Spn} (R : RowAt w 2 ad n (encL L)) (h : i < n) : (encL L)[i * 2]? = some (.int .i64 (gS L i).1) := by
  have hl := R.len
  rw [encL_len] at hl
  have := encL_get (L := L) (i := i) (c := 0) (by omega) (by omega)
  rw [gS_get (show i < L.length by omega)]; exact this
theorem row_gS1 {w : World} {ad : Option Addr} {n i : Nat} {L : List Spn} (R : RowAt w 2 ad n (encL L)) (h : i < n) : (encL L)[i * 2 + 1]? = some (.int .i64 (gS L i).2) := by
  have hl := R.len
  rw [encL_len] at hl
  have := encL_get (L := L) (i := i) (c := 1) (by omega) (by omega)
  rw [gS_get (show i < L.length by omega)]; exact this
theorem row_lenS {w : World} {ad : Option Addr} {n : Nat} {L : List Spn} (R : RowAt w 2 ad n (encL L)) : L.length = n := by
  have hl := R.len
  rw [encL_len] at hl
  omega
theorem RightS.mem : ∀ {N : List Spn}, RightS N → ∀ s ∈ N, s.1 < s.2
  | t :: N, h, s, hs => by
    rcases List.mem_cons.1 hs with rfl | hs
    · exact h.1
    · exact RightS.mem h.2.2 s hs
theorem NormOf.ends {L N : List Spn} (h : NormOf L N) {lo hi : Int} (hL : ∀ s ∈ L, lo ≤ s.1 ∧ s.2 ≤ hi) : ∀ s ∈ N, lo ≤ s.1 ∧ s.2 ≤ hi := by
  intro s hs
  have hlt := h.right.mem s hs
  obtain ⟨t, ht, h1, h2⟩ := (h.pts s.1).1 ⟨s, hs, Int.le_refl _, hlt⟩
  obtain ⟨u, hu, h3, h4⟩ := (h.pts (s.2 - 1)).1 ⟨s, hs, by omega, by omega⟩
  have h5 := hL t ht
  have h6 := hL u hu
  omega
def addG : List Spn → Spn → Bool → List Spn
  | [], s, laid => if laid then [] else [s]
  | t :: r, s, laid => if t.2 < s.1 then t :: addG r s laid else if t.1 > s.2 then (if laid then t :: addG r s laid else s :: t :: addG r s true) else addG r (min s.1 t.1, max s.2 t.2) laid
def addS (L : List Spn) (s : Spn) : List Spn := if noneS s then L else addG L s false
theorem addG_laid : ∀ {L : List Spn} {s : Spn}, RightS L → s.1 < s.2 → (∀ t ∈ L, s.2 < t.1) → addG L s true = L
  | [], _, _, _, _ => rfl
  | t :: r, s, h, hs, hl => by
    have h1 := hl t (by simp)
    have h2 := h.1
    rw [addG, if_neg (by omega), if_pos h1, if_pos rfl, addG_laid h.2.2 hs (fun u hu => hl u (by simp [hu]))]
theorem addG_ok : ∀ {L : List Spn} {s : Spn}, RightS L → s.1 < s.2 → RightS (addG L s false) ∧ (∀ n, inS (addG L s false) n ↔ inS L n ∨ (s.1 ≤ n ∧ n < s.2)) ∧ ∀ b, (b < s.1 ∧ ∀ t ∈ L, b < t.1) → ∀ t ∈ addG L s false, b < t.1
  | [], s, h, hs => by
    simp only [addG, Bool.false_eq_true, if_false]
    exact ⟨⟨hs, fun t ht => by simp at ht, trivial⟩, fun n => by simp [inS], fun b hb t ht => by simp at ht; subst ht; exact hb.1⟩
  | t :: r, s, h, hs => by
    obtain ⟨h1, h2, h3⟩ := h
    rw [addG]
    by_cases c1 : t.2 < s.1
    · rw [if_pos c1]
      obtain ⟨g1, g2, g3⟩ := addG_ok h3 hs
      refine ⟨⟨h1, g3 t.2 ⟨c1, h2⟩, g1⟩, fun n => ?_, fun b hb u hu => ?_⟩
      · rw [inS_cons, g2, inS_cons, or_assoc]
      · rcases List.mem_cons.1 hu with rfl | hu
        · exact hb.2 u (by simp)
        · exact g3 b ⟨hb.1, fun v hv => hb.2 v (by simp [hv])⟩ u hu
    · rw [if_neg c1]
      by_cases c2 : t.1 > s.2
      · rw [if_pos c2, if_neg (by simp), addG_laid h3 hs (fun u hu => by have := h2 u hu; omega)]
        refine ⟨⟨hs, fun u hu => ?_, h1, h2, h3⟩, fun n => ?_, fun b hb u hu => ?_⟩
        · rcases List.mem_cons.1 hu with rfl | hu
          · exact c2
          · have := h2 u hu; omega
        · rw [inS_cons s]; exact or_comm
        · rcases List.mem_cons.1 hu with rfl | hu
          · exact hb.1
          · exact hb.2 u hu
      · rw [if_neg c2]
        obtain ⟨g1, g2, g3⟩ := addG_ok (s := (min s.1 t.1, max s.2 t.2)) h3 (by simp only []; omega)
        refine ⟨g1, fun n => ?_, fun b hb u hu => ?_⟩
        · rw [g2, inS_cons]
          simp only []
          constructor
          · rintro (g | g)
            · exact .inl (.inr g)
            · by_cases hn : t.1 ≤ n ∧ n < t.2
              · exact .inl (.inl hn)
              · exact .inr (by omega)
          · rintro ((g | g) | g)
            · exact .inr (by omega)
            · exact .inl g
            · exact .inr (by omega)
        · have hbt := hb.2 t (by simp)
          exact g3 b ⟨by simp only []; omega, fun v hv => hb.2 v (by simp [hv])⟩ u hu
theorem addS_of {L O : List Spn} {s : Spn} (h : NormOf L O) : NormOf (L ++ [s]) (addS O s) := by
  unfold addS noneS
  by_cases hs : s.2 ≤ s.1
  · rw [if_pos (by simpa using hs)]
    refine ⟨h.right, fun n => ?_⟩
    rw [h.pts, inS_append]
    exact ⟨.inl, fun g => g.elim id fun ⟨u, hu, g1, g2⟩ => by simp at hu; subst hu; omega⟩
  · rw [if_neg (by simpa using hs)]
    obtain ⟨g1, g2, -⟩ := addG_ok h.right (show s.1 < s.2 by omega)
    refine ⟨g1, fun n => ?_⟩
    rw [g2, h.pts, inS_append]
    simp [inS]
theorem norm_nil : NormOf [] [] := ⟨trivial, fun _ => Iff.rfl⟩
theorem addG_len : ∀ (L : List Spn) (s : Spn) (b : Bool), (addG L s b).length ≤ L.length + 1
  | [], s, b => by unfold addG; cases b <;> simp
  | t :: r, s, b => by
    have h1 := fun s b => addG_len r s b
    unfold addG
    split
    · simp only [List.length_cons]; have := h1 s b; omega
    · split
      · split
        · simp only [List.length_cons]; have := h1 s b; omega
        · rename_i h2 h3
          simp only [List.length_cons]
          have hl : ∀ (r : List Spn) (s : Spn), (addG r s true).length ≤ r.length := by
            intro r
            induction r with
            | nil => intro s; simp [addG]
            | cons u r ih =>
              intro s
              unfold addG
              split
              · simp only [List.length_cons]; have := ih s; omega
              · split
                · simp only [if_true, List.length_cons]; have := ih s; omega
                · have := ih (min s.1 u.1, max s.2 u.2); simp only [List.length_cons]; omega
          have := hl r s
          omega
      · have := h1 (min s.1 t.1, max s.2 t.2) b; simp only [List.length_cons]; omega
theorem addS_len (L : List Spn) (s : Spn) : (addS L s).length ≤ L.length + 1 := by
  unfold addS
  split
  · omega
  · exact addG_len _ _ _
theorem own_snoc {w : World} {base : Nat} {T : TypeId} {v : Value} {O : List Spn} {s : Spn} (h : w.ownsRow base T 2 v (O.length + 1) (encL O ++ [.int .i64 s.1, .int .i64 s.2])) : w.ownsRow base T 2 v (O ++ [s]).length (encL (O ++ [s])) := by
  rw [List.length_append, encL_append]
  exact h
theorem addG_drop {L : List Spn} {k : Nat} (h : k < L.length) (s : Spn) (b : Bool) : addG (L.drop k) s b = if (gS L k).2 < s.1 then gS L k :: addG (L.drop (k + 1)) s b else if (gS L k).1 > s.2 then (if b then gS L k :: addG (L.drop (k + 1)) s b else s :: gS L k :: addG (L.drop (k + 1)) s true) else addG (L.drop (k + 1)) (min s.1 (gS L k).1, max s.2 (gS L k).2) b := by
  rw [List.drop_eq_getElem_cons h, gS_get h, addG]
def nrm (L : List Spn) : List Spn := L.foldl addS []
theorem nrm_nil : nrm [] = [] := rfl
theorem nrm_snoc (L : List Spn) (s : Spn) : nrm (L ++ [s]) = addS (nrm L) s := by unfold nrm; rw [List.foldl_append]; rfl
theorem nrm_step {L : List Spn} {k : Nat} (h : k < L.length) : addS (nrm (L.take k)) (gS L k) = nrm (L.take (k + 1)) := by
  rw [List.take_succ_eq_append_getElem h, nrm_snoc, gS_get h]
theorem nrm_take : ∀ (L : List Spn) (k : Nat), k ≤ L.length → NormOf (L.take k) (nrm (L.take k)) ∧ (nrm (L.take k)).length ≤ k
  | L, 0, _ => by rw [List.take_zero]; exact ⟨norm_nil, Nat.le_refl _⟩
  | L, k + 1, h => by
    obtain ⟨h1, h2⟩ := nrm_take L k (by omega)
    have h3 := addS_len (nrm (L.take k)) (gS L k)
    rw [← nrm_step (show k < L.length by omega)]
    refine ⟨?_, by omega⟩
    rw [List.take_succ_eq_append_getElem (show k < L.length by omega), ← gS_get]
    exact addS_of h1
theorem nrm_of (L : List Spn) : NormOf L (nrm L) := by have := (nrm_take L L.length (Nat.le_refl _)).1; rwa [List.take_length] at this
theorem nrm_len (L : List Spn) : (nrm L).length ≤ L.length := by have := (nrm_take L L.length (Nat.le_refl _)).2; rwa [List.take_length] at this
end Go.Proofs.YtifhcfhdajkhlaaGreat.K

namespace Go.Proofs.YtifhcfhdajkhlaaGreat.K
open Go Go.RowKit
def pwT (A : List (List Int)) (seg a : Int) : Pt := decP (wordA A seg a).1
def noteT (A : List (List Int)) (l : List Spn) (seg a : Int) : List Spn := if placeM (sizesP A) seg a < 0 then l else l ++ [(placeM (sizesP A) seg a, placeM (sizesP A) seg a + 1)]
def followT (A : List (List Int)) (l : List Spn) (seg a : Int) : List Spn :=
  if (pwT A seg a).kind ≠ 3 then noteT A l seg a
  else if (pwT A seg a).dbl = true then noteT A (noteT A (noteT A l seg a) (pwT A seg a).seg (pwT A seg a).off) (pwT A seg a).seg ((pwT A seg a).off + 1)
  else noteT A (noteT A l seg a) (pwT A seg a).seg (pwT A seg a).off
def atT (o : Ob) (k : Int) : Int := if o.kind = 1 then o.at_ + k + o.data else o.at_ + k
def goT (A : List (List Int)) : List Int → List Spn → Ob → List Spn × Ob
  | [], l, o => (l, o)
  | k :: ks, l, o => if o.kind = 0 ∨ (o.kind = 1 ∧ k ≥ o.ptrs) then goT A ks l Ob0 else goT A ks (followT A l o.seg (atT o k)) (followS (wholeS A) o.seg (atT o k)).1
def endT (A : List (List Int)) (l : List Spn) (o : Ob) (k : Int) : List Spn :=
  if k < 0 ∨ o.kind = 0 ∨ (o.kind = 1 ∧ k ≥ o.data) then l else noteT A l o.seg (o.at_ + if o.kind = 2 ∧ o.size = 2 then k / 8 else k)
def touchT (A : List (List Int)) (ks : List Int) (a : Int) : List Spn :=
  endT A (goT A ks (followT A [] 0 0) (followS (wholeS A) 0 0).1).1 (goT A ks (followT A [] 0 0) (followS (wholeS A) 0 0).1).2 a
/-! ### each span is one word of the arena -/
def oneW (A : List (List Int)) (l : List Spn) : Prop := ∀ s ∈ l, ∃ k : Nat, s = ((k : Int), (k : Int) + 1) ∧ k < A.flatten.length
theorem oneW.note {A : List (List Int)} (h : rightB A = true) {l : List Spn} (hl : oneW A l) (seg a : Int) : oneW A (noteT A l seg a) ∧ (noteT A l seg a).length ≤ l.length + 1 := by
  unfold noteT
  rcases place_arena h seg a with ⟨h1, h2⟩ | ⟨k, h1, h2, h3⟩
  · rw [if_pos h1]; exact ⟨hl, by omega⟩
  · have hn : ¬ placeM (sizesP A) seg a < 0 := by omega
    rw [if_neg hn, h1]
    refine ⟨fun s hs => ?_, by simp⟩
    rcases List.mem_append.1 hs with hs | hs
    · exact hl s hs
    · simp only [List.mem_singleton] at hs; exact ⟨k, hs, h2⟩
theorem oneW.follow {A : List (List Int)} (h : rightB A = true) {l : List Spn} (hl : oneW A l) (seg a : Int) : oneW A (followT A l seg a) ∧ (followT A l seg a).length ≤ l.length + 3 := by
  unfold followT
  obtain ⟨h1, h2⟩ := hl.note h seg a
  obtain ⟨h3, h4⟩ := h1.note h (pwT A seg a).seg (pwT A seg a).off
  obtain ⟨h5, h6⟩ := h3.note h (pwT A seg a).seg ((pwT A seg a).off + 1)
  split
  · exact ⟨h1, by omega⟩
  · split
    · exact ⟨h5, by omega⟩
    · exact ⟨h3, by omega⟩
theorem oneW.go {A : List (List Int)} (h : rightB A = true) : ∀ (ks : List Int) {l : List Spn} (o : Ob), oneW A l → oneW A (goT A ks l o).1 ∧ (goT A ks l o).1.length ≤ l.length + 3 * ks.length
  | [], l, o, hl => ⟨hl, by simp [goT]⟩
  | k :: ks, l, o, hl => by
    rw [goT]
    split
    · obtain ⟨h1, h2⟩ := oneW.go h ks Ob0 hl; exact ⟨h1, by simp only [List.length_cons]; omega⟩
    · obtain ⟨h1, h2⟩ := hl.follow h o.seg (atT o k)
      obtain ⟨h3, h4⟩ := oneW.go h ks (followS (wholeS A) o.seg (atT o k)).1 h1
      exact ⟨h3, by simp only [List.length_cons]; omega⟩
theorem oneW.end_ {A : List (List Int)} (h : rightB A = true) {l : List Spn} (hl : oneW A l) (o : Ob) (k : Int) : oneW A (endT A l o k) ∧ (endT A l o k).length ≤ l.length + 1 := by
  unfold endT
  split
  · exact ⟨hl, by omega⟩
  · exact hl.note h _ _
theorem touch_one {A : List (List Int)} (h : rightB A = true) (ks : List Int) (a : Int) : oneW A (touchT A ks a) ∧ (touchT A ks a).length ≤ 3 * ks.length + 4 := by
  unfold touchT
  obtain ⟨h1, h2⟩ := oneW.follow h (l := []) (fun s hs => by simp at hs) 0 0
  obtain ⟨h3, h4⟩ := oneW.go h ks (followS (wholeS A) 0 0).1 h1
  obtain ⟨h5, h6⟩ := h3.end_ h (goT A ks (followT A [] 0 0) (followS (wholeS A) 0 0).1).2 a
  simp only [List.length_nil] at h2
  exact ⟨h5, by omega⟩
/-! ### where the touched words are there, the answer is the whole's -/
theorem decP_range_kind (x : Int) : 0 ≤ (decP x).kind ∧ (decP x).kind ≤ 3 := by
  unfold decP
  (repeat' split) <;> simp [Pt0]
def Cov (kb : List Int) (l : List Spn) : Prop := ∀ k : Nat, ((k : Int), (k : Int) + 1) ∈ l → bitQ kb (k / 8) = true
section
variable {A : List (List Int)} {wl kb : List Int}
theorem Cov.note {l : List Spn} {seg a : Int} (hc : Cov kb (noteT A l seg a)) : Cov kb l := fun k hk => hc k (by
  unfold noteT; split
  · exact hk
  · exact List.mem_append_left _ hk)
theorem note_ag (h : rightB A = true) (H : InvA A wl kb) {l : List Spn} {seg a : Int} (hc : Cov kb (noteT A l seg a)) : (srcP (sizesP A) wl kb).word seg a = (wholeS A).word seg a := by
  show srcW (sizesP A) wl kb seg a = wordA A seg a
  unfold srcW
  rcases place_arena h seg a with ⟨h1, h2⟩ | ⟨k, h1, h2, h3⟩
  · rw [if_pos h1, h2]
  · have hn : ¬ placeM (sizesP A) seg a < 0 := by omega
    have hb := hc k (by unfold noteT; rw [if_neg hn, h1]; simp)
    rw [if_neg hn, show (placeM (sizesP A) seg a).toNat = k from by omega, if_pos hb, h3, H.at_ k (by rw [H.len]; exact h2), if_pos hb]
theorem follow_ag (h : rightB A = true) (H : InvA A wl kb) {l : List Spn} {seg a : Int} (hc : Cov kb (followT A l seg a)) : followS (srcP (sizesP A) wl kb) seg a = followS (wholeS A) seg a ∧ Cov kb l := by
  have hle := le_whole h H
  have hn : Cov kb (noteT A l seg a) := by
    unfold followT at hc
    split at hc
    · exact hc
    · split at hc
      · exact hc.note.note
      · exact hc.note
  refine ⟨?_, hn.note⟩
  have hw := note_ag h H hn
  have hp : ptrS (srcP (sizesP A) wl kb) seg a = ptrS (wholeS A) seg a := by unfold ptrS; rw [hw]
  unfold followS
  rw [hp]
  by_cases h1 : (ptrS (wholeS A) seg a).2 ≠ 0 ∨ (ptrS (wholeS A) seg a).1.kind = 0
  · rw [if_pos h1, if_pos h1]
  · rw [if_neg h1, if_neg h1]
    by_cases h2 : nearP (ptrS (wholeS A) seg a).1 = true
    · rw [if_pos h2, if_pos h2, hle.found]
    · rw [if_neg h2, if_neg h2]
      have he : (ptrS (wholeS A) seg a).1 = pwT A seg a := by
        unfold ptrS
        split
        · rename_i h3; exact absurd h3 (fun h4 => h1 (.inl (by unfold ptrS; rw [if_pos h4]; exact h4)))
        · rfl
      rw [he] at h1 h2 ⊢
      have hk : (pwT A seg a).kind = 3 := by
        have hr := (decP_range_kind (wordA A seg a).1)
        have h3 : ¬ ((pwT A seg a).kind = 1 ∨ (pwT A seg a).kind = 2) := by simpa [nearP] using h2
        unfold pwT at *
        omega
      unfold followT at hc
      rw [if_neg (by omega)] at hc
      by_cases h3 : (pwT A seg a).dbl = true
      · rw [if_pos h3] at hc
        rw [if_pos h3, if_pos h3]
        have hv := note_ag h H hc.note
        have hx := note_ag h H hc
        unfold twiceS
        rw [hv, hx]
        simp only [hle.found]
      · rw [if_neg h3] at hc
        rw [if_neg h3, if_neg h3]
        have hv := note_ag h H hc
        have hq : ptrS (srcP (sizesP A) wl kb) (pwT A seg a).seg (pwT A seg a).off = ptrS (wholeS A) (pwT A seg a).seg (pwT A seg a).off := by unfold ptrS; rw [hv]
        unfold landedS
        rw [hq]
        simp only [hle.found]
theorem val_ag (h : rightB A = true) (H : InvA A wl kb) {l : List Spn} {o : Ob} {a : Int} (ho : ObK o) (hc : Cov kb (endT A l o a)) : valS (srcP (sizesP A) wl kb) o a = valS (wholeS A) o a ∧ Cov kb l := by
  have hcl : Cov kb l := by
    unfold endT at hc
    split at hc
    · exact hc
    · exact hc.note
  refine ⟨?_, hcl⟩
  unfold valS
  by_cases h0 : a < 0
  · rw [if_pos h0, if_pos h0]
  · rw [if_neg h0, if_neg h0]
    have hat : atS (srcP (sizesP A) wl kb) o a = atS (wholeS A) o a := by
      unfold atS
      by_cases h1 : o.kind = 0 ∨ (o.kind = 1 ∧ a ≥ o.data)
      · rw [if_pos h1, if_pos h1]
      · rw [if_neg h1, if_neg h1]
        have hnn : ¬ (a < 0 ∨ o.kind = 0 ∨ (o.kind = 1 ∧ a ≥ o.data)) := by omega
        unfold endT at hc
        rw [if_neg hnn] at hc
        have hw := note_ag h H hc
        by_cases h2 : o.kind = 1
        · rw [if_neg (by omega)] at hw
          rw [if_pos h2, if_pos h2, hw]
        · rw [if_neg h2, if_neg h2]
          have hk2 : o.kind = 2 ∧ (o.size = 2 ∨ o.size = 5 ∨ o.size = 6) := by
            rcases ho with rfl | ⟨g1, -⟩ | ⟨g1, -, -, g2⟩
            · exact absurd (.inl rfl) h1
            · exact absurd g1 h2
            · exact ⟨g1, g2⟩
          by_cases h3 : o.size = 6
          · rw [if_pos h3, if_pos h3]
          · rw [if_neg h3, if_neg h3]
            by_cases h4 : a ≥ o.count
            · rw [if_pos h4, if_pos h4]
            · rw [if_neg h4, if_neg h4]
              by_cases h5 : o.size = 5
              · rw [if_neg (by omega)] at hw
                rw [if_pos h5, if_pos h5, hw]
              · rw [if_pos (by omega)] at hw
                rw [if_neg h5, if_neg h5, hw]
    rw [hat]
theorem next_ag (h : rightB A = true) (H : InvA A wl kb) (a : Int) : ∀ (ks : List Int) (l : List Spn) (o : Ob) (left : Int), ObK o → Cov kb (endT A (goT A ks l o).1 (goT A ks l o).2 a) → (nextS (wholeS A) a ks o left).2 = 0 → nextS (srcP (sizesP A) wl kb) a ks o left = nextS (wholeS A) a ks o left ∧ Cov kb l
  | [], l, o, left, ho, hc, h0 => by rw [nextS, nextS]; exact val_ag h H ho hc
  | k :: ks, l, o, left, ho, hc, h0 => by
    rw [nextS] at h0
    rw [nextS, nextS]
    have key : stepS (srcP (sizesP A) wl kb) o k = stepS (wholeS A) o k → ((stepS (wholeS A) o k).2 = 0 → ∀ left', (nextS (wholeS A) a ks (stepS (wholeS A) o k).1 left').2 = 0 → nextS (srcP (sizesP A) wl kb) a ks (stepS (wholeS A) o k).1 left' = nextS (wholeS A) a ks (stepS (wholeS A) o k).1 left') →
        (if (stepS (srcP (sizesP A) wl kb) o k).2 ≠ 0 then (Vl0, (stepS (srcP (sizesP A) wl kb) o k).2) else if left - (1 + wordsO (stepS (srcP (sizesP A) wl kb) o k).1) < 0 then (Vl0, 22) else nextS (srcP (sizesP A) wl kb) a ks (stepS (srcP (sizesP A) wl kb) o k).1 (left - (1 + wordsO (stepS (srcP (sizesP A) wl kb) o k).1))) =
        (if (stepS (wholeS A) o k).2 ≠ 0 then (Vl0, (stepS (wholeS A) o k).2) else if left - (1 + wordsO (stepS (wholeS A) o k).1) < 0 then (Vl0, 22) else nextS (wholeS A) a ks (stepS (wholeS A) o k).1 (left - (1 + wordsO (stepS (wholeS A) o k).1))) := fun he hx => by
      rw [he]
      by_cases g1 : (stepS (wholeS A) o k).2 ≠ 0
      · rw [if_pos g1, if_pos g1]
      · rw [if_neg g1, if_neg g1]
        rw [if_neg g1] at h0
        by_cases g2 : left - (1 + wordsO (stepS (wholeS A) o k).1) < 0
        · rw [if_pos g2, if_pos g2]
        · rw [if_neg g2, if_neg g2]
          rw [if_neg g2] at h0
          exact hx (by omega) _ h0
    have hst0 : (stepS (wholeS A) o k).2 = 0 := by
      by_cases g1 : (stepS (wholeS A) o k).2 ≠ 0
      · rw [if_pos g1] at h0; exact absurd h0 g1
      · omega
    rw [goT] at hc
    by_cases h1 : o.kind = 0 ∨ (o.kind = 1 ∧ k ≥ o.ptrs)
    · rw [if_pos h1] at hc
      have e1 : ∀ s, stepS s o k = (Ob0, 0) := fun s => by unfold stepS; rw [if_pos h1]
      have hcl : Cov kb l := by
        have g0 := h0
        rw [e1, if_neg (by simp)] at g0
        by_cases g2 : left - (1 + wordsO (Ob0, (0 : Int)).1) < 0
        · rw [if_pos g2] at g0; simp at g0
        · rw [if_neg g2] at g0; exact (next_ag h H a ks l Ob0 _ (.inl rfl) hc g0).2
      exact ⟨key (by rw [e1, e1]) fun _ left' g => by rw [e1] at g ⊢; exact (next_ag h H a ks l Ob0 left' (.inl rfl) hc g).1, hcl⟩
    · rw [if_neg h1] at hc
      have e1 : ∀ s, (stepS s o k = followS s o.seg (atT o k)) ∨ (stepS (wholeS A) o k).2 ≠ 0 := fun s => by
        by_cases h2 : o.kind = 1
        · left; unfold stepS atT; rw [if_neg h1, if_pos h2, if_pos h2]
        · by_cases h3 : o.size ≠ 6
          · right; unfold stepS; rw [if_neg h1, if_neg h2, if_pos h3]; simp
          · by_cases h4 : k ≥ o.count
            · right; unfold stepS; rw [if_neg h1, if_neg h2, if_neg h3, if_pos h4]; simp
            · left; unfold stepS atT; rw [if_neg h1, if_neg h2, if_neg h3, if_neg h4, if_neg h2]
      have e2 := fun s => (e1 s).resolve_right (by omega)
      have ih := fun left' g => next_ag h H a ks (followT A l o.seg (atT o k)) (followS (wholeS A) o.seg (atT o k)).1 left' (followS_kind _ _ _) hc g
      have hcl : Cov kb (followT A l o.seg (atT o k)) := by
        have g0 := h0
        rw [if_neg (by omega)] at g0
        by_cases g2 : left - (1 + wordsO (stepS (wholeS A) o k).1) < 0
        · rw [if_pos g2] at g0; simp at g0
        · rw [if_neg g2, e2] at g0; exact (ih _ g0).2
      obtain ⟨f1, f2⟩ := follow_ag h H hcl
      exact ⟨key (by rw [e2, e2, f1]) fun _ left' g => by rw [e2] at g ⊢; exact (ih left' g).1, f2⟩
theorem walk_ag (h : rightB A = true) (H : InvA A wl kb) {ks : List Int} {a c : Int} (hc : Cov kb (touchT A ks a)) (h0 : (walkS (wholeS A) ks a c).2 = 0) : walkS (srcP (sizesP A) wl kb) ks a c = walkS (wholeS A) ks a c := by
  unfold walkS at h0 ⊢
  by_cases h1 : ∃ k ∈ ks, k < 0
  · rw [if_pos h1, if_pos h1]
  · rw [if_neg h1] at h0
    rw [if_neg h1, if_neg h1]
    by_cases h2 : (ks.length : Int) > 32
    · rw [if_pos h2, if_pos h2]
    · rw [if_neg h2] at h0
      rw [if_neg h2, if_neg h2]
      by_cases h3 : (followS (wholeS A) 0 0).2 ≠ 0
      · rw [if_pos h3] at h0; exact absurd h0 h3
      · rw [if_neg h3] at h0
        by_cases h4 : max c (-1) - (1 + wordsO (followS (wholeS A) 0 0).1) < 0
        · rw [if_pos h4] at h0; simp at h0
        · rw [if_neg h4] at h0
          obtain ⟨g1, g2⟩ := next_ag h H a ks _ _ _ (followS_kind _ _ _) hc h0
          obtain ⟨f1, -⟩ := follow_ag h H g2
          rw [f1, if_neg h3, if_neg h3, if_neg h4, if_neg h4, g1]
end
/-! ### the chunks of the spans -/
def chunkO (s : Spn) (n : Nat) : List Int := (List.range n).map fun j : Nat => IntKind.u8.wrap ((s.1 + (j : Int)) / 8)
def chunkL (N : List Spn) : List Int := N.flatMap fun s => chunkO s (s.2 - s.1).toNat
theorem chunkO_len (s : Spn) (n : Nat) : (chunkO s n).length = n := by simp [chunkO]
theorem chunkO_succ (s : Spn) (n : Nat) : chunkO s (n + 1) = chunkO s n ++ [IntKind.u8.wrap ((s.1 + (n : Int)) / 8)] := by unfold chunkO; rw [List.range_succ, List.map_append]; rfl
theorem chunkL_take {N : List Spn} {k : Nat} (h : k < N.length) : chunkL (N.take (k + 1)) = chunkL (N.take k) ++ chunkO (gS N k) ((gS N k).2 - (gS N k).1).toNat := by
  unfold chunkL
  rw [List.take_succ_eq_append_getElem h, List.flatMap_append, gS_get h]; simp
theorem chunkL_u8 (N : List Spn) : isU8 (chunkL N) := fun x hx => by
  obtain ⟨s, -, hs⟩ := List.mem_flatMap.1 hx
  obtain ⟨j, -, rfl⟩ := List.mem_map.1 hs
  exact wrap_u8R _
theorem chunkL_len {N : List Spn} {m : Nat} (h : ∀ s ∈ N, 0 ≤ s.1 ∧ s.2 ≤ m) : (chunkL N).length ≤ m * N.length := by
  induction N with
  | nil => simp [chunkL]
  | cons s N ih =>
    have h1 := h s (by simp)
    have h2 := ih (fun t ht => h t (by simp [ht]))
    unfold chunkL at h2 ⊢
    rw [List.flatMap_cons, List.length_append, chunkO_len, List.length_cons, Nat.mul_succ]
    omega
theorem chunkL_mem {N : List Spn} {k : Nat} (h : inS N k) (hk : k / 8 < 256) : ((k / 8 : Nat) : Int) ∈ chunkL N := by
  obtain ⟨s, hs, h1, h2⟩ := h
  refine List.mem_flatMap.2 ⟨s, hs, List.mem_map.2 ⟨((k : Int) - s.1).toNat, List.mem_range.2 (by omega), ?_⟩⟩
  have e : s.1 + (((k : Int) - s.1).toNat : Int) = (k : Int) := by omega
  rw [e, wrap_in (by simp only [inR]; omega)]
  omega
/-- The chunks of the touched words suffice. -/
theorem suffices_law {A : List (List Int)} (h : rightB A = true) (ht : totalP A ≤ 2040) {ks : List Int} {a c : Int} {wl kb : List Int} (F : FilA A (chunkL (nrm (touchT A ks a))) wl kb) (h0 : (walkS (wholeS A) ks a c).2 = 0) : walkS (srcP (sizesP A) wl kb) ks a c = walkS (wholeS A) ks a c := by
  refine walk_ag h F.inv (fun k hk => ?_) h0
  obtain ⟨k', he, hl⟩ := (touch_one h ks a).1 _ hk
  simp only [Prod.mk.injEq] at he
  have hf := flat_len A
  have hw := (words_arena h).1
  have hch : chunksM (sizesP A) = (wordsM (sizesP A) + 7) / 8 := rfl
  have hin : inS (nrm (touchT A ks a)) k := ((nrm_of _).pts k).2 ⟨_, hk, by simp, by simp; omega⟩
  refine (F.bits _).2 ⟨_, chunkL_mem hin (by omega), ?_⟩
  rw [Int.emod_eq_of_lt (by omega) (by omega)]
theorem nrm_rng {A : List (List Int)} (h : rightB A = true) (ks : List Int) (a : Int) : ∀ s ∈ nrm (touchT A ks a), 0 ≤ s.1 ∧ s.2 ≤ ((A.flatten.length : Nat) : Int) :=
  (nrm_of _).ends fun s hs => by
    obtain ⟨k, rfl, hk⟩ := (touch_one h ks a).1 s hs
    simp only []
    omega
theorem bent_total {xs : List Int} {k : Int} {A : List (List Int)} (hA : Bent1 xs k A) (h : isU8 xs) (hl : xs.length ≤ 200) (k0 : 0 ≤ k) : totalP A ≤ 1401 := by
  obtain ⟨-, h2, -⟩ := BentA.len hA
  rw [h2]
  unfold bentB
  split
  · obtain ⟨s, h4, h5⟩ := bent_4096 h hl
    have := bentT_needs h hl
    rw [h4]
    simp only [totalP]
    omega
  · rename_i hn
    have hf := Nd.build_fit (t := bentT xs) (size := 3 + k % 30) (by omega)
    have := total_len (A := ((bentT xs).build (3 + k % 30)).1) (m := 32) (fun j => by have := hf.seg j; omega)
    have := hf.most
    omega
theorem next_cons0 {s : Src} {a k : Int} {ks : List Int} {o : Ob} {left : Int} (h : (nextS s a (k :: ks) o left).2 = 0) : (stepS s o k).2 = 0 ∧ ∃ left', (nextS s a ks (stepS s o k).1 left').2 = 0 := by
  rw [nextS] at h
  by_cases g1 : (stepS s o k).2 ≠ 0
  · rw [if_pos g1] at h; exact absurd h g1
  · rw [if_neg g1] at h
    by_cases g2 : left - (1 + wordsO (stepS s o k).1) < 0
    · rw [if_pos g2] at h; simp at h
    · rw [if_neg g2] at h; exact ⟨by omega, _, h⟩
theorem step0 {s : Src} {o : Ob} {k : Int} (h : (stepS s o k).2 = 0) (hn : ¬ (o.kind = 0 ∨ (o.kind = 1 ∧ k ≥ o.ptrs))) : stepS s o k = followS s o.seg (atT o k) ∧ (o.kind ≠ 1 → o.size = 6 ∧ k < o.count) := by
  unfold stepS at h ⊢
  unfold atT
  rw [if_neg hn] at h ⊢
  by_cases h2 : o.kind = 1
  · rw [if_pos h2, if_pos h2]; exact ⟨rfl, fun g => absurd h2 g⟩
  · rw [if_neg h2] at h
    rw [if_neg h2, if_neg h2]
    by_cases h3 : o.size ≠ 6
    · rw [if_pos h3] at h; simp at h
    · rw [if_neg h3] at h
      rw [if_neg h3]
      by_cases h4 : k ≥ o.count
      · rw [if_pos h4] at h; simp at h
      · rw [if_neg h4]; exact ⟨rfl, fun _ => ⟨by omega, by omega⟩⟩
theorem step00 {s : Src} {o : Ob} {k : Int} (hn : o.kind = 0 ∨ (o.kind = 1 ∧ k ≥ o.ptrs)) : stepS s o k = (Ob0, 0) := by unfold stepS; rw [if_pos hn]
theorem val0 {s : Src} {o : Ob} {a : Int} (ho : ObK o) (h : (valS s o a).2 = 0) : a < 0 ∨ o.kind = 0 ∨ o.kind = 1 ∨ a < o.count := by
  unfold valS at h
  by_cases h0 : a < 0
  · exact .inl h0
  · rw [if_neg h0] at h
    by_cases g : (atS s o a).2 ≠ 0
    · rw [if_pos g] at h; exact absurd h g
    · unfold atS at g
      by_cases h1 : o.kind = 0 ∨ (o.kind = 1 ∧ a ≥ o.data)
      · omega
      · rw [if_neg h1] at g
        by_cases h2 : o.kind = 1
        · omega
        · rw [if_neg h2] at g
          by_cases h3 : o.size = 6
          · rw [if_pos h3] at g; simp at g
          · rw [if_neg h3] at g
            by_cases h4 : a ≥ o.count
            · rw [if_pos h4] at g; simp at g
            · omega
theorem walk0 {s : Src} {ks : List Int} {a c : Int} (h : (walkS s ks a c).2 = 0) : (∀ k ∈ ks, 0 ≤ k) ∧ ks.length ≤ 32 ∧ ∃ left, (nextS s a ks (followS s 0 0).1 left).2 = 0 := by
  unfold walkS at h
  by_cases h1 : ∃ k ∈ ks, k < 0
  · rw [if_pos h1] at h; simp at h
  · rw [if_neg h1] at h
    by_cases h2 : (ks.length : Int) > 32
    · rw [if_pos h2] at h; simp at h
    · rw [if_neg h2] at h
      by_cases h3 : (followS s 0 0).2 ≠ 0
      · rw [if_pos h3] at h; exact absurd h h3
      · rw [if_neg h3] at h
        by_cases h4 : max c (-1) - (1 + wordsO (followS s 0 0).1) < 0
        · rw [if_pos h4] at h; simp at h
        · rw [if_neg h4] at h
          exact ⟨fun k hk => by by_cases g : k < 0; exact absurd ⟨k, hk, g⟩ h1; omega, by omega, _, h⟩
theorem goT_drop {A : List (List Int)} {ks : List Int} {i : Nat} {l : List Spn} {o : Ob} (h : i < ks.length) : goT A (ks.drop i) l o = if o.kind = 0 ∨ (o.kind = 1 ∧ ks.getD i 0 ≥ o.ptrs) then goT A (ks.drop (i + 1)) l Ob0 else goT A (ks.drop (i + 1)) (followT A l o.seg (atT o (ks.getD i 0))) (followS (wholeS A) o.seg (atT o (ks.getD i 0))).1 := by
  rw [List.drop_eq_getElem_cons h, goT, getD_at h]
theorem noteT_len (A : List (List Int)) (l : List Spn) (seg a : Int) : (noteT A l seg a).length ≤ l.length + 1 := by unfold noteT; split <;> simp
theorem followT_len (A : List (List Int)) (l : List Spn) (seg a : Int) : (followT A l seg a).length ≤ l.length + 3 := by
  have h1 := noteT_len A l seg a
  have h2 := noteT_len A (noteT A l seg a) (pwT A seg a).seg (pwT A seg a).off
  have h3 := noteT_len A (noteT A (noteT A l seg a) (pwT A seg a).seg (pwT A seg a).off) (pwT A seg a).seg ((pwT A seg a).off + 1)
  unfold followT
  (repeat' split) <;> omega
theorem endT_len (A : List (List Int)) (l : List Spn) (o : Ob) (k : Int) : (endT A l o k).length ≤ l.length + 1 := by
  unfold endT
  split
  · omega
  · exact noteT_len _ _ _ _
end Go.Proofs.YtifhcfhdajkhlaaGreat.K

namespace Go.Proofs.YtifhcfhdajkhlaaGreat.K
open Go Go.RowKit Go.Proofs
attribute [local irreducible] Run1 OpG WL W AO Gives
set_option maxRecDepth 100000 in
theorem radd_calls (w : World) {ad : Option Addr} {c n : Nat} {L : List Spn} (s1 s2 : Int) (hc : n ≤ c) (hc2 : c ≤ maxLen) (R : RowAt w 2 ad n (encL L)) (hb : n ≤ 274877906944) : Calls Tryz.prog 77 #[.slice ad n c, .agg #[.int .i64 s1, .int .i64 s2]] w (Ret fun v w' => Row w' 2 v (addS L (s1, s2)).length (encL (addS L (s1, s2))) ∧ Grow w w') := by
 have G := Grow.rfl' w
 refine calls_ret Tryz.func77 Tryz.ntmps77 Tryz.results77 rfl rfl ?_
 have hLn := row_lenS R
 refine W_seq (W_region rfl ?_)
 refine WL_some (og rfl ?_)
 (first | refine r_box_agg rfl ?_ | refine r_box_int rfl ?_ | refine r_box_slice rfl ?_ | refine r_box rfl rfl ?_)
 intro b1 w2 hb3 hc4 g5
 have hge6 := Nat.le_trans G.size hb3
 replace G := G.tr g5
 clear g5 hb3
 refine stp (r_assign_slice rfl ?_)
 refine WL_nil ?_
 refine W_seq ?_
 refine W_seq (W_region rfl ?_)
 refine stp (r_fieldAddr rfl ?_)
 refine stp (r_load (v := .int .i64 s2) rfl hc4 rfl ?_)
 refine stp (r_fieldAddr rfl ?_)
 refine stp (r_load (v := .int .i64 s1) rfl hc4 rfl ?_)
 refine stp (r_leq rfl rfl ?_)
 refine WL_nil ?_
 refine W_cond2 (b := (decide (s2 ≤ s1))) rfl (fun hns => ?_) (fun hns => ?_)
 ·-- true
  replace hns := of_decide_eq_true hns
  refine W_seq (W_region rfl ?_)
  refine stp (r_move_slice rfl ?_)
  refine stp (r_assign_slice rfl ?_)
  refine WL_nil ?_
  refine W_ret ?_
  have hadd : addS L (s1, s2) = L := if_pos (by simpa [noneS] using hns)
  rw [hadd, hLn]
  refine ret1 (res_tmp (v := .slice ad n c) rfl) ⟨⟨_, _, rfl, hc, hc2, R.grow G⟩, G⟩
 ·-- false
  replace hns := of_decide_eq_false hns
  have hadd : addS L (s1, s2) = addG L (s1, s2) false := if_neg (by simpa [noneS] using hns)
  have hal := addG_len L (s1, s2) false
  refine W_skip ?_
  have ownO : w2.ownsRow w2.heap.size 47 2 (.slice none 0 0) 0 (encL []) := World.ownsRow_nil _ _ _ _
  have hB1 := Nat.le_refl w2.heap.size
  have lt3 := lt_of_heap hc4
  have hge3 := hge6
  have hBw := G.size
  refine W_seq (W_region rfl ?_)
  refine stp (r_assign_slice rfl ?_)
  refine WL_nil ?_
  refine W_seq (W_region rfl ?_)
  refine stp (r_assign (v := .bool false) rfl ?_)
  refine WL_nil ?_
  refine W_seq ?_
  refine W_seq (W_region rfl ?_)
  refine stp (r_assign_int rfl ?_)
  refine WL_nil ?_
  refine W_block ?_
  refine W_loop (fun m_ e_ w_ => ∃ (k : Nat) (ho : List Spn) (ado : Option Addr) (co : Nat) (laid : Bool) (x1 : Int) (x2 : Int), m_ = n - k ∧ Fr [(0, .slice ad n c), (3, .pointer (some ⟨b1, 0, none⟩)), (4, .slice none 0 0), (7, .int .i64 (k : Int)), (5, .slice ado ho.length co), (6, .bool laid)] e_ ∧ (k ≤ n) ∧ (ho ++ addG (L.drop k) (x1, x2) laid = addG L (s1, s2) false) ∧ (w2.heap.size ≤ w_.heap.size) ∧ (w_.heap[b1]? = some (.cells #[.int .i64 x1, .int .i64 x2] 47 (0, 0))) ∧ (w_.ownsRow w2.heap.size 47 2 (.slice ado ho.length co) ho.length (encL ho)) ∧ Grow w w_) _ ⟨0, [], _, _, false, s1, s2, rfl, fr_of ⟨rfl, rfl, rfl, rfl, rfl, rfl, trivial⟩, by omega, rfl, hB1, hc4, ownO, G⟩ ?_
  clear hc4 ownO hB1
  clear G
  rintro m_ e_ w7 ⟨k, ho, ado, co, laid, x1, x2, rfl, ⟨e8, rfl⟩, hk, hO, hB1, hb3, ownO, G⟩
  refine W_seq ?_
  refine W_seq (W_region rfl ?_)
  refine stp (r_move_int rfl ?_)
  refine stp (r_move_slice rfl ?_)
  refine stp (r_len rfl rfl rfl ?_)
  refine stp (r_lss rfl rfl ?_)
  refine WL_nil ?_
  refine W_cond2 (b := (decide ((k : Int) < (n : Int)))) rfl (fun hlt => ?_) (fun hlt => ?_)
  ·-- true
   replace hlt := of_decide_eq_true hlt
   have hkL : k < L.length := by omega
   rw [addG_drop hkL] at hO
   have hlen := congrArg List.length hO
   rw [List.length_append] at hlen
   refine W_skip ?_
   refine W_seq ?_
   refine W_block ?_
   refine W_seq ?_
   refine W_seq ?_
   refine W_any 8 [[], [], [1, 0], [2, 1, 0], [3, 2, 1, 0], [], [0], [6, 5, 4, 3, 2, 1, 0]] mixed (by kernel_rfl) (by kernel_rfl) (by kernel_rfl) ?_
   intro w9 g10
   replace hB1 := Nat.le_trans hB1 g10.size
   replace hb3 := g10.heap hb3
   replace ownO := own_grow ownO g10
   replace G := G.tr g10
   clear g10
   apply AO_ex
   ·intro w_ g_; refine og rfl ?_; refine r_move_slice rfl ?_; exact ⟨Grow.rfl' _, rfl⟩
   apply AO_ex
   ·intro w_ g_; refine og rfl ?_; refine r_move_int rfl ?_; exact ⟨Grow.rfl' _, rfl⟩
   apply AO_ex
   ·intro w_ g_; refine og rfl ?_; refine r_indexN (R.grow (G.tr g_)) rfl rfl ?_ ?_; omega; exact ⟨Grow.rfl' _, rfl⟩
   apply AO_ex
   ·intro w_ g_; refine og rfl ?_; refine r_fieldE rfl ?_; exact ⟨Grow.rfl' _, rfl⟩
   apply AO_ex
   ·intro w_ g_; refine og rfl ?_; refine r_loadR (v := .int .i64 ((gS L k).2)) (m := 0) (R.grow (G.tr g_)) rfl (row_gS1 R (by omega)) ?_; exact ⟨Grow.rfl' _, rfl⟩
   apply AO_ex
   ·intro w_ g_; refine og rfl ?_; refine r_fieldAddr rfl ?_; exact ⟨Grow.rfl' _, rfl⟩
   apply AO_ex
   ·intro w_ g_; refine og rfl ?_; refine r_load (v := .int .i64 x1) rfl (g_.heap hb3) rfl ?_; exact ⟨Grow.rfl' _, rfl⟩
   apply AO_ex
   ·intro w_ g_; refine og rfl ?_; refine r_lss rfl rfl ?_; exact ⟨Grow.rfl' _, rfl⟩
   refine AO_nil ?_
   intro w11 g12
   replace hB1 := Nat.le_trans hB1 g12.size
   replace hb3 := g12.heap hb3
   replace ownO := own_grow ownO g12
   replace G := G.tr g12
   clear g12
   refine WL_nil ?_
   refine W_cond2 (b := (decide (((gS L k).2) < x1))) rfl (fun hbf => ?_) (fun hbf => ?_)
   ·-- true
    replace hbf := of_decide_eq_true hbf
    rw [if_pos hbf] at hO
    refine W_seq (W_region rfl ?_)
    refine stp (r_move_slice rfl ?_)
    refine stp (r_move_slice rfl ?_)
    refine stp (r_move_int rfl ?_)
    refine stp (r_indexN (R.grow G) rfl rfl ?_ ?_); omega
    refine stp (r_loadNR (R.grow G) rfl (by decide) (by rw [R.len]; omega) (row_gS R (by omega)) ?_)
    refine stp (r_buildSlice (cs := #[.int .i64 ((gS L k).1), .int .i64 ((gS L k).2)]) (el := 47) (fun w => by kernel_rfl) ?_)
    intro bs13 w14 hb15 hc16 g17
    have hge18 := Nat.le_trans G.size hb15
    have ne19 := Nat.ne_of_lt (Nat.lt_of_lt_of_le (lt_of_heap hb3) hb15)
    replace hB1 := Nat.le_trans hB1 g17.size
    replace hb3 := g17.heap hb3
    replace ownO := own_grow ownO g17
    replace G := G.tr g17
    clear g17
    refine stp (r_append rfl rfl rfl rfl ownO (Row.of_block (n := 1) hc16 rfl rfl (by omega)) (fun q_ hq_ => by simp at hq_; rcases hq_ with rfl | rfl <;> rfl) (by simp only [maxLen]; omega) (by omega) hB1 ?_)
    intro v20 w20 own20 gr20
    have own20' := own_snoc (s := gS L k) own20
    obtain ⟨ad20, n20, c20, rfl⟩ := own_slice own20'
    have hn20 := own_lenS own20'
    subst hn20
    have hl20 : (ho ++ [gS L k]).length = (ho).length + 1 := by simp
    replace G := G.grown gr20 (fun k_ hk_ => Nat.le_trans hBw (own_ge ownO k_ hk_))
    replace hB1 := Nat.le_trans hB1 gr20.size
    replace hb3 := gr_heap gr20 hb3 (fun he_ => by have := (ownO.lt _ he_).1; omega)
    refine stp (r_assign_slice rfl ?_)
    refine WL_nil ?_
    refine W_exit ?_
    refine W_region rfl ?_
    refine stp (r_move_int rfl ?_)
    refine stp (r_add rfl rfl ?_ ?_); constructor <;> omega
    refine stp (r_assign_int rfl ?_)
    refine WL_nil ?_
    refine ⟨_, ?_, k + 1, _, _, _, laid, x1, x2, rfl, fr_of ⟨rfl, rfl, rfl, congrArg (Value.int .i64) (by omega), rfl, rfl, trivial⟩, by omega, by rw [List.append_assoc]; exact hO, hB1, hb3, own20', G⟩
    omega
   ·-- false
    replace hbf := of_decide_eq_false hbf
    rw [if_neg (by omega)] at hO
    refine W_skip ?_
    refine W_seq ?_
    refine W_seq ?_
    refine W_any 8 [[], [], [1, 0], [2, 1, 0], [3, 2, 1, 0], [], [0], [6, 5, 4, 3, 2, 1, 0]] mixed (by kernel_rfl) (by kernel_rfl) (by kernel_rfl) ?_
    intro w21 g22
    replace hB1 := Nat.le_trans hB1 g22.size
    replace hb3 := g22.heap hb3
    replace ownO := own_grow ownO g22
    replace G := G.tr g22
    clear g22
    apply AO_ex
    ·intro w_ g_; refine og rfl ?_; refine r_move_slice rfl ?_; exact ⟨Grow.rfl' _, rfl⟩
    apply AO_ex
    ·intro w_ g_; refine og rfl ?_; refine r_move_int rfl ?_; exact ⟨Grow.rfl' _, rfl⟩
    apply AO_ex
    ·intro w_ g_; refine og rfl ?_; refine r_indexN (R.grow (G.tr g_)) rfl rfl ?_ ?_; omega; exact ⟨Grow.rfl' _, rfl⟩
    apply AO_ex
    ·intro w_ g_; refine og rfl ?_; refine r_fieldE rfl ?_; exact ⟨Grow.rfl' _, rfl⟩
    apply AO_ex
    ·intro w_ g_; refine og rfl ?_; refine r_loadR (v := .int .i64 ((gS L k).1)) (m := 0) (R.grow (G.tr g_)) rfl (row_gS0 R (by omega)) ?_; exact ⟨Grow.rfl' _, rfl⟩
    apply AO_ex
    ·intro w_ g_; refine og rfl ?_; refine r_fieldAddr rfl ?_; exact ⟨Grow.rfl' _, rfl⟩
    apply AO_ex
    ·intro w_ g_; refine og rfl ?_; refine r_load (v := .int .i64 x2) rfl (g_.heap hb3) rfl ?_; exact ⟨Grow.rfl' _, rfl⟩
    apply AO_ex
    ·intro w_ g_; refine og rfl ?_; refine r_gtr rfl rfl ?_; exact ⟨Grow.rfl' _, rfl⟩
    refine AO_nil ?_
    intro w23 g24
    replace hB1 := Nat.le_trans hB1 g24.size
    replace hb3 := g24.heap hb3
    replace ownO := own_grow ownO g24
    replace G := G.tr g24
    clear g24
    refine WL_nil ?_
    refine W_cond2 (b := (decide (((gS L k).1) > x2))) rfl (fun haf => ?_) (fun haf => ?_)
    ·-- true
     replace haf := of_decide_eq_true haf
     rw [if_pos haf] at hO
     refine W_seq ?_
     refine W_seq (W_region rfl ?_)
     refine stp (r_move_bool rfl ?_)
     refine stp (r_not rfl ?_)
     refine WL_nil ?_
     refine W_cond2 (b := (!laid)) rfl (fun hld => ?_) (fun hld => ?_)
     ·-- true
      simp only [sb] at hld
      have hlf : laid = false := by simpa using hld
      subst hlf
      rw [if_neg (by simp)] at hO
      refine W_seq (W_region rfl ?_)
      refine stp (r_move_slice rfl ?_)
      refine stp (r_loadAll rfl hb3 (by rfl) ?_)
      refine stp (r_buildSlice (cs := #[.int .i64 x1, .int .i64 x2]) (el := 47) (fun w => by kernel_rfl) ?_)
      intro bs25 w26 hb27 hc28 g29
      have hge30 := Nat.le_trans G.size hb27
      have ne31 := Nat.ne_of_lt (Nat.lt_of_lt_of_le (lt_of_heap hb3) hb27)
      replace hB1 := Nat.le_trans hB1 g29.size
      replace hb3 := g29.heap hb3
      replace ownO := own_grow ownO g29
      replace G := G.tr g29
      clear g29
      refine stp (r_append rfl rfl rfl rfl ownO (Row.of_block (n := 1) hc28 rfl rfl (by omega)) (fun q_ hq_ => by simp at hq_; rcases hq_ with rfl | rfl <;> rfl) (by simp only [maxLen]; omega) (by omega) hB1 ?_)
      intro v32 w32 own32 gr32
      have own32' := own_snoc (s := ((x1, x2) : Spn)) own32
      obtain ⟨ad32, n32, c32, rfl⟩ := own_slice own32'
      have hn32 := own_lenS own32'
      subst hn32
      have hl32 : (ho ++ [((x1, x2) : Spn)]).length = (ho).length + 1 := by simp
      replace G := G.grown gr32 (fun k_ hk_ => Nat.le_trans hBw (own_ge ownO k_ hk_))
      replace hB1 := Nat.le_trans hB1 gr32.size
      replace hb3 := gr_heap gr32 hb3 (fun he_ => by have := (ownO.lt _ he_).1; omega)
      refine stp (r_assign_slice rfl ?_)
      refine WL_nil ?_
      refine W_region rfl ?_
      refine stp (r_assign (v := .bool true) rfl ?_)
      refine WL_nil ?_
      refine W_seq (W_region rfl ?_)
      refine stp (r_move_slice rfl ?_)
      refine stp (r_move_slice rfl ?_)
      refine stp (r_move_int rfl ?_)
      refine stp (r_indexN (R.grow G) rfl rfl ?_ ?_); omega
      refine stp (r_loadNR (R.grow G) rfl (by decide) (by rw [R.len]; omega) (row_gS R (by omega)) ?_)
      refine stp (r_buildSlice (cs := #[.int .i64 ((gS L k).1), .int .i64 ((gS L k).2)]) (el := 47) (fun w => by kernel_rfl) ?_)
      intro bs33 w34 hb35 hc36 g37
      have hge38 := Nat.le_trans G.size hb35
      have ne39 := Nat.ne_of_lt (Nat.lt_of_lt_of_le (lt_of_heap hb3) hb35)
      replace hB1 := Nat.le_trans hB1 g37.size
      replace hb3 := g37.heap hb3
      replace own32' := own_grow own32' g37
      replace G := G.tr g37
      clear g37
      refine stp (r_append rfl rfl rfl rfl own32' (Row.of_block (n := 1) hc36 rfl rfl (by omega)) (fun q_ hq_ => by simp at hq_; rcases hq_ with rfl | rfl <;> rfl) (by simp only [maxLen]; omega) (by omega) hB1 ?_)
      intro v40 w40 own40 gr40
      have own40' := own_snoc (s := gS L k) own40
      obtain ⟨ad40, n40, c40, rfl⟩ := own_slice own40'
      have hn40 := own_lenS own40'
      subst hn40
      have hl40 : (ho ++ [((x1, x2) : Spn)] ++ [gS L k]).length = (ho ++ [((x1, x2) : Spn)]).length + 1 := by simp
      replace G := G.grown gr40 (fun k_ hk_ => Nat.le_trans hBw (own_ge own32' k_ hk_))
      replace hB1 := Nat.le_trans hB1 gr40.size
      replace hb3 := gr_heap gr40 hb3 (fun he_ => by have := (own32'.lt _ he_).1; omega)
      refine stp (r_assign_slice rfl ?_)
      refine WL_nil ?_
      refine W_exit ?_
      refine W_region rfl ?_
      refine stp (r_move_int rfl ?_)
      refine stp (r_add rfl rfl ?_ ?_); constructor <;> omega
      refine stp (r_assign_int rfl ?_)
      refine WL_nil ?_
      refine ⟨_, ?_, k + 1, _, _, _, true, x1, x2, rfl, fr_of ⟨rfl, rfl, rfl, congrArg (Value.int .i64) (by omega), rfl, rfl, trivial⟩, by omega, by rw [List.append_assoc, List.append_assoc]; exact hO, hB1, hb3, own40', G⟩
      omega
     ·-- false
      simp only [sb] at hld
      have hlf : laid = true := by simpa using hld
      subst hlf
      rw [if_pos rfl] at hO
      refine W_skip ?_
      refine W_seq (W_region rfl ?_)
      refine stp (r_move_slice rfl ?_)
      refine stp (r_move_slice rfl ?_)
      refine stp (r_move_int rfl ?_)
      refine stp (r_indexN (R.grow G) rfl rfl ?_ ?_); omega
      refine stp (r_loadNR (R.grow G) rfl (by decide) (by rw [R.len]; omega) (row_gS R (by omega)) ?_)
      refine stp (r_buildSlice (cs := #[.int .i64 ((gS L k).1), .int .i64 ((gS L k).2)]) (el := 47) (fun w => by kernel_rfl) ?_)
      intro bs41 w42 hb43 hc44 g45
      have hge46 := Nat.le_trans G.size hb43
      have ne47 := Nat.ne_of_lt (Nat.lt_of_lt_of_le (lt_of_heap hb3) hb43)
      replace hB1 := Nat.le_trans hB1 g45.size
      replace hb3 := g45.heap hb3
      replace ownO := own_grow ownO g45
      replace G := G.tr g45
      clear g45
      refine stp (r_append rfl rfl rfl rfl ownO (Row.of_block (n := 1) hc44 rfl rfl (by omega)) (fun q_ hq_ => by simp at hq_; rcases hq_ with rfl | rfl <;> rfl) (by simp only [maxLen]; omega) (by omega) hB1 ?_)
      intro v48 w48 own48 gr48
      have own48' := own_snoc (s := gS L k) own48
      obtain ⟨ad48, n48, c48, rfl⟩ := own_slice own48'
      have hn48 := own_lenS own48'
      subst hn48
      have hl48 : (ho ++ [gS L k]).length = (ho).length + 1 := by simp
      replace G := G.grown gr48 (fun k_ hk_ => Nat.le_trans hBw (own_ge ownO k_ hk_))
      replace hB1 := Nat.le_trans hB1 gr48.size
      replace hb3 := gr_heap gr48 hb3 (fun he_ => by have := (ownO.lt _ he_).1; omega)
      refine stp (r_assign_slice rfl ?_)
      refine WL_nil ?_
      refine W_exit ?_
      refine W_region rfl ?_
      refine stp (r_move_int rfl ?_)
      refine stp (r_add rfl rfl ?_ ?_); constructor <;> omega
      refine stp (r_assign_int rfl ?_)
      refine WL_nil ?_
      refine ⟨_, ?_, k + 1, _, _, _, true, x1, x2, rfl, fr_of ⟨rfl, rfl, rfl, congrArg (Value.int .i64) (by omega), rfl, rfl, trivial⟩, by omega, by rw [List.append_assoc]; exact hO, hB1, hb3, own48', G⟩
      omega
    ·-- false
     replace haf := of_decide_eq_false haf
     rw [if_neg (by omega)] at hO
     refine W_skip ?_
     refine W_any 17 [[], [0], [], [], [1, 0], [2, 1, 0], [3, 2, 1, 0], [6, 5, 4, 3, 2, 1, 0], [], [0], [], [], [1, 0], [2, 1, 0], [3, 2, 1, 0], [6, 5, 4, 3, 2, 1, 0], [15, 14, 13, 12, 11, 10, 9, 8, 7, 6, 5, 4, 3, 2, 1, 0]] mixed (by kernel_rfl) (by kernel_rfl) (by kernel_rfl) ?_
     intro w49 g50
     replace hB1 := Nat.le_trans hB1 g50.size
     replace hb3 := g50.heap hb3
     replace ownO := own_grow ownO g50
     replace G := G.tr g50
     clear g50
     apply AO_ex
     ·intro w_ g_; refine og rfl ?_; refine r_fieldAddr rfl ?_; exact ⟨Grow.rfl' _, rfl⟩
     apply AO_ex
     ·intro w_ g_; refine og rfl ?_; refine r_load (v := .int .i64 x1) rfl (g_.heap hb3) rfl ?_; exact ⟨Grow.rfl' _, rfl⟩
     apply AO_ex
     ·intro w_ g_; refine og rfl ?_; refine r_move_slice rfl ?_; exact ⟨Grow.rfl' _, rfl⟩
     apply AO_ex
     ·intro w_ g_; refine og rfl ?_; refine r_move_int rfl ?_; exact ⟨Grow.rfl' _, rfl⟩
     apply AO_ex
     ·intro w_ g_; refine og rfl ?_; refine r_indexN (R.grow (G.tr g_)) rfl rfl ?_ ?_; omega; exact ⟨Grow.rfl' _, rfl⟩
     apply AO_ex
     ·intro w_ g_; refine og rfl ?_; refine r_fieldE rfl ?_; exact ⟨Grow.rfl' _, rfl⟩
     apply AO_ex
     ·intro w_ g_; refine og rfl ?_; refine r_loadR (v := .int .i64 ((gS L k).1)) (m := 0) (R.grow (G.tr g_)) rfl (row_gS0 R (by omega)) ?_; exact ⟨Grow.rfl' _, rfl⟩
     apply AO_ex
     ·intro w_ g_; refine og rfl ?_; refine r_min rfl rfl rfl ?_; exact ⟨Grow.rfl' _, rfl⟩
     apply AO_ex
     ·intro w_ g_; refine og rfl ?_; refine r_fieldAddr rfl ?_; exact ⟨Grow.rfl' _, rfl⟩
     apply AO_ex
     ·intro w_ g_; refine og rfl ?_; refine r_load (v := .int .i64 x2) rfl (g_.heap hb3) rfl ?_; exact ⟨Grow.rfl' _, rfl⟩
     apply AO_ex
     ·intro w_ g_; refine og rfl ?_; refine r_move_slice rfl ?_; exact ⟨Grow.rfl' _, rfl⟩
     apply AO_ex
     ·intro w_ g_; refine og rfl ?_; refine r_move_int rfl ?_; exact ⟨Grow.rfl' _, rfl⟩
     apply AO_ex
     ·intro w_ g_; refine og rfl ?_; refine r_indexN (R.grow (G.tr g_)) rfl rfl ?_ ?_; omega; exact ⟨Grow.rfl' _, rfl⟩
     apply AO_ex
     ·intro w_ g_; refine og rfl ?_; refine r_fieldE rfl ?_; exact ⟨Grow.rfl' _, rfl⟩
     apply AO_ex
     ·intro w_ g_; refine og rfl ?_; refine r_loadR (v := .int .i64 ((gS L k).2)) (m := 0) (R.grow (G.tr g_)) rfl (row_gS1 R (by omega)) ?_; exact ⟨Grow.rfl' _, rfl⟩
     apply AO_ex
     ·intro w_ g_; refine og rfl ?_; refine r_max rfl rfl rfl ?_; exact ⟨Grow.rfl' _, rfl⟩
     apply AO_ex
     ·intro w_ g_; refine og rfl ?_; refine r_build (v := .agg #[.int .i64 (if ((gS L k).1) < x1 then ((gS L k).1) else x1), .int .i64 (if ((gS L k).2) > x2 then ((gS L k).2) else x2)]) (fun w => by kernel_rfl) ?_; exact ⟨Grow.rfl' _, rfl⟩
     refine AO_nil ?_
     intro w51 g52
     replace hB1 := Nat.le_trans hB1 g52.size
     replace hb3 := g52.heap hb3
     replace ownO := own_grow ownO g52
     replace G := G.tr g52
     clear g52
     refine stn (r_storeAll (vs := #[.int .i64 (min x1 (gS L k).1), .int .i64 (max x2 (gS L k).2)]) rfl (by rw [show min x1 (gS L k).1 = (if (gS L k).1 < x1 then (gS L k).1 else x1) from by split <;> omega, show max x2 (gS L k).2 = (if (gS L k).2 > x2 then (gS L k).2 else x2) from by split <;> omega]; rfl) hb3 (by rfl) (by rfl) (by rfl) ?_)
     intro w9 hb39 u9
     have own9 := own_upd ownO u9 (fun he_ => by have := (ownO.lt _ he_).1; omega)
     replace G := G.upd u9 hge3
     have hB9 : w2.heap.size ≤ w9.heap.size := by rw [u9.size]; exact hB1
     refine WL_nil ?_
     refine W_region rfl ?_
     refine stp (r_move_int rfl ?_)
     refine stp (r_add rfl rfl ?_ ?_); constructor <;> omega
     refine stp (r_assign_int rfl ?_)
     refine WL_nil ?_
     refine ⟨_, ?_, k + 1, _, _, _, laid, _, _, rfl, fr_of ⟨rfl, rfl, rfl, congrArg (Value.int .i64) (by omega), rfl, rfl, trivial⟩, by omega, hO, hB9, hb39, own9, G⟩
     omega
  ·-- false
   replace hlt := of_decide_eq_false hlt
   have hk9 : k = L.length := by omega
   rw [hk9, List.drop_length, addG] at hO
   have hlen := congrArg List.length hO
   rw [List.length_append] at hlen
   refine W_exit ?_
   refine W_seq ?_
   refine W_seq (W_region rfl ?_)
   refine stp (r_move_bool rfl ?_)
   refine stp (r_not rfl ?_)
   refine WL_nil ?_
   refine W_cond2 (b := (!laid)) rfl (fun hld => ?_) (fun hld => ?_)
   ·-- true
    simp only [sb] at hld
    have hlf : laid = false := by simpa using hld
    subst hlf
    rw [if_neg (by simp)] at hO
    refine W_region rfl ?_
    refine stp (r_move_slice rfl ?_)
    refine stp (r_loadAll rfl hb3 (by rfl) ?_)
    refine stp (r_buildSlice (cs := #[.int .i64 x1, .int .i64 x2]) (el := 47) (fun w => by kernel_rfl) ?_)
    intro bs53 w54 hb55 hc56 g57
    have hge58 := Nat.le_trans G.size hb55
    have ne59 := Nat.ne_of_lt (Nat.lt_of_lt_of_le (lt_of_heap hb3) hb55)
    replace hB1 := Nat.le_trans hB1 g57.size
    replace hb3 := g57.heap hb3
    replace ownO := own_grow ownO g57
    replace G := G.tr g57
    clear g57
    refine stp (r_append rfl rfl rfl rfl ownO (Row.of_block (n := 1) hc56 rfl rfl (by omega)) (fun q_ hq_ => by simp at hq_; rcases hq_ with rfl | rfl <;> rfl) (by simp only [maxLen]; omega) (by omega) hB1 ?_)
    intro v60 w60 own60 gr60
    have own60' := own_snoc (s := ((x1, x2) : Spn)) own60
    obtain ⟨ad60, n60, c60, rfl⟩ := own_slice own60'
    have hn60 := own_lenS own60'
    subst hn60
    have hl60 : (ho ++ [((x1, x2) : Spn)]).length = (ho).length + 1 := by simp
    replace G := G.grown gr60 (fun k_ hk_ => Nat.le_trans hBw (own_ge ownO k_ hk_))
    replace hB1 := Nat.le_trans hB1 gr60.size
    replace hb3 := gr_heap gr60 hb3 (fun he_ => by have := (ownO.lt _ he_).1; omega)
    refine stp (r_assign_slice rfl ?_)
    refine WL_nil ?_
    refine W_seq (W_region rfl ?_)
    refine stp (r_move_slice rfl ?_)
    refine stp (r_assign_slice rfl ?_)
    refine WL_nil ?_
    refine W_ret ?_
    rw [hadd, ← hO]
    refine ret1 (res_tmp (v := .slice ad60 ((ho ++ [((x1, x2) : Spn)]).length) c60) rfl) ⟨own_row own60' (by rw [hO]; omega), G⟩
   ·-- false
    simp only [sb] at hld
    have hlf : laid = true := by simpa using hld
    subst hlf
    rw [if_pos rfl, List.append_nil] at hO
    refine W_skip ?_
    refine W_seq (W_region rfl ?_)
    refine stp (r_move_slice rfl ?_)
    refine stp (r_assign_slice rfl ?_)
    refine WL_nil ?_
    refine W_ret ?_
    rw [hadd, ← hO]
    refine ret1 (res_tmp (v := .slice ado ho.length co) rfl) ⟨own_row ownO (by rw [hO]; omega), G⟩

set_option maxRecDepth 100000 in
theorem rnorm_calls (w : World) {ad : Option Addr} {c n : Nat} {L : List Spn} (hc : n ≤ c) (hc2 : c ≤ maxLen) (R : RowAt w 2 ad n (encL L)) (hb : n ≤ 274877906944) : Calls Tryz.prog 30 #[.slice ad n c] w (Ret fun v w' => Row w' 2 v (nrm L).length (encL (nrm L)) ∧ Grow w w') := by
 have G := Grow.rfl' w
 refine calls_ret Tryz.func30 Tryz.ntmps30 Tryz.results30 rfl rfl ?_
 have hLn := row_lenS R
 refine W_seq (W_region rfl ?_)
 refine stp (r_assign_slice rfl ?_)
 refine WL_nil ?_
 refine W_seq (W_region rfl ?_)
 refine stp (r_assign_slice rfl ?_)
 refine WL_nil ?_
 have RO : RowAt w 2 none (nrm (L.take 0)).length (encL (nrm (L.take 0))) := by rw [List.take_zero, nrm_nil]; exact RowAt.empty _ _ _
 refine W_seq ?_
 refine W_seq (W_region rfl ?_)
 refine stp (r_assign_int rfl ?_)
 refine WL_nil ?_
 refine W_block ?_
 refine W_loop (fun m_ e_ w_ => ∃ (k : Nat) (ado : Option Addr) (co : Nat), m_ = n - k ∧ Fr [(0, .slice ad n c), (2, .slice none 0 0), (4, .int .i64 (k : Int)), (3, .slice ado ((nrm (L.take k)).length) co)] e_ ∧ (k ≤ n) ∧ ((nrm (L.take k)).length ≤ co) ∧ (co ≤ maxLen) ∧ (RowAt w_ 2 ado (nrm (L.take k)).length (encL (nrm (L.take k)))) ∧ Grow w w_) _ ⟨0, none, 0, rfl, fr_of ⟨rfl, rfl, rfl, by rw [List.take_zero, nrm_nil]; rfl, trivial⟩, by omega, by rw [List.take_zero, nrm_nil]; exact Nat.le_refl _, Nat.zero_le _, RO, G⟩ ?_
 clear G
 rintro m_ e_ w1 ⟨k, ado, co, rfl, ⟨e2, rfl⟩, hk, hoc, hoc2, RO, G⟩
 refine W_seq ?_
 refine W_seq (W_region rfl ?_)
 refine stp (r_move_int rfl ?_)
 refine stp (r_move_slice rfl ?_)
 refine stp (r_len rfl rfl rfl ?_)
 refine stp (r_lss rfl rfl ?_)
 refine WL_nil ?_
 refine W_cond2 (b := (decide ((k : Int) < (n : Int)))) rfl (fun hlt => ?_) (fun hlt => ?_)
 ·-- true
  replace hlt := of_decide_eq_true hlt
  refine W_skip ?_
  refine W_seq ?_
  refine W_block ?_
  refine W_region rfl ?_
  refine stp (r_move_slice rfl ?_)
  refine stp (r_move_slice rfl ?_)
  refine stp (r_move_int rfl ?_)
  refine stp (r_indexN (R.grow G) rfl rfl ?_ ?_); omega
  refine stp (r_loadNR (R.grow G) rfl (by decide) (by rw [R.len]; omega) (row_gS R (by omega)) ?_)
  refine WL_some (og rfl ?_)
  have hlt9 := nrm_len (L.take k)
  rw [List.length_take] at hlt9
  refine r_call rfl (radd_calls _ (L := nrm (L.take k)) (gS L k).1 (gS L k).2 hoc hoc2 RO (by omega)) ?_
  rintro v9 w9 ⟨⟨ad9, c9, rfl, hc9, hc92, R9⟩, g9⟩
  replace G := G.tr g9
  have hst : addS (nrm (L.take k)) ((gS L k).1, (gS L k).2) = nrm (L.take (k + 1)) := nrm_step (by omega)
  rw [hst] at hc9 R9
  refine stp (r_assign (v := .slice ad9 (addS (nrm (L.take k)) ((gS L k).1, (gS L k).2)).length c9) rfl ?_)
  refine WL_nil ?_
  refine W_region rfl ?_
  refine stp (r_move_int rfl ?_)
  refine stp (r_add rfl rfl ?_ ?_); constructor <;> omega
  refine stp (r_assign_int rfl ?_)
  refine WL_nil ?_
  refine ⟨_, ?_, k + 1, ad9, c9, rfl, fr_of ⟨rfl, rfl, congrArg (Value.int .i64) (by omega), by rw [← hst]; rfl, trivial⟩, by omega, hc9, hc92, R9, G⟩
  omega
 ·-- false
  replace hlt := of_decide_eq_false hlt
  have hk9 : L.take k = L := List.take_of_length_le (by omega)
  rw [hk9] at RO hoc
  refine W_exit ?_
  refine W_seq (W_region rfl ?_)
  refine stp (r_move_slice rfl ?_)
  refine stp (r_assign_slice rfl ?_)
  refine WL_nil ?_
  refine W_ret ?_
  refine ret1 (res_tmp (v := .slice ado ((nrm (L.take k)).length) co) rfl) ⟨⟨_, _, by rw [hk9], hoc, hoc2, RO⟩, G⟩
end Go.Proofs.YtifhcfhdajkhlaaGreat.K

namespace Go.Proofs.YtifhcfhdajkhlaaGreat.K
open Go Go.RowKit Go.Proofs
attribute [local irreducible] Run1 OpG WL W AO Gives
set_option maxRecDepth 100000 in
theorem rnote_calls (w : World) {u : Value} {A : List (List Int)} (hA : ArenaR w u A) (hr : rightB A = true) (hx : AllU A) {adl : Option Addr} {cl : Nat} {L : List Spn} (oL : w.ownsRow 0 47 2 (.slice adl L.length cl) L.length (encL L)) (hL : L.length ≤ 200000) (seg a : Int) : Calls Tryz.prog 70 #[u, .slice adl L.length cl, .int .i64 seg, .int .i64 a] w (Ret fun v w' => ∃ ad c, v = .slice ad ((noteT A L seg a)).length c ∧ w'.ownsRow 0 47 2 (.slice ad ((noteT A L seg a)).length c) ((noteT A L seg a)).length (encL ((noteT A L seg a))) ∧ Grow w w') := by
 have hA0 := hA
 obtain ⟨r1, r2, r3, r4⟩ := of_decide_eq_true hr
 have hfit : fitsL (sizesP A) = true := by rw [fits_right]; exact hr
 have hrz : ∀ x ∈ sizesP A, inR .i64 x := fits_rng hfit
 obtain ⟨_, _, hs9, hl, hl2, RL⟩ := own_row oL (by omega)
 cases hs9
 have G := Grow.rfl' w
 refine calls_ret Tryz.func70 Tryz.ntmps70 Tryz.results70 rfl rfl ?_
 have hpl : placeM (sizesP A) seg a < 0 ∨ (placeM (sizesP A) seg a < 4096) := by by_cases h_ : placeM (sizesP A) seg a < 0; exact .inl h_; (have h2_ := (placeM_lt (sz := sizesP A) (seg := seg) (a := a) (by omega)).2.2.2.2.2.2; have := wordsM_le (sizesP A); omega)
 refine W_seq (W_region rfl ?_)
 refine stp (r_assign_slice rfl ?_)
 refine WL_nil ?_
 refine W_seq (W_region rfl ?_)
 refine stp (r_move (v := u) rfl ?_)
 refine WL_some (og rfl ?_)
 refine r_call rfl (rsizesO_calls _ (hA0.grow G) (by omega)) ?_
 rintro v_ w1 ⟨ad9, c9, rfl, hc9, oZ, g_⟩
 replace G := G.tr g_
 clear g_
 obtain ⟨_, _, hs9, -, -, RZ⟩ := own_row oZ (by omega)
 cases hs9
 rw [← sizesP_len A] at RZ hc9
 clear oZ
 refine stp (r_move_int rfl ?_)
 refine stp (r_move_int rfl ?_)
 refine stp (r_gives (v := .int .i64 (placeM (sizesP A) seg a)) rfl ((by have h_ := rplace_calls w1 (seg := seg) (a := a) RZ hrz hc9; rw [sizesP_len] at h_; exact h_)) ?_)
 intro w2 g3
 replace RZ := RZ.grow g3
 replace G := G.tr g3
 clear g3
 refine stp (r_assign_int rfl ?_)
 refine WL_nil ?_
 refine W_seq ?_
 refine W_seq (W_region rfl ?_)
 refine stp (r_move_int rfl ?_)
 refine stp (r_lss rfl rfl ?_)
 refine WL_nil ?_
 refine W_cond2 (b := (decide ((placeM (sizesP A) seg a) < 0))) rfl (fun h1 => ?_) (fun h1 => ?_)
 ·-- true
  replace h1 := of_decide_eq_true h1
  refine W_seq (W_region rfl ?_)
  refine stp (r_move_slice rfl ?_)
  refine stp (r_assign_slice rfl ?_)
  refine WL_nil ?_
  refine W_ret ?_
  have h9 : noteT A L seg a = L := if_pos h1
  rw [h9]
  refine ret1 (res_tmp (v := .slice adl L.length cl) rfl) ⟨_, _, rfl, own_grow oL G, G⟩
 ·-- false
  replace h1 := of_decide_eq_false h1
  have h9 : noteT A L seg a = L ++ [(placeM (sizesP A) seg a, placeM (sizesP A) seg a + 1)] := if_neg h1
  have hlE := encL_len L
  refine W_skip ?_
  refine W_seq (W_region rfl ?_)
  refine stp (r_assign_slice rfl ?_)
  refine WL_nil ?_
  have hG5 := G.size
  have own0 : w2.ownsRow w.heap.size 47 2 (.slice none 0 0) 0 [] := World.ownsRow_nil _ _ _ _
  refine W_seq (W_region rfl ?_)
  refine stp (r_move_slice rfl ?_)
  refine stp (r_move_slice rfl ?_)
  refine stp (r_append rfl rfl rfl rfl own0 ⟨_, _, rfl, hl, hl2, RL.grow G⟩ encL_one (by simp only [maxLen]; omega) (by omega) G.size ?_)
  intro v6 w6 own1 gr6
  replace G := G.grown gr6 (own_ge own0)
  rw [Nat.zero_add, List.nil_append] at own1
  obtain ⟨ad1, n1, c1, rfl⟩ := own_slice own1
  refine stp (r_assign_slice rfl ?_)
  refine WL_nil ?_
  refine W_seq (W_region rfl ?_)
  refine stp (r_move_slice rfl ?_)
  refine stp (r_move_int rfl ?_)
  refine stp (r_move_int rfl ?_)
  refine stp (r_add rfl rfl ?_ ?_); constructor <;> omega
  refine stp (r_build (v := .agg #[.int .i64 (placeM (sizesP A) seg a), .int .i64 ((placeM (sizesP A) seg a) + 1)]) (fun w => by kernel_rfl) ?_)
  refine stp (r_buildSlice (cs := #[.int .i64 (placeM (sizesP A) seg a), .int .i64 ((placeM (sizesP A) seg a) + 1)]) (el := 47) (fun w => by kernel_rfl) ?_)
  intro bs4 w5 hb6 hc7 g8
  have hge9 := Nat.le_trans G.size hb6
  replace own1 := own_grow own1 g8
  replace G := G.tr g8
  clear g8
  refine stp (r_append rfl rfl rfl rfl own1 (Row.of_block (n := 1) hc7 rfl rfl (by omega)) (fun q_ hq_ => by simp at hq_; rcases hq_ with rfl | rfl <;> rfl) (by simp only [maxLen]; omega) (by omega) G.size ?_)
  intro v7 w7 own2 gr7
  replace G := G.grown gr7 (own_ge own1)
  have own3 := own_snoc (s := (placeM (sizesP A) seg a, placeM (sizesP A) seg a + 1)) own2
  obtain ⟨ad2, n2, c2, rfl⟩ := own_slice own3
  have hn3 := own_lenS own3
  subst hn3
  refine stp (r_assign_slice rfl ?_)
  refine WL_nil ?_
  refine W_seq (W_region rfl ?_)
  refine stp (r_move_slice rfl ?_)
  refine stp (r_assign_slice rfl ?_)
  refine WL_nil ?_
  refine W_ret ?_
  rw [h9]
  refine ret1 (res_tmp (v := .slice ad2 ((L ++ [(placeM (sizesP A) seg a, placeM (sizesP A) seg a + 1)]).length) c2) rfl) ⟨_, _, rfl, own_base own3 (Nat.zero_le _), G⟩

set_option maxRecDepth 100000 in
theorem rfol11_calls (w : World) {u : Value} {A : List (List Int)} (hA : ArenaR w u A) (hr : rightB A = true) (hx : AllU A) {adl : Option Addr} {cl : Nat} {L : List Spn} (oL : w.ownsRow 0 47 2 (.slice adl L.length cl) L.length (encL L)) (hL : L.length ≤ 100000) (seg a : Int) : Calls Tryz.prog 28 #[u, .slice adl L.length cl, .int .i64 seg, .int .i64 a] w (Ret fun v w' => ∃ ad c, v = .slice ad ((followT A L seg a)).length c ∧ w'.ownsRow 0 47 2 (.slice ad ((followT A L seg a)).length c) ((followT A L seg a)).length (encL ((followT A L seg a))) ∧ Grow w w') := by
 have hA0 := hA
 obtain ⟨r1, r2, r3, r4⟩ := of_decide_eq_true hr
 have hfit : fitsL (sizesP A) = true := by rw [fits_right]; exact hr
 have hrz : ∀ x ∈ sizesP A, inR .i64 x := fits_rng hfit
 obtain ⟨n1, n2, -, -⟩ := wordA_num hx seg a
 have hpr : PtR (pwT A seg a) := decP_range _ n1 n2
 have hpo := hpr.off
 have G := Grow.rfl' w
 refine calls_ret Tryz.func28 Tryz.ntmps28 Tryz.results28 rfl rfl ?_
 refine W_seq (W_region rfl ?_)
 refine stp (r_assign_slice rfl ?_)
 refine WL_nil ?_
 refine W_seq (W_region rfl ?_)
 refine stp (r_move (v := u) rfl ?_)
 refine stp (r_move_slice rfl ?_)
 refine stp (r_move_int rfl ?_)
 refine stp (r_move_int rfl ?_)
 refine WL_some (og rfl ?_)
 have hln1 := (show (noteT A L seg a).length ≤ L.length + 1 from by unfold noteT; split <;> simp)
 refine r_call rfl (rnote_calls _ (hA0.grow G) hr hx (own_grow oL G) (by omega) seg a) ?_
 rintro v_ w1 ⟨ad1, c1, rfl, oL1, g_⟩
 replace G := G.tr g_
 clear g_
 refine stp (r_assign_slice rfl ?_)
 refine WL_nil ?_
 refine W_seq (W_region rfl ?_)
 refine stp (r_move (v := u) rfl ?_)
 refine stp (r_move_int rfl ?_)
 refine stp (r_move_int rfl ?_)
 refine stp (r_gives (v := .tuple #[.int .u64 ((wordA A seg a).1), .int .i64 ((wordA A seg a).2)]) rfl (rword7_calls _ (hA0.grow G) (by omega)) ?_)
 intro w2 g3
 replace oL1 := own_grow oL1 g3
 replace G := G.tr g3
 clear g3
 refine stp (r_move (v := .tuple #[.int .u64 ((wordA A seg a).1), .int .i64 ((wordA A seg a).2)]) rfl ?_)
 refine stp (r_extract (v := .int .u64 ((wordA A seg a).1)) rfl rfl ?_)
 refine stp (r_extract (v := .int .i64 ((wordA A seg a).2)) rfl rfl ?_)
 refine stp (r_assign_int rfl ?_)
 refine stp (r_assign_int rfl ?_)
 refine WL_nil ?_
 refine W_seq (W_region rfl ?_)
 refine stp (r_move_int rfl ?_)
 refine stp (r_gives (v := .tuple #[.agg #[.int .i64 ((pwT A seg a).kind), .int .i64 ((pwT A seg a).off), .int .i64 ((pwT A seg a).data), .int .i64 ((pwT A seg a).ptrs), .int .i64 ((pwT A seg a).size), .int .i64 ((pwT A seg a).count), .int .i64 ((pwT A seg a).seg), .bool ((pwT A seg a).dbl)], .int .i64 (decE (wordA A seg a).1)]) rfl (rdecode_calls _ _ n1 n2) ?_)
 intro w4 g5
 replace oL1 := own_grow oL1 g5
 replace G := G.tr g5
 clear g5
 refine stp (r_move (v := .tuple #[.agg #[.int .i64 ((pwT A seg a).kind), .int .i64 ((pwT A seg a).off), .int .i64 ((pwT A seg a).data), .int .i64 ((pwT A seg a).ptrs), .int .i64 ((pwT A seg a).size), .int .i64 ((pwT A seg a).count), .int .i64 ((pwT A seg a).seg), .bool ((pwT A seg a).dbl)], .int .i64 (decE (wordA A seg a).1)]) rfl ?_)
 refine stp (r_extract (v := .agg #[.int .i64 ((pwT A seg a).kind), .int .i64 ((pwT A seg a).off), .int .i64 ((pwT A seg a).data), .int .i64 ((pwT A seg a).ptrs), .int .i64 ((pwT A seg a).size), .int .i64 ((pwT A seg a).count), .int .i64 ((pwT A seg a).seg), .bool ((pwT A seg a).dbl)]) rfl rfl ?_)
 refine stp (r_extract (v := .int .i64 (decE (wordA A seg a).1)) rfl rfl ?_)
 refine stp (r_alloc ?_)
 intro b6 w7 hb8 hc9 g10
 refine stn (r_storeAll rfl rfl hc9 (by rfl) (by rfl) (by rfl) ?_)
 intro w11 hc12 u13
 have g14 := g10.upd u13 hb8
 have hge15 := Nat.le_trans G.size hb8
 replace oL1 := own_grow oL1 g14
 replace G := G.tr g14
 clear u13 g10 hb8 hc9
 refine stp (r_assign_int rfl ?_)
 refine WL_nil ?_
 refine W_seq ?_
 refine W_seq (W_region rfl ?_)
 refine stp (r_fieldAddr rfl ?_)
 refine stp (r_load (v := .int .i64 ((pwT A seg a).kind)) rfl hc12 rfl ?_)
 refine stp (r_neq rfl rfl ?_)
 refine WL_nil ?_
 refine W_cond2 (b := (decide (((pwT A seg a).kind) ≠ 3))) rfl (fun h1 => ?_) (fun h1 => ?_)
 ·-- true
  replace h1 := of_decide_eq_true h1
  refine W_seq (W_region rfl ?_)
  refine stp (r_move_slice rfl ?_)
  refine stp (r_assign_slice rfl ?_)
  refine WL_nil ?_
  refine W_ret ?_
  have h9 : (followT A L seg a) = (noteT A L seg a) := by unfold followT; rw [if_pos h1]
  rw [h9]
  refine ret1 (res_tmp (v := .slice ad1 ((noteT A L seg a).length) c1) rfl) ⟨_, _, rfl, oL1, G⟩
 ·-- false
  replace h1 := of_decide_eq_false h1
  refine W_skip ?_
  refine W_seq (W_region rfl ?_)
  refine stp (r_move (v := u) rfl ?_)
  refine stp (r_move_slice rfl ?_)
  refine stp (r_fieldAddr rfl ?_)
  refine stp (r_load (v := .int .i64 ((pwT A seg a).seg)) rfl hc12 rfl ?_)
  refine stp (r_fieldAddr rfl ?_)
  refine stp (r_load (v := .int .i64 ((pwT A seg a).off)) rfl hc12 rfl ?_)
  refine WL_some (og rfl ?_)
  have hln2 := (show (noteT A (noteT A L seg a) (pwT A seg a).seg (pwT A seg a).off).length ≤ (noteT A L seg a).length + 1 from by unfold noteT; split <;> simp)
  refine r_call rfl (rnote_calls _ (hA0.grow G) hr hx oL1 (by omega) (pwT A seg a).seg (pwT A seg a).off) ?_
  rintro v_ w16 ⟨ad2, c2, rfl, oL2, g_⟩
  replace oL1 := own_grow oL1 g_
  replace hc12 := g_.heap hc12
  replace G := G.tr g_
  clear g_
  refine stp (r_assign_slice rfl ?_)
  refine WL_nil ?_
  refine W_seq ?_
  refine W_seq (W_region rfl ?_)
  refine stp (r_fieldAddr rfl ?_)
  refine stp (r_load (v := .bool ((pwT A seg a).dbl)) rfl hc12 rfl ?_)
  refine WL_nil ?_
  refine W_cond2 (b := ((pwT A seg a).dbl)) rfl (fun h2 => ?_) (fun h2 => ?_)
  ·-- true
   refine W_region rfl ?_
   refine stp (r_move (v := u) rfl ?_)
   refine stp (r_move_slice rfl ?_)
   refine stp (r_fieldAddr rfl ?_)
   refine stp (r_load (v := .int .i64 ((pwT A seg a).seg)) rfl hc12 rfl ?_)
   refine stp (r_fieldAddr rfl ?_)
   refine stp (r_load (v := .int .i64 ((pwT A seg a).off)) rfl hc12 rfl ?_)
   refine stp (r_add rfl rfl ?_ ?_); constructor <;> omega
   refine WL_some (og rfl ?_)
   have hln3 := (show (noteT A (noteT A (noteT A L seg a) (pwT A seg a).seg (pwT A seg a).off) (pwT A seg a).seg ((pwT A seg a).off + 1)).length ≤ (noteT A (noteT A L seg a) (pwT A seg a).seg (pwT A seg a).off).length + 1 from by unfold noteT; split <;> simp)
   refine r_call rfl (rnote_calls _ (hA0.grow G) hr hx oL2 (by omega) (pwT A seg a).seg ((pwT A seg a).off + 1)) ?_
   rintro v_ w17 ⟨ad3, c3, rfl, oL3, g_⟩
   replace oL1 := own_grow oL1 g_
   replace hc12 := g_.heap hc12
   replace oL2 := own_grow oL2 g_
   replace G := G.tr g_
   clear g_
   refine stp (r_assign_slice rfl ?_)
   refine WL_nil ?_
   refine W_seq (W_region rfl ?_)
   refine stp (r_move_slice rfl ?_)
   refine stp (r_assign_slice rfl ?_)
   refine WL_nil ?_
   refine W_ret ?_
   have h9 : (followT A L seg a) = noteT A (noteT A (noteT A L seg a) (pwT A seg a).seg (pwT A seg a).off) (pwT A seg a).seg ((pwT A seg a).off + 1) := by unfold followT; rw [if_neg h1, if_pos h2]
   rw [h9]
   refine ret1 (res_tmp (v := .slice ad3 ((noteT A (noteT A (noteT A L seg a) (pwT A seg a).seg (pwT A seg a).off) (pwT A seg a).seg ((pwT A seg a).off + 1)).length) c3) rfl) ⟨_, _, rfl, oL3, G⟩
  ·-- false
   refine W_skip ?_
   refine W_seq (W_region rfl ?_)
   refine stp (r_move_slice rfl ?_)
   refine stp (r_assign_slice rfl ?_)
   refine WL_nil ?_
   refine W_ret ?_
   have h9 : (followT A L seg a) = (noteT A (noteT A L seg a) (pwT A seg a).seg (pwT A seg a).off) := by unfold followT; rw [if_neg h1, if_neg (by simpa using h2)]
   rw [h9]
   refine ret1 (res_tmp (v := .slice ad2 ((noteT A (noteT A L seg a) (pwT A seg a).seg (pwT A seg a).off).length) c2) rfl) ⟨_, _, rfl, oL2, G⟩

set_option maxRecDepth 100000 in
theorem rend11_calls (w : World) {u : Value} {A : List (List Int)} (hA : ArenaR w u A) (hr : rightB A = true) (hx : AllU A) {adl : Option Addr} {cl : Nat} {L : List Spn} (oL : w.ownsRow 0 47 2 (.slice adl L.length cl) L.length (encL L)) (hL : L.length ≤ 100000) (o : Ob) (ho : ObR o) (k : Int) (hk : k < 0 ∨ o.kind = 0 ∨ o.kind = 1 ∨ k < o.count) : Calls Tryz.prog 31 #[u, .slice adl L.length cl, .agg #[.int .i64 o.kind, .int .i64 o.seg, .int .i64 o.at_, .int .i64 o.data, .int .i64 o.ptrs, .int .i64 o.size, .int .i64 o.count], .int .i64 k] w (Ret fun v w' => ∃ ad c, v = .slice ad ((endT A L o k)).length c ∧ w'.ownsRow 0 47 2 (.slice ad ((endT A L o k)).length c) ((endT A L o k)).length (encL ((endT A L o k))) ∧ Grow w w') := by
 have hA0 := hA
 obtain ⟨r1, r2, r3, r4⟩ := of_decide_eq_true hr
 have hfit : fitsL (sizesP A) = true := by rw [fits_right]; exact hr
 have hrz : ∀ x ∈ sizesP A, inR .i64 x := fits_rng hfit
 obtain ⟨rk, rs, ra, rd, rp, rz, rc⟩ := ho
 have G := Grow.rfl' w
 refine calls_ret Tryz.func31 Tryz.ntmps31 Tryz.results31 rfl rfl ?_
 refine W_seq (W_region rfl ?_)
 refine WL_some (og rfl ?_)
 (first | refine r_box_agg rfl ?_ | refine r_box_int rfl ?_ | refine r_box_slice rfl ?_ | refine r_box rfl rfl ?_)
 intro b1 w2 hb3 hc4 g5
 have hge6 := Nat.le_trans G.size hb3
 replace G := G.tr g5
 clear g5 hb3
 refine stp (r_assign_slice rfl ?_)
 refine WL_nil ?_
 refine W_seq ?_
 refine W_seq (W_region rfl ?_)
 refine stp (r_move_int rfl ?_)
 refine stp (r_lss rfl rfl ?_)
 refine stp (r_move_bool rfl ?_)
 refine WL_some (og_if (s := .bool (decide (k < 0))) (b := false) (v := .pointer (some ⟨b1, 0, none⟩)) rfl (wgb_f _) (fun hc7 => ?_) ?_)
 ·
  have hc7_ := hc7
  try simp only [sb] at hc7_
  refine r_fieldAddr rfl ?_
  exact ⟨rfl, rfl⟩
 refine WL_some (og_if (s := .bool (decide (k < 0))) (b := false) (v := .int .i64 o.kind) rfl (wgb_f _) (fun hc8 => ?_) ?_)
 ·
  have hc8_ := hc8
  try simp only [sb] at hc8_
  refine r_load (v := .int .i64 o.kind) (gvt hc8) hc4 rfl ?_
  exact ⟨rfl, rfl⟩
 refine WL_some (og_if (s := .bool (decide (k < 0))) (b := false) (v := .bool (decide (o.kind = 0))) rfl (wgb_f _) (fun hc9 => ?_) ?_)
 ·
  have hc9_ := hc9
  try simp only [sb] at hc9_
  refine r_eql (gvt hc9) rfl ?_
  exact ⟨rfl, rfl⟩
 refine stp (r_or2 rfl rfl rfl ?_)
 refine stp (r_move_bool rfl ?_)
 refine WL_some (og_if (s := .bool ((decide (k < 0)) || (decide (o.kind = 0)))) (b := false) (v := .pointer (some ⟨b1, 0, none⟩)) rfl (wgb_f _) (fun hc10 => ?_) ?_)
 ·
  have hc10_ := hc10
  try simp only [sb] at hc10_
  refine r_fieldAddr rfl ?_
  exact ⟨rfl, rfl⟩
 refine WL_some (og_if (s := .bool ((decide (k < 0)) || (decide (o.kind = 0)))) (b := false) (v := .int .i64 o.kind) rfl (wgb_f _) (fun hc11 => ?_) ?_)
 ·
  have hc11_ := hc11
  try simp only [sb] at hc11_
  refine r_load (v := .int .i64 o.kind) (gvt hc11) hc4 rfl ?_
  exact ⟨rfl, rfl⟩
 refine WL_some (og_if (s := .bool ((decide (k < 0)) || (decide (o.kind = 0)))) (b := false) (v := .bool (decide (o.kind = 1))) rfl (wgb_f _) (fun hc12 => ?_) ?_)
 ·
  have hc12_ := hc12
  try simp only [sb] at hc12_
  refine r_eql (gvt hc12) rfl ?_
  exact ⟨rfl, rfl⟩
 refine WL_some (og_if (s := .bool ((decide (k < 0)) || (decide (o.kind = 0)))) (b := false) (v := .bool (decide (o.kind = 1))) rfl (wgb_f _) (fun hc13 => ?_) ?_)
 ·
  have hc13_ := hc13
  try simp only [sb] at hc13_
  refine r_move (v := .bool (decide (o.kind = 1))) (gvt hc13) ?_
  exact ⟨rfl, rfl⟩
 refine WL_some (og_if (s := gv (!((decide (k < 0)) || (decide (o.kind = 0)))) (.bool (decide (o.kind = 1)))) (b := true) (v := .int .i64 k) rfl (wgb_gt _ _) (fun hc14 => ?_) ?_)
 ·
  obtain ⟨hc14a, hc14b⟩ := and_t hc14
  have hc14a_ := hc14a
  try simp only [sb] at hc14a_
  have hc14b_ := of_decide_eq_true hc14b
  refine r_move_int rfl ?_
  exact ⟨rfl, rfl⟩
 refine WL_some (og_if (s := gv (!((decide (k < 0)) || (decide (o.kind = 0)))) (.bool (decide (o.kind = 1)))) (b := true) (v := .pointer (some ⟨b1, 3, none⟩)) rfl (wgb_gt _ _) (fun hc15 => ?_) ?_)
 ·
  obtain ⟨hc15a, hc15b⟩ := and_t hc15
  have hc15a_ := hc15a
  try simp only [sb] at hc15a_
  have hc15b_ := of_decide_eq_true hc15b
  refine r_fieldAddr rfl ?_
  exact ⟨rfl, rfl⟩
 refine WL_some (og_if (s := gv (!((decide (k < 0)) || (decide (o.kind = 0)))) (.bool (decide (o.kind = 1)))) (b := true) (v := .int .i64 o.data) rfl (wgb_gt _ _) (fun hc16 => ?_) ?_)
 ·
  obtain ⟨hc16a, hc16b⟩ := and_t hc16
  have hc16a_ := hc16a
  try simp only [sb] at hc16a_
  have hc16b_ := of_decide_eq_true hc16b
  refine r_load (v := .int .i64 o.data) (gvt hc16) hc4 rfl ?_
  exact ⟨rfl, rfl⟩
 refine WL_some (og_if (s := gv (!((decide (k < 0)) || (decide (o.kind = 0)))) (.bool (decide (o.kind = 1)))) (b := true) (v := .bool (decide (k ≥ o.data))) rfl (wgb_gt _ _) (fun hc17 => ?_) ?_)
 ·
  obtain ⟨hc17a, hc17b⟩ := and_t hc17
  have hc17a_ := hc17a
  try simp only [sb] at hc17a_
  have hc17b_ := of_decide_eq_true hc17b
  refine r_geq (gvt hc17) (gvt hc17) ?_
  exact ⟨rfl, rfl⟩
 refine WL_some (og_if (s := .bool ((decide (k < 0)) || (decide (o.kind = 0)))) (b := false) (v := .bool ((decide (o.kind = 1)) && (decide (k ≥ o.data)))) rfl (wgb_f _) (fun hc18 => ?_) ?_)
 ·
  have hc18_ := hc18
  try simp only [sb] at hc18_
  refine r_and3 hc18 (gvt hc18) rfl rfl ?_
  exact ⟨rfl, rfl⟩
 refine stp (r_or2 rfl rfl rfl ?_)
 refine WL_nil ?_
 refine W_cond2 (b := (((decide (k < 0)) || (decide (o.kind = 0))) || ((decide (o.kind = 1)) && (decide (k ≥ o.data))))) rfl (fun h1 => ?_) (fun h1 => ?_)
 ·-- true
  simp only [sb] at h1
  refine W_seq (W_region rfl ?_)
  refine stp (r_move_slice rfl ?_)
  refine stp (r_assign_slice rfl ?_)
  refine WL_nil ?_
  refine W_ret ?_
  have h9 : (endT A L o k) = L := by unfold endT; rw [if_pos (by omega)]
  rw [h9]
  refine ret1 (res_tmp (v := .slice adl L.length cl) rfl) ⟨_, _, rfl, own_grow oL G, G⟩
 ·-- false
  simp only [sb] at h1
  have hnn : ¬ (k < 0 ∨ o.kind = 0 ∨ (o.kind = 1 ∧ k ≥ o.data)) := by omega
  refine W_skip ?_
  refine W_seq ?_
  refine W_seq (W_region rfl ?_)
  refine stp (r_fieldAddr rfl ?_)
  refine stp (r_load (v := .int .i64 o.kind) rfl hc4 rfl ?_)
  refine stp (r_eql rfl rfl ?_)
  refine stp (r_move_bool rfl ?_)
  refine WL_some (og_if (s := .bool (decide (o.kind = 2))) (b := true) (v := .pointer (some ⟨b1, 5, none⟩)) rfl (wgb_t _) (fun hc19 => ?_) ?_)
  ·
   have hc19_ := of_decide_eq_true hc19
   refine r_fieldAddr rfl ?_
   exact ⟨rfl, rfl⟩
  refine WL_some (og_if (s := .bool (decide (o.kind = 2))) (b := true) (v := .int .i64 o.size) rfl (wgb_t _) (fun hc20 => ?_) ?_)
  ·
   have hc20_ := of_decide_eq_true hc20
   refine r_load (v := .int .i64 o.size) (gvt hc20) hc4 rfl ?_
   exact ⟨rfl, rfl⟩
  refine WL_some (og_if (s := .bool (decide (o.kind = 2))) (b := true) (v := .bool (decide (o.size = 2))) rfl (wgb_t _) (fun hc21 => ?_) ?_)
  ·
   have hc21_ := of_decide_eq_true hc21
   refine r_eql (gvt hc21) rfl ?_
   exact ⟨rfl, rfl⟩
  refine stp (r_and2 rfl rfl rfl ?_)
  refine WL_nil ?_
  refine W_cond2 (b := ((decide (o.kind = 2)) && (decide (o.size = 2)))) rfl (fun h2 => ?_) (fun h2 => ?_)
  ·-- true
   simp only [sb] at h2
   refine W_region rfl ?_
   refine stp (r_move_int rfl ?_)
   refine stp (r_quo rfl rfl ?_ ?_ ?_ ?_); omega; omega; (constructor <;> omega)
   refine stp (r_assign_int rfl ?_)
   refine WL_nil ?_
   refine W_seq (W_region rfl ?_)
   refine stp (r_move (v := u) rfl ?_)
   refine stp (r_move_slice rfl ?_)
   refine stp (r_fieldAddr rfl ?_)
   refine stp (r_load (v := .int .i64 o.seg) rfl hc4 rfl ?_)
   refine stp (r_fieldAddr rfl ?_)
   refine stp (r_load (v := .int .i64 o.at_) rfl hc4 rfl ?_)
   refine stp (r_move_int rfl ?_)
   refine stp (r_add rfl rfl ?_ ?_); constructor <;> omega
   refine WL_some (og rfl ?_)
   have hln1 := (show (noteT A L o.seg (o.at_ + k / 8)).length ≤ L.length + 1 from by unfold noteT; split <;> simp)
   refine r_call rfl (rnote_calls _ (hA0.grow G) hr hx (own_grow oL G) (by omega) o.seg (o.at_ + k / 8)) ?_
   rintro v_ w22 ⟨ad1, c1, rfl, oL1, g_⟩
   replace hc4 := g_.heap hc4
   replace G := G.tr g_
   clear g_
   refine stp (r_assign_slice rfl ?_)
   refine WL_nil ?_
   refine W_seq (W_region rfl ?_)
   refine stp (r_move_slice rfl ?_)
   refine stp (r_assign_slice rfl ?_)
   refine WL_nil ?_
   refine W_ret ?_
   have h9 : (endT A L o k) = noteT A L o.seg (o.at_ + k / 8) := by unfold endT; rw [if_neg hnn, if_pos (by omega)]
   rw [h9]
   refine ret1 (res_tmp (v := .slice ad1 ((noteT A L o.seg (o.at_ + k / 8)).length) c1) rfl) ⟨_, _, rfl, oL1, G⟩
  ·-- false
   simp only [sb] at h2
   refine W_skip ?_
   refine W_seq (W_region rfl ?_)
   refine stp (r_move (v := u) rfl ?_)
   refine stp (r_move_slice rfl ?_)
   refine stp (r_fieldAddr rfl ?_)
   refine stp (r_load (v := .int .i64 o.seg) rfl hc4 rfl ?_)
   refine stp (r_fieldAddr rfl ?_)
   refine stp (r_load (v := .int .i64 o.at_) rfl hc4 rfl ?_)
   refine stp (r_move_int rfl ?_)
   refine stp (r_add rfl rfl ?_ ?_); constructor <;> omega
   refine WL_some (og rfl ?_)
   have hln1 := (show (noteT A L o.seg (o.at_ + k)).length ≤ L.length + 1 from by unfold noteT; split <;> simp)
   refine r_call rfl (rnote_calls _ (hA0.grow G) hr hx (own_grow oL G) (by omega) o.seg (o.at_ + k)) ?_
   rintro v_ w23 ⟨ad1, c1, rfl, oL1, g_⟩
   replace hc4 := g_.heap hc4
   replace G := G.tr g_
   clear g_
   refine stp (r_assign_slice rfl ?_)
   refine WL_nil ?_
   refine W_seq (W_region rfl ?_)
   refine stp (r_move_slice rfl ?_)
   refine stp (r_assign_slice rfl ?_)
   refine WL_nil ?_
   refine W_ret ?_
   have h9 : (endT A L o k) = noteT A L o.seg (o.at_ + k) := by unfold endT; rw [if_neg hnn, if_neg (by omega)]
   rw [h9]
   refine ret1 (res_tmp (v := .slice ad1 ((noteT A L o.seg (o.at_ + k)).length) c1) rfl) ⟨_, _, rfl, oL1, G⟩

set_option maxRecDepth 100000 in
theorem rtouched_calls (w : World) {u : Value} {A : List (List Int)} (hA : ArenaR w u A) (hr : rightB A = true) (hx : AllU A) {ad : Option Addr} {c : Nat} {ks : List Int} {a : Int} (R : RowAt w 1 ad ks.length (ks.map (.int .i64))) (ha : inR .i64 a) : Calls Tryz.prog 12 #[u, .agg #[.slice ad ks.length c, .int .i64 a]] w (Ret fun v w' => ∃ adn n cn, v = .tuple #[.slice adn n cn, .int .i64 (walkS (wholeS A) ks a 8192).2] ∧ ((walkS (wholeS A) ks a 8192).2 = 0 → n = (nrm (touchT A ks a)).length ∧ n ≤ cn ∧ cn ≤ maxLen ∧ RowAt w' 2 adn (nrm (touchT A ks a)).length (encL (nrm (touchT A ks a)))) ∧ Grow w w') := by
 have hA0 := hA
 obtain ⟨r1, r2, r3, r4⟩ := of_decide_eq_true hr
 have hfit : fitsL (sizesP A) = true := by rw [fits_right]; exact hr
 have hrz : ∀ x ∈ sizesP A, inR .i64 x := fits_rng hfit
 obtain ⟨ada, ca, segs, sa, sc, rfl, hca, hca2, RA, hsf, hrf⟩ := hA.fn
 have hlen : ∀ i, len2 A i ≤ 140737488355328 := fun i => by have := seg_le_total A i; omega
 have H : SrcR Tryz.prog 110 w (.slice ada A.length ca) false (.slice none 0 0) A (wholeS A) := srcR_whole hA0 (by omega) hx hlen
 have ll := R.lim
 have G := Grow.rfl' w
 refine calls_ret Tryz.func12 Tryz.ntmps12 Tryz.results12 rfl rfl ?_
 refine W_seq (W_region rfl ?_)
 refine WL_some (og rfl ?_)
 (first | refine r_box_agg rfl ?_ | refine r_box_int rfl ?_ | refine r_box_slice rfl ?_ | refine r_box rfl rfl ?_)
 intro b1 w2 hb3 hc4 g5
 have hge6 := Nat.le_trans G.size hb3
 replace G := G.tr g5
 clear g5 hb3
 refine stp (r_assign_slice rfl ?_)
 refine stp (r_assign_int rfl ?_)
 refine WL_nil ?_
 refine W_seq (W_region rfl ?_)
 refine stp (r_move_slice rfl ?_)
 refine stp (r_loadAll rfl hc4 (by rfl) ?_)
 refine stp (r_gives (v := .tuple #[.agg #[.int .i64 ((walkS (wholeS A) ks a 8192).1.kind), .int .i64 ((walkS (wholeS A) ks a 8192).1.size), .int .i64 ((walkS (wholeS A) ks a 8192).1.words), .int .i64 ((walkS (wholeS A) ks a 8192).1.kids), .int .u64 ((walkS (wholeS A) ks a 8192).1.word)], .int .i64 ((walkS (wholeS A) ks a 8192).2)]) rfl (rof9_calls _ (hA0.grow G) hr hx (R.grow G) ha (by decide)) ?_)
 intro w7 g8
 replace hc4 := g8.heap hc4
 replace G := G.tr g8
 clear g8
 refine stp (r_move (v := .tuple #[.agg #[.int .i64 ((walkS (wholeS A) ks a 8192).1.kind), .int .i64 ((walkS (wholeS A) ks a 8192).1.size), .int .i64 ((walkS (wholeS A) ks a 8192).1.words), .int .i64 ((walkS (wholeS A) ks a 8192).1.kids), .int .u64 ((walkS (wholeS A) ks a 8192).1.word)], .int .i64 ((walkS (wholeS A) ks a 8192).2)]) rfl ?_)
 refine stp (r_extract (v := .agg #[.int .i64 ((walkS (wholeS A) ks a 8192).1.kind), .int .i64 ((walkS (wholeS A) ks a 8192).1.size), .int .i64 ((walkS (wholeS A) ks a 8192).1.words), .int .i64 ((walkS (wholeS A) ks a 8192).1.kids), .int .u64 ((walkS (wholeS A) ks a 8192).1.word)]) rfl rfl ?_)
 refine stp (r_extract (v := .int .i64 ((walkS (wholeS A) ks a 8192).2)) rfl rfl ?_)
 refine stp (r_alloc ?_)
 intro b9 w10 hb11 hc12 g13
 refine stn (r_storeAll rfl rfl hc12 (by rfl) (by rfl) (by rfl) ?_)
 intro w14 hc15 u16
 have g17 := g13.upd u16 hb11
 have hge18 := Nat.le_trans G.size hb11
 have ne19 := Nat.ne_of_lt (Nat.lt_of_lt_of_le (lt_of_heap hc4) hb11)
 replace hc4 := g17.heap hc4
 replace G := G.tr g17
 clear u16 g13 hb11 hc12
 refine stp (r_assign_int rfl ?_)
 refine WL_nil ?_
 refine W_seq ?_
 refine W_seq (W_region rfl ?_)
 refine stp (r_move_int rfl ?_)
 refine stp (r_neq rfl rfl ?_)
 refine WL_nil ?_
 refine W_cond2 (b := (decide (((walkS (wholeS A) ks a 8192).2) ≠ 0))) rfl (fun h1 => ?_) (fun h1 => ?_)
 ·-- true
  replace h1 := of_decide_eq_true h1
  refine W_seq (W_region rfl ?_)
  refine stp (r_move_int rfl ?_)
  refine stp (r_assign_slice rfl ?_)
  refine stp (r_assign_int rfl ?_)
  refine WL_nil ?_
  refine W_ret ?_
  refine ret2 (res_tmp (v := .slice none 0 0) rfl) (res_tmp (v := .int .i64 ((walkS (wholeS A) ks a 8192).2)) rfl) ⟨none, 0, 0, rfl, fun h_ => absurd h_ (by omega), G⟩
 ·-- false
  replace h1 := of_decide_eq_false h1
  have hz0 : (walkS (wholeS A) ks a 8192).2 = 0 := by omega
  obtain ⟨hnn, hk32, left0, hx0⟩ := walk0 hz0
  refine W_skip ?_
  refine W_seq (W_region rfl ?_)
  refine stp (r_move_slice rfl ?_)
  refine stp (r_build (v := .agg #[.slice ada A.length ca, .bool false, .slice none 0 0]) (fun w => by kernel_rfl) ?_)
  refine stp (r_alloc ?_)
  intro b20 w21 hb22 hc23 g24
  refine stn (r_storeAll rfl rfl hc23 (by rfl) (by rfl) (by rfl) ?_)
  intro w25 hc26 u27
  have g28 := g24.upd u27 hb22
  have hge29 := Nat.le_trans G.size hb22
  have ne30 := Nat.ne_of_lt (Nat.lt_of_lt_of_le (lt_of_heap hc4) hb22)
  have ne31 := Nat.ne_of_lt (Nat.lt_of_lt_of_le (lt_of_heap hc15) hb22)
  replace hc4 := g28.heap hc4
  replace hc15 := g28.heap hc15
  replace G := G.tr g28
  clear u27 g24 hb22 hc23
  refine WL_nil ?_
  refine W_seq (W_region rfl ?_)
  refine stp (r_move_slice rfl ?_)
  refine WL_some (og rfl ?_)
  have hfl1 := (show (followT A [] 0 0).length ≤ [].length + 3 from followT_len A [] 0 0)
  refine r_call rfl (rfol11_calls _ (hA0.grow G) hr hx (L := []) (cl := 0) (adl := none) (World.ownsRow_nil _ _ _ _) (by simp) 0 0) ?_
  rintro v_ w32 ⟨ad1, c1, rfl, oL1, g_⟩
  replace hc4 := g_.heap hc4
  replace hc15 := g_.heap hc15
  replace hc26 := g_.heap hc26
  replace G := G.tr g_
  clear g_
  refine stp (r_assign_slice rfl ?_)
  refine WL_nil ?_
  refine W_seq (W_region rfl ?_)
  refine stp (r_loadAll rfl hc26 (by rfl) ?_)
  refine stp (r_gives (v := .tuple #[.agg #[.int .i64 ((followS (wholeS A) 0 0).1.kind), .int .i64 ((followS (wholeS A) 0 0).1.seg), .int .i64 ((followS (wholeS A) 0 0).1.at_), .int .i64 ((followS (wholeS A) 0 0).1.data), .int .i64 ((followS (wholeS A) 0 0).1.ptrs), .int .i64 ((followS (wholeS A) 0 0).1.size), .int .i64 ((followS (wholeS A) 0 0).1.count)], .int .i64 ((followS (wholeS A) 0 0).2)]) rfl (rfollow_calls _ (H.grow G) 0 0 (by simp [inR]) (by simp [inR])) ?_)
  intro w33 g34
  replace hc4 := g34.heap hc4
  replace hc15 := g34.heap hc15
  replace hc26 := g34.heap hc26
  replace oL1 := own_grow oL1 g34
  replace G := G.tr g34
  clear g34
  refine stp (r_move (v := .tuple #[.agg #[.int .i64 ((followS (wholeS A) 0 0).1.kind), .int .i64 ((followS (wholeS A) 0 0).1.seg), .int .i64 ((followS (wholeS A) 0 0).1.at_), .int .i64 ((followS (wholeS A) 0 0).1.data), .int .i64 ((followS (wholeS A) 0 0).1.ptrs), .int .i64 ((followS (wholeS A) 0 0).1.size), .int .i64 ((followS (wholeS A) 0 0).1.count)], .int .i64 ((followS (wholeS A) 0 0).2)]) rfl ?_)
  refine stp (r_extract (v := .agg #[.int .i64 ((followS (wholeS A) 0 0).1.kind), .int .i64 ((followS (wholeS A) 0 0).1.seg), .int .i64 ((followS (wholeS A) 0 0).1.at_), .int .i64 ((followS (wholeS A) 0 0).1.data), .int .i64 ((followS (wholeS A) 0 0).1.ptrs), .int .i64 ((followS (wholeS A) 0 0).1.size), .int .i64 ((followS (wholeS A) 0 0).1.count)]) rfl rfl ?_)
  refine stp (r_extract (v := .int .i64 ((followS (wholeS A) 0 0).2)) rfl rfl ?_)
  refine stp (r_alloc ?_)
  intro b35 w36 hb37 hc38 g39
  refine stn (r_storeAll rfl rfl hc38 (by rfl) (by rfl) (by rfl) ?_)
  intro w40 hc41 u42
  have g43 := g39.upd u42 hb37
  have hge44 := Nat.le_trans G.size hb37
  have ne45 := Nat.ne_of_lt (Nat.lt_of_lt_of_le (lt_of_heap hc4) hb37)
  have ne46 := Nat.ne_of_lt (Nat.lt_of_lt_of_le (lt_of_heap hc15) hb37)
  have ne47 := Nat.ne_of_lt (Nat.lt_of_lt_of_le (lt_of_heap hc26) hb37)
  replace hc4 := g43.heap hc4
  replace hc15 := g43.heap hc15
  replace hc26 := g43.heap hc26
  replace oL1 := own_grow oL1 g43
  replace G := G.tr g43
  clear u42 g39 hb37 hc38
  refine stp (r_assign_int rfl ?_)
  refine WL_nil ?_
  refine W_seq ?_
  refine W_seq (W_region rfl ?_)
  refine stp (r_assign_int rfl ?_)
  refine WL_nil ?_
  refine W_block ?_
  simp only [List.length_nil] at hfl1
  refine W_loop (fun m_ e_ w_ => ∃ (i : Nat) (l : List Spn) (o : Ob) (adx : Option Addr) (cx : Nat), m_ = ks.length - i ∧ Fr [(0, .slice ada A.length ca), (3, .pointer (some ⟨b1, 0, none⟩)), (4, .slice none 0 0), (5, .int .i64 0), (8, .pointer (some ⟨b20, 0, none⟩)), (10, .pointer (some ⟨b35, 0, none⟩)), (12, .int .i64 (i : Int)), (9, .slice adx l.length cx)] e_ ∧ (i ≤ ks.length) ∧ (l.length ≤ 3 + 3 * i) ∧ (ObR o) ∧ (ObK o) ∧ ((touchT A ks a) = endT A (goT A (ks.drop i) l o).1 (goT A (ks.drop i) l o).2 a) ∧ (∃ left, (nextS (wholeS A) a (ks.drop i) o left).2 = 0) ∧ (w_.heap[b1]? = some (.cells #[.slice ad ks.length c, .int .i64 a] 29 (0, 0))) ∧ (w_.heap[b9]? = some (.cells #[.int .i64 ((walkS (wholeS A) ks a 8192).1.kind), .int .i64 ((walkS (wholeS A) ks a 8192).1.size), .int .i64 ((walkS (wholeS A) ks a 8192).1.words), .int .i64 ((walkS (wholeS A) ks a 8192).1.kids), .int .u64 ((walkS (wholeS A) ks a 8192).1.word)] 35 (0, 0))) ∧ (w_.heap[b20]? = some (.cells #[.slice ada A.length ca, .bool false, .slice none 0 0] 90 (0, 0))) ∧ (w_.heap[b35]? = some (.cells #[.int .i64 o.kind, .int .i64 o.seg, .int .i64 o.at_, .int .i64 o.data, .int .i64 o.ptrs, .int .i64 o.size, .int .i64 o.count] 93 (0, 0))) ∧ (w_.ownsRow 0 47 2 (.slice adx l.length cx) l.length (encL l)) ∧ Grow w w_) _ ⟨0, (followT A [] 0 0), (followS (wholeS A) 0 0).1, ad1, c1, rfl, fr_of ⟨rfl, rfl, rfl, rfl, rfl, rfl, rfl, rfl, trivial⟩, by omega, by omega, H.follow_range 0 0, followS_kind _ _ _, rfl, ⟨_, hx0⟩, hc4, hc15, hc26, hc41, oL1, G⟩ ?_
  clear hc4 hc15 hc26 oL1 hc41
  clear G
  rintro m_ e_ w48 ⟨i, l, o, adx, cx, rfl, ⟨e49, rfl⟩, hi1, hll, ho, hob, htt, hxx, hc4, hc15, hc26, hc41, oLl, G⟩
  have ho' := ho
  obtain ⟨rk, rs, ra, rd, rp, rz, rc⟩ := ho'
  refine W_seq ?_
  refine W_seq (W_region rfl ?_)
  refine stp (r_move_int rfl ?_)
  refine stp (r_fieldAddr rfl ?_)
  refine stp (r_load (v := .slice ad ks.length c) rfl hc4 rfl ?_)
  refine stp (r_len rfl rfl rfl ?_)
  refine stp (r_lss rfl rfl ?_)
  refine WL_nil ?_
  refine W_cond2 (b := (decide ((i : Int) < (ks.length : Int)))) rfl (fun hlt => ?_) (fun hlt => ?_)
  ·-- true
   replace hlt := of_decide_eq_true hlt
   have hi : i < ks.length := by omega
   have hgo := goT_drop (A := A) (l := l) (o := o) hi
   have hk0 : 0 ≤ (ks.getD i 0) := hnn _ (getD_mem hi)
   obtain ⟨left, hx1⟩ := hxx
   have hdr : ks.drop i = (ks.getD i 0) :: ks.drop (i + 1) := by rw [List.drop_eq_getElem_cons hi, getD_at hi]
   rw [hdr] at hx1
   obtain ⟨hs0, left2, hx2⟩ := next_cons0 hx1
   refine W_skip ?_
   refine W_seq ?_
   refine W_block ?_
   refine W_seq (W_region rfl ?_)
   refine stp (r_fieldAddr rfl ?_)
   refine stp (r_load (v := .slice ad ks.length c) rfl hc4 rfl ?_)
   refine stp (r_move_int rfl ?_)
   refine stp (r_indexN (R.grow G) rfl rfl ?_ ?_); omega
   refine stp (r_loadR (v := .int .i64 (ks.getD i 0)) (m := 0) (R.grow G) rfl (map_get1 0 (by omega)) ?_)
   refine stp (r_assign_int rfl ?_)
   refine WL_nil ?_
   refine W_seq ?_
   refine W_seq (W_region rfl ?_)
   refine stp (r_fieldAddr rfl ?_)
   refine stp (r_load (v := .int .i64 o.kind) rfl hc41 rfl ?_)
   refine stp (r_eql rfl rfl ?_)
   refine stp (r_move_bool rfl ?_)
   refine WL_some (og_if (s := .bool (decide (o.kind = 0))) (b := false) (v := .pointer (some ⟨b35, 0, none⟩)) rfl (wgb_f _) (fun hc50 => ?_) ?_)
   ·
    have hc50_ := hc50
    try simp only [sb] at hc50_
    refine r_fieldAddr rfl ?_
    exact ⟨rfl, rfl⟩
   refine WL_some (og_if (s := .bool (decide (o.kind = 0))) (b := false) (v := .int .i64 o.kind) rfl (wgb_f _) (fun hc51 => ?_) ?_)
   ·
    have hc51_ := hc51
    try simp only [sb] at hc51_
    refine r_load (v := .int .i64 o.kind) (gvt hc51) hc41 rfl ?_
    exact ⟨rfl, rfl⟩
   refine WL_some (og_if (s := .bool (decide (o.kind = 0))) (b := false) (v := .bool (decide (o.kind = 1))) rfl (wgb_f _) (fun hc52 => ?_) ?_)
   ·
    have hc52_ := hc52
    try simp only [sb] at hc52_
    refine r_eql (gvt hc52) rfl ?_
    exact ⟨rfl, rfl⟩
   refine WL_some (og_if (s := .bool (decide (o.kind = 0))) (b := false) (v := .bool (decide (o.kind = 1))) rfl (wgb_f _) (fun hc53 => ?_) ?_)
   ·
    have hc53_ := hc53
    try simp only [sb] at hc53_
    refine r_move (v := .bool (decide (o.kind = 1))) (gvt hc53) ?_
    exact ⟨rfl, rfl⟩
   refine WL_some (og_if (s := gv (!(decide (o.kind = 0))) (.bool (decide (o.kind = 1)))) (b := true) (v := .int .i64 (ks.getD i 0)) rfl (wgb_gt _ _) (fun hc54 => ?_) ?_)
   ·
    obtain ⟨hc54a, hc54b⟩ := and_t hc54
    have hc54a_ := hc54a
    try simp only [sb] at hc54a_
    have hc54b_ := of_decide_eq_true hc54b
    refine r_move_int rfl ?_
    exact ⟨rfl, rfl⟩
   refine WL_some (og_if (s := gv (!(decide (o.kind = 0))) (.bool (decide (o.kind = 1)))) (b := true) (v := .pointer (some ⟨b35, 4, none⟩)) rfl (wgb_gt _ _) (fun hc55 => ?_) ?_)
   ·
    obtain ⟨hc55a, hc55b⟩ := and_t hc55
    have hc55a_ := hc55a
    try simp only [sb] at hc55a_
    have hc55b_ := of_decide_eq_true hc55b
    refine r_fieldAddr rfl ?_
    exact ⟨rfl, rfl⟩
   refine WL_some (og_if (s := gv (!(decide (o.kind = 0))) (.bool (decide (o.kind = 1)))) (b := true) (v := .int .i64 o.ptrs) rfl (wgb_gt _ _) (fun hc56 => ?_) ?_)
   ·
    obtain ⟨hc56a, hc56b⟩ := and_t hc56
    have hc56a_ := hc56a
    try simp only [sb] at hc56a_
    have hc56b_ := of_decide_eq_true hc56b
    refine r_load (v := .int .i64 o.ptrs) (gvt hc56) hc41 rfl ?_
    exact ⟨rfl, rfl⟩
   refine WL_some (og_if (s := gv (!(decide (o.kind = 0))) (.bool (decide (o.kind = 1)))) (b := true) (v := .bool (decide ((ks.getD i 0) ≥ o.ptrs))) rfl (wgb_gt _ _) (fun hc57 => ?_) ?_)
   ·
    obtain ⟨hc57a, hc57b⟩ := and_t hc57
    have hc57a_ := hc57a
    try simp only [sb] at hc57a_
    have hc57b_ := of_decide_eq_true hc57b
    refine r_geq (gvt hc57) (gvt hc57) ?_
    exact ⟨rfl, rfl⟩
   refine WL_some (og_if (s := .bool (decide (o.kind = 0))) (b := false) (v := .bool ((decide (o.kind = 1)) && (decide ((ks.getD i 0) ≥ o.ptrs)))) rfl (wgb_f _) (fun hc58 => ?_) ?_)
   ·
    have hc58_ := hc58
    try simp only [sb] at hc58_
    refine r_and3 hc58 (gvt hc58) rfl rfl ?_
    exact ⟨rfl, rfl⟩
   refine stp (r_or2 rfl rfl rfl ?_)
   refine WL_nil ?_
   refine W_cond2 (b := ((decide (o.kind = 0)) || ((decide (o.kind = 1)) && (decide ((ks.getD i 0) ≥ o.ptrs))))) rfl (fun hcc => ?_) (fun hcc => ?_)
   ·-- true
    simp only [sb] at hcc
    have hcn : o.kind = 0 ∨ (o.kind = 1 ∧ (ks.getD i 0) ≥ o.ptrs) := by omega
    rw [if_pos hcn] at hgo
    rw [step00 hcn] at hx2
    refine W_seq (W_region rfl ?_)
    refine stp (r_build (v := .agg #[.int .i64 0, .int .i64 0, .int .i64 0, .int .i64 0, .int .i64 0, .int .i64 0, .int .i64 0]) (fun w => by kernel_rfl) ?_)
    refine stn (r_storeAll rfl rfl hc41 (by rfl) (by rfl) (by rfl) ?_)
    intro w59 hc60 u61
    replace hc4 := u61.heap hc4 ne45
    replace hc15 := u61.heap hc15 ne46
    replace hc26 := u61.heap hc26 ne47
    replace oLl := own_upd oLl u61 (own_ne oLl hc41 (by decide))
    replace G := G.upd u61 hge44
    clear u61 hc41
    refine WL_nil ?_
    refine W_exit ?_
    refine W_region rfl ?_
    refine stp (r_move_int rfl ?_)
    refine stp (r_add rfl rfl ?_ ?_); constructor <;> omega
    refine stp (r_assign_int rfl ?_)
    refine WL_nil ?_
    refine ⟨_, ?_, i + 1, l, Ob0, adx, cx, rfl, fr_of ⟨rfl, rfl, rfl, rfl, rfl, rfl, congrArg (Value.int .i64) (by omega), rfl, trivial⟩, by omega, by omega, Ob0_range, .inl rfl, by rw [htt, hgo], ⟨_, hx2⟩, hc4, hc15, hc26, hc60, oLl, G⟩
    omega
   ·-- false
    simp only [sb] at hcc
    have hcn : ¬ (o.kind = 0 ∨ (o.kind = 1 ∧ (ks.getD i 0) ≥ o.ptrs)) := by omega
    rw [if_neg hcn] at hgo
    obtain ⟨hse, hsl⟩ := step0 hs0 hcn
    rw [hse] at hx2
    have hcnt : o.kind ≠ 1 → (ks.getD i 0) < o.count := fun h_ => (hsl h_).2
    refine W_skip ?_
    refine W_seq (W_region rfl ?_)
    refine stp (r_fieldAddr rfl ?_)
    refine stp (r_load (v := .int .i64 o.at_) rfl hc41 rfl ?_)
    refine stp (r_move_int rfl ?_)
    refine stp (r_add rfl rfl ?_ ?_); constructor <;> omega
    refine stp (r_assign_int rfl ?_)
    refine WL_nil ?_
    refine W_seq ?_
    refine W_seq (W_region rfl ?_)
    refine stp (r_fieldAddr rfl ?_)
    refine stp (r_load (v := .int .i64 o.kind) rfl hc41 rfl ?_)
    refine stp (r_eql rfl rfl ?_)
    refine WL_nil ?_
    refine W_cond2 (b := (decide (o.kind = 1))) rfl (fun hk1 => ?_) (fun hk1 => ?_)
    ·-- true
     replace hk1 := of_decide_eq_true hk1
     have hat : atT o (ks.getD i 0) = (o.at_ + (ks.getD i 0) + o.data) := by unfold atT; rw [if_pos hk1]
     rw [hat] at hgo hx2
     refine W_region rfl ?_
     refine stp (r_move_int rfl ?_)
     refine stp (r_fieldAddr rfl ?_)
     refine stp (r_load (v := .int .i64 o.data) rfl hc41 rfl ?_)
     refine stp (r_add rfl rfl ?_ ?_); constructor <;> omega
     refine stp (r_assign_int rfl ?_)
     refine WL_nil ?_
     refine W_seq (W_region rfl ?_)
     refine stp (r_move_slice rfl ?_)
     refine stp (r_move_slice rfl ?_)
     refine stp (r_fieldAddr rfl ?_)
     refine stp (r_load (v := .int .i64 o.seg) rfl hc41 rfl ?_)
     refine stp (r_move_int rfl ?_)
     refine WL_some (og rfl ?_)
     have hfl2 := (show (followT A l o.seg (o.at_ + (ks.getD i 0) + o.data)).length ≤ l.length + 3 from followT_len A l o.seg (o.at_ + (ks.getD i 0) + o.data))
     refine r_call rfl (rfol11_calls _ (hA0.grow G) hr hx oLl (by omega) o.seg (o.at_ + (ks.getD i 0) + o.data)) ?_
     rintro v_ w62 ⟨ad2, c2, rfl, oL2, g_⟩
     replace hc4 := g_.heap hc4
     replace hc15 := g_.heap hc15
     replace hc26 := g_.heap hc26
     replace hc41 := g_.heap hc41
     replace oLl := own_grow oLl g_
     replace G := G.tr g_
     clear g_
     refine stp (r_assign_slice rfl ?_)
     refine WL_nil ?_
     refine W_seq (W_region rfl ?_)
     refine stp (r_loadAll rfl hc26 (by rfl) ?_)
     refine stp (r_fieldAddr rfl ?_)
     refine stp (r_load (v := .int .i64 o.seg) rfl hc41 rfl ?_)
     refine stp (r_move_int rfl ?_)
     refine stp (r_gives (v := .tuple #[.agg #[.int .i64 ((followS (wholeS A) o.seg (o.at_ + (ks.getD i 0) + o.data)).1.kind), .int .i64 ((followS (wholeS A) o.seg (o.at_ + (ks.getD i 0) + o.data)).1.seg), .int .i64 ((followS (wholeS A) o.seg (o.at_ + (ks.getD i 0) + o.data)).1.at_), .int .i64 ((followS (wholeS A) o.seg (o.at_ + (ks.getD i 0) + o.data)).1.data), .int .i64 ((followS (wholeS A) o.seg (o.at_ + (ks.getD i 0) + o.data)).1.ptrs), .int .i64 ((followS (wholeS A) o.seg (o.at_ + (ks.getD i 0) + o.data)).1.size), .int .i64 ((followS (wholeS A) o.seg (o.at_ + (ks.getD i 0) + o.data)).1.count)], .int .i64 ((followS (wholeS A) o.seg (o.at_ + (ks.getD i 0) + o.data)).2)]) rfl (rfollow_calls _ (H.grow G) o.seg (o.at_ + (ks.getD i 0) + o.data) (by simp only [inR]; omega) (by simp only [inR]; omega)) ?_)
     intro w63 g64
     replace hc4 := g64.heap hc4
     replace hc15 := g64.heap hc15
     replace hc26 := g64.heap hc26
     replace hc41 := g64.heap hc41
     replace oLl := own_grow oLl g64
     replace oL2 := own_grow oL2 g64
     replace G := G.tr g64
     clear g64
     refine stp (r_move (v := .tuple #[.agg #[.int .i64 ((followS (wholeS A) o.seg (o.at_ + (ks.getD i 0) + o.data)).1.kind), .int .i64 ((followS (wholeS A) o.seg (o.at_ + (ks.getD i 0) + o.data)).1.seg), .int .i64 ((followS (wholeS A) o.seg (o.at_ + (ks.getD i 0) + o.data)).1.at_), .int .i64 ((followS (wholeS A) o.seg (o.at_ + (ks.getD i 0) + o.data)).1.data), .int .i64 ((followS (wholeS A) o.seg (o.at_ + (ks.getD i 0) + o.data)).1.ptrs), .int .i64 ((followS (wholeS A) o.seg (o.at_ + (ks.getD i 0) + o.data)).1.size), .int .i64 ((followS (wholeS A) o.seg (o.at_ + (ks.getD i 0) + o.data)).1.count)], .int .i64 ((followS (wholeS A) o.seg (o.at_ + (ks.getD i 0) + o.data)).2)]) rfl ?_)
     refine stp (r_extract (v := .agg #[.int .i64 ((followS (wholeS A) o.seg (o.at_ + (ks.getD i 0) + o.data)).1.kind), .int .i64 ((followS (wholeS A) o.seg (o.at_ + (ks.getD i 0) + o.data)).1.seg), .int .i64 ((followS (wholeS A) o.seg (o.at_ + (ks.getD i 0) + o.data)).1.at_), .int .i64 ((followS (wholeS A) o.seg (o.at_ + (ks.getD i 0) + o.data)).1.data), .int .i64 ((followS (wholeS A) o.seg (o.at_ + (ks.getD i 0) + o.data)).1.ptrs), .int .i64 ((followS (wholeS A) o.seg (o.at_ + (ks.getD i 0) + o.data)).1.size), .int .i64 ((followS (wholeS A) o.seg (o.at_ + (ks.getD i 0) + o.data)).1.count)]) rfl rfl ?_)
     refine stp (r_extract (v := .int .i64 ((followS (wholeS A) o.seg (o.at_ + (ks.getD i 0) + o.data)).2)) rfl rfl ?_)
     refine stp (r_alloc ?_)
     intro b65 w66 hb67 hc68 g69
     refine stn (r_storeAll rfl rfl hc68 (by rfl) (by rfl) (by rfl) ?_)
     intro w70 hc71 u72
     have g73 := g69.upd u72 hb67
     have hge74 := Nat.le_trans G.size hb67
     have ne75 := Nat.ne_of_lt (Nat.lt_of_lt_of_le (lt_of_heap hc4) hb67)
     have ne76 := Nat.ne_of_lt (Nat.lt_of_lt_of_le (lt_of_heap hc15) hb67)
     have ne77 := Nat.ne_of_lt (Nat.lt_of_lt_of_le (lt_of_heap hc26) hb67)
     have ne78 := Nat.ne_of_lt (Nat.lt_of_lt_of_le (lt_of_heap hc41) hb67)
     replace hc4 := g73.heap hc4
     replace hc15 := g73.heap hc15
     replace hc26 := g73.heap hc26
     replace hc41 := g73.heap hc41
     replace oLl := own_grow oLl g73
     replace oL2 := own_grow oL2 g73
     replace G := G.tr g73
     clear u72 g69 hb67 hc68
     refine stp (r_assign_int rfl ?_)
     refine WL_nil ?_
     refine W_region rfl ?_
     refine stp (r_loadAll rfl hc71 (by rfl) ?_)
     refine stn (r_storeAll rfl rfl hc41 (by rfl) (by rfl) (by rfl) ?_)
     intro w79 hc80 u81
     replace hc4 := u81.heap hc4 ne45
     replace hc15 := u81.heap hc15 ne46
     replace hc26 := u81.heap hc26 ne47
     replace oLl := own_upd oLl u81 (own_ne oLl hc41 (by decide))
     replace oL2 := own_upd oL2 u81 (own_ne oL2 hc41 (by decide))
     replace hc71 := u81.heap hc71 ne78.symm
     replace G := G.upd u81 hge44
     clear u81 hc41
     refine WL_nil ?_
     refine W_region rfl ?_
     refine stp (r_move_int rfl ?_)
     refine stp (r_add rfl rfl ?_ ?_); constructor <;> omega
     refine stp (r_assign_int rfl ?_)
     refine WL_nil ?_
     refine ⟨_, ?_, i + 1, (followT A l o.seg (o.at_ + (ks.getD i 0) + o.data)), (followS (wholeS A) o.seg (o.at_ + (ks.getD i 0) + o.data)).1, ad2, c2, rfl, fr_of ⟨rfl, rfl, rfl, rfl, rfl, rfl, congrArg (Value.int .i64) (by omega), rfl, trivial⟩, by omega, by omega, H.follow_range _ _, followS_kind _ _ _, by rw [htt, hgo], ⟨_, hx2⟩, hc4, hc15, hc26, hc80, oL2, G⟩
     omega
    ·-- false
     replace hk1 := of_decide_eq_false hk1
     have hat : atT o (ks.getD i 0) = (o.at_ + (ks.getD i 0)) := by unfold atT; rw [if_neg hk1]
     rw [hat] at hgo hx2
     refine W_skip ?_
     refine W_seq (W_region rfl ?_)
     refine stp (r_move_slice rfl ?_)
     refine stp (r_move_slice rfl ?_)
     refine stp (r_fieldAddr rfl ?_)
     refine stp (r_load (v := .int .i64 o.seg) rfl hc41 rfl ?_)
     refine stp (r_move_int rfl ?_)
     refine WL_some (og rfl ?_)
     have hfl2 := (show (followT A l o.seg (o.at_ + (ks.getD i 0))).length ≤ l.length + 3 from followT_len A l o.seg (o.at_ + (ks.getD i 0)))
     refine r_call rfl (rfol11_calls _ (hA0.grow G) hr hx oLl (by omega) o.seg (o.at_ + (ks.getD i 0))) ?_
     rintro v_ w82 ⟨ad2, c2, rfl, oL2, g_⟩
     replace hc4 := g_.heap hc4
     replace hc15 := g_.heap hc15
     replace hc26 := g_.heap hc26
     replace hc41 := g_.heap hc41
     replace oLl := own_grow oLl g_
     replace G := G.tr g_
     clear g_
     refine stp (r_assign_slice rfl ?_)
     refine WL_nil ?_
     refine W_seq (W_region rfl ?_)
     refine stp (r_loadAll rfl hc26 (by rfl) ?_)
     refine stp (r_fieldAddr rfl ?_)
     refine stp (r_load (v := .int .i64 o.seg) rfl hc41 rfl ?_)
     refine stp (r_move_int rfl ?_)
     refine stp (r_gives (v := .tuple #[.agg #[.int .i64 ((followS (wholeS A) o.seg (o.at_ + (ks.getD i 0))).1.kind), .int .i64 ((followS (wholeS A) o.seg (o.at_ + (ks.getD i 0))).1.seg), .int .i64 ((followS (wholeS A) o.seg (o.at_ + (ks.getD i 0))).1.at_), .int .i64 ((followS (wholeS A) o.seg (o.at_ + (ks.getD i 0))).1.data), .int .i64 ((followS (wholeS A) o.seg (o.at_ + (ks.getD i 0))).1.ptrs), .int .i64 ((followS (wholeS A) o.seg (o.at_ + (ks.getD i 0))).1.size), .int .i64 ((followS (wholeS A) o.seg (o.at_ + (ks.getD i 0))).1.count)], .int .i64 ((followS (wholeS A) o.seg (o.at_ + (ks.getD i 0))).2)]) rfl (rfollow_calls _ (H.grow G) o.seg (o.at_ + (ks.getD i 0)) (by simp only [inR]; omega) (by simp only [inR]; omega)) ?_)
     intro w83 g84
     replace hc4 := g84.heap hc4
     replace hc15 := g84.heap hc15
     replace hc26 := g84.heap hc26
     replace hc41 := g84.heap hc41
     replace oLl := own_grow oLl g84
     replace oL2 := own_grow oL2 g84
     replace G := G.tr g84
     clear g84
     refine stp (r_move (v := .tuple #[.agg #[.int .i64 ((followS (wholeS A) o.seg (o.at_ + (ks.getD i 0))).1.kind), .int .i64 ((followS (wholeS A) o.seg (o.at_ + (ks.getD i 0))).1.seg), .int .i64 ((followS (wholeS A) o.seg (o.at_ + (ks.getD i 0))).1.at_), .int .i64 ((followS (wholeS A) o.seg (o.at_ + (ks.getD i 0))).1.data), .int .i64 ((followS (wholeS A) o.seg (o.at_ + (ks.getD i 0))).1.ptrs), .int .i64 ((followS (wholeS A) o.seg (o.at_ + (ks.getD i 0))).1.size), .int .i64 ((followS (wholeS A) o.seg (o.at_ + (ks.getD i 0))).1.count)], .int .i64 ((followS (wholeS A) o.seg (o.at_ + (ks.getD i 0))).2)]) rfl ?_)
     refine stp (r_extract (v := .agg #[.int .i64 ((followS (wholeS A) o.seg (o.at_ + (ks.getD i 0))).1.kind), .int .i64 ((followS (wholeS A) o.seg (o.at_ + (ks.getD i 0))).1.seg), .int .i64 ((followS (wholeS A) o.seg (o.at_ + (ks.getD i 0))).1.at_), .int .i64 ((followS (wholeS A) o.seg (o.at_ + (ks.getD i 0))).1.data), .int .i64 ((followS (wholeS A) o.seg (o.at_ + (ks.getD i 0))).1.ptrs), .int .i64 ((followS (wholeS A) o.seg (o.at_ + (ks.getD i 0))).1.size), .int .i64 ((followS (wholeS A) o.seg (o.at_ + (ks.getD i 0))).1.count)]) rfl rfl ?_)
     refine stp (r_extract (v := .int .i64 ((followS (wholeS A) o.seg (o.at_ + (ks.getD i 0))).2)) rfl rfl ?_)
     refine stp (r_alloc ?_)
     intro b85 w86 hb87 hc88 g89
     refine stn (r_storeAll rfl rfl hc88 (by rfl) (by rfl) (by rfl) ?_)
     intro w90 hc91 u92
     have g93 := g89.upd u92 hb87
     have hge94 := Nat.le_trans G.size hb87
     have ne95 := Nat.ne_of_lt (Nat.lt_of_lt_of_le (lt_of_heap hc4) hb87)
     have ne96 := Nat.ne_of_lt (Nat.lt_of_lt_of_le (lt_of_heap hc15) hb87)
     have ne97 := Nat.ne_of_lt (Nat.lt_of_lt_of_le (lt_of_heap hc26) hb87)
     have ne98 := Nat.ne_of_lt (Nat.lt_of_lt_of_le (lt_of_heap hc41) hb87)
     replace hc4 := g93.heap hc4
     replace hc15 := g93.heap hc15
     replace hc26 := g93.heap hc26
     replace hc41 := g93.heap hc41
     replace oLl := own_grow oLl g93
     replace oL2 := own_grow oL2 g93
     replace G := G.tr g93
     clear u92 g89 hb87 hc88
     refine stp (r_assign_int rfl ?_)
     refine WL_nil ?_
     refine W_region rfl ?_
     refine stp (r_loadAll rfl hc91 (by rfl) ?_)
     refine stn (r_storeAll rfl rfl hc41 (by rfl) (by rfl) (by rfl) ?_)
     intro w99 hc100 u101
     replace hc4 := u101.heap hc4 ne45
     replace hc15 := u101.heap hc15 ne46
     replace hc26 := u101.heap hc26 ne47
     replace oLl := own_upd oLl u101 (own_ne oLl hc41 (by decide))
     replace oL2 := own_upd oL2 u101 (own_ne oL2 hc41 (by decide))
     replace hc91 := u101.heap hc91 ne98.symm
     replace G := G.upd u101 hge44
     clear u101 hc41
     refine WL_nil ?_
     refine W_region rfl ?_
     refine stp (r_move_int rfl ?_)
     refine stp (r_add rfl rfl ?_ ?_); constructor <;> omega
     refine stp (r_assign_int rfl ?_)
     refine WL_nil ?_
     refine ⟨_, ?_, i + 1, (followT A l o.seg (o.at_ + (ks.getD i 0))), (followS (wholeS A) o.seg (o.at_ + (ks.getD i 0))).1, ad2, c2, rfl, fr_of ⟨rfl, rfl, rfl, rfl, rfl, rfl, congrArg (Value.int .i64) (by omega), rfl, trivial⟩, by omega, by omega, H.follow_range _ _, followS_kind _ _ _, by rw [htt, hgo], ⟨_, hx2⟩, hc4, hc15, hc26, hc100, oL2, G⟩
     omega
  ·-- false
   replace hlt := of_decide_eq_false hlt
   have hi9 : i = ks.length := by omega
   rw [hi9, List.drop_length, goT] at htt
   obtain ⟨left, hx1⟩ := hxx
   rw [hi9, List.drop_length, nextS] at hx1
   have hv0 := val0 hob hx1
   refine W_exit ?_
   refine W_seq (W_region rfl ?_)
   refine stp (r_move_slice rfl ?_)
   refine stp (r_move_slice rfl ?_)
   refine stp (r_loadAll rfl hc41 (by rfl) ?_)
   refine stp (r_fieldAddr rfl ?_)
   refine stp (r_load (v := .int .i64 a) rfl hc4 rfl ?_)
   refine WL_some (og rfl ?_)
   have hel := (show (endT A l o a).length ≤ l.length + 1 from endT_len A l o a)
   refine r_call rfl (rend11_calls _ (hA0.grow G) hr hx oLl (by omega) o ho a hv0) ?_
   rintro v_ w102 ⟨ad3, c3, rfl, oL3, g_⟩
   replace hc4 := g_.heap hc4
   replace hc15 := g_.heap hc15
   replace hc26 := g_.heap hc26
   replace hc41 := g_.heap hc41
   replace oLl := own_grow oLl g_
   replace G := G.tr g_
   clear g_
   rw [← htt] at hel oL3
   rw [show (Value.slice ad3 (endT A l o a).length c3) = .slice ad3 (touchT A ks a).length c3 from by rw [htt]]
   obtain ⟨_, _, hs9, hq3, hm3, RL3⟩ := own_row oL3 (by omega)
   cases hs9
   refine WL_some (og rfl ?_)
   refine r_call rfl (rnorm_calls _ hq3 hm3 RL3 (by omega)) ?_
   rintro v_ w103 ⟨⟨ad4, c4, rfl, hq4, hm4, RL4⟩, g_⟩
   replace hc4 := g_.heap hc4
   replace hc15 := g_.heap hc15
   replace hc26 := g_.heap hc26
   replace hc41 := g_.heap hc41
   replace oLl := own_grow oLl g_
   replace G := G.tr g_
   clear g_
   refine stp (r_assign_slice rfl ?_)
   refine stp (r_assign_int rfl ?_)
   refine WL_nil ?_
   refine W_ret ?_
   refine ret2 (res_tmp (v := .slice ad4 ((nrm (touchT A ks a)).length) c4) rfl) (res_tmp (v := .int .i64 0) rfl) ⟨ad4, _, c4, by rw [hz0], fun _ => ⟨rfl, hq4, hm4, RL4⟩, G⟩
end Go.Proofs.YtifhcfhdajkhlaaGreat.K

namespace Go.Proofs.YtifhcfhdajkhlaaGreat.K
open Go Go.RowKit Go.Proofs
attribute [local irreducible] Run1 OpG WL W AO Gives
set_option maxRecDepth 100000 in
theorem PartSuffices_calls (w : World) {ad0 : Option Addr} {c0 : Nat} {xs0 : List Int} (R0 : RowAt w 1 ad0 xs0.length (xs0.map (.int .u8))) (hx0 : isU8 xs0) (hc0 : xs0.length ≤ c0) (hm0 : c0 ≤ maxLen) {ad2 : Option Addr} {c2 : Nat} {xs2 : List Int} (R2 : RowAt w 1 ad2 xs2.length (xs2.map (.int .u8))) (hx2 : isU8 xs2) (hc2 : xs2.length ≤ c2) (hm2 : c2 ≤ maxLen) {k at_ : Int} (k0 : 0 ≤ k) (k1 : k ≤ 255) (a0 : 0 ≤ at_) (a1 : at_ ≤ 255) : Gives Tryz.prog 4 #[.slice ad0 xs0.length c0, .slice ad2 xs2.length c2, .int .u8 k, .int .u8 at_] w (.bool true) := by
 have lR := R0.lim
 have G := Grow.rfl' w
 refine gives_of Tryz.func4 Tryz.ntmps4 Tryz.results4 rfl rfl ?_
 refine W_seq (W_region rfl ?_)
 refine stp (r_assign (v := .bool false) rfl ?_)
 refine WL_nil ?_
 refine W_seq ?_
 refine W_seq (W_region rfl ?_)
 refine stp (r_move_slice rfl ?_)
 refine stp (r_len rfl rfl rfl ?_)
 refine stp (r_gtr rfl rfl ?_)
 refine WL_nil ?_
 refine W_cond2 (b := (decide ((xs0.length : Int) > 100))) rfl (fun h1 => ?_) (fun h1 => ?_)
 ·-- true
  replace h1 := of_decide_eq_true h1
  refine W_seq (W_region rfl ?_)
  refine stp (r_gives (v := .bool true) rfl (known16_calls _) ?_)
  intro w1 g2
  replace G := G.tr g2
  clear g2
  refine stp (r_assign (v := .bool true) rfl ?_)
  refine WL_nil ?_
  refine W_ret ?_
  refine ret1 (res_tmp (v := .bool true) rfl) ⟨?_, G⟩
  rfl
 ·-- false
  replace h1 := of_decide_eq_false h1
  have hpr := pathP_range (c := xs2)
  have hR9 : ∀ x ∈ pathP xs2, inR .i64 x := fun x_ hx_ => by have := hpr x_ hx_; simp only [inR]; omega
  have hpl := pathP_length xs2
  refine W_skip ?_
  refine W_seq (W_region rfl ?_)
  refine stp (r_move_slice rfl ?_)
  refine stp (r_move_int rfl ?_)
  refine WL_some (og rfl ?_)
  refine r_call rfl (bent_calls _ (R0.grow G) hx0 hc0 hm0 (by omega) (ys := []) (RowAt.empty _ _ _) (by simp) k0 k1) ?_
  rintro v_ w3 ⟨adA, cA, sgA, A, rfl, hO, hB, g_⟩
  replace G := G.tr g_
  clear g_
  have hbt := bent_total hB hx0 (by omega) k0
  obtain ⟨hr, hx, -, -, h1A, h16A, hsA⟩ := Bent1.ok hB hx0 (by omega)
  have hA := hO.arena (by omega) hsA
  clear hO
  have hfl := flat_len A
  obtain ⟨hw1, hch1⟩ := words_arena hr
  have hfit : fitsL (sizesP A) = true := by rw [fits_right]; exact hr
  have hrz : ∀ x ∈ sizesP A, inR .i64 x := fits_rng hfit
  have hle := wordsM_le (sizesP A)
  have hch : chunksM (sizesP A) = (wordsM (sizesP A) + 7) / 8 := rfl
  refine stp (r_assign_slice rfl ?_)
  refine WL_nil ?_
  refine W_seq (W_region rfl ?_)
  refine stp (r_move_slice rfl ?_)
  refine stp (r_move_int rfl ?_)
  refine WL_some (og rfl ?_)
  refine r_call rfl (path_calls _ (R2.grow G) rfl hx2 a0 a1) ?_
  rintro v_ w4 ⟨ad9, c9, rfl, R9, g_⟩
  replace hA := hA.grow g_
  replace G := G.tr g_
  clear g_
  refine stp (r_alloc ?_)
  intro b5 w6 hb7 hc8 g9
  refine stn (r_storeAll rfl rfl hc8 (by rfl) (by rfl) (by rfl) ?_)
  intro w10 hc11 u12
  have g13 := g9.upd u12 hb7
  have hge14 := Nat.le_trans G.size hb7
  replace hA := hA.grow g13
  replace R9 := R9.grow g13
  replace G := G.tr g13
  clear u12 g9 hb7 hc8
  refine WL_nil ?_
  refine W_seq (W_region rfl ?_)
  refine stp (r_move_slice rfl ?_)
  refine stp (r_loadAll rfl hc11 (by rfl) ?_)
  refine WL_some (og rfl ?_)
  obtain ⟨R, hR⟩ : ∃ r, r = (walkS (wholeS A) (pathP xs2) (at_ % 12 - 2) 8192) := ⟨_, rfl⟩
  refine r_call rfl (rtouched_calls _ hA hr hx R9 (a := (at_ % 12 - 2)) (c := c9) (by simp only [inR]; omega)) ?_
  rintro v_ w15 ⟨adn, nn, cn, rfl, hN, g_⟩
  rw [← hR] at hN
  rw [← hR]
  replace hA := hA.grow g_
  replace R9 := R9.grow g_
  replace hc11 := g_.heap hc11
  replace G := G.tr g_
  clear g_
  have hNw : w15 = w15 := rfl
  have GN := Grow.rfl' w15
  refine stp (r_move (v := .tuple #[.slice adn nn cn, .int .i64 R.2]) rfl ?_)
  refine stp (r_extract (v := .slice adn nn cn) rfl rfl ?_)
  refine stp (r_extract (v := .int .i64 R.2) rfl rfl ?_)
  refine stp (r_assign_slice rfl ?_)
  refine stp (r_assign_int rfl ?_)
  refine WL_nil ?_
  refine W_seq ?_
  refine W_seq (W_region rfl ?_)
  refine stp (r_move_int rfl ?_)
  refine stp (r_neq rfl rfl ?_)
  refine WL_nil ?_
  refine W_cond2 (b := (decide (R.2 ≠ 0))) rfl (fun h6 => ?_) (fun h6 => ?_)
  ·-- true
   replace h6 := of_decide_eq_true h6
   refine W_seq (W_region rfl ?_)
   refine stp (r_gives (v := .bool true) rfl (known16_calls _) ?_)
   intro w16 g17
   replace hA := hA.grow g17
   replace R9 := R9.grow g17
   replace hc11 := g17.heap hc11
   replace GN := GN.tr g17
   replace G := G.tr g17
   clear g17
   refine stp (r_assign (v := .bool true) rfl ?_)
   refine WL_nil ?_
   refine W_ret ?_
   refine ret1 (res_tmp (v := .bool true) rfl) ⟨?_, G⟩
   rfl
  ·-- false
   replace h6 := of_decide_eq_false h6
   have hz0 : R.2 = 0 := by omega
   obtain ⟨hnn, hcn, hcm, RN⟩ := hN hz0
   subst hnn
   have hrg := nrm_rng hr (pathP xs2) (at_ % 12 - 2)
   have hnl := nrm_len (touchT A (pathP xs2) (at_ % 12 - 2))
   have htl := (touch_one hr (pathP xs2) (at_ % 12 - 2)).2
   have hcl := chunkL_len hrg
   refine W_skip ?_
   have hG8 := G.size
   have GM := Grow.rfl' w15
   have zhA := hA
   have zR9 := R9
   have zhc11 := hc11
   have RN0 := RN.grow GN
   refine W_seq (W_region rfl ?_)
   refine stp (r_assign_slice rfl ?_)
   refine WL_nil ?_
   refine W_seq ?_
   refine W_seq (W_region rfl ?_)
   refine stp (r_assign_int rfl ?_)
   refine WL_nil ?_
   refine W_block ?_
   refine W_loop (fun m_ e_ w_ => ∃ (j : Nat) (ad3 : Option Addr) (n3 : Nat) (c3 : Nat), m_ = (nrm (touchT A (pathP xs2) (at_ % 12 - 2))).length - j ∧ Fr [(8, .bool false), (9, .slice adA A.length cA), (10, .pointer (some ⟨b5, 0, none⟩)), (11, .slice adn ((nrm (touchT A (pathP xs2) (at_ % 12 - 2))).length) cn), (14, .int .i64 (j : Int)), (13, .slice ad3 n3 c3)] e_ ∧ (j ≤ (nrm (touchT A (pathP xs2) (at_ % 12 - 2))).length) ∧ (Grow w15 w_) ∧ (w_.ownsRow w15.heap.size 5 1 (.slice ad3 n3 c3) (chunkL ((nrm (touchT A (pathP xs2) (at_ % 12 - 2))).take j)).length ((chunkL ((nrm (touchT A (pathP xs2) (at_ % 12 - 2))).take j)).map (.int .u8))) ∧ Grow w w_) _ ⟨0, none, 0, 0, rfl, fr_of ⟨rfl, rfl, rfl, rfl, rfl, rfl, trivial⟩, by omega, GM, World.ownsRow_nil _ _ _ _, G⟩ ?_
   clear GM
   clear G
   rintro m_ e_ w18 ⟨j, ad3, n3, c3, rfl, ⟨e19, rfl⟩, hj2, GM, own, G⟩
   refine W_seq ?_
   refine W_seq (W_region rfl ?_)
   refine stp (r_move_int rfl ?_)
   refine stp (r_move_slice rfl ?_)
   refine stp (r_len rfl rfl rfl ?_)
   refine stp (r_lss rfl rfl ?_)
   refine WL_nil ?_
   refine W_cond2 (b := (decide ((j : Int) < ((nrm (touchT A (pathP xs2) (at_ % 12 - 2))).length : Int)))) rfl (fun hlt => ?_) (fun hlt => ?_)
   ·-- true
    replace hlt := of_decide_eq_true hlt
    have hj : j < (nrm (touchT A (pathP xs2) (at_ % 12 - 2))).length := by omega
    have hgs := hrg (gS (nrm (touchT A (pathP xs2) (at_ % 12 - 2))) j) (by rw [gS_get hj]; exact List.getElem_mem hj)
    have hct := chunkL_take hj
    have hcjl := chunkL_len (N := (nrm (touchT A (pathP xs2) (at_ % 12 - 2))).take j) (m := A.flatten.length) (fun s_ hs_ => hrg s_ (List.mem_of_mem_take hs_))
    rw [List.length_take] at hcjl
    have hcb : A.flatten.length * min j (nrm (touchT A (pathP xs2) (at_ % 12 - 2))).length ≤ 1401 * 40 := Nat.mul_le_mul (by omega) (by omega)
    obtain ⟨f0, hf0⟩ : ∃ x, x = (gS (nrm (touchT A (pathP xs2) (at_ % 12 - 2))) j).1 := ⟨_, rfl⟩
    obtain ⟨t0, ht0⟩ : ∃ x, x = (gS (nrm (touchT A (pathP xs2) (at_ % 12 - 2))) j).2 := ⟨_, rfl⟩
    rw [← hf0, ← ht0] at hgs hct
    refine W_skip ?_
    refine W_seq ?_
    refine W_block ?_
    refine W_seq (W_region rfl ?_)
    refine stp (r_move_slice rfl ?_)
    refine stp (r_move_int rfl ?_)
    refine stp (r_indexN (RN0.grow GM) rfl rfl ?_ ?_); omega
    refine stp (r_fieldE rfl ?_)
    refine stp (r_loadR (v := .int .i64 f0) (m := 0) (RN0.grow GM) rfl (by rw [hf0]; exact row_gS0 RN0 (by omega)) ?_)
    refine stp (r_assign_int rfl ?_)
    refine WL_nil ?_
    refine W_block ?_
    refine W_loop (fun m_ e_ w_ => ∃ (m : Nat) (ad3 : Option Addr) (n3 : Nat) (c3 : Nat), m_ = (t0 - f0).toNat - m ∧ Fr [(8, .bool false), (9, .slice adA A.length cA), (10, .pointer (some ⟨b5, 0, none⟩)), (11, .slice adn ((nrm (touchT A (pathP xs2) (at_ % 12 - 2))).length) cn), (14, .int .i64 (j : Int)), (15, .int .i64 (f0 + (m : Int))), (13, .slice ad3 n3 c3)] e_ ∧ (m ≤ (t0 - f0).toNat) ∧ (Grow w15 w_) ∧ (w_.ownsRow w15.heap.size 5 1 (.slice ad3 n3 c3) ((chunkL ((nrm (touchT A (pathP xs2) (at_ % 12 - 2))).take j)) ++ chunkO (gS (nrm (touchT A (pathP xs2) (at_ % 12 - 2))) j) m).length (((chunkL ((nrm (touchT A (pathP xs2) (at_ % 12 - 2))).take j)) ++ chunkO (gS (nrm (touchT A (pathP xs2) (at_ % 12 - 2))) j) m).map (.int .u8))) ∧ Grow w w_) _ ⟨0, ad3, n3, c3, rfl, fr_of ⟨rfl, rfl, rfl, rfl, rfl, congrArg (Value.int .i64) (by omega), rfl, trivial⟩, by omega, GM, (by simpa [chunkO] using own), G⟩ ?_
    clear GM own
    clear G
    rintro m_ e_ w20 ⟨m, ad3, n3, c3, rfl, ⟨e21, rfl⟩, hm, GM, own, G⟩
    refine W_seq ?_
    refine W_seq (W_region rfl ?_)
    refine stp (r_move_int rfl ?_)
    refine stp (r_move_slice rfl ?_)
    refine stp (r_move_int rfl ?_)
    refine stp (r_indexN (RN0.grow GM) rfl rfl ?_ ?_); omega
    refine stp (r_fieldE rfl ?_)
    refine stp (r_loadR (v := .int .i64 t0) (m := 0) (RN0.grow GM) rfl (by rw [ht0]; exact row_gS1 RN0 (by omega)) ?_)
    refine stp (r_lss rfl rfl ?_)
    refine WL_nil ?_
    refine W_cond2 (b := (decide ((f0 + (m : Int)) < t0))) rfl (fun hlt2 => ?_) (fun hlt2 => ?_)
    ·-- true
     replace hlt2 := of_decide_eq_true hlt2
     refine W_skip ?_
     refine W_seq ?_
     refine W_block ?_
     refine W_region rfl ?_
     refine stp (r_move_slice rfl ?_)
     refine stp (r_move_int rfl ?_)
     refine stp (r_quo rfl rfl ?_ ?_ ?_ ?_); omega; omega; (constructor <;> omega)
     refine stp (r_convw rfl ?_)
     refine stp (r_buildSlice (cs := #[.int .u8 (IntKind.u8.wrap ((f0 + (m : Int)) / 8))]) (el := 5) (fun w => by kernel_rfl) ?_)
     intro bs22 w23 hb24 hc25 g26
     have hge27 := Nat.le_trans G.size hb24
     replace GM := GM.tr g26
     replace own := own_grow own g26
     replace G := G.tr g26
     clear g26
     refine WL_some (og rfl ?_)
     have hol := own_len own
     refine r_append rfl rfl rfl rfl own (Row.of_block (n := 1) hc25 rfl rfl (by omega)) (fun q_ hq_ => by simp at hq_; subst hq_; rfl) (by rw [List.length_append, chunkO_len]; simp only [maxLen]; omega) (by rw [List.length_append, chunkO_len]; omega) GM.size ?_
     intro v6 w6 own6 gr6
     replace G := G.grown gr6 (fun k_ hk_ => Nat.le_trans hG8 (own_ge own k_ hk_))
     replace GM := GM.grown gr6 (own_ge own)
     obtain ⟨ad4, n4, c4, rfl⟩ := own_slice own6
     refine stp (r_assign_slice rfl ?_)
     refine WL_nil ?_
     refine W_region rfl ?_
     refine stp (r_move_int rfl ?_)
     refine stp (r_add rfl rfl ?_ ?_); constructor <;> omega
     refine stp (r_assign_int rfl ?_)
     refine WL_nil ?_
     refine ⟨_, ?_, m + 1, ad4, n4, c4, rfl, fr_of ⟨rfl, rfl, rfl, rfl, rfl, congrArg (Value.int .i64) (by omega), rfl, trivial⟩, by omega, GM, (by rw [chunkO_succ, ← hf0, ← List.append_assoc, List.length_append, List.map_append]; exact own6), G⟩
     omega
    ·-- false
     replace hlt2 := of_decide_eq_false hlt2
     have hm9 : m = (t0 - f0).toNat := by omega
     rw [hm9, ← hct] at own
     refine W_exit ?_
     refine W_region rfl ?_
     refine stp (r_move_int rfl ?_)
     refine stp (r_add rfl rfl ?_ ?_); constructor <;> omega
     refine stp (r_assign_int rfl ?_)
     refine WL_nil ?_
     refine ⟨_, ?_, j + 1, ad3, n3, c3, rfl, fr_of ⟨rfl, rfl, rfl, rfl, congrArg (Value.int .i64) (by omega), rfl, trivial⟩, by omega, GM, own, G⟩
     omega
   ·-- false
    replace hlt := of_decide_eq_false hlt
    have hj9 : j = (nrm (touchT A (pathP xs2) (at_ % 12 - 2))).length := by omega
    rw [hj9, List.take_length] at own
    have hno := own_len own
    subst hno
    have hcb : A.flatten.length * (nrm (touchT A (pathP xs2) (at_ % 12 - 2))).length ≤ 1401 * 40 := Nat.mul_le_mul (by omega) (by omega)
    obtain ⟨_, _, hs9, -, -, RY⟩ := own_row own (by omega)
    cases hs9
    have hxy := chunkL_u8 (nrm (touchT A (pathP xs2) (at_ % 12 - 2)))
    replace hA := zhA.grow GM
    replace R9 := zR9.grow GM
    replace hc11 := GM.heap zhc11
    refine W_exit ?_
    obtain ⟨Q, hQ⟩ : ∃ r, r = (walkS (srcP (sizesP A) (fillWK A (chunkL (nrm (touchT A (pathP xs2) (at_ % 12 - 2))))).1 (fillWK A (chunkL (nrm (touchT A (pathP xs2) (at_ % 12 - 2))))).2) (pathP xs2) (at_ % 12 - 2) 8192) := ⟨_, rfl⟩
    have hsz28 : w18.heap.size ≤ w18.heap.size := Nat.le_refl _
    have ltf28_hc11 := lt_of_heap hc11
    have hgz28 := G.size
    refine W_seq ?_
    have kb_hA : ∀ w_, (ktR 35 w18.heap.size).r w18 w_ → ArenaR w_ (.slice adA A.length cA) A := fun w_ k_ => hA.grow (KtP.to_grow k_ (Grow.rfl' _))
    have kb_R9 : ∀ w_, (ktR 35 w18.heap.size).r w18 w_ → RowAt w_ 1 ad9 (pathP xs2).length ((pathP xs2).map (.int .i64)) := fun w_ k_ => R9.grow (KtP.to_grow k_ (Grow.rfl' _))
    have kb_hc11 : ∀ w_, (ktR 35 w18.heap.size).r w18 w_ → w_.heap[b5]? = some (.cells #[.slice ad9 ((pathP xs2).length) c9, .int .i64 (at_ % 12 - 2)] 29 (0, 0)) := fun w_ k_ => (KtP.to_grow k_ (Grow.rfl' _)).heap hc11
    have kb_RY : ∀ w_, (ktR 35 w18.heap.size).r w18 w_ → RowAt w_ 1 ad3 (chunkL (nrm (touchT A (pathP xs2) (at_ % 12 - 2)))).length ((chunkL (nrm (touchT A (pathP xs2) (at_ % 12 - 2)))).map (.int .u8)) := fun w_ k_ => RY.grow (KtP.to_grow k_ (Grow.rfl' _))
    have kb_hsz28 : ∀ w_, (ktR 35 w18.heap.size).r w18 w_ → w18.heap.size ≤ w_.heap.size := fun w_ k_ => Nat.le_trans hsz28 (KtP.to_grow k_ (Grow.rfl' _)).size
    have kb_G : ∀ w_, (ktR 35 w18.heap.size).r w18 w_ → Grow w w_ := fun w_ k_ => G.tr (KtP.to_grow k_ (Grow.rfl' _))
    refine W_anyU 10 [[], [], [1, 0], [], [3, 2, 1, 0], [4, 3, 2, 1, 0], [5, 4, 3, 2, 1, 0], [6, 5, 4, 3, 2, 1], [], [8, 7, 6, 5, 4, 3, 2, 0]] [9] [16] (grQ (ktR 35 w18.heap.size)) (fun k_ e_ w_ => match k_ with | 0 => True | _ => ∃ b : Nat, e_ 16 = .pointer (some ⟨b, 0, none⟩) ∧ w18.heap.size ≤ b ∧ w_.heap[b]? = some (.cells #[.int .i64 Q.1.kind, .int .i64 Q.1.size, .int .i64 Q.1.words, .int .i64 Q.1.kids, .int .u64 Q.1.word] 35 (0, 0))) mixed (by kernel_rfl) (by kernel_rfl) (by kernel_rfl) (by kernel_rfl) (by kernel_rfl) (fun k_ _ _ _ g_ h_ => match k_, h_ with | 0, _ => trivial | _ + 1, ⟨b_, h1_, h2_, h3_⟩ => ⟨b_, h1_, h2_, g_.heap h3_⟩) (fun k_ _ _ _ hu_ h_ => match k_, h_ with | 0, _ => trivial | _ + 1, ⟨b_, h1_, h2_, h3_⟩ => ⟨b_, (hu_ _ (by simp)).symm.trans h1_, h2_, h3_⟩) (fun _ _ _ h_ => h_) (fun _ _ => trivial) ?_
    intro w29 g30
    replace kb_hA : ∀ w_, (ktR 35 w18.heap.size).r w29 w_ → ArenaR w_ (.slice adA A.length cA) A := fun w_ k_ => kb_hA w_ ((ktR 35 w18.heap.size).tr ((ktR 35 w18.heap.size).grow g30) k_)
    replace kb_R9 : ∀ w_, (ktR 35 w18.heap.size).r w29 w_ → RowAt w_ 1 ad9 (pathP xs2).length ((pathP xs2).map (.int .i64)) := fun w_ k_ => kb_R9 w_ ((ktR 35 w18.heap.size).tr ((ktR 35 w18.heap.size).grow g30) k_)
    replace kb_hc11 : ∀ w_, (ktR 35 w18.heap.size).r w29 w_ → w_.heap[b5]? = some (.cells #[.slice ad9 ((pathP xs2).length) c9, .int .i64 (at_ % 12 - 2)] 29 (0, 0)) := fun w_ k_ => kb_hc11 w_ ((ktR 35 w18.heap.size).tr ((ktR 35 w18.heap.size).grow g30) k_)
    replace kb_RY : ∀ w_, (ktR 35 w18.heap.size).r w29 w_ → RowAt w_ 1 ad3 (chunkL (nrm (touchT A (pathP xs2) (at_ % 12 - 2)))).length ((chunkL (nrm (touchT A (pathP xs2) (at_ % 12 - 2)))).map (.int .u8)) := fun w_ k_ => kb_RY w_ ((ktR 35 w18.heap.size).tr ((ktR 35 w18.heap.size).grow g30) k_)
    replace kb_hsz28 : ∀ w_, (ktR 35 w18.heap.size).r w29 w_ → w18.heap.size ≤ w_.heap.size := fun w_ k_ => kb_hsz28 w_ ((ktR 35 w18.heap.size).tr ((ktR 35 w18.heap.size).grow g30) k_)
    replace kb_G : ∀ w_, (ktR 35 w18.heap.size).r w29 w_ → Grow w w_ := fun w_ k_ => kb_G w_ ((ktR 35 w18.heap.size).tr ((ktR 35 w18.heap.size).grow g30) k_)
    have k0_ : (ktR 35 w18.heap.size).r w18 w29 := ((ktR 35 w18.heap.size).grow g30)
    apply AOU_ex (hm := by rfl)
    ·intro w_ g_; refine og rfl ?_; refine r_move_slice rfl ?_; exact ⟨Grow.rfl' _, rfl⟩
    apply AOU_ex (hm := by rfl)
    ·intro w_ g_; refine og rfl ?_; refine r_move_slice rfl ?_; exact ⟨Grow.rfl' _, rfl⟩
    refine AOU_so (fun w_ v_ => ∃ b g h, v_ = .pointer (some ⟨b, 0, none⟩) ∧ PartR 86 3 33 5 w_ 0 b g h 9 (sumA 9 A) (sizesP A) (fillWK A (chunkL (nrm (touchT A (pathP xs2) (at_ % 12 - 2))))).1 (fillWK A (chunkL (nrm (touchT A (pathP xs2) (at_ % 12 - 2))))).2 ∧ FilA A (chunkL (nrm (touchT A (pathP xs2) (at_ % 12 - 2)))) (fillWK A (chunkL (nrm (touchT A (pathP xs2) (at_ % 12 - 2))))).1 (fillWK A (chunkL (nrm (touchT A (pathP xs2) (at_ % 12 - 2))))).2) (fun _ _ _ g_ ⟨b, g, h, h1_, h2_, h3_⟩ => ⟨b, g, h, h1_, h2_.kt g_ (by decide) (by decide) (by decide) (by decide), h3_⟩) (by rfl) ?_ ?_
    ·intro w_ g_
     refine og rfl ?_
     refine r_call rfl (filled_calls _ (kb_hA _ g_) hr hx (kb_RY _ g_) hxy) ?_
     rintro v9_ w9_ ⟨b_, g2_, h_, wl_, kb_, rfl, HP_, hF_, g9_⟩
     obtain ⟨rfl, rfl⟩ := fill_eq hr hx hF_
     exact ⟨g9_, b_, g2_, h_, rfl, HP_.lower (Nat.zero_le _), hF_⟩
    apply AOU_ex (hm := by rfl)
    ·intro w_ g_; refine og rfl ?_; refine r_loadAll rfl (kb_hc11 _ g_) (by rfl) ?_; exact ⟨Grow.rfl' _, rfl⟩
    apply AOU_ex (hm := by rfl)
    ·intro w_ g_; intro v2_ hv2_; show OpG _ _ _ _ _ _; refine og rfl ?_; obtain ⟨b_, g2_, h_, rfl, HP_, hF_⟩ := hv2_; exact r_gives (v := .tuple #[.agg #[.int .i64 Q.1.kind, .int .i64 Q.1.size, .int .i64 Q.1.words, .int .i64 Q.1.kids, .int .u64 Q.1.word], .int .u16 Q.2]) rfl (gives_eq (pread_calls _ HP_ (kb_R9 _ g_) hR9 (a := (at_ % 12 - 2)) (c := c9) (by simp only [inR]; omega)) (by rw [← hQ])) (fun w2_ g2_ => ⟨g2_, rfl⟩)
    apply AOU_ex (hm := by rfl)
    ·intro w_ g_; intro v2_ hv2_; show OpG _ _ _ _ _ _; refine og rfl ?_; refine r_move (v := .tuple #[.agg #[.int .i64 Q.1.kind, .int .i64 Q.1.size, .int .i64 Q.1.words, .int .i64 Q.1.kids, .int .u64 Q.1.word], .int .u16 Q.2]) rfl ?_; exact ⟨Grow.rfl' _, rfl⟩
    apply AOU_ex (hm := by rfl)
    ·intro w_ g_; intro v2_ hv2_; show OpG _ _ _ _ _ _; refine og rfl ?_; refine r_extract (v := .agg #[.int .i64 Q.1.kind, .int .i64 Q.1.size, .int .i64 Q.1.words, .int .i64 Q.1.kids, .int .u64 Q.1.word]) rfl rfl ?_; exact ⟨Grow.rfl' _, rfl⟩
    apply AOU_ex (hm := by rfl)
    ·intro w_ g_; intro v2_ hv2_; show OpG _ _ _ _ _ _; refine og rfl ?_; refine r_extract (v := .int .u16 Q.2) rfl rfl ?_; exact ⟨Grow.rfl' _, rfl⟩
    refine AOU_so (fun w_ v_ => ∃ b cs, v_ = .pointer (some ⟨b, 0, none⟩) ∧ w18.heap.size ≤ b ∧ cs.size = 5 ∧ w_.heap[b]? = some (.cells cs 35 (0, 0))) (fun _ _ _ g_ ⟨b, cs, h1_, h2_, h3_, h4_⟩ => by obtain ⟨cs2, h5_, h6_⟩ := KtP.new g_ b cs h4_; exact ⟨b, cs2, h1_, h2_, h5_.trans h3_, h6_⟩) (by rfl) ?_ ?_
    ·intro w_ g_
     refine og rfl ?_
     refine r_alloc ?_
     intro b_ w2_ hb_ hc_ g2_
     exact ⟨g2_, b_, _, rfl, Nat.le_trans (kb_hsz28 _ g_) hb_, rfl, hc_⟩
    apply AOU_mut 0 (hm := by rfl)
    ·intro w_ g_
     intro v2_ hv2_; intro v8_ hv8_
     intro s_
     show OpG _ _ _ _ _ _
     refine og rfl ?_
     obtain ⟨b_, cs_, rfl, hge_, hsz_, hb_⟩ := hv8_
     refine r_storeAll rfl rfl hb_ (by rfl) hsz_ (by rfl) ?_
     intro w2_ s2_ u_
     exact ⟨KtP.of_upd u_ hge_ hb_ s2_ hsz_.symm, ⟨b_, rfl, hge_, s2_⟩, rfl⟩
    refine AOU_nil ?_
    intro w31 g32
    replace k0_ := ((ktR 35 w18.heap.size).tr k0_ g32)
    replace hA := kb_hA _ g32
    clear kb_hA
    replace R9 := kb_R9 _ g32
    clear kb_R9
    replace hc11 := kb_hc11 _ g32
    clear kb_hc11
    replace RY := kb_RY _ g32
    clear kb_RY
    replace hsz28 := kb_hsz28 _ g32
    clear kb_hsz28
    replace G := kb_G _ g32
    clear kb_G
    intro v_y hv_y
    intro v_x28 hv_x28
    rintro ⟨bx28, hbe28, hge28, hc28⟩
    have hbv28 : v_x28 = .pointer (some ⟨bx28, 0, none⟩) := hbe28
    subst hbv28
    clear hv_x28 hbe28
    have hgx28 := Nat.le_trans hgz28 hge28
    refine stp (r_assign_int rfl ?_)
    refine WL_nil ?_
    obtain ⟨_, _, _, -, -, hFq⟩ := hv_y
    have hQR := suffices_law hr (by omega) (c := 8192) hFq (by rw [← hR]; exact hz0)
    rw [← hQ, ← hR] at hQR
    refine W_seq (W_region rfl ?_)
    refine stp (r_move_slice rfl ?_)
    refine stp (r_loadAll rfl hc11 (by rfl) ?_)
    refine stp (r_gives (v := .tuple #[.agg #[.int .i64 R.1.kind, .int .i64 R.1.size, .int .i64 R.1.words, .int .i64 R.1.kids, .int .u64 R.1.word], .int .i64 R.2]) rfl (gives_eq (rof9_calls _ hA hr hx R9 (a := (at_ % 12 - 2)) (c := c9) (by simp only [inR]; omega) (by decide)) (y := .tuple #[.agg #[.int .i64 R.1.kind, .int .i64 R.1.size, .int .i64 R.1.words, .int .i64 R.1.kids, .int .u64 R.1.word], .int .i64 R.2]) (by rw [← hR])) ?_)
    intro w33 g34
    replace hA := hA.grow g34
    replace R9 := R9.grow g34
    replace hc11 := g34.heap hc11
    replace RY := RY.grow g34
    replace hsz28 := Nat.le_trans hsz28 g34.size
    replace hc28 := g34.heap hc28
    replace G := G.tr g34
    clear g34
    refine stp (r_move (v := .tuple #[.agg #[.int .i64 R.1.kind, .int .i64 R.1.size, .int .i64 R.1.words, .int .i64 R.1.kids, .int .u64 R.1.word], .int .i64 R.2]) rfl ?_)
    refine stp (r_extract (v := .agg #[.int .i64 R.1.kind, .int .i64 R.1.size, .int .i64 R.1.words, .int .i64 R.1.kids, .int .u64 R.1.word]) rfl rfl ?_)
    refine stp (r_extract (v := .int .i64 R.2) rfl rfl ?_)
    refine stp (r_alloc ?_)
    intro b35 w36 hb37 hc38 g39
    refine stn (r_storeAll rfl rfl hc38 (by rfl) (by rfl) (by rfl) ?_)
    intro w40 hc41 u42
    have g43 := g39.upd u42 hb37
    have hge44 := Nat.le_trans G.size hb37
    have ne45 := Nat.ne_of_lt (Nat.lt_of_lt_of_le (lt_of_heap hc11) hb37)
    have ne46 := Nat.ne_of_lt (Nat.lt_of_lt_of_le (lt_of_heap hc28) hb37)
    replace hA := hA.grow g43
    replace R9 := R9.grow g43
    replace hc11 := g43.heap hc11
    replace RY := RY.grow g43
    replace hsz28 := Nat.le_trans hsz28 g43.size
    replace hc28 := g43.heap hc28
    replace G := G.tr g43
    clear u42 g39 hb37 hc38
    refine stp (r_assign_int rfl ?_)
    refine WL_nil ?_
    refine W_seq (W_region rfl ?_)
    refine stp (r_gives (v := .bool true) rfl (known16_calls _) ?_)
    intro w47 g48
    replace hA := hA.grow g48
    replace R9 := R9.grow g48
    replace hc11 := g48.heap hc11
    replace RY := RY.grow g48
    replace hsz28 := Nat.le_trans hsz28 g48.size
    replace hc28 := g48.heap hc28
    replace hc41 := g48.heap hc41
    replace G := G.tr g48
    clear g48
    refine stp (r_move (v := .bool true) rfl ?_)
    refine stp (r_move_int rfl ?_)
    refine stp (r_eql_t rfl rfl (by rw [hQR]; exact hz0) ?_)
    refine stp (r_pick_t (v := .bool true) rfl rfl rfl ?_)
    refine stp (r_move (v := .bool true) rfl ?_)
    refine stp (r_move_int rfl ?_)
    refine stp (r_eql_t rfl rfl (hz0) ?_)
    refine stp (r_pick_t (v := .bool true) rfl rfl rfl ?_)
    refine stp (r_move (v := .bool true) rfl ?_)
    refine stp (r_loadAll rfl hc28 (by rfl) ?_)
    refine stp (r_loadAll rfl hc41 (by rfl) ?_)
    refine stp (r_eqlS' (r' := true) rfl rfl (by rfl) (by rw [hQR]; simp) ?_)
    refine stp (r_pick_t (v := .bool true) rfl rfl rfl ?_)
    refine stp (r_assign (v := .bool true) rfl ?_)
    refine WL_nil ?_
    refine W_ret ?_
    refine ret1 (res_tmp (v := .bool true) rfl) ⟨?_, G⟩
    rfl
end Go.Proofs.YtifhcfhdajkhlaaGreat.K

namespace Go.Proofs.YtifhcfhdajkhlaaGreat.K
open Go Go.RowKit Go.ChangeShapes Go.WideShapes

section
variable {H : Type} {enc : TypeId × Value → H} {P : Program} {w : World}
/-- What is told of an argument, or of a part of it: it is read so, and is no greater than memory is. -/
structure Told (enc : TypeId × Value → H) (P : Program) (w : World) (fuel : Nat) (t : TypeId) (cs : List Value) : Prop where
  h : ∃ d p, DataW.trod enc P w 0 (fun _ => true) true fuel t cs = some (d, p) ∧ ∀ n ∈ d.weights P t, n ≤ reachBytes
theorem told_of {ts : List TypeId} {ds : List (DataW H)} {j : Nat} {t : TypeId} {d : DataW H} {v : Value} {p : List MemPlace} (h : DataW.Trod enc P w 0 (fun _ => true) true t v d p) (hz : (DataW.weightsEach P ts ds).all (· ≤ reachBytes) = true) (ht : ts[j]? = some t) (hd : ds[j]? = some d) : ∃ fuel, Told enc P w fuel t v.cells.toList := by
  obtain ⟨fuel, hf⟩ := h
  exact ⟨fuel, ⟨d, p, hf, fun n hn => by simpa using List.all_eq_true.1 hz n (DataW.weights_mem_each ht hd n hn)⟩⟩
theorem mapM_ex {α β : Type} {f : α → Option β} : ∀ {l : List α} {r : List β}, l.mapM f = some r → ∀ (i : Nat) (x : α), l[i]? = some x → ∃ y, f x = some y ∧ r[i]? = some y := by
  intro l r h i x hx
  have h1 := mapM_some_get h i x hx
  have hl := mapM_some_length h
  have hi : i < r.length := by rw [hl]; exact (List.getElem?_eq_some_iff.1 hx).1
  rw [List.getElem?_eq_getElem hi] at h1
  exact ⟨_, h1, List.getElem?_eq_getElem hi⟩
theorem weightsAll_mem {e : TypeId} : ∀ {ds : List (DataW H)} {i : Nat} {d : DataW H}, ds[i]? = some d → ∀ n ∈ d.weights P e, n ∈ DataW.weightsAll P e ds
  | [], i, d, h, _, _ => by simp at h
  | x :: ds, 0, d, h, n, hn => by
    simp only [List.getElem?_cons_zero, Option.some.injEq] at h
    subst h
    simp only [DataW.weightsAll, List.mem_append]; exact .inl hn
  | x :: ds, i + 1, d, h, n, hn => by
    simp only [DataW.weightsAll, List.mem_append]; exact .inr (weightsAll_mem (by simpa using h) n hn)
/-- A slice, opened: what it holds, and each element. -/
theorem told_slice {t e : TypeId} {sz by_ fuel : Nat} {cs : List Value} (ht : P.underlying t = some (.slice e)) (hc : P.cellsOf e = sz) (hsz : 0 < sz) (hby : P.bytesOf e = by_) (hby1 : 1 ≤ by_) (h : Told enc P w fuel t cs) :
    ∃ f ad n c xs, fuel = f + 1 ∧ cs = [.slice ad n c] ∧ n ≤ c ∧ c ≤ maxLen ∧ RowAt w sz ad n xs ∧ ∀ i, i < n → Told enc P w f e ((xs.drop (i * sz)).take sz) := by
  obtain ⟨d, p, hd, hw⟩ := h
  rcases DataW.trod_slice ht hd with ⟨rfl, hx⟩ | ⟨a, len, cap, elems, rest, n, rfl, rfl, hx, _, hl, hm, hlen, hel, _, _⟩
  · cases fuel with
    | zero => simp [DataW.trod] at hd
    | succ f => exact ⟨f, none, 0, 0, [], rfl, rfl, Nat.le_refl _, Nat.zero_le _, RowAt.empty _ _ _, fun i hi => by omega⟩
  · simp only [Prod.mk.injEq] at hx
    obtain ⟨rfl, _⟩ := hx
    have hwt : ∀ n ∈ DataW.weightsAll P e (elems.map (·.1)), n ≤ reachBytes := fun n hn => hw n (by simp only [DataW.weights, ht, List.mem_cons, List.mem_append]; exact .inr (.inl hn))
    have hlim : len * by_ ≤ reachBytes := by
      have := hw (((elems.map (·.1)).length + (rest.map (·.1)).length) * P.bytesOf e) (by simp only [DataW.weights, ht, List.mem_cons, true_or])
      rw [hby, List.length_map, hlen, List.length_map, Nat.add_mul] at this
      omega
    have hlen2 : len ≤ 140737488355328 := by
      have h1 : len * 1 ≤ len * by_ := Nat.mul_le_mul_left _ hby1
      have h2 : reachBytes ≤ 140737488355328 := by decide
      omega
    -- each element
    have each : ∀ i, i < len → ∃ ys x, w.cells? 0 (a.add (i * sz)) sz = some ys ∧ DataW.trod enc P w 0 (fun _ => true) true n e ys = some x ∧ elems[i]? = some x := by
      intro i hi
      have hh := hel i hi
      have hi2 : i < elems.length := by omega
      rw [List.getElem?_eq_getElem hi2, hc] at hh
      simp only [Option.bind_eq_some_iff] at hh
      obtain ⟨ys, h1, h2⟩ := hh
      exact ⟨ys, _, h1, h2, List.getElem?_eq_getElem hi2⟩
    rcases Nat.eq_zero_or_pos len with h0 | h0
    · subst h0
      exact ⟨n, some a, 0, cap, [], rfl, rfl, hl, hm, RowAt.empty _ _ _, fun i hi => by omega⟩
    · -- the block
      have cell : ∀ i j, i < len → j < sz → ∃ v, w.cell? ((a.add (i * sz)).add j) = some v := by
        intro i j hi hj
        obtain ⟨ys, x, h1, _, _⟩ := each i hi
        unfold World.cells? at h1
        rw [if_pos (Nat.zero_le _)] at h1
        obtain ⟨y, hy, _⟩ := mapM_ex h1 j j (by simp [hj])
        exact ⟨y, hy⟩
      obtain ⟨blk, off, spot⟩ := a
      obtain ⟨v0, hv0⟩ := cell 0 0 h0 hsz
      have hadd0 : ((⟨blk, off, spot⟩ : Addr).add (0 * sz)).add 0 = ⟨blk, off, spot⟩ := by simp [Addr.add]
      rw [hadd0] at hv0
      unfold World.cell? at hv0
      cases hb : w.heap[blk]? with
      | none => rw [hb] at hv0; cases hv0
      | some o =>
        rw [hb] at hv0
        cases o with
        | cells c T fr =>
          simp only at hv0
          have hspot : spot = none := by
            cases spot with
            | none => rfl
            | some _ => simp at hv0
          subst hspot
          have hcell : ∀ k, k < len * sz → ∃ v, c[off + k]? = some v := by
            intro k hk
            have hdm := Nat.div_add_mod k sz
            have h1 : k / sz < len := (Nat.div_lt_iff_lt_mul hsz).2 hk
            obtain ⟨v, hv⟩ := cell (k / sz) (k % sz) h1 (Nat.mod_lt _ hsz)
            rw [add_lit, add_lit, cell_of_row w blk _ c T fr hb] at hv
            refine ⟨v, ?_⟩
            have : off + k / sz * sz + k % sz = off + k := by rw [Nat.mul_comm]; omega
            rwa [this] at hv
          have hsize : off + len * sz ≤ c.size := by
            have hp : 0 < len * sz := Nat.mul_pos h0 hsz
            obtain ⟨v, hv⟩ := hcell (len * sz - 1) (by omega)
            have := (Array.getElem?_eq_some_iff.1 hv).1
            omega
          refine ⟨n, some ⟨blk, off, none⟩, len, cap, (c.toList.drop off).take (len * sz), rfl, rfl, hl, hm, ⟨by rw [List.length_take, List.length_drop, Array.length_toList]; omega, hlen2, fun _ => ⟨blk, off, c, T, fr, rfl, hb, rfl⟩⟩, fun i hi => ?_⟩
          obtain ⟨ys, x, h1, h2, h3⟩ := each i hi
          have hys : ys = (((c.toList.drop off).take (len * sz)).drop (i * sz)).take sz := by
            unfold World.cells? at h1
            rw [if_pos (Nat.zero_le _)] at h1
            have hl2 := mapM_some_length h1
            simp only [List.length_range] at hl2
            have hle : (i + 1) * sz ≤ len * sz := Nat.mul_le_mul_right _ hi
            rw [Nat.add_mul, Nat.one_mul] at hle
            apply List.ext_getElem?
            intro j
            by_cases hj : j < sz
            · obtain ⟨y, hy, hy2⟩ := mapM_ex h1 j j (by simp [hj])
              rw [add_lit, add_lit, cell_of_row w blk _ c T fr hb] at hy
              rw [hy2, List.getElem?_take, if_pos hj, List.getElem?_drop, List.getElem?_take, if_pos (by omega), List.getElem?_drop, Array.getElem?_toList, ← Nat.add_assoc, hy]
            · rw [List.getElem?_eq_none (by omega), List.getElem?_eq_none (by rw [List.length_take]; omega)]
          rw [← hys]
          exact ⟨⟨x.1, x.2, h2, fun m hm_ => hwt m (weightsAll_mem (i := i) (by rw [List.getElem?_map, h3]; rfl) m hm_)⟩⟩
        | _ => cases hv0
theorem told_int {t : TypeId} {k : IntKind} {fuel : Nat} {cs : List Value} (ht : P.underlying t = some (.int k)) (h : Told enc P w fuel t cs) : ∃ n, cs = [.int k n] ∧ inR k n := by
  obtain ⟨d, p, hd, _⟩ := h
  obtain ⟨n, h1, _, hw⟩ := DataW.trod_int ht hd
  refine ⟨n, h1, ?_⟩
  cases k <;> simpa [Lit.wf, IntKind.min, IntKind.max, IntKind.bits, IntKind.signed, inR] using hw
/-- A row of which each element is one cell, told by a function. -/
theorem row_map {α : Type} {sz n : Nat} {xs : List Value} {f : α → Value} (hl : xs.length = n) (h : ∀ i, i < n → ∃ a, (xs.drop (i * 1)).take 1 = [f a]) : ∃ l : List α, l.length = n ∧ xs = l.map f := by
  induction xs generalizing n with
  | nil => exact ⟨[], by simpa using hl, rfl⟩
  | cons x xs ih =>
    obtain ⟨a, ha⟩ := h 0 (by simp at hl; omega)
    simp at ha
    obtain ⟨l, h1, h2⟩ := ih (n := n - 1) (by simp at hl; omega) fun i hi => by
      obtain ⟨b, hb⟩ := h (i + 1) (by omega)
      exact ⟨b, by simpa using hb⟩
    exact ⟨a :: l, by simp at hl ⊢; omega, by simp [ha, h2]⟩
theorem told_ints {t e : TypeId} {k : IntKind} {fuel by_ : Nat} {cs : List Value} (ht : P.underlying t = some (.slice e)) (he : P.underlying e = some (.int k)) (hc : P.cellsOf e = 1) (hby : P.bytesOf e = by_) (hby1 : 1 ≤ by_) (h : Told enc P w fuel t cs) :
    ∃ ad n c, ∃ zs : List Int, cs = [.slice ad n c] ∧ n = zs.length ∧ n ≤ c ∧ c ≤ maxLen ∧ RowAt w 1 ad n (zs.map (.int k)) ∧ ∀ z ∈ zs, inR k z := by
  obtain ⟨f, ad, n, c, xs, rfl, rfl, h1, h2, R, hel⟩ := told_slice ht hc (by omega) hby hby1 h
  obtain ⟨l, hl, rfl⟩ := row_map (sz := 1) (f := fun a : { z : Int // inR k z } => Value.int k a.1) (by rw [R.len, Nat.mul_one]) fun i hi => by
    obtain ⟨z, hz, hr⟩ := told_int he (hel i hi)
    exact ⟨⟨z, hr⟩, hz⟩
  refine ⟨ad, n, c, l.map (·.1), rfl, by simp [hl], h1, h2, by rw [List.map_map]; exact R, fun z hz => ?_⟩
  obtain ⟨a, _, rfl⟩ := List.mem_map.1 hz
  exact a.2
theorem cells_slice {t e : TypeId} {r : Reach} {b0 : Nat} {v : Value} (ht : P.underlying t = some (.slice e)) (hv : Value.okWide P w r b0 t v) {ad : Option Addr} {n c : Nat} (h : v.cells.toList = [.slice ad n c]) : v = .slice ad n c := by
  unfold Value.okWide at hv
  rw [ht] at hv
  unfold Cell.okWide at hv
  rw [ht] at hv
  cases v <;> first | (simp only [Cell.ok, ht] at hv; done) | (simp [Value.cells] at h; try (obtain ⟨rfl, rfl, rfl⟩ := h); try rfl) | skip
end
end Go.Proofs.YtifhcfhdajkhlaaGreat.K

