/- The walks of chapter 08's statements (printed by l08.py). -/
import Derived.Test.YthbcgfmoakokiaaT
import Derived.Test.YthbcgfmoakokiaaM08
import Derived.Test.YthbcgfmoakokiaaB08
import Derived.Test.YthbcgfmoakokiaaO08
import Derived.Test.YthbcgfmoakokiaaPtr
import Derived.Test.YthbcgfmoakokiaaBA
import Derived.Test.YthbcgfmoakokiaaBB
import Derived.Test.YthbcgfmoakokiaaBC
import Derived.Test.YthbcgfmoakokiaaBD
import Derived.Test.YthbcgfmoakokiaaBE
import Derived.Test.YthbcgfmoakokiaaBF
import Derived.Test.YthbcgfmoakokiaaQ08
import Derived.Test.YthbcgfmoakokiaaP08
import Derived.Test.YthbcgfmoakokiaaBG
set_option linter.unusedVariables false
set_option linter.unusedSimpArgs false
namespace Go.Proofs.Ythbcgfmoakokiaa.K
open Go Go.RowKit Go.Proofs
attribute [local irreducible] Run1 OpG WL W AO Gives
set_option maxRecDepth 100000 in
theorem BuildSizes_calls (w : World) {n cp : Nat} {ad : Option Addr} {xs : List Int} (R : RowAt w 1 ad n (xs.map (.int .u8))) (hn : n = xs.length) (hx : isU8 xs) (hcp : n ≤ cp) (hcp2 : cp ≤ maxLen) {k : Int} (k0 : 0 ≤ k) (k1 : k ≤ 255) : Gives Try.prog 4 #[.slice ad n cp, .int .u8 k] w (.bool true) := by
  have G := Grow.rfl' w
  refine gives_of Try.func4 Try.ntmps4 Try.results4 rfl rfl ?_
  refine W_seq ?_
  refine W_region rfl ?_   -- region 0
  refine WL_some (og rfl ?_)
  refine r_assign (v := .bool false) rfl ?_
  refine WL_nil ?_
  refine W_seq ?_
  refine W_seq ?_
  refine W_region rfl ?_   -- region 1
  refine WL_some (og rfl ?_)
  refine r_move (v := .slice ad n cp) rfl ?_
  refine WL_some (og rfl ?_)
  refine r_len rfl rfl rfl ?_
  refine WL_some (og rfl ?_)
  refine r_gtr rfl rfl ?_
  refine WL_nil ?_
  refine W_cond2 (b := (decide ((n : Int) > 200))) rfl (fun h1 => ?_) (fun h1 => ?_)
  ·  -- true
    replace h1 := of_decide_eq_true h1
    refine W_seq ?_
    refine W_region rfl ?_   -- region 2
    refine WL_some (og rfl ?_)
    refine r_gives (v := .bool true) rfl (known_calls _) ?_
    intro w1 g2
    replace G := G.tr g2
    clear g2
    refine WL_some (og rfl ?_)
    refine r_assign (v := .bool true) rfl ?_
    refine WL_nil ?_
    refine W_ret ?_
    refine ret1 (res_tmp (v := .bool true) rfl) ⟨?_, G⟩
    rfl
  ·  -- false
    replace h1 := of_decide_eq_false h1
    refine W_skip ?_
    refine W_seq ?_
    refine W_region rfl ?_   -- region 3
    refine WL_some (og rfl ?_)
    refine r_move (v := .slice ad n cp) rfl ?_
    refine WL_some (og rfl ?_)
    have hcal := tree_calls _ _ (d := 9) R G hn hx hcp hcp2 (by omega) (Nat.le_refl _)
    rw [show ((9 : Nat) : Int) = 9 from rfl] at hcal
    refine r_call rfl hcal ?_
    rintro v_ w3 ⟨cells, adr, nr, cr, rfl, hT, -, -, -, -, g_⟩
    replace G := G.tr g_
    clear g_
    replace hT := hT.sees (Sees.seen _ _)
    have hright_tr : (treeP 9 xs).1.right 32 = true := treeP_right _ _ _ (by omega) hx
    have hneeds_tr := treeP_needs 9 xs hx
    generalize (treeP 9 xs).1 = tr at hT hright_tr hneeds_tr
    obtain ⟨y0, y1, ya, yn, yc, yd, ye, yf, yg, yh, yi, rfl⟩ := hT.cells
    refine WL_some (og rfl ?_)
    refine r_move (v := .tuple #[.agg #[.int .i64 y0, .int .i64 y1, .slice ya yn yc, .slice yd ye yf, .slice yg yh yi], .slice adr nr cr]) rfl ?_
    refine WL_some (og rfl ?_)
    refine r_extract (v := .agg #[.int .i64 y0, .int .i64 y1, .slice ya yn yc, .slice yd ye yf, .slice yg yh yi]) rfl rfl ?_
    refine WL_some (og rfl ?_)
    refine r_extract (v := .slice adr nr cr) rfl rfl ?_
    refine WL_some (og rfl ?_)
    refine r_alloc ?_
    intro b4 w5 hb6 hc7 g8
    refine WL_none (og rfl ?_)
    refine r_storeAll rfl rfl hc7 (by rfl) (by rfl) (by rfl) ?_
    intro w9 hc10 u11
    have g12 := g8.upd u11 hb6
    have hge13 := Nat.le_trans G.size hb6
    replace hT := hT.grow g12
    replace G := G.tr g12
    clear u11 g8 hb6 hc7
    refine WL_some (og rfl ?_)
    refine r_assign (v := .slice adr nr cr) rfl ?_
    refine WL_nil ?_
    refine W_seq ?_
    refine W_region rfl ?_   -- region 4
    refine WL_some (og rfl ?_)
    refine r_move (v := .int .u8 k) rfl ?_
    refine WL_some (og rfl ?_)
    refine r_rem rfl rfl ?_ ?_ ?_; omega; omega
    refine WL_some (og rfl ?_)
    refine r_conv rfl ?_ ?_; constructor <;> omega
    refine WL_some (og rfl ?_)
    refine r_add rfl rfl ?_ ?_; constructor <;> omega
    refine WL_some (og rfl ?_)
    refine r_assign (v := .int .i64 (2 + (k % 60))) rfl ?_
    refine WL_nil ?_
    refine W_seq ?_
    refine W_region rfl ?_   -- region 5
    refine WL_some (og rfl ?_)
    refine r_loadAll rfl hc10 (by rfl) ?_
    refine WL_some (og rfl ?_)
    refine r_move (v := .int .i64 (2 + (k % 60))) rfl ?_
    refine WL_some (og rfl ?_)
    refine r_call rfl (Build_calls _ (t := tr) hT (2 + k % 60)) ?_
    rintro v_ w14 ⟨so_, segsa, rfl, hA_, g_⟩
    replace hT := hT.grow g_
    replace hc10 := g_.heap hc10
    replace G := G.tr g_
    clear g_
    have hsma := Nd.build_sml tr (2 + k % 60)
    have heea := Nd.build_err tr (2 + k % 60)
    obtain ⟨Aa, hAa⟩ : ∃ A, A = (Nd.build tr (2 + k % 60)).1 := ⟨_, rfl⟩
    obtain ⟨ea, hea⟩ : ∃ e, e = (Nd.build tr (2 + k % 60)).2 := ⟨_, rfl⟩
    rw [← hAa] at hA_ hsma
    rw [← hea] at heea ⊢
    obtain ⟨ada, cca, saa, sca, rfl, -, -, ROa, hsfa⟩ := hA_.fn (by have := hsma.len; omega)
    replace hsfa := fun i hi => (hsfa i hi).1
    clear hA_
    have hlena := hsma.len
    refine WL_some (og rfl ?_)
    refine r_move (v := .tuple #[.slice ada Aa.length cca, .int .u16 ea]) rfl ?_
    refine WL_some (og rfl ?_)
    refine r_extract (v := .slice ada Aa.length cca) rfl rfl ?_
    refine WL_some (og rfl ?_)
    refine r_extract (v := .int .u16 ea) rfl rfl ?_
    refine WL_some (og rfl ?_)
    refine r_assign (v := .slice ada Aa.length cca) rfl ?_
    refine WL_some (og rfl ?_)
    refine r_assign (v := .int .u16 ea) rfl ?_
    refine WL_nil ?_
    refine W_seq ?_
    refine W_region rfl ?_   -- region 6
    refine WL_some (og rfl ?_)
    refine r_loadAll rfl hc10 (by rfl) ?_
    refine WL_some (og rfl ?_)
    refine r_call rfl (Build_calls _ (t := tr) hT 4096) ?_
    rintro v_ w15 ⟨so_, segsb, rfl, hA_, g_⟩
    replace hT := hT.grow g_
    replace hc10 := g_.heap hc10
    replace ROa := ROa.grow g_
    replace G := G.tr g_
    clear g_
    have hsmb := Nd.build_sml tr 4096
    have heeb := Nd.build_err tr 4096
    obtain ⟨Ab, hAb⟩ : ∃ A, A = (Nd.build tr 4096).1 := ⟨_, rfl⟩
    obtain ⟨eb, heb⟩ : ∃ e, e = (Nd.build tr 4096).2 := ⟨_, rfl⟩
    rw [← hAb] at hA_ hsmb
    rw [← heb] at heeb ⊢
    obtain ⟨adb, ccb, sab, scb, rfl, -, -, ROb, hsfb⟩ := hA_.fn (by have := hsmb.len; omega)
    replace hsfb := fun i hi => (hsfb i hi).1
    clear hA_
    have hlenb := hsmb.len
    refine WL_some (og rfl ?_)
    refine r_move (v := .tuple #[.slice adb Ab.length ccb, .int .u16 eb]) rfl ?_
    refine WL_some (og rfl ?_)
    refine r_extract (v := .slice adb Ab.length ccb) rfl rfl ?_
    refine WL_some (og rfl ?_)
    refine r_extract (v := .int .u16 eb) rfl rfl ?_
    refine WL_some (og rfl ?_)
    refine r_assign (v := .slice adb Ab.length ccb) rfl ?_
    refine WL_some (og rfl ?_)
    refine r_assign (v := .int .u16 eb) rfl ?_
    refine WL_nil ?_
    refine W_seq ?_
    refine W_seq ?_
    refine W_region rfl ?_   -- region 7
    refine WL_some (og rfl ?_)
    refine r_assign (v := .int .i64 0) rfl ?_
    refine WL_nil ?_
    refine W_block ?_
    have hnd := Nd.needs_nn tr
    obtain ⟨sg, hb1, hb2⟩ := Nd.build_one (t := tr) (size := 4096) hright_tr (by omega) (by omega)
    rw [hb1] at hAb heb
    dsimp only at hAb heb
    have hb24 := Nd.build_24 (t := tr) (size := (2 + k % 60)) hright_tr (by omega) (by omega)
    have hfit := Nd.build_fit (t := tr) (size := (2 + k % 60))
    have hnone := Nd.build_none (t := tr) (size := (2 + k % 60))
    rw [← hea] at hb24 hfit hnone
    rw [← hAa] at hfit hnone
    have hlenb : Ab.length = 1 := by rw [hAb]; rfl
    have hlb2 : len2 Ab 0 = sg.length := by rw [hAb]; rfl
    refine W_loop (fun m_ e_ w_ => ∃ (i : Nat), m_ = Aa.length - i ∧ Fr [(5, .pointer (some ⟨b4, 0, none⟩)), (7, .int .i64 (2 + (k % 60))), (8, .slice ada Aa.length cca), (9, .int .u16 ea), (10, .slice adb Ab.length ccb), (11, .int .u16 eb), (12, .int .i64 (i : Int))] e_ ∧ (i ≤ Aa.length) ∧ (NodeR w_ [.int .i64 y0, .int .i64 y1, .slice ya yn yc, .slice yd ye yf, .slice yg yh yi] tr) ∧ (w_.heap[b4]? = some (.cells #[.int .i64 y0, .int .i64 y1, .slice ya yn yc, .slice yd ye yf, .slice yg yh yi] 26 (0, 0))) ∧ (RowAt w_ 1 ada Aa.length segsa) ∧ (RowAt w_ 1 adb Ab.length segsb) ∧ Grow w w_) _ ⟨0, rfl, fr_of ⟨rfl, rfl, rfl, rfl, rfl, rfl, rfl, trivial⟩, by omega, hT, hc10, ROa, ROb, G⟩ ?_
    clear hT hc10 ROa ROb
    clear G
    rintro m_ e_ w16 ⟨i, rfl, ⟨e17, rfl⟩, hi2, hT, hc10, ROa, ROb, G⟩
    refine W_seq ?_
    refine W_seq ?_
    refine W_region rfl ?_   -- region 8
    refine WL_some (og rfl ?_)
    refine r_move (v := .int .i64 (i : Int)) rfl ?_
    refine WL_some (og rfl ?_)
    refine r_move (v := .slice ada Aa.length cca) rfl ?_
    refine WL_some (og rfl ?_)
    refine r_len rfl rfl rfl ?_
    refine WL_some (og rfl ?_)
    refine r_lss rfl rfl ?_
    refine WL_nil ?_
    refine W_cond2 (b := (decide ((i : Int) < (Aa.length : Int)))) rfl (fun hlt => ?_) (fun hlt => ?_)
    ·  -- true
      replace hlt := of_decide_eq_true hlt
      have hi : i < Aa.length := by omega
      have he0 : ea = 0 := by by_cases h0 : ea = 0; exact h0; have := hnone h0; rw [this] at hi; simp at hi
      have hsg := (hfit he0).seg i
      refine W_skip ?_
      refine W_seq ?_
      refine W_block ?_
      refine W_seq ?_
      refine W_region rfl ?_   -- region 10
      refine WL_some (og rfl ?_)
      refine r_move (v := .slice ada Aa.length cca) rfl ?_
      refine WL_some (og rfl ?_)
      refine r_move (v := .int .i64 (i : Int)) rfl ?_
      refine WL_some (og rfl ?_)
      refine r_indexN ROa rfl rfl ?_ ?_; omega
      refine WL_some (og rfl ?_)
      refine r_loadR (v := .slice (saa i) (len2 Aa i) (sca i)) (m := 0) ROa rfl (by first | (rw [Nat.mul_one]; exact hsfa _ (by omega)) | exact hsfa 0 (by omega)) ?_
      refine WL_some (og rfl ?_)
      refine r_len rfl rfl rfl ?_
      refine WL_some (og rfl ?_)
      refine r_move (v := .int .i64 (2 + (k % 60))) rfl ?_
      refine WL_some (og rfl ?_)
      refine r_gtr_f rfl rfl (by omega) ?_
      refine WL_nil ?_
      refine W_false rfl ?_
      refine W_skip ?_
      refine W_region rfl ?_   -- region 9
      refine WL_some (og rfl ?_)
      refine r_move (v := .int .i64 (i : Int)) rfl ?_
      refine WL_some (og rfl ?_)
      refine r_add rfl rfl ?_ ?_; constructor <;> omega
      refine WL_some (og rfl ?_)
      refine r_assign (v := .int .i64 ((i : Int) + 1)) rfl ?_
      refine WL_nil ?_
      refine ⟨_, ?_, i + 1, rfl, fr_of ⟨rfl, rfl, rfl, rfl, rfl, rfl, rfl, trivial⟩, by omega, hT, hc10, ROa, ROb, G⟩
      omega
    ·  -- false
      replace hlt := of_decide_eq_false hlt
      by_cases he0 : ea = 0
      ·
        have hF := hfit he0
        have hF1 := hF.one
        have hF2 := hF.most
        refine W_exit ?_
        refine W_seq ?_
        refine W_any 42 [[], [0], [1, 0], [2, 1, 0], [3, 2, 1, 0], [4, 3, 2, 1, 0], [5, 4, 3, 2, 1, 0], [6, 5, 4, 3, 2, 1, 0], [7, 6, 5, 4, 3, 2, 1, 0], [8, 7, 6, 5, 4, 3, 2, 1, 0], [9, 8, 7, 6, 5, 4, 3, 2, 1, 0], [10, 9, 8, 7, 6, 5, 4, 3, 2, 1, 0], [11, 10, 9, 8, 7, 6, 5, 4, 3, 2], [12, 11, 10, 9, 8, 7, 6, 5, 4, 3, 0], [13, 12, 11, 10, 9, 8, 7, 6, 5, 4, 1, 0], [14, 13, 12, 11, 10, 9, 8, 7, 6, 5, 4, 3, 2, 1, 0], [15, 14, 13, 12, 11, 10, 9, 8, 7, 6, 5, 4, 3, 2, 1, 0], [16, 15, 14, 13, 12, 11, 10, 9, 8, 7, 6, 5, 4, 3, 2, 1, 0], [17, 16, 15, 14, 13, 12, 11, 10, 9, 8, 7, 6, 5, 4, 3, 2, 1, 0], [18, 17, 16, 15, 14, 13, 12, 11, 10, 9, 8, 7, 6, 5, 4, 3, 2, 1, 0], [19, 18, 17, 16, 15, 14, 13, 12, 11, 10, 9, 8, 7, 6, 5, 4, 3, 2, 1, 0], [20, 19, 18, 17, 16, 15, 14, 13, 12, 11, 10, 9, 8, 7, 6, 5, 4, 3, 2, 1, 0], [21, 20, 19, 18, 17, 16, 15, 14, 13, 12, 11, 10, 9, 8, 7, 6, 5, 4, 3, 2, 1, 0], [22, 21, 20, 19, 18, 17, 16, 15, 14, 13, 12, 11, 10, 9, 8, 7, 6, 5, 4, 3, 2, 1, 0], [23, 22, 21, 20, 19, 18, 17, 16, 15, 14, 13, 12, 11, 10, 9, 8, 7, 6, 5, 4, 3, 2, 1, 0], [24, 23, 22, 21, 20, 19, 18, 17, 16, 15, 14, 13, 12, 11, 10, 9, 8, 7, 6, 5, 4, 3, 2, 1, 0], [25, 24, 23, 22, 21, 20, 19, 18, 17, 16, 15, 14, 13, 12, 11, 10, 9, 8, 7, 6, 5, 4, 3, 2, 1, 0], [26, 25, 24, 23, 22, 21, 20, 19, 18, 17, 16, 15, 14, 13, 12, 11, 10, 9, 8, 7, 6, 5, 4, 3, 2, 1, 0], [27, 26, 25, 24, 23, 22, 21, 20, 19, 18, 17, 16, 15, 14, 13, 12, 11, 10, 9, 8, 7, 6, 5, 4, 3, 2, 1, 0], [28, 27, 26, 25, 24, 23, 22, 21, 20, 19, 18, 17, 16, 15, 14, 13, 12, 11, 10, 9, 8, 7, 6, 5, 4, 3, 2, 1, 0], [29, 28, 27, 26, 25, 24, 23, 22, 21, 20, 19, 18, 17, 16, 15, 14, 13, 12, 11, 10, 9, 8, 7, 6, 5, 4, 3, 2, 1, 0], [30, 29, 28, 27, 26, 25, 24, 23, 22, 21, 20, 19, 18, 17, 16, 15, 14, 13, 12, 11, 10, 9, 8, 7, 6, 5, 4], [31, 30, 29, 28, 27, 26, 25, 24, 23, 22, 21, 20, 19, 18, 17, 16, 15, 14, 13, 12, 11, 10, 9, 8, 7, 6, 5, 0], [32, 31, 30, 29, 28, 27, 26, 25, 24, 23, 22, 21, 20, 19, 18, 17, 16, 15, 14, 13, 12, 11, 10, 9, 8, 7, 6, 1, 0], [33, 32, 31, 30, 29, 28, 27, 26, 25, 24, 23, 22, 21, 20, 19, 18, 17, 16, 15, 14, 13, 12, 11, 10, 9, 8, 7, 6, 5, 4, 3, 2, 1, 0], [34, 33, 32, 31, 30, 29, 28, 27, 26, 25, 24, 23, 22, 21, 20, 19, 18, 17, 16, 15, 14, 13, 12, 11, 10, 9, 8, 7, 6, 5, 4, 3, 2, 1, 0], [35, 34, 33, 32, 31, 30, 29, 28, 27, 26, 25, 24, 23, 22, 21, 20, 19, 18, 17, 16, 15, 14, 13, 12, 11, 10, 9, 8, 7, 6, 5, 4, 3, 2, 1, 0], [36, 35, 34, 33, 32, 31, 30, 29, 28, 27, 26, 25, 24, 23, 22, 21, 20, 19, 18, 17, 16, 15, 14, 13, 12, 11, 10, 9, 8, 7, 6, 5, 4, 3, 2, 1, 0], [37, 36, 35, 34, 33, 32, 31, 30, 29, 28, 27, 26, 25, 24, 23, 22, 21, 20, 19, 18, 17, 16, 15, 14, 13, 12, 11, 10, 9, 8, 7, 6, 5, 4, 3, 2, 1, 0], [38, 37, 36, 35, 34, 33, 32, 31, 30, 29, 28, 27, 26, 25, 24, 23, 22, 21, 20, 19, 18, 17, 16, 15, 14, 13, 12, 11, 10, 9, 8, 7, 6, 5, 4, 3, 2, 1, 0], [39, 38, 37, 36, 35, 34, 33, 32, 31, 30, 29, 28, 27, 26, 25, 24, 23, 22, 21, 20, 19, 18, 17, 16, 15, 14, 13, 12, 11, 10, 9, 8, 7, 6, 5, 4, 3, 2, 1, 0], [40, 39, 38, 37, 36, 35, 34, 33, 32, 31, 30, 29, 28, 27, 26, 25, 24, 23, 22, 21, 20, 19, 18, 17, 16, 15, 14, 13, 12, 11, 10, 9, 8, 7, 6, 5, 4, 3, 2, 1, 0]] mixed (by kernel_rfl) (by kernel_rfl) (by kernel_rfl) ?_   -- region 12
        intro w18 g19
        replace hT := hT.grow g19
        replace hc10 := g19.heap hc10
        replace ROa := ROa.grow g19
        replace ROb := ROb.grow g19
        replace G := G.tr g19
        clear g19
        apply AO_ex
        · intro w_ g_; refine og rfl ?_; exact r_gives (v := .bool true) rfl (known_calls _) (fun w2_ g2_ => ⟨g2_, rfl⟩)
        apply AO_ex
        · intro w_ g_; refine og rfl ?_; refine r_move (v := .bool true) rfl ?_; exact ⟨Grow.rfl' _, rfl⟩
        apply AO_ex
        · intro w_ g_; refine og rfl ?_; refine r_move (v := .int .u16 ea) rfl ?_; exact ⟨Grow.rfl' _, rfl⟩
        apply AO_ex
        · intro w_ g_; refine og rfl ?_; refine r_eql_t rfl rfl (by omega) ?_; exact ⟨Grow.rfl' _, rfl⟩
        apply AO_ex
        · intro w_ g_; refine og rfl ?_; refine r_move (v := .bool true) rfl ?_; exact ⟨Grow.rfl' _, rfl⟩
        apply AO_ex
        · intro w_ g_; refine og_no rfl ?_; exact ⟨Grow.rfl' _, rfl⟩
        apply AO_ex
        · intro w_ g_; refine og_no rfl ?_; exact ⟨Grow.rfl' _, rfl⟩
        apply AO_ex
        · intro w_ g_; refine og rfl ?_; refine r_pick_t (v := .bool true) rfl rfl rfl ?_; exact ⟨Grow.rfl' _, rfl⟩
        apply AO_ex
        · intro w_ g_; refine og rfl ?_; refine r_pick_t (v := .bool true) rfl rfl rfl ?_; exact ⟨Grow.rfl' _, rfl⟩
        apply AO_ex
        · intro w_ g_; refine og rfl ?_; refine r_move (v := .bool true) rfl ?_; exact ⟨Grow.rfl' _, rfl⟩
        apply AO_ex
        · intro w_ g_; refine og rfl ?_; refine r_move (v := .int .u16 ea) rfl ?_; exact ⟨Grow.rfl' _, rfl⟩
        apply AO_ex
        · intro w_ g_; refine og rfl ?_; refine r_eql_t rfl rfl (by omega) ?_; exact ⟨Grow.rfl' _, rfl⟩
        apply AO_ex
        · intro w_ g_; refine og rfl ?_; refine r_move (v := .slice ada Aa.length cca) rfl ?_; exact ⟨Grow.rfl' _, rfl⟩
        apply AO_ex
        · intro w_ g_; refine og rfl ?_; refine r_len rfl rfl rfl ?_; exact ⟨Grow.rfl' _, rfl⟩
        apply AO_ex
        · intro w_ g_; refine og rfl ?_; refine r_gtr_t rfl rfl (by omega) ?_; exact ⟨Grow.rfl' _, rfl⟩
        apply AO_ex
        · intro w_ g_; refine og rfl ?_; refine r_beq' (r := true) rfl rfl rfl ?_; exact ⟨Grow.rfl' _, rfl⟩
        apply AO_ex
        · intro w_ g_; refine og rfl ?_; refine r_pick_t (v := .bool true) rfl rfl rfl ?_; exact ⟨Grow.rfl' _, rfl⟩
        apply AO_ex
        · intro w_ g_; refine og rfl ?_; refine r_move (v := .bool true) rfl ?_; exact ⟨Grow.rfl' _, rfl⟩
        apply AO_ex
        · intro w_ g_; refine og rfl ?_; refine r_move (v := .int .u16 eb) rfl ?_; exact ⟨Grow.rfl' _, rfl⟩
        apply AO_ex
        · intro w_ g_; refine og rfl ?_; refine r_eql_t rfl rfl (by omega) ?_; exact ⟨Grow.rfl' _, rfl⟩
        apply AO_ex
        · intro w_ g_; refine og rfl ?_; refine r_pick_t (v := .bool true) rfl rfl rfl ?_; exact ⟨Grow.rfl' _, rfl⟩
        apply AO_ex
        · intro w_ g_; refine og rfl ?_; refine r_move (v := .bool true) rfl ?_; exact ⟨Grow.rfl' _, rfl⟩
        apply AO_ex
        · intro w_ g_; refine og rfl ?_; refine r_move (v := .slice adb Ab.length ccb) rfl ?_; exact ⟨Grow.rfl' _, rfl⟩
        apply AO_ex
        · intro w_ g_; refine og rfl ?_; refine r_len rfl rfl rfl ?_; exact ⟨Grow.rfl' _, rfl⟩
        apply AO_ex
        · intro w_ g_; refine og rfl ?_; refine r_eql_t rfl rfl (by omega) ?_; exact ⟨Grow.rfl' _, rfl⟩
        apply AO_ex
        · intro w_ g_; refine og rfl ?_; refine r_pick_t (v := .bool true) rfl rfl rfl ?_; exact ⟨Grow.rfl' _, rfl⟩
        apply AO_ex
        · intro w_ g_; refine og rfl ?_; refine r_move (v := .bool true) rfl ?_; exact ⟨Grow.rfl' _, rfl⟩
        apply AO_ex
        · intro w_ g_; refine og rfl ?_; refine r_move (v := .slice adb Ab.length ccb) rfl ?_; exact ⟨Grow.rfl' _, rfl⟩
        apply AO_ex
        · intro w_ g_; refine og rfl ?_; refine r_indexR (ROb.grow g_) rfl rfl ?_ ?_ ?_; omega; omega; exact ⟨Grow.rfl' _, rfl⟩
        apply AO_ex
        · intro w_ g_; refine og rfl ?_; refine r_loadR (v := .slice (sab 0) (len2 Ab 0) (scb 0)) (m := 0) (ROb.grow g_) rfl (by first | (rw [Nat.mul_one]; exact hsfb _ (by omega)) | exact hsfb 0 (by omega)) ?_; exact ⟨Grow.rfl' _, rfl⟩
        apply AO_ex
        · intro w_ g_; refine og rfl ?_; refine r_len rfl rfl rfl ?_; exact ⟨Grow.rfl' _, rfl⟩
        apply AO_ex
        · intro w_ g_; refine og rfl ?_; refine r_loadAll rfl (g_.heap hc10) (by rfl) ?_; exact ⟨Grow.rfl' _, rfl⟩
        apply AO_ex
        · intro w_ g_; refine og rfl ?_; exact r_gives (v := .int .i64 tr.needs) rfl (needs_calls _ _ (hT.grow g_) (by omega) (Nat.le_refl _)) (fun w2_ g2_ => ⟨g2_, rfl⟩)
        apply AO_ex
        · intro w_ g_; refine og rfl ?_; refine r_add rfl rfl ?_ ?_; constructor <;> omega; exact ⟨Grow.rfl' _, rfl⟩
        apply AO_ex
        · intro w_ g_; refine og rfl ?_; refine r_eql_t rfl rfl (by omega) ?_; exact ⟨Grow.rfl' _, rfl⟩
        apply AO_ex
        · intro w_ g_; refine og rfl ?_; refine r_pick_t (v := .bool true) rfl rfl rfl ?_; exact ⟨Grow.rfl' _, rfl⟩
        apply AO_ex
        · intro w_ g_; refine og rfl ?_; refine r_move (v := .bool true) rfl ?_; exact ⟨Grow.rfl' _, rfl⟩
        apply AO_ex
        · intro w_ g_; refine og rfl ?_; refine r_move (v := .slice ada Aa.length cca) rfl ?_; exact ⟨Grow.rfl' _, rfl⟩
        apply AO_ex
        · intro w_ g_; refine og rfl ?_; refine r_len rfl rfl rfl ?_; exact ⟨Grow.rfl' _, rfl⟩
        apply AO_ex
        · intro w_ g_; refine og rfl ?_; refine r_leq_t rfl rfl (by omega) ?_; exact ⟨Grow.rfl' _, rfl⟩
        apply AO_ex
        · intro w_ g_; refine og rfl ?_; refine r_pick_t (v := .bool true) rfl rfl rfl ?_; exact ⟨Grow.rfl' _, rfl⟩
        apply AO_ex
        · intro w_ g_; refine og rfl ?_; refine r_assign (v := .bool true) rfl ?_; exact ⟨Grow.rfl' _, rfl⟩
        refine AO_nil ?_
        intro w20 g21
        replace hT := hT.grow g21
        replace hc10 := g21.heap hc10
        replace ROa := ROa.grow g21
        replace ROb := ROb.grow g21
        replace G := G.tr g21
        clear g21
        refine WL_nil ?_
        refine W_ret ?_
        refine ret1 (res_tmp (v := .bool true) rfl) ⟨?_, G⟩
        rfl
      ·
        have hAn : Aa.length = 0 := by rw [hnone he0]; rfl
        have he24 : ea = 24 := by omega
        refine W_exit ?_
        refine W_seq ?_
        refine W_any 42 [[], [0], [1, 0], [2, 1, 0], [3, 2, 1, 0], [4, 3, 2, 1, 0], [5, 4, 3, 2, 1, 0], [6, 5, 4, 3, 2, 1, 0], [7, 6, 5, 4, 3, 2, 1, 0], [8, 7, 6, 5, 4, 3, 2, 1, 0], [9, 8, 7, 6, 5, 4, 3, 2, 1, 0], [10, 9, 8, 7, 6, 5, 4, 3, 2, 1, 0], [11, 10, 9, 8, 7, 6, 5, 4, 3, 2], [12, 11, 10, 9, 8, 7, 6, 5, 4, 3, 0], [13, 12, 11, 10, 9, 8, 7, 6, 5, 4, 1, 0], [14, 13, 12, 11, 10, 9, 8, 7, 6, 5, 4, 3, 2, 1, 0], [15, 14, 13, 12, 11, 10, 9, 8, 7, 6, 5, 4, 3, 2, 1, 0], [16, 15, 14, 13, 12, 11, 10, 9, 8, 7, 6, 5, 4, 3, 2, 1, 0], [17, 16, 15, 14, 13, 12, 11, 10, 9, 8, 7, 6, 5, 4, 3, 2, 1, 0], [18, 17, 16, 15, 14, 13, 12, 11, 10, 9, 8, 7, 6, 5, 4, 3, 2, 1, 0], [19, 18, 17, 16, 15, 14, 13, 12, 11, 10, 9, 8, 7, 6, 5, 4, 3, 2, 1, 0], [20, 19, 18, 17, 16, 15, 14, 13, 12, 11, 10, 9, 8, 7, 6, 5, 4, 3, 2, 1, 0], [21, 20, 19, 18, 17, 16, 15, 14, 13, 12, 11, 10, 9, 8, 7, 6, 5, 4, 3, 2, 1, 0], [22, 21, 20, 19, 18, 17, 16, 15, 14, 13, 12, 11, 10, 9, 8, 7, 6, 5, 4, 3, 2, 1, 0], [23, 22, 21, 20, 19, 18, 17, 16, 15, 14, 13, 12, 11, 10, 9, 8, 7, 6, 5, 4, 3, 2, 1, 0], [24, 23, 22, 21, 20, 19, 18, 17, 16, 15, 14, 13, 12, 11, 10, 9, 8, 7, 6, 5, 4, 3, 2, 1, 0], [25, 24, 23, 22, 21, 20, 19, 18, 17, 16, 15, 14, 13, 12, 11, 10, 9, 8, 7, 6, 5, 4, 3, 2, 1, 0], [26, 25, 24, 23, 22, 21, 20, 19, 18, 17, 16, 15, 14, 13, 12, 11, 10, 9, 8, 7, 6, 5, 4, 3, 2, 1, 0], [27, 26, 25, 24, 23, 22, 21, 20, 19, 18, 17, 16, 15, 14, 13, 12, 11, 10, 9, 8, 7, 6, 5, 4, 3, 2, 1, 0], [28, 27, 26, 25, 24, 23, 22, 21, 20, 19, 18, 17, 16, 15, 14, 13, 12, 11, 10, 9, 8, 7, 6, 5, 4, 3, 2, 1, 0], [29, 28, 27, 26, 25, 24, 23, 22, 21, 20, 19, 18, 17, 16, 15, 14, 13, 12, 11, 10, 9, 8, 7, 6, 5, 4, 3, 2, 1, 0], [30, 29, 28, 27, 26, 25, 24, 23, 22, 21, 20, 19, 18, 17, 16, 15, 14, 13, 12, 11, 10, 9, 8, 7, 6, 5, 4], [31, 30, 29, 28, 27, 26, 25, 24, 23, 22, 21, 20, 19, 18, 17, 16, 15, 14, 13, 12, 11, 10, 9, 8, 7, 6, 5, 0], [32, 31, 30, 29, 28, 27, 26, 25, 24, 23, 22, 21, 20, 19, 18, 17, 16, 15, 14, 13, 12, 11, 10, 9, 8, 7, 6, 1, 0], [33, 32, 31, 30, 29, 28, 27, 26, 25, 24, 23, 22, 21, 20, 19, 18, 17, 16, 15, 14, 13, 12, 11, 10, 9, 8, 7, 6, 5, 4, 3, 2, 1, 0], [34, 33, 32, 31, 30, 29, 28, 27, 26, 25, 24, 23, 22, 21, 20, 19, 18, 17, 16, 15, 14, 13, 12, 11, 10, 9, 8, 7, 6, 5, 4, 3, 2, 1, 0], [35, 34, 33, 32, 31, 30, 29, 28, 27, 26, 25, 24, 23, 22, 21, 20, 19, 18, 17, 16, 15, 14, 13, 12, 11, 10, 9, 8, 7, 6, 5, 4, 3, 2, 1, 0], [36, 35, 34, 33, 32, 31, 30, 29, 28, 27, 26, 25, 24, 23, 22, 21, 20, 19, 18, 17, 16, 15, 14, 13, 12, 11, 10, 9, 8, 7, 6, 5, 4, 3, 2, 1, 0], [37, 36, 35, 34, 33, 32, 31, 30, 29, 28, 27, 26, 25, 24, 23, 22, 21, 20, 19, 18, 17, 16, 15, 14, 13, 12, 11, 10, 9, 8, 7, 6, 5, 4, 3, 2, 1, 0], [38, 37, 36, 35, 34, 33, 32, 31, 30, 29, 28, 27, 26, 25, 24, 23, 22, 21, 20, 19, 18, 17, 16, 15, 14, 13, 12, 11, 10, 9, 8, 7, 6, 5, 4, 3, 2, 1, 0], [39, 38, 37, 36, 35, 34, 33, 32, 31, 30, 29, 28, 27, 26, 25, 24, 23, 22, 21, 20, 19, 18, 17, 16, 15, 14, 13, 12, 11, 10, 9, 8, 7, 6, 5, 4, 3, 2, 1, 0], [40, 39, 38, 37, 36, 35, 34, 33, 32, 31, 30, 29, 28, 27, 26, 25, 24, 23, 22, 21, 20, 19, 18, 17, 16, 15, 14, 13, 12, 11, 10, 9, 8, 7, 6, 5, 4, 3, 2, 1, 0]] mixed (by kernel_rfl) (by kernel_rfl) (by kernel_rfl) ?_   -- region 12
        intro w22 g23
        replace hT := hT.grow g23
        replace hc10 := g23.heap hc10
        replace ROa := ROa.grow g23
        replace ROb := ROb.grow g23
        replace G := G.tr g23
        clear g23
        apply AO_ex
        · intro w_ g_; refine og rfl ?_; exact r_gives (v := .bool true) rfl (known_calls _) (fun w2_ g2_ => ⟨g2_, rfl⟩)
        apply AO_ex
        · intro w_ g_; refine og rfl ?_; refine r_move (v := .bool true) rfl ?_; exact ⟨Grow.rfl' _, rfl⟩
        apply AO_ex
        · intro w_ g_; refine og rfl ?_; refine r_move (v := .int .u16 ea) rfl ?_; exact ⟨Grow.rfl' _, rfl⟩
        apply AO_ex
        · intro w_ g_; refine og rfl ?_; refine r_eql_f rfl rfl (by omega) ?_; exact ⟨Grow.rfl' _, rfl⟩
        apply AO_ex
        · intro w_ g_; refine og rfl ?_; refine r_move (v := .bool false) rfl ?_; exact ⟨Grow.rfl' _, rfl⟩
        apply AO_ex
        · intro w_ g_; refine og rfl ?_; refine r_move (v := .int .u16 ea) rfl ?_; exact ⟨Grow.rfl' _, rfl⟩
        apply AO_ex
        · intro w_ g_; refine og rfl ?_; refine r_eql_t rfl rfl (by omega) ?_; exact ⟨Grow.rfl' _, rfl⟩
        apply AO_ex
        · intro w_ g_; refine og rfl ?_; refine r_pick_f (v := .bool true) rfl rfl rfl ?_; exact ⟨Grow.rfl' _, rfl⟩
        apply AO_ex
        · intro w_ g_; refine og rfl ?_; refine r_pick_t (v := .bool true) rfl rfl rfl ?_; exact ⟨Grow.rfl' _, rfl⟩
        apply AO_ex
        · intro w_ g_; refine og rfl ?_; refine r_move (v := .bool true) rfl ?_; exact ⟨Grow.rfl' _, rfl⟩
        apply AO_ex
        · intro w_ g_; refine og rfl ?_; refine r_move (v := .int .u16 ea) rfl ?_; exact ⟨Grow.rfl' _, rfl⟩
        apply AO_ex
        · intro w_ g_; refine og rfl ?_; refine r_eql_f rfl rfl (by omega) ?_; exact ⟨Grow.rfl' _, rfl⟩
        apply AO_ex
        · intro w_ g_; refine og rfl ?_; refine r_move (v := .slice ada Aa.length cca) rfl ?_; exact ⟨Grow.rfl' _, rfl⟩
        apply AO_ex
        · intro w_ g_; refine og rfl ?_; refine r_len rfl rfl rfl ?_; exact ⟨Grow.rfl' _, rfl⟩
        apply AO_ex
        · intro w_ g_; refine og rfl ?_; refine r_gtr_f rfl rfl (by omega) ?_; exact ⟨Grow.rfl' _, rfl⟩
        apply AO_ex
        · intro w_ g_; refine og rfl ?_; refine r_beq' (r := true) rfl rfl rfl ?_; exact ⟨Grow.rfl' _, rfl⟩
        apply AO_ex
        · intro w_ g_; refine og rfl ?_; refine r_pick_t (v := .bool true) rfl rfl rfl ?_; exact ⟨Grow.rfl' _, rfl⟩
        apply AO_ex
        · intro w_ g_; refine og rfl ?_; refine r_move (v := .bool true) rfl ?_; exact ⟨Grow.rfl' _, rfl⟩
        apply AO_ex
        · intro w_ g_; refine og rfl ?_; refine r_move (v := .int .u16 eb) rfl ?_; exact ⟨Grow.rfl' _, rfl⟩
        apply AO_ex
        · intro w_ g_; refine og rfl ?_; refine r_eql_t rfl rfl (by omega) ?_; exact ⟨Grow.rfl' _, rfl⟩
        apply AO_ex
        · intro w_ g_; refine og rfl ?_; refine r_pick_t (v := .bool true) rfl rfl rfl ?_; exact ⟨Grow.rfl' _, rfl⟩
        apply AO_ex
        · intro w_ g_; refine og rfl ?_; refine r_move (v := .bool true) rfl ?_; exact ⟨Grow.rfl' _, rfl⟩
        apply AO_ex
        · intro w_ g_; refine og rfl ?_; refine r_move (v := .slice adb Ab.length ccb) rfl ?_; exact ⟨Grow.rfl' _, rfl⟩
        apply AO_ex
        · intro w_ g_; refine og rfl ?_; refine r_len rfl rfl rfl ?_; exact ⟨Grow.rfl' _, rfl⟩
        apply AO_ex
        · intro w_ g_; refine og rfl ?_; refine r_eql_t rfl rfl (by omega) ?_; exact ⟨Grow.rfl' _, rfl⟩
        apply AO_ex
        · intro w_ g_; refine og rfl ?_; refine r_pick_t (v := .bool true) rfl rfl rfl ?_; exact ⟨Grow.rfl' _, rfl⟩
        apply AO_ex
        · intro w_ g_; refine og rfl ?_; refine r_move (v := .bool true) rfl ?_; exact ⟨Grow.rfl' _, rfl⟩
        apply AO_ex
        · intro w_ g_; refine og rfl ?_; refine r_move (v := .slice adb Ab.length ccb) rfl ?_; exact ⟨Grow.rfl' _, rfl⟩
        apply AO_ex
        · intro w_ g_; refine og rfl ?_; refine r_indexR (ROb.grow g_) rfl rfl ?_ ?_ ?_; omega; omega; exact ⟨Grow.rfl' _, rfl⟩
        apply AO_ex
        · intro w_ g_; refine og rfl ?_; refine r_loadR (v := .slice (sab 0) (len2 Ab 0) (scb 0)) (m := 0) (ROb.grow g_) rfl (by first | (rw [Nat.mul_one]; exact hsfb _ (by omega)) | exact hsfb 0 (by omega)) ?_; exact ⟨Grow.rfl' _, rfl⟩
        apply AO_ex
        · intro w_ g_; refine og rfl ?_; refine r_len rfl rfl rfl ?_; exact ⟨Grow.rfl' _, rfl⟩
        apply AO_ex
        · intro w_ g_; refine og rfl ?_; refine r_loadAll rfl (g_.heap hc10) (by rfl) ?_; exact ⟨Grow.rfl' _, rfl⟩
        apply AO_ex
        · intro w_ g_; refine og rfl ?_; exact r_gives (v := .int .i64 tr.needs) rfl (needs_calls _ _ (hT.grow g_) (by omega) (Nat.le_refl _)) (fun w2_ g2_ => ⟨g2_, rfl⟩)
        apply AO_ex
        · intro w_ g_; refine og rfl ?_; refine r_add rfl rfl ?_ ?_; constructor <;> omega; exact ⟨Grow.rfl' _, rfl⟩
        apply AO_ex
        · intro w_ g_; refine og rfl ?_; refine r_eql_t rfl rfl (by omega) ?_; exact ⟨Grow.rfl' _, rfl⟩
        apply AO_ex
        · intro w_ g_; refine og rfl ?_; refine r_pick_t (v := .bool true) rfl rfl rfl ?_; exact ⟨Grow.rfl' _, rfl⟩
        apply AO_ex
        · intro w_ g_; refine og rfl ?_; refine r_move (v := .bool true) rfl ?_; exact ⟨Grow.rfl' _, rfl⟩
        apply AO_ex
        · intro w_ g_; refine og rfl ?_; refine r_move (v := .slice ada Aa.length cca) rfl ?_; exact ⟨Grow.rfl' _, rfl⟩
        apply AO_ex
        · intro w_ g_; refine og rfl ?_; refine r_len rfl rfl rfl ?_; exact ⟨Grow.rfl' _, rfl⟩
        apply AO_ex
        · intro w_ g_; refine og rfl ?_; refine r_leq_t rfl rfl (by omega) ?_; exact ⟨Grow.rfl' _, rfl⟩
        apply AO_ex
        · intro w_ g_; refine og rfl ?_; refine r_pick_t (v := .bool true) rfl rfl rfl ?_; exact ⟨Grow.rfl' _, rfl⟩
        apply AO_ex
        · intro w_ g_; refine og rfl ?_; refine r_assign (v := .bool true) rfl ?_; exact ⟨Grow.rfl' _, rfl⟩
        refine AO_nil ?_
        intro w24 g25
        replace hT := hT.grow g25
        replace hc10 := g25.heap hc10
        replace ROa := ROa.grow g25
        replace ROb := ROb.grow g25
        replace G := G.tr g25
        clear g25
        refine WL_nil ?_
        refine W_ret ?_
        refine ret1 (res_tmp (v := .bool true) rfl) ⟨?_, G⟩
        rfl
end Go.Proofs.Ythbcgfmoakokiaa.K
