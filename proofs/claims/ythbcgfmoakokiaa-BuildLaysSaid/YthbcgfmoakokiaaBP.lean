/- The walks of chapter 08's statements (printed by l08.py). -/
import Derived.Test.YthbcgfmoakokiaaT
import Derived.Test.YthbcgfmoakokiaaM08
import Derived.Test.YthbcgfmoakokiaaB08
import Derived.Test.YthbcgfmoakokiaaO08
import Derived.Test.YthbcgfmoakokiaaPtr
import Derived.Test.YthbcgfmoakokiaaBA
import Derived.Test.YthbcgfmoakokiaaBB
import Derived.Test.YthbcgfmoakokiaaBC
import Derived.Test.YthbcgfmoakokiaaBD
import Derived.Test.YthbcgfmoakokiaaBE
import Derived.Test.YthbcgfmoakokiaaBF
import Derived.Test.YthbcgfmoakokiaaQ08
import Derived.Test.YthbcgfmoakokiaaP08
import Derived.Test.YthbcgfmoakokiaaBG
set_option linter.unusedVariables false
set_option linter.unusedSimpArgs false
namespace Go.Proofs.Ythbcgfmoakokiaa.K
open Go Go.RowKit Go.Proofs
attribute [local irreducible] Run1 OpG WL W AO Gives
set_option maxRecDepth 100000 in
theorem BuildLays_calls (w : World) {c : List Value} {t : Nd} (T : NodeR w c t) {m : Int} {n cp : Nat} {ad : Option Addr} {xs : List Int} (R : RowAt w 1 ad n (xs.map (.int .u8))) (hn : n = xs.length) (hx : isU8 xs) (hcp : n ≤ cp) (hcp2 : cp ≤ maxLen) {k : Int} (k0 : 0 ≤ k) (k1 : k ≤ 255) (hm : inR .i64 m) : Gives Try.prog 3 #[.agg c.toArray, .int .i64 m, .slice ad n cp, .int .u8 k] w (.bool true) := by
  obtain ⟨y0, y1, ya, yn, yc, yd, ye, yf, yg, yh, yi, rfl⟩ := T.cells
  have hmm := Nd.many_le t 400
  have G := Grow.rfl' w
  refine gives_of Try.func3 Try.ntmps3 Try.results3 rfl rfl ?_
  refine W_seq ?_
  refine W_region rfl ?_   -- region 0
  refine WL_some (og rfl ?_)
  (first | refine r_box_agg rfl ?_ | refine r_box_int rfl ?_ | refine r_box_slice rfl ?_ | refine r_box rfl rfl ?_)
  intro b1 w2 hb3 hc4 g5
  have hge6 := Nat.le_trans G.size hb3
  replace G := G.tr g5
  clear g5 hb3
  refine WL_some (og rfl ?_)
  refine r_assign (v := .bool false) rfl ?_
  refine WL_nil ?_
  refine W_seq ?_
  refine W_seq ?_
  refine W_region rfl ?_   -- region 1
  refine WL_some (og rfl ?_)
  refine r_loadAll rfl hc4 (by rfl) ?_
  refine WL_some (og rfl ?_)
  refine r_gives (v := .int .i64 (t.many 400)) rfl (many_calls _ _ (T.grow G) (by omega) (by omega) (Nat.le_refl _)) ?_
  intro w7 g8
  replace hc4 := g8.heap hc4
  replace G := G.tr g8
  clear g8
  refine WL_some (og rfl ?_)
  refine r_lss rfl rfl ?_
  refine WL_some (og rfl ?_)
  refine r_move (v := .bool (decide ((t.many 400) < 0))) rfl ?_
  refine WL_some (og_if (s := .bool (decide ((t.many 400) < 0))) (b := false) (v := .slice ad n cp) rfl (wgb_f _) (fun hc9 => ?_) ?_)
  ·
    have hc9_ := hc9
    try simp only [Bool.and_eq_true, Bool.or_eq_true, Bool.not_eq_true', Bool.and_eq_false_iff, Bool.or_eq_false_iff, Bool.not_eq_false', decide_eq_true_eq, decide_eq_false_iff_not, Bool.not_true, Bool.not_false, Bool.not_eq_eq_eq_not, Bool.or_false, Bool.and_true, Bool.or_true, Bool.and_false, Bool.false_or, Bool.true_and, Bool.true_or, Bool.false_and, Bool.false_eq_true, Bool.true_eq_false] at hc9_
    refine r_move (v := .slice ad n cp) rfl ?_
    exact ⟨rfl, rfl⟩
  refine WL_some (og_if (s := .bool (decide ((t.many 400) < 0))) (b := false) (v := .int .i64 (n : Int)) rfl (wgb_f _) (fun hc10 => ?_) ?_)
  ·
    have hc10_ := hc10
    try simp only [Bool.and_eq_true, Bool.or_eq_true, Bool.not_eq_true', Bool.and_eq_false_iff, Bool.or_eq_false_iff, Bool.not_eq_false', decide_eq_true_eq, decide_eq_false_iff_not, Bool.not_true, Bool.not_false, Bool.not_eq_eq_eq_not, Bool.or_false, Bool.and_true, Bool.or_true, Bool.and_false, Bool.false_or, Bool.true_and, Bool.true_or, Bool.false_and, Bool.false_eq_true, Bool.true_eq_false] at hc10_
    refine r_len rfl rfl (gvt hc10) ?_
    exact ⟨rfl, rfl⟩
  refine WL_some (og_if (s := .bool (decide ((t.many 400) < 0))) (b := false) (v := .bool (decide ((n : Int) > 200))) rfl (wgb_f _) (fun hc11 => ?_) ?_)
  ·
    have hc11_ := hc11
    try simp only [Bool.and_eq_true, Bool.or_eq_true, Bool.not_eq_true', Bool.and_eq_false_iff, Bool.or_eq_false_iff, Bool.not_eq_false', decide_eq_true_eq, decide_eq_false_iff_not, Bool.not_true, Bool.not_false, Bool.not_eq_eq_eq_not, Bool.or_false, Bool.and_true, Bool.or_true, Bool.and_false, Bool.false_or, Bool.true_and, Bool.true_or, Bool.false_and, Bool.false_eq_true, Bool.true_eq_false] at hc11_
    refine r_gtr (gvt hc11) rfl ?_
    exact ⟨rfl, rfl⟩
  refine WL_some (og rfl ?_)
  refine r_or2 rfl rfl rfl ?_
  refine WL_some (og rfl ?_)
  refine r_move (v := .bool ((decide ((t.many 400) < 0)) || (decide ((n : Int) > 200)))) rfl ?_
  refine WL_some (og_ifg (s := .bool ((decide ((t.many 400) < 0)) || (decide ((n : Int) > 200)))) (b := false) (v := .bool true) rfl (wgb_f _) (fun hc12 => ?_) ?_)
  ·
    have hc12_ := hc12
    try simp only [Bool.and_eq_true, Bool.or_eq_true, Bool.not_eq_true', Bool.and_eq_false_iff, Bool.or_eq_false_iff, Bool.not_eq_false', decide_eq_true_eq, decide_eq_false_iff_not, Bool.not_true, Bool.not_false, Bool.not_eq_eq_eq_not, Bool.or_false, Bool.and_true, Bool.or_true, Bool.and_false, Bool.false_or, Bool.true_and, Bool.true_or, Bool.false_and, Bool.false_eq_true, Bool.true_eq_false] at hc12_
    exact r_gives rfl (known_calls _) (fun w2_ g2_ => ⟨rfl, g2_⟩)
  intro w13 g14
  replace hc4 := g14.heap hc4
  replace G := G.tr g14
  clear g14
  refine WL_some (og_if (s := .bool ((decide ((t.many 400) < 0)) || (decide ((n : Int) > 200)))) (b := false) (v := .bool false) rfl (wgb_f _) (fun hc15 => ?_) ?_)
  ·
    have hc15_ := hc15
    try simp only [Bool.and_eq_true, Bool.or_eq_true, Bool.not_eq_true', Bool.and_eq_false_iff, Bool.or_eq_false_iff, Bool.not_eq_false', decide_eq_true_eq, decide_eq_false_iff_not, Bool.not_true, Bool.not_false, Bool.not_eq_eq_eq_not, Bool.or_false, Bool.and_true, Bool.or_true, Bool.and_false, Bool.false_or, Bool.true_and, Bool.true_or, Bool.false_and, Bool.false_eq_true, Bool.true_eq_false] at hc15_
    refine r_not_f (gvt hc15) rfl ?_
    exact ⟨rfl, rfl⟩
  refine WL_some (og rfl ?_)
  refine r_or2 rfl rfl rfl ?_
  refine WL_nil ?_
  refine W_cond2 (b := (((decide ((t.many 400) < 0)) || (decide ((n : Int) > 200))) || false)) rfl (fun h1 => ?_) (fun h1 => ?_)
  ·  -- true
    simp only [Bool.and_eq_true, Bool.or_eq_true, Bool.not_eq_true', Bool.and_eq_false_iff, Bool.or_eq_false_iff, Bool.not_eq_false', decide_eq_true_eq, decide_eq_false_iff_not, Bool.not_true, Bool.not_false, Bool.not_eq_eq_eq_not, Bool.or_false, Bool.and_true, Bool.or_true, Bool.and_false, Bool.false_or, Bool.true_and, Bool.true_or, Bool.false_and, Bool.false_eq_true, Bool.true_eq_false] at h1
    refine W_seq ?_
    refine W_region rfl ?_   -- region 2
    refine WL_some (og rfl ?_)
    refine r_gives (v := .bool true) rfl (known_calls _) ?_
    intro w16 g17
    replace hc4 := g17.heap hc4
    replace G := G.tr g17
    clear g17
    refine WL_some (og rfl ?_)
    refine r_assign (v := .bool true) rfl ?_
    refine WL_nil ?_
    refine W_ret ?_
    refine ret1 (res_tmp (v := .bool true) rfl) ⟨?_, G⟩
    rfl
  ·  -- false
    simp only [Bool.and_eq_true, Bool.or_eq_true, Bool.not_eq_true', Bool.and_eq_false_iff, Bool.or_eq_false_iff, Bool.not_eq_false', decide_eq_true_eq, decide_eq_false_iff_not, Bool.not_true, Bool.not_false, Bool.not_eq_eq_eq_not, Bool.or_false, Bool.and_true, Bool.or_true, Bool.and_false, Bool.false_or, Bool.true_and, Bool.true_or, Bool.false_and, Bool.false_eq_true, Bool.true_eq_false] at h1
    refine W_skip ?_
    refine W_seq ?_
    refine W_region rfl ?_   -- region 3
    refine WL_some (og rfl ?_)
    refine r_move (v := .slice ad n cp) rfl ?_
    refine WL_some (og rfl ?_)
    have hcal := tree_calls _ _ (d := 9) R G hn hx hcp hcp2 (by omega) (Nat.le_refl _)
    rw [show ((9 : Nat) : Int) = 9 from rfl] at hcal
    refine r_call rfl hcal ?_
    rintro v_ w18 ⟨cells, adr, nr, cr, rfl, hT, -, -, -, -, g_⟩
    replace hc4 := g_.heap hc4
    replace G := G.tr g_
    clear g_
    replace hT := hT.sees (Sees.seen _ _)
    have hright_tr : (treeP 9 xs).1.right 32 = true := treeP_right _ _ _ (by omega) hx
    have hneeds_tr := treeP_needs 9 xs hx
    generalize (treeP 9 xs).1 = tr at hT hright_tr hneeds_tr
    obtain ⟨z0, z1, za, zn, zc, zd, ze, zf, zg, zh, zi, rfl⟩ := hT.cells
    refine WL_some (og rfl ?_)
    refine r_move (v := .tuple #[.agg #[.int .i64 z0, .int .i64 z1, .slice za zn zc, .slice zd ze zf, .slice zg zh zi], .slice adr nr cr]) rfl ?_
    refine WL_some (og rfl ?_)
    refine r_extract (v := .agg #[.int .i64 z0, .int .i64 z1, .slice za zn zc, .slice zd ze zf, .slice zg zh zi]) rfl rfl ?_
    refine WL_some (og rfl ?_)
    refine r_extract (v := .slice adr nr cr) rfl rfl ?_
    refine WL_some (og rfl ?_)
    refine r_alloc ?_
    intro b19 w20 hb21 hc22 g23
    refine WL_none (og rfl ?_)
    refine r_storeAll rfl rfl hc22 (by rfl) (by rfl) (by rfl) ?_
    intro w24 hc25 u26
    have g27 := g23.upd u26 hb21
    have hge28 := Nat.le_trans G.size hb21
    have ne29 := Nat.ne_of_lt (Nat.lt_of_lt_of_le (lt_of_heap hc4) hb21)
    replace hc4 := g27.heap hc4
    replace hT := hT.grow g27
    replace G := G.tr g27
    clear u26 g23 hb21 hc22
    refine WL_some (og rfl ?_)
    refine r_assign (v := .slice adr nr cr) rfl ?_
    refine WL_nil ?_
    refine W_seq ?_
    refine W_region rfl ?_   -- region 4
    refine WL_some (og rfl ?_)
    refine r_loadAll rfl hc4 (by rfl) ?_
    refine WL_some (og rfl ?_)
    refine r_move (v := .int .i64 m) rfl ?_
    refine WL_some (og rfl ?_)
    refine r_gives (v := .bool true) rfl (lays_calls _ (T.grow G) (m)) ?_
    intro w30 g31
    replace hc4 := g31.heap hc4
    replace hT := hT.grow g31
    replace hc25 := g31.heap hc25
    replace G := G.tr g31
    clear g31
    refine WL_some (og rfl ?_)
    refine r_move (v := .bool true) rfl ?_
    refine WL_some (og rfl ?_)
    refine r_loadAll rfl hc25 (by rfl) ?_
    refine WL_some (og rfl ?_)
    refine r_move (v := .int .i64 m) rfl ?_
    refine WL_some (og rfl ?_)
    refine r_gives (v := .bool true) rfl (lays_calls _ (hT) (m)) ?_
    intro w32 g33
    replace hc4 := g33.heap hc4
    replace hT := hT.grow g33
    replace hc25 := g33.heap hc25
    replace G := G.tr g33
    clear g33
    refine WL_some (og rfl ?_)
    refine r_pick_t (v := .bool true) rfl rfl rfl ?_
    refine WL_some (og rfl ?_)
    refine r_move (v := .bool true) rfl ?_
    refine WL_some (og rfl ?_)
    refine r_loadAll rfl hc25 (by rfl) ?_
    refine WL_some (og rfl ?_)
    refine r_move (v := .int .u8 k) rfl ?_
    refine WL_some (og rfl ?_)
    refine r_rem rfl rfl ?_ ?_ ?_; omega; omega
    refine WL_some (og rfl ?_)
    refine r_conv rfl ?_ ?_; constructor <;> omega
    refine WL_some (og rfl ?_)
    refine r_add rfl rfl ?_ ?_; constructor <;> omega
    refine WL_some (og rfl ?_)
    refine r_gives (v := .bool true) rfl (lays_calls _ (hT) (1 + k % 40)) ?_
    intro w34 g35
    replace hc4 := g35.heap hc4
    replace hT := hT.grow g35
    replace hc25 := g35.heap hc25
    replace G := G.tr g35
    clear g35
    refine WL_some (og rfl ?_)
    refine r_pick_t (v := .bool true) rfl rfl rfl ?_
    refine WL_some (og rfl ?_)
    refine r_move (v := .bool true) rfl ?_
    refine WL_some (og rfl ?_)
    refine r_loadAll rfl hc25 (by rfl) ?_
    refine WL_some (og rfl ?_)
    refine r_gives (v := .bool true) rfl (lays_calls _ (hT) (4096)) ?_
    intro w36 g37
    replace hc4 := g37.heap hc4
    replace hT := hT.grow g37
    replace hc25 := g37.heap hc25
    replace G := G.tr g37
    clear g37
    refine WL_some (og rfl ?_)
    refine r_pick_t (v := .bool true) rfl rfl rfl ?_
    refine WL_some (og rfl ?_)
    refine r_move (v := .bool true) rfl ?_
    refine WL_some (og rfl ?_)
    refine r_loadAll rfl hc4 (by rfl) ?_
    refine WL_some (og rfl ?_)
    refine r_move (v := .int .u8 k) rfl ?_
    refine WL_some (og rfl ?_)
    refine r_conv rfl ?_ ?_; constructor <;> omega
    refine WL_some (og rfl ?_)
    refine r_gives (v := .bool true) rfl (lays_calls _ (T.grow G) (k)) ?_
    intro w38 g39
    replace hc4 := g39.heap hc4
    replace hT := hT.grow g39
    replace hc25 := g39.heap hc25
    replace G := G.tr g39
    clear g39
    refine WL_some (og rfl ?_)
    refine r_pick_t (v := .bool true) rfl rfl rfl ?_
    refine WL_some (og rfl ?_)
    refine r_assign (v := .bool true) rfl ?_
    refine WL_nil ?_
    refine W_ret ?_
    refine ret1 (res_tmp (v := .bool true) rfl) ⟨?_, G⟩
    rfl
end Go.Proofs.Ythbcgfmoakokiaa.K
