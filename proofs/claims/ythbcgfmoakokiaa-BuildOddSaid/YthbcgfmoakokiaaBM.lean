/- The walks of chapter 08's statements (printed by l08.py). -/
import Derived.Test.YthbcgfmoakokiaaT
import Derived.Test.YthbcgfmoakokiaaM08
import Derived.Test.YthbcgfmoakokiaaB08
import Derived.Test.YthbcgfmoakokiaaO08
import Derived.Test.YthbcgfmoakokiaaPtr
import Derived.Test.YthbcgfmoakokiaaBA
import Derived.Test.YthbcgfmoakokiaaBB
import Derived.Test.YthbcgfmoakokiaaBC
import Derived.Test.YthbcgfmoakokiaaBD
import Derived.Test.YthbcgfmoakokiaaBE
import Derived.Test.YthbcgfmoakokiaaBF
import Derived.Test.YthbcgfmoakokiaaQ08
import Derived.Test.YthbcgfmoakokiaaP08
import Derived.Test.YthbcgfmoakokiaaBG
set_option linter.unusedVariables false
set_option linter.unusedSimpArgs false
namespace Go.Proofs.Ythbcgfmoakokiaa.K
open Go Go.RowKit Go.Proofs
attribute [local irreducible] Run1 OpG WL W AO Gives
set_option maxRecDepth 100000 in
theorem BuildOdd_calls (w : World) {n cp : Nat} {ad : Option Addr} {xs : List Int} (R : RowAt w 1 ad n (xs.map (.int .u8))) (hn : n = xs.length) (hx : isU8 xs) (hcp : n ≤ cp) (hcp2 : cp ≤ maxLen) {wh k : Int} (wh0 : 0 ≤ wh) (wh1 : wh ≤ 255) (k0 : 0 ≤ k) (k1 : k ≤ 255) : Gives Try.prog 6 #[.slice ad n cp, .int .u8 wh, .int .u8 k] w (.bool true) := by
  have G := Grow.rfl' w
  refine gives_of Try.func6 Try.ntmps6 Try.results6 rfl rfl ?_
  refine W_seq ?_
  refine W_region rfl ?_   -- region 0
  refine WL_some (og rfl ?_)
  refine r_assign (v := .bool false) rfl ?_
  refine WL_nil ?_
  refine W_seq ?_
  refine W_region rfl ?_   -- region 1
  refine WL_some (og rfl ?_)
  refine r_move (v := .slice ad n cp) rfl ?_
  refine WL_some (og rfl ?_)
  have hcal := tree_calls _ _ (d := 9) R G hn hx hcp hcp2 (by omega) (Nat.le_refl _)
  rw [show ((9 : Nat) : Int) = 9 from rfl] at hcal
  refine r_call rfl hcal ?_
  rintro v_ w1 ⟨cells, adr, nr, cr, rfl, hT, -, -, -, -, g_⟩
  replace G := G.tr g_
  clear g_
  replace hT := hT.sees (Sees.seen _ _)
  have hright : (treeP 9 xs).1.right 32 = true := treeP_right _ _ _ (by omega) hx
  generalize (treeP 9 xs).1 = tr at hT hright
  have hT0 := hT
  obtain @⟨kind, size, words, bytes, kids, ws, bs, ks, kc, hk, hs, hW, hwr, hB, hbr, hK, hKs⟩ := hT
  obtain ⟨aw, cw, rfl, hcw, hcw2, RW⟩ := hW
  obtain ⟨ab, cb, rfl, hcb, hcb2, RB⟩ := hB
  obtain ⟨ak, ck, rfl, hck, hck2, RK⟩ := hK
  simp only [inR] at hk hs
  have gv_ : Grow w1 w1 := Grow.rfl' _
  refine WL_some (og rfl ?_)
  refine r_move (v := .tuple #[.agg #[.int .i64 kind, .int .i64 size, .slice aw words.length cw, .slice ab bytes.length cb, .slice ak kids.length ck], .slice adr nr cr]) rfl ?_
  refine WL_some (og rfl ?_)
  refine r_extract (v := .agg #[.int .i64 kind, .int .i64 size, .slice aw words.length cw, .slice ab bytes.length cb, .slice ak kids.length ck]) rfl rfl ?_
  refine WL_some (og rfl ?_)
  refine r_extract (v := .slice adr nr cr) rfl rfl ?_
  refine WL_some (og rfl ?_)
  refine r_alloc ?_
  intro b2 w3 hb4 hc5 g6
  refine WL_none (og rfl ?_)
  refine r_storeAll rfl rfl hc5 (by rfl) (by rfl) (by rfl) ?_
  intro w7 hc8 u9
  have g10 := g6.upd u9 hb4
  have gge11 := Nat.le_trans gv_.size hb4
  have hge12 := Nat.le_trans G.size hb4
  replace gv_ := gv_.tr g10
  replace G := G.tr g10
  clear u9 g6 hb4 hc5
  refine WL_some (og rfl ?_)
  refine r_assign (v := .slice adr nr cr) rfl ?_
  refine WL_nil ?_
  refine W_seq ?_
  refine W_region rfl ?_   -- region 2
  refine WL_some (og rfl ?_)
  refine r_loadAll rfl hc8 (by rfl) ?_
  refine WL_some (og rfl ?_)
  refine r_alloc ?_
  intro b13 w14 hb15 hc16 g17
  refine WL_none (og rfl ?_)
  refine r_storeAll rfl rfl hc16 (by rfl) (by rfl) (by rfl) ?_
  intro w18 hc19 u20
  have g21 := g17.upd u20 hb15
  have gge22 := Nat.le_trans gv_.size hb15
  have hge23 := Nat.le_trans G.size hb15
  have ne24 := Nat.ne_of_lt (Nat.lt_of_lt_of_le (lt_of_heap hc8) hb15)
  replace gv_ := gv_.tr g21
  replace hc8 := g21.heap hc8
  replace G := G.tr g21
  clear u20 g17 hb15 hc16
  refine WL_nil ?_
  refine W_seq ?_
  refine W_seq ?_
  refine W_region rfl ?_   -- region 3
  refine WL_some (og rfl ?_)
  refine r_move (v := .int .u8 wh) rfl ?_
  refine WL_some (og rfl ?_)
  refine r_rem rfl rfl ?_ ?_ ?_; omega; omega
  refine WL_nil ?_
  refine W_block ?_
  refine W_seq ?_
  refine W_region rfl ?_   -- region 6
  refine WL_some (og rfl ?_)
  refine r_eql rfl rfl ?_
  refine WL_some (og rfl ?_)
  refine r_assign (v := .bool (decide ((wh % 4) = 0))) rfl ?_
  refine WL_nil ?_
  refine W_cond2 (b := (decide ((wh % 4) = 0))) rfl (fun h1 => ?_) (fun h1 => ?_)
  ·  -- true
    replace h1 := of_decide_eq_true h1
    refine W_region rfl ?_   -- region 7
    refine WL_some (og rfl ?_)
    refine r_move (v := .int .u8 k) rfl ?_
    refine WL_some (og rfl ?_)
    refine r_conv rfl ?_ ?_; constructor <;> omega
    refine WL_some (og rfl ?_)
    refine r_add rfl rfl ?_ ?_; constructor <;> omega
    refine WL_some (og rfl ?_)
    refine r_fieldAddr rfl ?_
    refine WL_none (og rfl ?_)
    refine r_store1 (v := .int .i64 (3 + k)) rfl rfl (by rfl) hc19 (by rfl) (by rfl) ?_
    intro w25 hc26 u27
    replace gv_ := Grow.upd gv_ u27 gge22
    replace hc8 := u27.heap hc8 ne24
    replace G := G.upd u27 hge23
    clear u27 hc19
    refine WL_nil ?_
    have hU : NodeR w25 [.int .i64 (3 + k), .int .i64 size, .slice aw words.length cw, .slice ab bytes.length cb, .slice ak kids.length ck] (.mk (3 + k) size words bytes kids) := .mk (by simp only [inR]; omega) (by simp only [inR]; omega) (⟨aw, cw, rfl, hcw, hcw2, RW.grow gv_⟩) hwr (⟨ab, cb, rfl, hcb, hcb2, RB.grow gv_⟩) hbr ⟨ak, ck, rfl, hck, hck2, RK.grow gv_⟩ (hKs.grow gv_)
    have hbad : Nd.right (.mk (3 + k) size words bytes kids) 32 = false := by simp only [Nd.right, Nd.own]; rw [if_neg (by omega), if_neg (by omega), if_neg (by omega)]; rfl
    refine W_seq ?_
    refine W_region rfl ?_   -- region 12
    refine WL_some (og rfl ?_)
    refine r_loadAll rfl hc26 (by rfl) ?_
    refine WL_some (og rfl ?_)
    refine r_call rfl (Build_calls _ hU 100) ?_
    rw [Nd.build_bad hbad]
    rintro v_ w28 ⟨so_, segs_, rfl, hA_, g_⟩
    replace gv_ := gv_.tr g_
    replace hc8 := g_.heap hc8
    replace hc26 := g_.heap hc26
    replace hU := hU.grow g_
    replace G := G.tr g_
    clear g_
    obtain ⟨ada, na, ca, rfl⟩ := own_slice hA_.out
    refine WL_some (og rfl ?_)
    refine r_move (v := .tuple #[.slice ada na ca, .int .u16 1]) rfl ?_
    refine WL_some (og rfl ?_)
    refine r_extract (v := .slice ada na ca) rfl rfl ?_
    refine WL_some (og rfl ?_)
    refine r_extract (v := .int .u16 1) rfl rfl ?_
    refine WL_some (og rfl ?_)
    refine r_assign (v := .slice ada na ca) rfl ?_
    refine WL_some (og rfl ?_)
    refine r_assign (v := .int .u16 1) rfl ?_
    refine WL_nil ?_
    refine W_seq ?_
    refine W_region rfl ?_   -- region 13
    refine WL_some (og rfl ?_)
    refine r_gives (v := .bool true) rfl (known_calls _) ?_
    intro w29 g30
    replace gv_ := gv_.tr g30
    replace hc8 := g30.heap hc8
    replace hc26 := g30.heap hc26
    replace hU := hU.grow g30
    replace G := G.tr g30
    clear g30
    refine WL_some (og rfl ?_)
    refine r_move (v := .bool true) rfl ?_
    refine WL_some (og rfl ?_)
    refine r_loadAll rfl hc8 (by rfl) ?_
    refine WL_some (og rfl ?_)
    refine r_gives (v := .bool true) rfl (gives_eq (Right_calls _ (hT0.grow gv_)) (y := .bool true) (by rw [hright])) ?_
    intro w31 g32
    replace gv_ := gv_.tr g32
    replace hc8 := g32.heap hc8
    replace hc26 := g32.heap hc26
    replace hU := hU.grow g32
    replace G := G.tr g32
    clear g32
    refine WL_some (og rfl ?_)
    refine r_pick_t (v := .bool true) rfl rfl rfl ?_
    refine WL_some (og rfl ?_)
    refine r_move (v := .bool true) rfl ?_
    refine WL_some (og rfl ?_)
    refine r_loadAll rfl hc26 (by rfl) ?_
    refine WL_some (og rfl ?_)
    refine r_gives (v := .bool false) rfl (gives_eq (Right_calls _ hU) (y := .bool false) (by rw [hbad])) ?_
    intro w33 g34
    replace gv_ := gv_.tr g34
    replace hc8 := g34.heap hc8
    replace hc26 := g34.heap hc26
    replace hU := hU.grow g34
    replace G := G.tr g34
    clear g34
    refine WL_some (og rfl ?_)
    refine r_not_t rfl rfl ?_
    refine WL_some (og rfl ?_)
    refine r_pick_t (v := .bool true) rfl rfl rfl ?_
    refine WL_some (og rfl ?_)
    refine r_move (v := .bool true) rfl ?_
    refine WL_some (og rfl ?_)
    refine r_move (v := .int .u16 1) rfl ?_
    refine WL_some (og rfl ?_)
    refine r_eql_t rfl rfl (by decide) ?_
    refine WL_some (og rfl ?_)
    refine r_pick_t (v := .bool true) rfl rfl rfl ?_
    refine WL_some (og rfl ?_)
    refine r_assign (v := .bool true) rfl ?_
    refine WL_nil ?_
    refine W_ret ?_
    refine ret1 (res_tmp (v := .bool true) rfl) ⟨?_, G⟩
    rfl
  ·  -- false
    replace h1 := of_decide_eq_false h1
    refine W_seq ?_
    refine W_region rfl ?_   -- region 8
    refine WL_some (og rfl ?_)
    refine r_eql rfl rfl ?_
    refine WL_some (og rfl ?_)
    refine r_assign (v := .bool (decide ((wh % 4) = 1))) rfl ?_
    refine WL_nil ?_
    refine W_cond2 (b := (decide ((wh % 4) = 1))) rfl (fun h2 => ?_) (fun h2 => ?_)
    ·  -- true
      replace h2 := of_decide_eq_true h2
      refine W_region rfl ?_   -- region 9
      refine WL_some (og rfl ?_)
      refine r_fieldAddr rfl ?_
      refine WL_none (og rfl ?_)
      refine r_store1 (v := .int .i64 7) rfl rfl (by rfl) hc19 (by rfl) (by rfl) ?_
      intro w35 hc36 u37
      replace gv_ := Grow.upd gv_ u37 gge22
      replace hc8 := u37.heap hc8 ne24
      replace G := G.upd u37 hge23
      clear u37 hc19
      refine WL_nil ?_
      have hU : NodeR w35 [.int .i64 kind, .int .i64 7, .slice aw words.length cw, .slice ab bytes.length cb, .slice ak kids.length ck] (.mk kind 7 words bytes kids) := .mk (by simp only [inR]; omega) (by simp [inR]) (⟨aw, cw, rfl, hcw, hcw2, RW.grow gv_⟩) hwr (⟨ab, cb, rfl, hcb, hcb2, RB.grow gv_⟩) hbr ⟨ak, ck, rfl, hck, hck2, RK.grow gv_⟩ (hKs.grow gv_)
      have hbad : Nd.right (.mk kind 7 words bytes kids) 32 = false := by simp only [Nd.right, Nd.own]; by_cases k0_ : kind = 0 <;> by_cases k1_ : kind = 1 <;> by_cases k2_ : kind = 2 <;> simp [*]
      refine W_seq ?_
      refine W_region rfl ?_   -- region 12
      refine WL_some (og rfl ?_)
      refine r_loadAll rfl hc36 (by rfl) ?_
      refine WL_some (og rfl ?_)
      refine r_call rfl (Build_calls _ hU 100) ?_
      rw [Nd.build_bad hbad]
      rintro v_ w38 ⟨so_, segs_, rfl, hA_, g_⟩
      replace gv_ := gv_.tr g_
      replace hc8 := g_.heap hc8
      replace hc36 := g_.heap hc36
      replace hU := hU.grow g_
      replace G := G.tr g_
      clear g_
      obtain ⟨ada, na, ca, rfl⟩ := own_slice hA_.out
      refine WL_some (og rfl ?_)
      refine r_move (v := .tuple #[.slice ada na ca, .int .u16 1]) rfl ?_
      refine WL_some (og rfl ?_)
      refine r_extract (v := .slice ada na ca) rfl rfl ?_
      refine WL_some (og rfl ?_)
      refine r_extract (v := .int .u16 1) rfl rfl ?_
      refine WL_some (og rfl ?_)
      refine r_assign (v := .slice ada na ca) rfl ?_
      refine WL_some (og rfl ?_)
      refine r_assign (v := .int .u16 1) rfl ?_
      refine WL_nil ?_
      refine W_seq ?_
      refine W_region rfl ?_   -- region 13
      refine WL_some (og rfl ?_)
      refine r_gives (v := .bool true) rfl (known_calls _) ?_
      intro w39 g40
      replace gv_ := gv_.tr g40
      replace hc8 := g40.heap hc8
      replace hc36 := g40.heap hc36
      replace hU := hU.grow g40
      replace G := G.tr g40
      clear g40
      refine WL_some (og rfl ?_)
      refine r_move (v := .bool true) rfl ?_
      refine WL_some (og rfl ?_)
      refine r_loadAll rfl hc8 (by rfl) ?_
      refine WL_some (og rfl ?_)
      refine r_gives (v := .bool true) rfl (gives_eq (Right_calls _ (hT0.grow gv_)) (y := .bool true) (by rw [hright])) ?_
      intro w41 g42
      replace gv_ := gv_.tr g42
      replace hc8 := g42.heap hc8
      replace hc36 := g42.heap hc36
      replace hU := hU.grow g42
      replace G := G.tr g42
      clear g42
      refine WL_some (og rfl ?_)
      refine r_pick_t (v := .bool true) rfl rfl rfl ?_
      refine WL_some (og rfl ?_)
      refine r_move (v := .bool true) rfl ?_
      refine WL_some (og rfl ?_)
      refine r_loadAll rfl hc36 (by rfl) ?_
      refine WL_some (og rfl ?_)
      refine r_gives (v := .bool false) rfl (gives_eq (Right_calls _ hU) (y := .bool false) (by rw [hbad])) ?_
      intro w43 g44
      replace gv_ := gv_.tr g44
      replace hc8 := g44.heap hc8
      replace hc36 := g44.heap hc36
      replace hU := hU.grow g44
      replace G := G.tr g44
      clear g44
      refine WL_some (og rfl ?_)
      refine r_not_t rfl rfl ?_
      refine WL_some (og rfl ?_)
      refine r_pick_t (v := .bool true) rfl rfl rfl ?_
      refine WL_some (og rfl ?_)
      refine r_move (v := .bool true) rfl ?_
      refine WL_some (og rfl ?_)
      refine r_move (v := .int .u16 1) rfl ?_
      refine WL_some (og rfl ?_)
      refine r_eql_t rfl rfl (by decide) ?_
      refine WL_some (og rfl ?_)
      refine r_pick_t (v := .bool true) rfl rfl rfl ?_
      refine WL_some (og rfl ?_)
      refine r_assign (v := .bool true) rfl ?_
      refine WL_nil ?_
      refine W_ret ?_
      refine ret1 (res_tmp (v := .bool true) rfl) ⟨?_, G⟩
      rfl
    ·  -- false
      replace h2 := of_decide_eq_false h2
      refine W_seq ?_
      refine W_region rfl ?_   -- region 10
      refine WL_some (og rfl ?_)
      refine r_eql rfl rfl ?_
      refine WL_some (og rfl ?_)
      refine r_assign (v := .bool (decide ((wh % 4) = 2))) rfl ?_
      refine WL_nil ?_
      refine W_cond2 (b := (decide ((wh % 4) = 2))) rfl (fun h3 => ?_) (fun h3 => ?_)
      ·  -- true
        replace h3 := of_decide_eq_true h3
        refine W_region rfl ?_   -- region 11
        refine WL_some (og rfl ?_)
        refine r_make (n := 4097) (base := w.heap.size) rfl rfl (by first | omega | (simp only [maxLen]; omega)) (by first | omega | (simp only [maxLen]; omega)) G.size ?_
        intro bm48 w45 hb46 own49 g47
        rw [show (madeCells (Value.cells (.int .u64 0 : Value)) (4097 * 1)).toList = List.replicate 4097 (.int .u64 0) from by rw [Nat.mul_one]; exact toList_madeCells_one _ _] at own49
        replace gv_ := gv_.tr g47
        replace hc8 := g47.heap hc8
        replace hc19 := g47.heap hc19
        replace G := G.tr g47
        clear g47
        refine WL_some (og rfl ?_)
        refine r_fieldAddr rfl ?_
        refine WL_none (og rfl ?_)
        refine r_store1 (v := .slice (some ⟨bm48, 0, none⟩) 4097 4097) rfl rfl (by rfl) hc19 (by rfl) (by rfl) ?_
        intro w50 hc51 u52
        replace gv_ := Grow.upd gv_ u52 gge22
        replace hc8 := u52.heap hc8 ne24
        replace own49 := own_upd own49 u52 (own_ne own49 hc19 (by decide))
        replace G := G.upd u52 hge23
        clear u52 hc19
        refine WL_nil ?_
        have hU : NodeR w50 [.int .i64 kind, .int .i64 size, .slice (some ⟨bm48, 0, none⟩) 4097 4097, .slice ab bytes.length cb, .slice ak kids.length ck] (.mk kind size (List.replicate 4097 0) bytes kids) := .mk (by simp only [inR]; omega) (by simp only [inR]; omega) (own_row (n := 4097) own49 (by omega)) (fun x hx_ => by have := List.eq_of_mem_replicate hx_; subst this; simp [inR]) (⟨ab, cb, rfl, hcb, hcb2, RB.grow gv_⟩) hbr ⟨ak, ck, rfl, hck, hck2, RK.grow gv_⟩ (hKs.grow gv_)
        have hbad : Nd.right (.mk kind size (List.replicate 4097 0) bytes kids) 32 = false := by exact odd_words (by rw [List.length_replicate]; exact Nat.le_refl _) 32
        refine W_seq ?_
        refine W_region rfl ?_   -- region 12
        refine WL_some (og rfl ?_)
        refine r_loadAll rfl hc51 (by rfl) ?_
        refine WL_some (og rfl ?_)
        refine r_call rfl (Build_calls _ hU 100) ?_
        rw [Nd.build_bad hbad]
        rintro v_ w53 ⟨so_, segs_, rfl, hA_, g_⟩
        replace gv_ := gv_.tr g_
        replace hc8 := g_.heap hc8
        replace own49 := own_grow own49 g_
        replace hc51 := g_.heap hc51
        replace hU := hU.grow g_
        replace G := G.tr g_
        clear g_
        obtain ⟨ada, na, ca, rfl⟩ := own_slice hA_.out
        refine WL_some (og rfl ?_)
        refine r_move (v := .tuple #[.slice ada na ca, .int .u16 1]) rfl ?_
        refine WL_some (og rfl ?_)
        refine r_extract (v := .slice ada na ca) rfl rfl ?_
        refine WL_some (og rfl ?_)
        refine r_extract (v := .int .u16 1) rfl rfl ?_
        refine WL_some (og rfl ?_)
        refine r_assign (v := .slice ada na ca) rfl ?_
        refine WL_some (og rfl ?_)
        refine r_assign (v := .int .u16 1) rfl ?_
        refine WL_nil ?_
        refine W_seq ?_
        refine W_region rfl ?_   -- region 13
        refine WL_some (og rfl ?_)
        refine r_gives (v := .bool true) rfl (known_calls _) ?_
        intro w54 g55
        replace gv_ := gv_.tr g55
        replace hc8 := g55.heap hc8
        replace own49 := own_grow own49 g55
        replace hc51 := g55.heap hc51
        replace hU := hU.grow g55
        replace G := G.tr g55
        clear g55
        refine WL_some (og rfl ?_)
        refine r_move (v := .bool true) rfl ?_
        refine WL_some (og rfl ?_)
        refine r_loadAll rfl hc8 (by rfl) ?_
        refine WL_some (og rfl ?_)
        refine r_gives (v := .bool true) rfl (gives_eq (Right_calls _ (hT0.grow gv_)) (y := .bool true) (by rw [hright])) ?_
        intro w56 g57
        replace gv_ := gv_.tr g57
        replace hc8 := g57.heap hc8
        replace own49 := own_grow own49 g57
        replace hc51 := g57.heap hc51
        replace hU := hU.grow g57
        replace G := G.tr g57
        clear g57
        refine WL_some (og rfl ?_)
        refine r_pick_t (v := .bool true) rfl rfl rfl ?_
        refine WL_some (og rfl ?_)
        refine r_move (v := .bool true) rfl ?_
        refine WL_some (og rfl ?_)
        refine r_loadAll rfl hc51 (by rfl) ?_
        refine WL_some (og rfl ?_)
        refine r_gives (v := .bool false) rfl (gives_eq (Right_calls _ hU) (y := .bool false) (by rw [hbad])) ?_
        intro w58 g59
        replace gv_ := gv_.tr g59
        replace hc8 := g59.heap hc8
        replace own49 := own_grow own49 g59
        replace hc51 := g59.heap hc51
        replace hU := hU.grow g59
        replace G := G.tr g59
        clear g59
        refine WL_some (og rfl ?_)
        refine r_not_t rfl rfl ?_
        refine WL_some (og rfl ?_)
        refine r_pick_t (v := .bool true) rfl rfl rfl ?_
        refine WL_some (og rfl ?_)
        refine r_move (v := .bool true) rfl ?_
        refine WL_some (og rfl ?_)
        refine r_move (v := .int .u16 1) rfl ?_
        refine WL_some (og rfl ?_)
        refine r_eql_t rfl rfl (by decide) ?_
        refine WL_some (og rfl ?_)
        refine r_pick_t (v := .bool true) rfl rfl rfl ?_
        refine WL_some (og rfl ?_)
        refine r_assign (v := .bool true) rfl ?_
        refine WL_nil ?_
        refine W_ret ?_
        refine ret1 (res_tmp (v := .bool true) rfl) ⟨?_, G⟩
        rfl
      ·  -- false
        replace h3 := of_decide_eq_false h3
        refine W_seq ?_
        refine W_region rfl ?_   -- region 4
        refine WL_some (og rfl ?_)
        refine r_move (v := .int .u8 k) rfl ?_
        refine WL_some (og rfl ?_)
        refine r_buildSlice (cs := #[.int .u8 k]) (el := 5) (fun w => by kernel_rfl) ?_
        intro bs60 w61 hb62 hc63 g64
        have hge65 := Nat.le_trans G.size hb62
        have ne66 := Nat.ne_of_lt (Nat.lt_of_lt_of_le (lt_of_heap hc8) hb62)
        have ne67 := Nat.ne_of_lt (Nat.lt_of_lt_of_le (lt_of_heap hc19) hb62)
        replace gv_ := gv_.tr g64
        replace hc8 := g64.heap hc8
        replace hc19 := g64.heap hc19
        replace G := G.tr g64
        clear g64
        refine WL_some (og rfl ?_)
        refine r_fieldAddr rfl ?_
        refine WL_none (og rfl ?_)
        refine r_store1 (v := .slice (some ⟨bs60, 0, none⟩) 1 1) rfl rfl (by rfl) hc19 (by rfl) (by rfl) ?_
        intro w68 hc69 u70
        replace gv_ := Grow.upd gv_ u70 gge22
        replace hc8 := u70.heap hc8 ne24
        replace hc63 := u70.heap hc63 ne67.symm
        replace G := G.upd u70 hge23
        clear u70 hc19
        refine WL_nil ?_
        refine W_region rfl ?_   -- region 5
        refine WL_some (og rfl ?_)
        refine r_buildSlice (cs := #[.int .u64 1]) (el := 44) (fun w => by kernel_rfl) ?_
        intro bs71 w72 hb73 hc74 g75
        have hge76 := Nat.le_trans G.size hb73
        have ne77 := Nat.ne_of_lt (Nat.lt_of_lt_of_le (lt_of_heap hc8) hb73)
        have ne78 := Nat.ne_of_lt (Nat.lt_of_lt_of_le (lt_of_heap hc69) hb73)
        replace gv_ := gv_.tr g75
        replace hc8 := g75.heap hc8
        replace hc63 := g75.heap hc63
        replace hc69 := g75.heap hc69
        replace G := G.tr g75
        clear g75
        refine WL_some (og rfl ?_)
        refine r_fieldAddr rfl ?_
        refine WL_none (og rfl ?_)
        refine r_store1 (v := .slice (some ⟨bs71, 0, none⟩) 1 1) rfl rfl (by rfl) hc69 (by rfl) (by rfl) ?_
        intro w79 hc80 u81
        replace gv_ := Grow.upd gv_ u81 gge22
        replace hc8 := u81.heap hc8 ne24
        replace hc63 := u81.heap hc63 ne67.symm
        replace hc74 := u81.heap hc74 ne78.symm
        replace G := G.upd u81 hge23
        clear u81 hc69
        refine WL_nil ?_
        have hU : NodeR w79 [.int .i64 kind, .int .i64 size, .slice (some ⟨bs71, 0, none⟩) 1 1, .slice (some ⟨bs60, 0, none⟩) 1 1, .slice ak kids.length ck] (.mk kind size [1] [k] kids) := .mk (by simp only [inR]; omega) (by simp only [inR]; omega) (Row.of_block (n := 1) hc74 rfl rfl (by decide)) (by simp [inR]) (Row.of_block (n := 1) hc63 rfl rfl (by decide)) (fun x hx_ => by simp only [List.mem_singleton] at hx_; subst hx_; simp only [inR]; omega) ⟨ak, ck, rfl, hck, hck2, RK.grow gv_⟩ (hKs.grow gv_)
        have hbad : Nd.right (.mk kind size [1] [k] kids) 32 = false := by exact odd_both 32
        refine W_seq ?_
        refine W_region rfl ?_   -- region 12
        refine WL_some (og rfl ?_)
        refine r_loadAll rfl hc80 (by rfl) ?_
        refine WL_some (og rfl ?_)
        refine r_call rfl (Build_calls _ hU 100) ?_
        rw [Nd.build_bad hbad]
        rintro v_ w82 ⟨so_, segs_, rfl, hA_, g_⟩
        replace gv_ := gv_.tr g_
        replace hc8 := g_.heap hc8
        replace hc63 := g_.heap hc63
        replace hc74 := g_.heap hc74
        replace hc80 := g_.heap hc80
        replace hU := hU.grow g_
        replace G := G.tr g_
        clear g_
        obtain ⟨ada, na, ca, rfl⟩ := own_slice hA_.out
        refine WL_some (og rfl ?_)
        refine r_move (v := .tuple #[.slice ada na ca, .int .u16 1]) rfl ?_
        refine WL_some (og rfl ?_)
        refine r_extract (v := .slice ada na ca) rfl rfl ?_
        refine WL_some (og rfl ?_)
        refine r_extract (v := .int .u16 1) rfl rfl ?_
        refine WL_some (og rfl ?_)
        refine r_assign (v := .slice ada na ca) rfl ?_
        refine WL_some (og rfl ?_)
        refine r_assign (v := .int .u16 1) rfl ?_
        refine WL_nil ?_
        refine W_seq ?_
        refine W_region rfl ?_   -- region 13
        refine WL_some (og rfl ?_)
        refine r_gives (v := .bool true) rfl (known_calls _) ?_
        intro w83 g84
        replace gv_ := gv_.tr g84
        replace hc8 := g84.heap hc8
        replace hc63 := g84.heap hc63
        replace hc74 := g84.heap hc74
        replace hc80 := g84.heap hc80
        replace hU := hU.grow g84
        replace G := G.tr g84
        clear g84
        refine WL_some (og rfl ?_)
        refine r_move (v := .bool true) rfl ?_
        refine WL_some (og rfl ?_)
        refine r_loadAll rfl hc8 (by rfl) ?_
        refine WL_some (og rfl ?_)
        refine r_gives (v := .bool true) rfl (gives_eq (Right_calls _ (hT0.grow gv_)) (y := .bool true) (by rw [hright])) ?_
        intro w85 g86
        replace gv_ := gv_.tr g86
        replace hc8 := g86.heap hc8
        replace hc63 := g86.heap hc63
        replace hc74 := g86.heap hc74
        replace hc80 := g86.heap hc80
        replace hU := hU.grow g86
        replace G := G.tr g86
        clear g86
        refine WL_some (og rfl ?_)
        refine r_pick_t (v := .bool true) rfl rfl rfl ?_
        refine WL_some (og rfl ?_)
        refine r_move (v := .bool true) rfl ?_
        refine WL_some (og rfl ?_)
        refine r_loadAll rfl hc80 (by rfl) ?_
        refine WL_some (og rfl ?_)
        refine r_gives (v := .bool false) rfl (gives_eq (Right_calls _ hU) (y := .bool false) (by rw [hbad])) ?_
        intro w87 g88
        replace gv_ := gv_.tr g88
        replace hc8 := g88.heap hc8
        replace hc63 := g88.heap hc63
        replace hc74 := g88.heap hc74
        replace hc80 := g88.heap hc80
        replace hU := hU.grow g88
        replace G := G.tr g88
        clear g88
        refine WL_some (og rfl ?_)
        refine r_not_t rfl rfl ?_
        refine WL_some (og rfl ?_)
        refine r_pick_t (v := .bool true) rfl rfl rfl ?_
        refine WL_some (og rfl ?_)
        refine r_move (v := .bool true) rfl ?_
        refine WL_some (og rfl ?_)
        refine r_move (v := .int .u16 1) rfl ?_
        refine WL_some (og rfl ?_)
        refine r_eql_t rfl rfl (by decide) ?_
        refine WL_some (og rfl ?_)
        refine r_pick_t (v := .bool true) rfl rfl rfl ?_
        refine WL_some (og rfl ?_)
        refine r_assign (v := .bool true) rfl ?_
        refine WL_nil ?_
        refine W_ret ?_
        refine ret1 (res_tmp (v := .bool true) rfl) ⟨?_, G⟩
        rfl
end Go.Proofs.Ythbcgfmoakokiaa.K
