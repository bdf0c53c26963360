/- The walks of chapter 09's statements (printed by l09.py). -/
import Derived.Test.YtdddpbapamdghaaT
import Derived.Test.YtdddpbapamdghaaJ14
import Derived.Test.YtdddpbapamdghaaR09
import Derived.Test.YtdddpbapamdghaaU09
import Derived.Test.YtdddpbapamdghaaPtr
import Derived.Test.YtdddpbapamdghaaBD
import Derived.Test.YtdddpbapamdghaaBF
import Derived.Test.YtdddpbapamdghaaBR
import Derived.Test.YtdddpbapamdghaaQ08
import Derived.Test.YtdddpbapamdghaaBK
import Derived.Test.YtdddpbapamdghaaV09
set_option linter.unusedVariables false
set_option linter.unusedSimpArgs false
namespace Go.Proofs.Ytdddpbapamdghaa.K
open Go Go.RowKit Go.Proofs
attribute [local irreducible] Run1 OpG WL W AO Gives
set_option maxRecDepth 100000 in
theorem ReadKinds_calls (w : World) {n cp : Nat} {ad : Option Addr} {xs : List Int} (R : RowAt w 1 ad n (xs.map (.int .u8))) (hn : n = xs.length) (hx : isU8 xs) (hcp : n ≤ cp) (hcp2 : cp ≤ maxLen) {at_ : Int} {ws : Bool} (a0 : 0 ≤ at_) (a1 : at_ ≤ 255) : Gives Try.prog 5 #[.slice ad n cp, .int .u8 at_, .bool ws] w (.bool true) := by
 have ll := R.lim
 have G := Grow.rfl' w
 refine gives_of Try.func5 Try.ntmps5 Try.results5 rfl rfl ?_
 refine W_seq (W_region rfl ?_)
 refine stp (r_assign (v := .bool false) rfl ?_)
 refine WL_nil ?_
 refine W_seq ?_
 refine W_seq (W_region rfl ?_)
 refine stp (r_move_slice rfl ?_)
 refine stp (r_len rfl rfl rfl ?_)
 refine stp (r_gtr rfl rfl ?_)
 refine WL_nil ?_
 refine W_cond2 (b := (decide ((n : Int) > 100))) rfl (fun h1 => ?_) (fun h1 => ?_)
 ·-- true
  replace h1 := of_decide_eq_true h1
  refine W_seq (W_region rfl ?_)
  refine stp (r_gives (v := .bool true) rfl (known9_calls _) ?_)
  intro w1 g2
  replace G := G.tr g2
  clear g2
  refine stp (r_assign (v := .bool true) rfl ?_)
  refine WL_nil ?_
  refine W_ret ?_
  refine ret1 (res_tmp (v := .bool true) rfl) ⟨?_, G⟩
  rfl
 ·-- false
  replace h1 := of_decide_eq_false h1
  have hcL : xs.length ≤ 100 := by omega
  have hRow : Row w 1 (.slice ad n cp) xs.length (xs.map (.int .u8)) := ⟨ad, cp, by rw [hn], by omega, hcp2, hn ▸ R⟩
  refine W_skip ?_
  refine W_seq (W_region rfl ?_)
  refine stp (r_move_slice rfl ?_)
  refine stp (r_build (v := .agg #[.int .i64 2, .int .i64 2, .slice none 0 0, .slice ad n cp, .slice none 0 0]) (fun w => by kernel_rfl) ?_)
  refine stp (r_alloc ?_)
  intro b3 w4 hb5 hc6 g7
  refine stn (r_storeAll rfl rfl hc6 (by rfl) (by rfl) (by rfl) ?_)
  intro w8 hc9 u10
  have g11 := g7.upd u10 hb5
  have hge12 := Nat.le_trans G.size hb5
  replace G := G.tr g11
  clear u10 g7 hb5 hc6
  refine WL_nil ?_
  refine W_seq ?_
  refine W_seq (W_region rfl ?_)
  refine stp (r_move_bool rfl ?_)
  refine WL_nil ?_
  refine W_cond2 (b := ws) rfl (fun hws => ?_) (fun hws => ?_)
  ·-- true
   refine W_seq (W_region rfl ?_)
   refine stp (r_build (v := .agg #[.int .i64 2, .int .i64 5, .slice none 0 0, .slice none 0 0, .slice none 0 0]) (fun w => by kernel_rfl) ?_)
   refine stn (r_storeAll rfl rfl hc9 (by rfl) (by rfl) (by rfl) ?_)
   intro w13 hc14 u15
   replace G := G.upd u15 hge12
   clear u15 hc9
   refine WL_nil ?_
   refine W_seq (W_region rfl ?_)
   refine stp (r_assign_int rfl ?_)
   refine WL_nil ?_
   refine W_block ?_
   refine W_loop (fun m_ e_ w_ => ∃ (k : Nat) (ad3 : Option Addr) (n3 : Nat) (c3 : Nat), m_ = xs.length - k ∧ Fr [(0, .slice ad n cp), (1, .int .u8 at_), (6, .bool false), (7, .pointer (some ⟨b3, 0, none⟩)), (8, .int .i64 (k : Int))] e_ ∧ (k ≤ xs.length) ∧ (w_.heap[b3]? = some (.cells #[.int .i64 2, .int .i64 5, .slice ad3 n3 c3, .slice none 0 0, .slice none 0 0] 46 (0, 0))) ∧ (w_.ownsRow w.heap.size 30 1 (.slice ad3 n3 c3) k ((xs.take k).map (.int .u64))) ∧ Grow w w_) _ ⟨0, none, 0, 0, rfl, fr_of ⟨rfl, rfl, rfl, rfl, rfl, trivial⟩, by omega, hc14, World.ownsRow_nil _ _ _ _, G⟩ ?_
   clear hc14
   clear G
   rintro m_ e_ w16 ⟨k, ad3, n3, c3, rfl, ⟨e17, rfl⟩, hk, hc14, own, G⟩
   refine W_seq ?_
   refine W_seq (W_region rfl ?_)
   refine stp (r_move_int rfl ?_)
   refine stp (r_move_slice rfl ?_)
   refine stp (r_len rfl rfl rfl ?_)
   refine stp (r_lss rfl rfl ?_)
   refine WL_nil ?_
   refine W_cond2 (b := (decide ((k : Int) < (n : Int)))) rfl (fun hlt => ?_) (fun hlt => ?_)
   ·-- true
    replace hlt := of_decide_eq_true hlt
    have hu := getD_u8 hx k
    have hkx : k < xs.length := by omega
    refine W_skip ?_
    refine W_seq ?_
    refine W_block ?_
    refine W_any 8 [[], [0], [], [], [1, 0], [2, 1, 0], [3, 2, 1, 0], [4, 3, 2, 1, 0]] mixed (by kernel_rfl) (by kernel_rfl) (by kernel_rfl) ?_
    intro w18 g19
    replace hc14 := g19.heap hc14
    replace own := own_grow own g19
    replace G := G.tr g19
    clear g19
    apply AO_ex
    ·intro w_ g_; refine og rfl ?_; refine r_fieldAddr rfl ?_; exact ⟨Grow.rfl' _, rfl⟩
    apply AO_ex
    ·intro w_ g_; refine og rfl ?_; refine r_load (v := .slice ad3 n3 c3) rfl (g_.heap hc14) rfl ?_; exact ⟨Grow.rfl' _, rfl⟩
    apply AO_ex
    ·intro w_ g_; refine og rfl ?_; refine r_move_slice rfl ?_; exact ⟨Grow.rfl' _, rfl⟩
    apply AO_ex
    ·intro w_ g_; refine og rfl ?_; refine r_move_int rfl ?_; exact ⟨Grow.rfl' _, rfl⟩
    apply AO_ex
    ·intro w_ g_; refine og rfl ?_; refine r_indexN (R.grow (G.tr g_)) rfl rfl ?_ ?_; omega; exact ⟨Grow.rfl' _, rfl⟩
    apply AO_ex
    ·intro w_ g_; refine og rfl ?_; refine r_loadR (v := .int .u8 (xs.getD k 0)) (m := 0) (R.grow (G.tr g_)) rfl (map_get1 0 (by omega)) ?_; exact ⟨Grow.rfl' _, rfl⟩
    apply AO_ex
    ·intro w_ g_; refine og rfl ?_; refine r_conv rfl ?_ ?_; constructor <;> omega; exact ⟨Grow.rfl' _, rfl⟩
    refine AO_so (fun w_ v_ => Row w_ 1 v_ 1 [.int .u64 (xs.getD k 0)]) (fun _ _ _ g_ h_ => h_.grow g_) ?_ ?_
    ·intro w_ g_
     refine og rfl ?_
     refine r_buildSlice (cs := #[.int .u64 (xs.getD k 0)]) (el := 30) (fun w => by kernel_rfl) ?_
     intro bs_ w2_ hb_ hc_ g2_
     exact ⟨g2_, Row.of_block (n := 1) hc_ rfl rfl (by omega)⟩
    refine AO_nil ?_
    intro w20 g21
    replace hc14 := g21.heap hc14
    replace own := own_grow own g21
    replace G := G.tr g21
    clear g21
    intro v_l hv_l
    refine stp (r_append rfl rfl rfl rfl own hv_l (fun q_ hq_ => by simp at hq_; subst hq_; rfl) (by simp only [maxLen]; omega) (by omega) G.size ?_)
    intro v22 w23 own6 gr6
    replace G := G.grown gr6 (own_ge own)
    replace hc14 := gr_heap gr6 hc14 (own_ne own hc14 (by decide))
    clear own gr6
    obtain ⟨ad4, n4, c4, rfl⟩ := own_slice own6
    refine stp (r_fieldAddr rfl ?_)
    refine stn (r_store1 (v := .slice ad4 n4 c4) rfl rfl (by rfl) hc14 (by rfl) (by rfl) ?_)
    intro w24 hc25 u26
    replace own6 := own_upd own6 u26 (own_ne own6 hc14 (by decide))
    replace G := G.upd u26 hge12
    clear u26 hc14
    refine WL_nil ?_
    refine W_region rfl ?_
    refine stp (r_move_int rfl ?_)
    refine stp (r_add rfl rfl ?_ ?_); constructor <;> omega
    refine stp (r_assign_int rfl ?_)
    refine WL_nil ?_
    refine ⟨_, ?_, k + 1, ad4, n4, c4, rfl, fr_of ⟨rfl, rfl, rfl, rfl, congrArg (Value.int .i64) (by omega), trivial⟩, by omega, hc25, (by rw [List.take_add_one, List.getElem?_eq_getElem hkx, Option.toList_some, List.map_append]; rw [getD_at hkx] at own6; exact own6), G⟩
    omega
   ·-- false
    replace hlt := of_decide_eq_false hlt
    have hk6 : k = xs.length := by omega
    rw [hk6, List.take_length] at own
    have hT : NodeR w16 [.int .i64 2, .int .i64 5, .slice ad3 n3 c3, .slice none 0 0, .slice none 0 0] (kindN true xs) := by simp only [kindN, if_true]; exact .mk (by simp [inR]) (by simp [inR]) (own_row own (by omega)) (fun x_ hx_ => by have := hx x_ hx_; simp only [inR] at this ⊢; omega) (Row.nil _ _) (by simp) (Row.nil _ _) .nil
    refine W_exit ?_
    refine W_seq (W_region rfl ?_)
    refine stp (r_loadAll rfl hc14 (by rfl) ?_)
    refine WL_some (og rfl ?_)
    refine r_call rfl (rBuild_calls _ hT 200) ?_
    rw [kind_build true xs hcL]
    rintro v_ w27 ⟨so_, segs_, rfl, hO_, g_⟩
    replace hc14 := g_.heap hc14
    replace own := own_grow own g_
    replace hT := hT.grow g_
    replace G := G.tr g_
    clear g_
    have hok := kind_ok (ws := true) hx hcL
    have hA : ArenaR w27 so_ (kindA true xs) := hO_.arena (by have := hok.most; simp [kindA]) (fun q_ hq_ => by simp only [List.mem_singleton] at hq_; subst hq_; have := kindK_small true xs hcL; simp; omega)
    obtain ⟨ad1, n1, c1, rfl⟩ := own_slice hO_.out
    clear hO_
    refine stp (r_move (v := .tuple #[.slice ad1 n1 c1, .int .i64 0]) rfl ?_)
    refine stp (r_extract (v := .slice ad1 n1 c1) rfl rfl ?_)
    refine stp (r_extract (v := .int .i64 0) rfl rfl ?_)
    refine stp (r_assign_slice rfl ?_)
    refine stp (r_assign_int rfl ?_)
    refine WL_nil ?_
    refine W_seq (W_region rfl ?_)
    refine stp (r_move_slice rfl ?_)
    refine stp (r_build (v := .agg #[.slice none 0 0, .int .i64 (-1)]) (fun w => by kernel_rfl) ?_)
    refine stp (r_gives (v := .tuple #[.agg #[.int .i64 2, .int .i64 5, .int .i64 (xs.length : Int), .int .i64 0, .int .u64 0], .int .u16 0]) rfl (gives_eq (Of_calls _ hA hok (steps := []) (a := -1) (cost := 500) (rowat_nil _ _) (by intro x_ hx_; simp at hx_) (by simp only [inR]; omega) (by simp only [inR]; omega)) (y := .tuple #[.agg #[.int .i64 2, .int .i64 5, .int .i64 (xs.length : Int), .int .i64 0, .int .u64 0], .int .u16 0]) (by rw [kind_walk0 _ _ hcL, kind_is] <;> rfl)) ?_)
    intro w28 g29
    replace hc14 := g29.heap hc14
    replace own := own_grow own g29
    replace hT := hT.grow g29
    replace hA := hA.grow g29
    replace G := G.tr g29
    clear g29
    refine stp (r_move (v := .tuple #[.agg #[.int .i64 2, .int .i64 5, .int .i64 (xs.length : Int), .int .i64 0, .int .u64 0], .int .u16 0]) rfl ?_)
    refine stp (r_extract (v := .agg #[.int .i64 2, .int .i64 5, .int .i64 (xs.length : Int), .int .i64 0, .int .u64 0]) rfl rfl ?_)
    refine stp (r_extract (v := .int .u16 0) rfl rfl ?_)
    refine stp (r_alloc ?_)
    intro b30 w31 hb32 hc33 g34
    refine stn (r_storeAll rfl rfl hc33 (by rfl) (by rfl) (by rfl) ?_)
    intro w35 hc36 u37
    have g38 := g34.upd u37 hb32
    have hge39 := Nat.le_trans G.size hb32
    have ne40 := Nat.ne_of_lt (Nat.lt_of_lt_of_le (lt_of_heap hc14) hb32)
    replace hc14 := g38.heap hc14
    replace own := own_grow own g38
    replace hT := hT.grow g38
    replace hA := hA.grow g38
    replace G := G.tr g38
    clear u37 g34 hb32 hc33
    refine stp (r_assign_int rfl ?_)
    refine WL_nil ?_
    by_cases hat : at_ < xs.length
    ·
     obtain ⟨i9, hi9⟩ : ∃ i : Nat, at_ = (i : Int) := ⟨at_.toNat, by omega⟩
     have hi8 : i9 < xs.length := by omega
     have hka := kind_at (ws := true) hx hi8 hcL
     rw [← hi9] at hka
     have hu9 := getD_u8 hx i9
     refine W_seq (W_region rfl ?_)
     refine stp (r_move_slice rfl ?_)
     refine stp (r_move_int rfl ?_)
     refine stp (r_conv rfl ?_ ?_); constructor <;> omega
     refine stp (r_build (v := .agg #[.slice none 0 0, .int .i64 at_]) (fun w => by kernel_rfl) ?_)
     refine stp (r_gives (v := .tuple #[.agg #[.int .i64 2, .int .i64 0, .int .i64 0, .int .i64 0, .int .u64 (xs.getD i9 0)], .int .u16 0]) rfl (gives_eq (Of_calls _ hA hok (steps := []) (a := at_) (cost := 500) (rowat_nil _ _) (by intro x_ hx_; simp at hx_) (by simp only [inR]; omega) (by simp only [inR]; omega)) (y := .tuple #[.agg #[.int .i64 2, .int .i64 0, .int .i64 0, .int .i64 0, .int .u64 (xs.getD i9 0)], .int .u16 0]) (by rw [kind_walk0 _ _ hcL, hka] <;> rfl)) ?_)
     intro w41 g42
     replace hc14 := g42.heap hc14
     replace own := own_grow own g42
     replace hT := hT.grow g42
     replace hA := hA.grow g42
     replace hc36 := g42.heap hc36
     replace G := G.tr g42
     clear g42
     refine stp (r_move (v := .tuple #[.agg #[.int .i64 2, .int .i64 0, .int .i64 0, .int .i64 0, .int .u64 (xs.getD i9 0)], .int .u16 0]) rfl ?_)
     refine stp (r_extract (v := .agg #[.int .i64 2, .int .i64 0, .int .i64 0, .int .i64 0, .int .u64 (xs.getD i9 0)]) rfl rfl ?_)
     refine stp (r_extract (v := .int .u16 0) rfl rfl ?_)
     refine stp (r_alloc ?_)
     intro b43 w44 hb45 hc46 g47
     refine stn (r_storeAll rfl rfl hc46 (by rfl) (by rfl) (by rfl) ?_)
     intro w48 hc49 u50
     have g51 := g47.upd u50 hb45
     have hge52 := Nat.le_trans G.size hb45
     have ne53 := Nat.ne_of_lt (Nat.lt_of_lt_of_le (lt_of_heap hc14) hb45)
     have ne54 := Nat.ne_of_lt (Nat.lt_of_lt_of_le (lt_of_heap hc36) hb45)
     replace hc14 := g51.heap hc14
     replace own := own_grow own g51
     replace hT := hT.grow g51
     replace hA := hA.grow g51
     replace hc36 := g51.heap hc36
     replace G := G.tr g51
     clear u50 g47 hb45 hc46
     refine stp (r_assign_int rfl ?_)
     refine WL_nil ?_
     refine W_seq (W_region rfl ?_)
     refine stp (r_move_slice rfl ?_)
     refine stp (r_buildSlice (cs := #[.int .i64 0]) (el := 3) (fun w => by kernel_rfl) ?_)
     intro bs55 w56 hb57 hc58 g59
     have hge60 := Nat.le_trans G.size hb57
     have ne61 := Nat.ne_of_lt (Nat.lt_of_lt_of_le (lt_of_heap hc14) hb57)
     have ne62 := Nat.ne_of_lt (Nat.lt_of_lt_of_le (lt_of_heap hc36) hb57)
     have ne63 := Nat.ne_of_lt (Nat.lt_of_lt_of_le (lt_of_heap hc49) hb57)
     replace hc14 := g59.heap hc14
     replace own := own_grow own g59
     replace hT := hT.grow g59
     replace hA := hA.grow g59
     replace hc36 := g59.heap hc36
     replace hc49 := g59.heap hc49
     replace G := G.tr g59
     clear g59
     refine stp (r_build (v := .agg #[.slice (some ⟨bs55, 0, none⟩) 1 1, .int .i64 0]) (fun w => by kernel_rfl) ?_)
     refine stp (r_gives (v := .tuple #[.agg #[.int .i64 0, .int .i64 0, .int .i64 0, .int .i64 0, .int .u64 0], .int .u16 23]) rfl (gives_eq (Of_calls _ hA hok (steps := [0]) (a := 0) (cost := 500) (rowat_one hc58) (by simp [inR]) (by simp only [inR]; omega) (by simp only [inR]; omega)) (y := .tuple #[.agg #[.int .i64 0, .int .i64 0, .int .i64 0, .int .i64 0, .int .u64 0], .int .u16 23]) (by rw [kind_walk1 _ _ hcL] <;> rfl)) ?_)
     intro w64 g65
     replace hc14 := g65.heap hc14
     replace own := own_grow own g65
     replace hT := hT.grow g65
     replace hA := hA.grow g65
     replace hc36 := g65.heap hc36
     replace hc49 := g65.heap hc49
     replace hc58 := g65.heap hc58
     replace G := G.tr g65
     clear g65
     refine stp (r_move (v := .tuple #[.agg #[.int .i64 0, .int .i64 0, .int .i64 0, .int .i64 0, .int .u64 0], .int .u16 23]) rfl ?_)
     refine stp (r_extract (v := .agg #[.int .i64 0, .int .i64 0, .int .i64 0, .int .i64 0, .int .u64 0]) rfl rfl ?_)
     refine stp (r_extract (v := .int .u16 23) rfl rfl ?_)
     refine stp (r_alloc ?_)
     intro b66 w67 hb68 hc69 g70
     refine stn (r_storeAll rfl rfl hc69 (by rfl) (by rfl) (by rfl) ?_)
     intro w71 hc72 u73
     have g74 := g70.upd u73 hb68
     have hge75 := Nat.le_trans G.size hb68
     have ne76 := Nat.ne_of_lt (Nat.lt_of_lt_of_le (lt_of_heap hc14) hb68)
     have ne77 := Nat.ne_of_lt (Nat.lt_of_lt_of_le (lt_of_heap hc36) hb68)
     have ne78 := Nat.ne_of_lt (Nat.lt_of_lt_of_le (lt_of_heap hc49) hb68)
     have ne79 := Nat.ne_of_lt (Nat.lt_of_lt_of_le (lt_of_heap hc58) hb68)
     replace hc14 := g74.heap hc14
     replace own := own_grow own g74
     replace hT := hT.grow g74
     replace hA := hA.grow g74
     replace hc36 := g74.heap hc36
     replace hc49 := g74.heap hc49
     replace hc58 := g74.heap hc58
     replace G := G.tr g74
     clear u73 g70 hb68 hc69
     refine stp (r_assign_int rfl ?_)
     refine WL_nil ?_
     refine W_seq ?_
     refine W_seq (W_region rfl ?_)
     refine stp (r_move_int rfl ?_)
     refine stp (r_neq_f rfl rfl (by omega) ?_)
     refine stp (r_move (v := .bool false) rfl ?_)
     refine stp (r_move_int rfl ?_)
     refine stp (r_neq_f rfl rfl (by omega) ?_)
     refine stp (r_pick_f (v := .bool false) rfl rfl rfl ?_)
     refine stp (r_move (v := .bool false) rfl ?_)
     refine stp (r_fieldAddr rfl ?_)
     refine stp (r_load (v := .int .i64 2) rfl hc36 rfl ?_)
     refine stp (r_neq_f rfl rfl (by omega) ?_)
     refine stp (r_pick_f (v := .bool false) rfl rfl rfl ?_)
     refine stp (r_move (v := .bool false) rfl ?_)
     refine stp (r_fieldAddr rfl ?_)
     refine stp (r_load (v := .int .i64 (xs.length : Int)) rfl hc36 rfl ?_)
     refine stp (r_move_slice rfl ?_)
     refine stp (r_len rfl rfl rfl ?_)
     refine stp (r_neq_f rfl rfl (by omega) ?_)
     refine stp (r_pick_f (v := .bool false) rfl rfl rfl ?_)
     refine stp (r_move (v := .bool false) rfl ?_)
     refine stp (r_fieldAddr rfl ?_)
     refine stp (r_load (v := .int .i64 0) rfl hc36 rfl ?_)
     refine stp (r_neq_f rfl rfl (by omega) ?_)
     refine stp (r_pick_f (v := .bool false) rfl rfl rfl ?_)
     refine stp (r_move (v := .bool false) rfl ?_)
     refine stp (r_fieldAddr rfl ?_)
     refine stp (r_load (v := .int .i64 5) rfl hc36 rfl ?_)
     refine stp (r_fieldAddr rfl ?_)
     refine stp (r_load (v := .int .i64 5) rfl hc14 rfl ?_)
     refine stp (r_neq_f rfl rfl (by omega) ?_)
     refine stp (r_pick_f (v := .bool false) rfl rfl rfl ?_)
     refine stp (r_move (v := .bool false) rfl ?_)
     refine stp (r_move_int rfl ?_)
     refine stp (r_neq_f rfl rfl (by omega) ?_)
     refine stp (r_pick_f (v := .bool false) rfl rfl rfl ?_)
     refine WL_nil ?_
     refine W_false rfl ?_
     refine W_skip ?_
     refine W_seq ?_
     refine W_seq (W_region rfl ?_)
     refine stp (r_move_int rfl ?_)
     refine stp (r_conv rfl ?_ ?_); constructor <;> omega
     refine stp (r_move_slice rfl ?_)
     refine stp (r_len rfl rfl rfl ?_)
     refine stp (r_geq_f rfl rfl (by omega) ?_)
     refine WL_nil ?_
     refine W_false rfl ?_
     refine W_skip ?_
     refine W_seq ?_
     refine W_any 16 [[], [0], [1, 0], [2, 1, 0], [3, 2, 1, 0], [4, 3, 2, 1, 0], [5, 4, 3, 2, 1, 0], [6, 5, 4, 3, 2, 1, 0], [7, 6, 5, 4, 3, 2], [8, 7, 6, 5, 4, 3], [9, 8, 7, 6, 5, 4, 1, 0], [10, 9, 8, 7, 6, 5, 2, 1, 0], [11, 10, 9, 8, 7, 6, 3, 2, 1, 0], [12, 11, 10, 9, 8, 7, 6, 5, 4, 3, 2, 1, 0], [13, 12, 11, 10, 9, 8, 7, 6, 5, 4, 3, 2, 1, 0], [14, 13, 12, 11, 10, 9, 8, 7, 6, 5, 4, 3, 2, 1, 0]] mixed (by kernel_rfl) (by kernel_rfl) (by kernel_rfl) ?_
     intro w80 g81
     replace hc14 := g81.heap hc14
     replace own := own_grow own g81
     replace hT := hT.grow g81
     replace hA := hA.grow g81
     replace hc36 := g81.heap hc36
     replace hc49 := g81.heap hc49
     replace hc58 := g81.heap hc58
     replace hc72 := g81.heap hc72
     replace G := G.tr g81
     clear g81
     apply AO_ex
     ·intro w_ g_; refine og rfl ?_; exact r_gives (v := .bool true) rfl (known9_calls _) (fun w2_ g2_ => ⟨g2_, rfl⟩)
     apply AO_ex
     ·intro w_ g_; refine og rfl ?_; refine r_move (v := .bool true) rfl ?_; exact ⟨Grow.rfl' _, rfl⟩
     apply AO_ex
     ·intro w_ g_; refine og rfl ?_; refine r_move_int rfl ?_; exact ⟨Grow.rfl' _, rfl⟩
     apply AO_ex
     ·intro w_ g_; refine og rfl ?_; refine r_eql_t rfl rfl (by omega) ?_; exact ⟨Grow.rfl' _, rfl⟩
     apply AO_ex
     ·intro w_ g_; refine og rfl ?_; refine r_pick_t (v := .bool true) rfl rfl rfl ?_; exact ⟨Grow.rfl' _, rfl⟩
     apply AO_ex
     ·intro w_ g_; refine og rfl ?_; refine r_move (v := .bool true) rfl ?_; exact ⟨Grow.rfl' _, rfl⟩
     apply AO_ex
     ·intro w_ g_; refine og rfl ?_; refine r_fieldAddr rfl ?_; exact ⟨Grow.rfl' _, rfl⟩
     apply AO_ex
     ·intro w_ g_; refine og rfl ?_; refine r_load (v := .int .u64 (xs.getD i9 0)) rfl (g_.heap hc49) rfl ?_; exact ⟨Grow.rfl' _, rfl⟩
     apply AO_ex
     ·intro w_ g_; refine og rfl ?_; refine r_move_slice rfl ?_; exact ⟨Grow.rfl' _, rfl⟩
     apply AO_ex
     ·intro w_ g_; refine og rfl ?_; refine r_move_int rfl ?_; exact ⟨Grow.rfl' _, rfl⟩
     apply AO_ex
     ·intro w_ g_; refine og rfl ?_; refine r_indexR (R.grow (G.tr g_)) rfl rfl ?_ ?_ ?_; omega; omega; exact ⟨Grow.rfl' _, rfl⟩
     apply AO_ex
     ·intro w_ g_; refine og rfl ?_; refine r_loadR (v := .int .u8 (xs.getD i9 0)) (m := 0) (R.grow (G.tr g_)) rfl (by subst hi9; exact map_get1 0 (by omega)) ?_; exact ⟨Grow.rfl' _, rfl⟩
     apply AO_ex
     ·intro w_ g_; refine og rfl ?_; refine r_conv rfl ?_ ?_; constructor <;> omega; exact ⟨Grow.rfl' _, rfl⟩
     apply AO_ex
     ·intro w_ g_; refine og rfl ?_; refine r_eql_t rfl rfl (by omega) ?_; exact ⟨Grow.rfl' _, rfl⟩
     apply AO_ex
     ·intro w_ g_; refine og rfl ?_; refine r_pick_t (v := .bool true) rfl rfl rfl ?_; exact ⟨Grow.rfl' _, rfl⟩
     apply AO_ex
     ·intro w_ g_; refine og rfl ?_; refine r_assign (v := .bool true) rfl ?_; exact ⟨Grow.rfl' _, rfl⟩
     refine AO_nil ?_
     intro w82 g83
     replace hc14 := g83.heap hc14
     replace own := own_grow own g83
     replace hT := hT.grow g83
     replace hA := hA.grow g83
     replace hc36 := g83.heap hc36
     replace hc49 := g83.heap hc49
     replace hc58 := g83.heap hc58
     replace hc72 := g83.heap hc72
     replace G := G.tr g83
     clear g83
     refine WL_nil ?_
     refine W_ret ?_
     refine ret1 (res_tmp (v := .bool true) rfl) ⟨?_, G⟩
     rfl
    ·
     have hkb := kind_beyond true xs (a := at_) a0 (by omega)
     refine W_seq (W_region rfl ?_)
     refine stp (r_move_slice rfl ?_)
     refine stp (r_move_int rfl ?_)
     refine stp (r_conv rfl ?_ ?_); constructor <;> omega
     refine stp (r_build (v := .agg #[.slice none 0 0, .int .i64 at_]) (fun w => by kernel_rfl) ?_)
     refine stp (r_gives (v := .tuple #[.agg #[.int .i64 0, .int .i64 0, .int .i64 0, .int .i64 0, .int .u64 0], .int .u16 20]) rfl (gives_eq (Of_calls _ hA hok (steps := []) (a := at_) (cost := 500) (rowat_nil _ _) (by intro x_ hx_; simp at hx_) (by simp only [inR]; omega) (by simp only [inR]; omega)) (y := .tuple #[.agg #[.int .i64 0, .int .i64 0, .int .i64 0, .int .i64 0, .int .u64 0], .int .u16 20]) (by rw [kind_walk0 _ _ hcL, hkb] <;> rfl)) ?_)
     intro w84 g85
     replace hc14 := g85.heap hc14
     replace own := own_grow own g85
     replace hT := hT.grow g85
     replace hA := hA.grow g85
     replace hc36 := g85.heap hc36
     replace G := G.tr g85
     clear g85
     refine stp (r_move (v := .tuple #[.agg #[.int .i64 0, .int .i64 0, .int .i64 0, .int .i64 0, .int .u64 0], .int .u16 20]) rfl ?_)
     refine stp (r_extract (v := .agg #[.int .i64 0, .int .i64 0, .int .i64 0, .int .i64 0, .int .u64 0]) rfl rfl ?_)
     refine stp (r_extract (v := .int .u16 20) rfl rfl ?_)
     refine stp (r_alloc ?_)
     intro b86 w87 hb88 hc89 g90
     refine stn (r_storeAll rfl rfl hc89 (by rfl) (by rfl) (by rfl) ?_)
     intro w91 hc92 u93
     have g94 := g90.upd u93 hb88
     have hge95 := Nat.le_trans G.size hb88
     have ne96 := Nat.ne_of_lt (Nat.lt_of_lt_of_le (lt_of_heap hc14) hb88)
     have ne97 := Nat.ne_of_lt (Nat.lt_of_lt_of_le (lt_of_heap hc36) hb88)
     replace hc14 := g94.heap hc14
     replace own := own_grow own g94
     replace hT := hT.grow g94
     replace hA := hA.grow g94
     replace hc36 := g94.heap hc36
     replace G := G.tr g94
     clear u93 g90 hb88 hc89
     refine stp (r_assign_int rfl ?_)
     refine WL_nil ?_
     refine W_seq (W_region rfl ?_)
     refine stp (r_move_slice rfl ?_)
     refine stp (r_buildSlice (cs := #[.int .i64 0]) (el := 3) (fun w => by kernel_rfl) ?_)
     intro bs98 w99 hb100 hc101 g102
     have hge103 := Nat.le_trans G.size hb100
     have ne104 := Nat.ne_of_lt (Nat.lt_of_lt_of_le (lt_of_heap hc14) hb100)
     have ne105 := Nat.ne_of_lt (Nat.lt_of_lt_of_le (lt_of_heap hc36) hb100)
     have ne106 := Nat.ne_of_lt (Nat.lt_of_lt_of_le (lt_of_heap hc92) hb100)
     replace hc14 := g102.heap hc14
     replace own := own_grow own g102
     replace hT := hT.grow g102
     replace hA := hA.grow g102
     replace hc36 := g102.heap hc36
     replace hc92 := g102.heap hc92
     replace G := G.tr g102
     clear g102
     refine stp (r_build (v := .agg #[.slice (some ⟨bs98, 0, none⟩) 1 1, .int .i64 0]) (fun w => by kernel_rfl) ?_)
     refine stp (r_gives (v := .tuple #[.agg #[.int .i64 0, .int .i64 0, .int .i64 0, .int .i64 0, .int .u64 0], .int .u16 23]) rfl (gives_eq (Of_calls _ hA hok (steps := [0]) (a := 0) (cost := 500) (rowat_one hc101) (by simp [inR]) (by simp only [inR]; omega) (by simp only [inR]; omega)) (y := .tuple #[.agg #[.int .i64 0, .int .i64 0, .int .i64 0, .int .i64 0, .int .u64 0], .int .u16 23]) (by rw [kind_walk1 _ _ hcL] <;> rfl)) ?_)
     intro w107 g108
     replace hc14 := g108.heap hc14
     replace own := own_grow own g108
     replace hT := hT.grow g108
     replace hA := hA.grow g108
     replace hc36 := g108.heap hc36
     replace hc92 := g108.heap hc92
     replace hc101 := g108.heap hc101
     replace G := G.tr g108
     clear g108
     refine stp (r_move (v := .tuple #[.agg #[.int .i64 0, .int .i64 0, .int .i64 0, .int .i64 0, .int .u64 0], .int .u16 23]) rfl ?_)
     refine stp (r_extract (v := .agg #[.int .i64 0, .int .i64 0, .int .i64 0, .int .i64 0, .int .u64 0]) rfl rfl ?_)
     refine stp (r_extract (v := .int .u16 23) rfl rfl ?_)
     refine stp (r_alloc ?_)
     intro b109 w110 hb111 hc112 g113
     refine stn (r_storeAll rfl rfl hc112 (by rfl) (by rfl) (by rfl) ?_)
     intro w114 hc115 u116
     have g117 := g113.upd u116 hb111
     have hge118 := Nat.le_trans G.size hb111
     have ne119 := Nat.ne_of_lt (Nat.lt_of_lt_of_le (lt_of_heap hc14) hb111)
     have ne120 := Nat.ne_of_lt (Nat.lt_of_lt_of_le (lt_of_heap hc36) hb111)
     have ne121 := Nat.ne_of_lt (Nat.lt_of_lt_of_le (lt_of_heap hc92) hb111)
     have ne122 := Nat.ne_of_lt (Nat.lt_of_lt_of_le (lt_of_heap hc101) hb111)
     replace hc14 := g117.heap hc14
     replace own := own_grow own g117
     replace hT := hT.grow g117
     replace hA := hA.grow g117
     replace hc36 := g117.heap hc36
     replace hc92 := g117.heap hc92
     replace hc101 := g117.heap hc101
     replace G := G.tr g117
     clear u116 g113 hb111 hc112
     refine stp (r_assign_int rfl ?_)
     refine WL_nil ?_
     refine W_seq ?_
     refine W_seq (W_region rfl ?_)
     refine stp (r_move_int rfl ?_)
     refine stp (r_neq_f rfl rfl (by omega) ?_)
     refine stp (r_move (v := .bool false) rfl ?_)
     refine stp (r_move_int rfl ?_)
     refine stp (r_neq_f rfl rfl (by omega) ?_)
     refine stp (r_pick_f (v := .bool false) rfl rfl rfl ?_)
     refine stp (r_move (v := .bool false) rfl ?_)
     refine stp (r_fieldAddr rfl ?_)
     refine stp (r_load (v := .int .i64 2) rfl hc36 rfl ?_)
     refine stp (r_neq_f rfl rfl (by omega) ?_)
     refine stp (r_pick_f (v := .bool false) rfl rfl rfl ?_)
     refine stp (r_move (v := .bool false) rfl ?_)
     refine stp (r_fieldAddr rfl ?_)
     refine stp (r_load (v := .int .i64 (xs.length : Int)) rfl hc36 rfl ?_)
     refine stp (r_move_slice rfl ?_)
     refine stp (r_len rfl rfl rfl ?_)
     refine stp (r_neq_f rfl rfl (by omega) ?_)
     refine stp (r_pick_f (v := .bool false) rfl rfl rfl ?_)
     refine stp (r_move (v := .bool false) rfl ?_)
     refine stp (r_fieldAddr rfl ?_)
     refine stp (r_load (v := .int .i64 0) rfl hc36 rfl ?_)
     refine stp (r_neq_f rfl rfl (by omega) ?_)
     refine stp (r_pick_f (v := .bool false) rfl rfl rfl ?_)
     refine stp (r_move (v := .bool false) rfl ?_)
     refine stp (r_fieldAddr rfl ?_)
     refine stp (r_load (v := .int .i64 5) rfl hc36 rfl ?_)
     refine stp (r_fieldAddr rfl ?_)
     refine stp (r_load (v := .int .i64 5) rfl hc14 rfl ?_)
     refine stp (r_neq_f rfl rfl (by omega) ?_)
     refine stp (r_pick_f (v := .bool false) rfl rfl rfl ?_)
     refine stp (r_move (v := .bool false) rfl ?_)
     refine stp (r_move_int rfl ?_)
     refine stp (r_neq_f rfl rfl (by omega) ?_)
     refine stp (r_pick_f (v := .bool false) rfl rfl rfl ?_)
     refine WL_nil ?_
     refine W_false rfl ?_
     refine W_skip ?_
     refine W_seq ?_
     refine W_seq (W_region rfl ?_)
     refine stp (r_move_int rfl ?_)
     refine stp (r_conv rfl ?_ ?_); constructor <;> omega
     refine stp (r_move_slice rfl ?_)
     refine stp (r_len rfl rfl rfl ?_)
     refine stp (r_geq_t rfl rfl (by omega) ?_)
     refine WL_nil ?_
     refine W_true rfl ?_
     refine W_seq (W_region rfl ?_)
     refine stp (r_gives (v := .bool true) rfl (known9_calls _) ?_)
     intro w123 g124
     replace hc14 := g124.heap hc14
     replace own := own_grow own g124
     replace hT := hT.grow g124
     replace hA := hA.grow g124
     replace hc36 := g124.heap hc36
     replace hc92 := g124.heap hc92
     replace hc101 := g124.heap hc101
     replace hc115 := g124.heap hc115
     replace G := G.tr g124
     clear g124
     refine stp (r_move (v := .bool true) rfl ?_)
     refine stp (r_move_int rfl ?_)
     refine stp (r_eql_t rfl rfl (by omega) ?_)
     refine stp (r_pick_t (v := .bool true) rfl rfl rfl ?_)
     refine stp (r_assign (v := .bool true) rfl ?_)
     refine WL_nil ?_
     refine W_ret ?_
     refine ret1 (res_tmp (v := .bool true) rfl) ⟨?_, G⟩
     rfl
  ·-- false
   refine W_skip ?_
   have hT : NodeR w8 [.int .i64 2, .int .i64 2, .slice none 0 0, .slice ad n cp, .slice none 0 0] (kindN false xs) := by simp only [kindN, Bool.false_eq_true, if_false]; exact .mk (by simp [inR]) (by simp [inR]) (Row.nil _ _) (by simp) (hRow.grow G) hx (Row.nil _ _) .nil
   refine W_seq (W_region rfl ?_)
   refine stp (r_loadAll rfl hc9 (by rfl) ?_)
   refine WL_some (og rfl ?_)
   refine r_call rfl (rBuild_calls _ hT 200) ?_
   rw [kind_build false xs hcL]
   rintro v_ w125 ⟨so_, segs_, rfl, hO_, g_⟩
   replace hc9 := g_.heap hc9
   replace hT := hT.grow g_
   replace G := G.tr g_
   clear g_
   have hok := kind_ok (ws := false) hx hcL
   have hA : ArenaR w125 so_ (kindA false xs) := hO_.arena (by have := hok.most; simp [kindA]) (fun q_ hq_ => by simp only [List.mem_singleton] at hq_; subst hq_; have := kindK_small false xs hcL; simp; omega)
   obtain ⟨ad1, n1, c1, rfl⟩ := own_slice hO_.out
   clear hO_
   refine stp (r_move (v := .tuple #[.slice ad1 n1 c1, .int .i64 0]) rfl ?_)
   refine stp (r_extract (v := .slice ad1 n1 c1) rfl rfl ?_)
   refine stp (r_extract (v := .int .i64 0) rfl rfl ?_)
   refine stp (r_assign_slice rfl ?_)
   refine stp (r_assign_int rfl ?_)
   refine WL_nil ?_
   refine W_seq (W_region rfl ?_)
   refine stp (r_move_slice rfl ?_)
   refine stp (r_build (v := .agg #[.slice none 0 0, .int .i64 (-1)]) (fun w => by kernel_rfl) ?_)
   refine stp (r_gives (v := .tuple #[.agg #[.int .i64 2, .int .i64 2, .int .i64 (xs.length : Int), .int .i64 0, .int .u64 0], .int .u16 0]) rfl (gives_eq (Of_calls _ hA hok (steps := []) (a := -1) (cost := 500) (rowat_nil _ _) (by intro x_ hx_; simp at hx_) (by simp only [inR]; omega) (by simp only [inR]; omega)) (y := .tuple #[.agg #[.int .i64 2, .int .i64 2, .int .i64 (xs.length : Int), .int .i64 0, .int .u64 0], .int .u16 0]) (by rw [kind_walk0 _ _ hcL, kind_is] <;> rfl)) ?_)
   intro w126 g127
   replace hc9 := g127.heap hc9
   replace hT := hT.grow g127
   replace hA := hA.grow g127
   replace G := G.tr g127
   clear g127
   refine stp (r_move (v := .tuple #[.agg #[.int .i64 2, .int .i64 2, .int .i64 (xs.length : Int), .int .i64 0, .int .u64 0], .int .u16 0]) rfl ?_)
   refine stp (r_extract (v := .agg #[.int .i64 2, .int .i64 2, .int .i64 (xs.length : Int), .int .i64 0, .int .u64 0]) rfl rfl ?_)
   refine stp (r_extract (v := .int .u16 0) rfl rfl ?_)
   refine stp (r_alloc ?_)
   intro b128 w129 hb130 hc131 g132
   refine stn (r_storeAll rfl rfl hc131 (by rfl) (by rfl) (by rfl) ?_)
   intro w133 hc134 u135
   have g136 := g132.upd u135 hb130
   have hge137 := Nat.le_trans G.size hb130
   have ne138 := Nat.ne_of_lt (Nat.lt_of_lt_of_le (lt_of_heap hc9) hb130)
   replace hc9 := g136.heap hc9
   replace hT := hT.grow g136
   replace hA := hA.grow g136
   replace G := G.tr g136
   clear u135 g132 hb130 hc131
   refine stp (r_assign_int rfl ?_)
   refine WL_nil ?_
   by_cases hat : at_ < xs.length
   ·
    obtain ⟨i9, hi9⟩ : ∃ i : Nat, at_ = (i : Int) := ⟨at_.toNat, by omega⟩
    have hi8 : i9 < xs.length := by omega
    have hka := kind_at (ws := false) hx hi8 hcL
    rw [← hi9] at hka
    have hu9 := getD_u8 hx i9
    refine W_seq (W_region rfl ?_)
    refine stp (r_move_slice rfl ?_)
    refine stp (r_move_int rfl ?_)
    refine stp (r_conv rfl ?_ ?_); constructor <;> omega
    refine stp (r_build (v := .agg #[.slice none 0 0, .int .i64 at_]) (fun w => by kernel_rfl) ?_)
    refine stp (r_gives (v := .tuple #[.agg #[.int .i64 2, .int .i64 0, .int .i64 0, .int .i64 0, .int .u64 (xs.getD i9 0)], .int .u16 0]) rfl (gives_eq (Of_calls _ hA hok (steps := []) (a := at_) (cost := 500) (rowat_nil _ _) (by intro x_ hx_; simp at hx_) (by simp only [inR]; omega) (by simp only [inR]; omega)) (y := .tuple #[.agg #[.int .i64 2, .int .i64 0, .int .i64 0, .int .i64 0, .int .u64 (xs.getD i9 0)], .int .u16 0]) (by rw [kind_walk0 _ _ hcL, hka] <;> rfl)) ?_)
    intro w139 g140
    replace hc9 := g140.heap hc9
    replace hT := hT.grow g140
    replace hA := hA.grow g140
    replace hc134 := g140.heap hc134
    replace G := G.tr g140
    clear g140
    refine stp (r_move (v := .tuple #[.agg #[.int .i64 2, .int .i64 0, .int .i64 0, .int .i64 0, .int .u64 (xs.getD i9 0)], .int .u16 0]) rfl ?_)
    refine stp (r_extract (v := .agg #[.int .i64 2, .int .i64 0, .int .i64 0, .int .i64 0, .int .u64 (xs.getD i9 0)]) rfl rfl ?_)
    refine stp (r_extract (v := .int .u16 0) rfl rfl ?_)
    refine stp (r_alloc ?_)
    intro b141 w142 hb143 hc144 g145
    refine stn (r_storeAll rfl rfl hc144 (by rfl) (by rfl) (by rfl) ?_)
    intro w146 hc147 u148
    have g149 := g145.upd u148 hb143
    have hge150 := Nat.le_trans G.size hb143
    have ne151 := Nat.ne_of_lt (Nat.lt_of_lt_of_le (lt_of_heap hc9) hb143)
    have ne152 := Nat.ne_of_lt (Nat.lt_of_lt_of_le (lt_of_heap hc134) hb143)
    replace hc9 := g149.heap hc9
    replace hT := hT.grow g149
    replace hA := hA.grow g149
    replace hc134 := g149.heap hc134
    replace G := G.tr g149
    clear u148 g145 hb143 hc144
    refine stp (r_assign_int rfl ?_)
    refine WL_nil ?_
    refine W_seq (W_region rfl ?_)
    refine stp (r_move_slice rfl ?_)
    refine stp (r_buildSlice (cs := #[.int .i64 0]) (el := 3) (fun w => by kernel_rfl) ?_)
    intro bs153 w154 hb155 hc156 g157
    have hge158 := Nat.le_trans G.size hb155
    have ne159 := Nat.ne_of_lt (Nat.lt_of_lt_of_le (lt_of_heap hc9) hb155)
    have ne160 := Nat.ne_of_lt (Nat.lt_of_lt_of_le (lt_of_heap hc134) hb155)
    have ne161 := Nat.ne_of_lt (Nat.lt_of_lt_of_le (lt_of_heap hc147) hb155)
    replace hc9 := g157.heap hc9
    replace hT := hT.grow g157
    replace hA := hA.grow g157
    replace hc134 := g157.heap hc134
    replace hc147 := g157.heap hc147
    replace G := G.tr g157
    clear g157
    refine stp (r_build (v := .agg #[.slice (some ⟨bs153, 0, none⟩) 1 1, .int .i64 0]) (fun w => by kernel_rfl) ?_)
    refine stp (r_gives (v := .tuple #[.agg #[.int .i64 0, .int .i64 0, .int .i64 0, .int .i64 0, .int .u64 0], .int .u16 23]) rfl (gives_eq (Of_calls _ hA hok (steps := [0]) (a := 0) (cost := 500) (rowat_one hc156) (by simp [inR]) (by simp only [inR]; omega) (by simp only [inR]; omega)) (y := .tuple #[.agg #[.int .i64 0, .int .i64 0, .int .i64 0, .int .i64 0, .int .u64 0], .int .u16 23]) (by rw [kind_walk1 _ _ hcL] <;> rfl)) ?_)
    intro w162 g163
    replace hc9 := g163.heap hc9
    replace hT := hT.grow g163
    replace hA := hA.grow g163
    replace hc134 := g163.heap hc134
    replace hc147 := g163.heap hc147
    replace hc156 := g163.heap hc156
    replace G := G.tr g163
    clear g163
    refine stp (r_move (v := .tuple #[.agg #[.int .i64 0, .int .i64 0, .int .i64 0, .int .i64 0, .int .u64 0], .int .u16 23]) rfl ?_)
    refine stp (r_extract (v := .agg #[.int .i64 0, .int .i64 0, .int .i64 0, .int .i64 0, .int .u64 0]) rfl rfl ?_)
    refine stp (r_extract (v := .int .u16 23) rfl rfl ?_)
    refine stp (r_alloc ?_)
    intro b164 w165 hb166 hc167 g168
    refine stn (r_storeAll rfl rfl hc167 (by rfl) (by rfl) (by rfl) ?_)
    intro w169 hc170 u171
    have g172 := g168.upd u171 hb166
    have hge173 := Nat.le_trans G.size hb166
    have ne174 := Nat.ne_of_lt (Nat.lt_of_lt_of_le (lt_of_heap hc9) hb166)
    have ne175 := Nat.ne_of_lt (Nat.lt_of_lt_of_le (lt_of_heap hc134) hb166)
    have ne176 := Nat.ne_of_lt (Nat.lt_of_lt_of_le (lt_of_heap hc147) hb166)
    have ne177 := Nat.ne_of_lt (Nat.lt_of_lt_of_le (lt_of_heap hc156) hb166)
    replace hc9 := g172.heap hc9
    replace hT := hT.grow g172
    replace hA := hA.grow g172
    replace hc134 := g172.heap hc134
    replace hc147 := g172.heap hc147
    replace hc156 := g172.heap hc156
    replace G := G.tr g172
    clear u171 g168 hb166 hc167
    refine stp (r_assign_int rfl ?_)
    refine WL_nil ?_
    refine W_seq ?_
    refine W_seq (W_region rfl ?_)
    refine stp (r_move_int rfl ?_)
    refine stp (r_neq_f rfl rfl (by omega) ?_)
    refine stp (r_move (v := .bool false) rfl ?_)
    refine stp (r_move_int rfl ?_)
    refine stp (r_neq_f rfl rfl (by omega) ?_)
    refine stp (r_pick_f (v := .bool false) rfl rfl rfl ?_)
    refine stp (r_move (v := .bool false) rfl ?_)
    refine stp (r_fieldAddr rfl ?_)
    refine stp (r_load (v := .int .i64 2) rfl hc134 rfl ?_)
    refine stp (r_neq_f rfl rfl (by omega) ?_)
    refine stp (r_pick_f (v := .bool false) rfl rfl rfl ?_)
    refine stp (r_move (v := .bool false) rfl ?_)
    refine stp (r_fieldAddr rfl ?_)
    refine stp (r_load (v := .int .i64 (xs.length : Int)) rfl hc134 rfl ?_)
    refine stp (r_move_slice rfl ?_)
    refine stp (r_len rfl rfl rfl ?_)
    refine stp (r_neq_f rfl rfl (by omega) ?_)
    refine stp (r_pick_f (v := .bool false) rfl rfl rfl ?_)
    refine stp (r_move (v := .bool false) rfl ?_)
    refine stp (r_fieldAddr rfl ?_)
    refine stp (r_load (v := .int .i64 0) rfl hc134 rfl ?_)
    refine stp (r_neq_f rfl rfl (by omega) ?_)
    refine stp (r_pick_f (v := .bool false) rfl rfl rfl ?_)
    refine stp (r_move (v := .bool false) rfl ?_)
    refine stp (r_fieldAddr rfl ?_)
    refine stp (r_load (v := .int .i64 2) rfl hc134 rfl ?_)
    refine stp (r_fieldAddr rfl ?_)
    refine stp (r_load (v := .int .i64 2) rfl hc9 rfl ?_)
    refine stp (r_neq_f rfl rfl (by omega) ?_)
    refine stp (r_pick_f (v := .bool false) rfl rfl rfl ?_)
    refine stp (r_move (v := .bool false) rfl ?_)
    refine stp (r_move_int rfl ?_)
    refine stp (r_neq_f rfl rfl (by omega) ?_)
    refine stp (r_pick_f (v := .bool false) rfl rfl rfl ?_)
    refine WL_nil ?_
    refine W_false rfl ?_
    refine W_skip ?_
    refine W_seq ?_
    refine W_seq (W_region rfl ?_)
    refine stp (r_move_int rfl ?_)
    refine stp (r_conv rfl ?_ ?_); constructor <;> omega
    refine stp (r_move_slice rfl ?_)
    refine stp (r_len rfl rfl rfl ?_)
    refine stp (r_geq_f rfl rfl (by omega) ?_)
    refine WL_nil ?_
    refine W_false rfl ?_
    refine W_skip ?_
    refine W_seq ?_
    refine W_any 16 [[], [0], [1, 0], [2, 1, 0], [3, 2, 1, 0], [4, 3, 2, 1, 0], [5, 4, 3, 2, 1, 0], [6, 5, 4, 3, 2, 1, 0], [7, 6, 5, 4, 3, 2], [8, 7, 6, 5, 4, 3], [9, 8, 7, 6, 5, 4, 1, 0], [10, 9, 8, 7, 6, 5, 2, 1, 0], [11, 10, 9, 8, 7, 6, 3, 2, 1, 0], [12, 11, 10, 9, 8, 7, 6, 5, 4, 3, 2, 1, 0], [13, 12, 11, 10, 9, 8, 7, 6, 5, 4, 3, 2, 1, 0], [14, 13, 12, 11, 10, 9, 8, 7, 6, 5, 4, 3, 2, 1, 0]] mixed (by kernel_rfl) (by kernel_rfl) (by kernel_rfl) ?_
    intro w178 g179
    replace hc9 := g179.heap hc9
    replace hT := hT.grow g179
    replace hA := hA.grow g179
    replace hc134 := g179.heap hc134
    replace hc147 := g179.heap hc147
    replace hc156 := g179.heap hc156
    replace hc170 := g179.heap hc170
    replace G := G.tr g179
    clear g179
    apply AO_ex
    ·intro w_ g_; refine og rfl ?_; exact r_gives (v := .bool true) rfl (known9_calls _) (fun w2_ g2_ => ⟨g2_, rfl⟩)
    apply AO_ex
    ·intro w_ g_; refine og rfl ?_; refine r_move (v := .bool true) rfl ?_; exact ⟨Grow.rfl' _, rfl⟩
    apply AO_ex
    ·intro w_ g_; refine og rfl ?_; refine r_move_int rfl ?_; exact ⟨Grow.rfl' _, rfl⟩
    apply AO_ex
    ·intro w_ g_; refine og rfl ?_; refine r_eql_t rfl rfl (by omega) ?_; exact ⟨Grow.rfl' _, rfl⟩
    apply AO_ex
    ·intro w_ g_; refine og rfl ?_; refine r_pick_t (v := .bool true) rfl rfl rfl ?_; exact ⟨Grow.rfl' _, rfl⟩
    apply AO_ex
    ·intro w_ g_; refine og rfl ?_; refine r_move (v := .bool true) rfl ?_; exact ⟨Grow.rfl' _, rfl⟩
    apply AO_ex
    ·intro w_ g_; refine og rfl ?_; refine r_fieldAddr rfl ?_; exact ⟨Grow.rfl' _, rfl⟩
    apply AO_ex
    ·intro w_ g_; refine og rfl ?_; refine r_load (v := .int .u64 (xs.getD i9 0)) rfl (g_.heap hc147) rfl ?_; exact ⟨Grow.rfl' _, rfl⟩
    apply AO_ex
    ·intro w_ g_; refine og rfl ?_; refine r_move_slice rfl ?_; exact ⟨Grow.rfl' _, rfl⟩
    apply AO_ex
    ·intro w_ g_; refine og rfl ?_; refine r_move_int rfl ?_; exact ⟨Grow.rfl' _, rfl⟩
    apply AO_ex
    ·intro w_ g_; refine og rfl ?_; refine r_indexR (R.grow (G.tr g_)) rfl rfl ?_ ?_ ?_; omega; omega; exact ⟨Grow.rfl' _, rfl⟩
    apply AO_ex
    ·intro w_ g_; refine og rfl ?_; refine r_loadR (v := .int .u8 (xs.getD i9 0)) (m := 0) (R.grow (G.tr g_)) rfl (by subst hi9; exact map_get1 0 (by omega)) ?_; exact ⟨Grow.rfl' _, rfl⟩
    apply AO_ex
    ·intro w_ g_; refine og rfl ?_; refine r_conv rfl ?_ ?_; constructor <;> omega; exact ⟨Grow.rfl' _, rfl⟩
    apply AO_ex
    ·intro w_ g_; refine og rfl ?_; refine r_eql_t rfl rfl (by omega) ?_; exact ⟨Grow.rfl' _, rfl⟩
    apply AO_ex
    ·intro w_ g_; refine og rfl ?_; refine r_pick_t (v := .bool true) rfl rfl rfl ?_; exact ⟨Grow.rfl' _, rfl⟩
    apply AO_ex
    ·intro w_ g_; refine og rfl ?_; refine r_assign (v := .bool true) rfl ?_; exact ⟨Grow.rfl' _, rfl⟩
    refine AO_nil ?_
    intro w180 g181
    replace hc9 := g181.heap hc9
    replace hT := hT.grow g181
    replace hA := hA.grow g181
    replace hc134 := g181.heap hc134
    replace hc147 := g181.heap hc147
    replace hc156 := g181.heap hc156
    replace hc170 := g181.heap hc170
    replace G := G.tr g181
    clear g181
    refine WL_nil ?_
    refine W_ret ?_
    refine ret1 (res_tmp (v := .bool true) rfl) ⟨?_, G⟩
    rfl
   ·
    have hkb := kind_beyond false xs (a := at_) a0 (by omega)
    refine W_seq (W_region rfl ?_)
    refine stp (r_move_slice rfl ?_)
    refine stp (r_move_int rfl ?_)
    refine stp (r_conv rfl ?_ ?_); constructor <;> omega
    refine stp (r_build (v := .agg #[.slice none 0 0, .int .i64 at_]) (fun w => by kernel_rfl) ?_)
    refine stp (r_gives (v := .tuple #[.agg #[.int .i64 0, .int .i64 0, .int .i64 0, .int .i64 0, .int .u64 0], .int .u16 20]) rfl (gives_eq (Of_calls _ hA hok (steps := []) (a := at_) (cost := 500) (rowat_nil _ _) (by intro x_ hx_; simp at hx_) (by simp only [inR]; omega) (by simp only [inR]; omega)) (y := .tuple #[.agg #[.int .i64 0, .int .i64 0, .int .i64 0, .int .i64 0, .int .u64 0], .int .u16 20]) (by rw [kind_walk0 _ _ hcL, hkb] <;> rfl)) ?_)
    intro w182 g183
    replace hc9 := g183.heap hc9
    replace hT := hT.grow g183
    replace hA := hA.grow g183
    replace hc134 := g183.heap hc134
    replace G := G.tr g183
    clear g183
    refine stp (r_move (v := .tuple #[.agg #[.int .i64 0, .int .i64 0, .int .i64 0, .int .i64 0, .int .u64 0], .int .u16 20]) rfl ?_)
    refine stp (r_extract (v := .agg #[.int .i64 0, .int .i64 0, .int .i64 0, .int .i64 0, .int .u64 0]) rfl rfl ?_)
    refine stp (r_extract (v := .int .u16 20) rfl rfl ?_)
    refine stp (r_alloc ?_)
    intro b184 w185 hb186 hc187 g188
    refine stn (r_storeAll rfl rfl hc187 (by rfl) (by rfl) (by rfl) ?_)
    intro w189 hc190 u191
    have g192 := g188.upd u191 hb186
    have hge193 := Nat.le_trans G.size hb186
    have ne194 := Nat.ne_of_lt (Nat.lt_of_lt_of_le (lt_of_heap hc9) hb186)
    have ne195 := Nat.ne_of_lt (Nat.lt_of_lt_of_le (lt_of_heap hc134) hb186)
    replace hc9 := g192.heap hc9
    replace hT := hT.grow g192
    replace hA := hA.grow g192
    replace hc134 := g192.heap hc134
    replace G := G.tr g192
    clear u191 g188 hb186 hc187
    refine stp (r_assign_int rfl ?_)
    refine WL_nil ?_
    refine W_seq (W_region rfl ?_)
    refine stp (r_move_slice rfl ?_)
    refine stp (r_buildSlice (cs := #[.int .i64 0]) (el := 3) (fun w => by kernel_rfl) ?_)
    intro bs196 w197 hb198 hc199 g200
    have hge201 := Nat.le_trans G.size hb198
    have ne202 := Nat.ne_of_lt (Nat.lt_of_lt_of_le (lt_of_heap hc9) hb198)
    have ne203 := Nat.ne_of_lt (Nat.lt_of_lt_of_le (lt_of_heap hc134) hb198)
    have ne204 := Nat.ne_of_lt (Nat.lt_of_lt_of_le (lt_of_heap hc190) hb198)
    replace hc9 := g200.heap hc9
    replace hT := hT.grow g200
    replace hA := hA.grow g200
    replace hc134 := g200.heap hc134
    replace hc190 := g200.heap hc190
    replace G := G.tr g200
    clear g200
    refine stp (r_build (v := .agg #[.slice (some ⟨bs196, 0, none⟩) 1 1, .int .i64 0]) (fun w => by kernel_rfl) ?_)
    refine stp (r_gives (v := .tuple #[.agg #[.int .i64 0, .int .i64 0, .int .i64 0, .int .i64 0, .int .u64 0], .int .u16 23]) rfl (gives_eq (Of_calls _ hA hok (steps := [0]) (a := 0) (cost := 500) (rowat_one hc199) (by simp [inR]) (by simp only [inR]; omega) (by simp only [inR]; omega)) (y := .tuple #[.agg #[.int .i64 0, .int .i64 0, .int .i64 0, .int .i64 0, .int .u64 0], .int .u16 23]) (by rw [kind_walk1 _ _ hcL] <;> rfl)) ?_)
    intro w205 g206
    replace hc9 := g206.heap hc9
    replace hT := hT.grow g206
    replace hA := hA.grow g206
    replace hc134 := g206.heap hc134
    replace hc190 := g206.heap hc190
    replace hc199 := g206.heap hc199
    replace G := G.tr g206
    clear g206
    refine stp (r_move (v := .tuple #[.agg #[.int .i64 0, .int .i64 0, .int .i64 0, .int .i64 0, .int .u64 0], .int .u16 23]) rfl ?_)
    refine stp (r_extract (v := .agg #[.int .i64 0, .int .i64 0, .int .i64 0, .int .i64 0, .int .u64 0]) rfl rfl ?_)
    refine stp (r_extract (v := .int .u16 23) rfl rfl ?_)
    refine stp (r_alloc ?_)
    intro b207 w208 hb209 hc210 g211
    refine stn (r_storeAll rfl rfl hc210 (by rfl) (by rfl) (by rfl) ?_)
    intro w212 hc213 u214
    have g215 := g211.upd u214 hb209
    have hge216 := Nat.le_trans G.size hb209
    have ne217 := Nat.ne_of_lt (Nat.lt_of_lt_of_le (lt_of_heap hc9) hb209)
    have ne218 := Nat.ne_of_lt (Nat.lt_of_lt_of_le (lt_of_heap hc134) hb209)
    have ne219 := Nat.ne_of_lt (Nat.lt_of_lt_of_le (lt_of_heap hc190) hb209)
    have ne220 := Nat.ne_of_lt (Nat.lt_of_lt_of_le (lt_of_heap hc199) hb209)
    replace hc9 := g215.heap hc9
    replace hT := hT.grow g215
    replace hA := hA.grow g215
    replace hc134 := g215.heap hc134
    replace hc190 := g215.heap hc190
    replace hc199 := g215.heap hc199
    replace G := G.tr g215
    clear u214 g211 hb209 hc210
    refine stp (r_assign_int rfl ?_)
    refine WL_nil ?_
    refine W_seq ?_
    refine W_seq (W_region rfl ?_)
    refine stp (r_move_int rfl ?_)
    refine stp (r_neq_f rfl rfl (by omega) ?_)
    refine stp (r_move (v := .bool false) rfl ?_)
    refine stp (r_move_int rfl ?_)
    refine stp (r_neq_f rfl rfl (by omega) ?_)
    refine stp (r_pick_f (v := .bool false) rfl rfl rfl ?_)
    refine stp (r_move (v := .bool false) rfl ?_)
    refine stp (r_fieldAddr rfl ?_)
    refine stp (r_load (v := .int .i64 2) rfl hc134 rfl ?_)
    refine stp (r_neq_f rfl rfl (by omega) ?_)
    refine stp (r_pick_f (v := .bool false) rfl rfl rfl ?_)
    refine stp (r_move (v := .bool false) rfl ?_)
    refine stp (r_fieldAddr rfl ?_)
    refine stp (r_load (v := .int .i64 (xs.length : Int)) rfl hc134 rfl ?_)
    refine stp (r_move_slice rfl ?_)
    refine stp (r_len rfl rfl rfl ?_)
    refine stp (r_neq_f rfl rfl (by omega) ?_)
    refine stp (r_pick_f (v := .bool false) rfl rfl rfl ?_)
    refine stp (r_move (v := .bool false) rfl ?_)
    refine stp (r_fieldAddr rfl ?_)
    refine stp (r_load (v := .int .i64 0) rfl hc134 rfl ?_)
    refine stp (r_neq_f rfl rfl (by omega) ?_)
    refine stp (r_pick_f (v := .bool false) rfl rfl rfl ?_)
    refine stp (r_move (v := .bool false) rfl ?_)
    refine stp (r_fieldAddr rfl ?_)
    refine stp (r_load (v := .int .i64 2) rfl hc134 rfl ?_)
    refine stp (r_fieldAddr rfl ?_)
    refine stp (r_load (v := .int .i64 2) rfl hc9 rfl ?_)
    refine stp (r_neq_f rfl rfl (by omega) ?_)
    refine stp (r_pick_f (v := .bool false) rfl rfl rfl ?_)
    refine stp (r_move (v := .bool false) rfl ?_)
    refine stp (r_move_int rfl ?_)
    refine stp (r_neq_f rfl rfl (by omega) ?_)
    refine stp (r_pick_f (v := .bool false) rfl rfl rfl ?_)
    refine WL_nil ?_
    refine W_false rfl ?_
    refine W_skip ?_
    refine W_seq ?_
    refine W_seq (W_region rfl ?_)
    refine stp (r_move_int rfl ?_)
    refine stp (r_conv rfl ?_ ?_); constructor <;> omega
    refine stp (r_move_slice rfl ?_)
    refine stp (r_len rfl rfl rfl ?_)
    refine stp (r_geq_t rfl rfl (by omega) ?_)
    refine WL_nil ?_
    refine W_true rfl ?_
    refine W_seq (W_region rfl ?_)
    refine stp (r_gives (v := .bool true) rfl (known9_calls _) ?_)
    intro w221 g222
    replace hc9 := g222.heap hc9
    replace hT := hT.grow g222
    replace hA := hA.grow g222
    replace hc134 := g222.heap hc134
    replace hc190 := g222.heap hc190
    replace hc199 := g222.heap hc199
    replace hc213 := g222.heap hc213
    replace G := G.tr g222
    clear g222
    refine stp (r_move (v := .bool true) rfl ?_)
    refine stp (r_move_int rfl ?_)
    refine stp (r_eql_t rfl rfl (by omega) ?_)
    refine stp (r_pick_t (v := .bool true) rfl rfl rfl ?_)
    refine stp (r_assign (v := .bool true) rfl ?_)
    refine WL_nil ?_
    refine W_ret ?_
    refine ret1 (res_tmp (v := .bool true) rfl) ⟨?_, G⟩
    rfl
end Go.Proofs.Ytdddpbapamdghaa.K
