/- The walks of chapter 08's statements (printed by l08.py). -/
import Derived.Test.YthbcgfmoakokiaaT
import Derived.Test.YthbcgfmoakokiaaM08
import Derived.Test.YthbcgfmoakokiaaB08
import Derived.Test.YthbcgfmoakokiaaO08
import Derived.Test.YthbcgfmoakokiaaPtr
import Derived.Test.YthbcgfmoakokiaaBA
import Derived.Test.YthbcgfmoakokiaaBB
import Derived.Test.YthbcgfmoakokiaaBC
import Derived.Test.YthbcgfmoakokiaaBD
import Derived.Test.YthbcgfmoakokiaaBE
import Derived.Test.YthbcgfmoakokiaaBF
import Derived.Test.YthbcgfmoakokiaaQ08
import Derived.Test.YthbcgfmoakokiaaP08
import Derived.Test.YthbcgfmoakokiaaBG
set_option linter.unusedVariables false
set_option linter.unusedSimpArgs false
namespace Go.Proofs.Ythbcgfmoakokiaa.K
open Go Go.RowKit Go.Proofs
attribute [local irreducible] Run1 OpG WL W AO Gives
set_option maxRecDepth 100000 in
theorem BuildDeep_calls (w : World) {n cp : Nat} {ad : Option Addr} {ls : List Bool} {m : Int} (R : RowAt w 1 ad n (ls.map .bool)) (hn : n = ls.length) (hm0 : 0 ≤ m) (hm1 : m ≤ 255) : Gives Try.prog 5 #[.int .u8 m, .slice ad n cp] w (.bool true) := by
  have hlim := R.lim
  have G := Grow.rfl' w
  refine gives_of Try.func5 Try.ntmps5 Try.results5 rfl rfl ?_
  refine W_seq ?_
  refine W_region rfl ?_   -- region 0
  refine WL_some (og rfl ?_)
  refine r_assign (v := .bool false) rfl ?_
  refine WL_nil ?_
  refine W_seq ?_
  refine W_region rfl ?_   -- region 1
  refine WL_some (og rfl ?_)
  refine r_move (v := .int .u8 m) rfl ?_
  refine WL_some (og rfl ?_)
  refine r_rem rfl rfl ?_ ?_ ?_; omega; omega
  refine WL_some (og rfl ?_)
  refine r_conv rfl ?_ ?_; constructor <;> omega
  refine WL_some (og rfl ?_)
  refine r_assign (v := .int .i64 (m % 40)) rfl ?_
  refine WL_nil ?_
  refine W_seq ?_
  refine W_region rfl ?_   -- region 2
  refine WL_some (og rfl ?_)
  refine r_build (v := .agg #[.int .i64 0, .int .i64 0, .slice none 0 0, .slice none 0 0, .slice none 0 0]) (fun w => by kernel_rfl) ?_
  refine WL_some (og rfl ?_)
  refine r_alloc ?_
  intro b1 w2 hb3 hc4 g5
  refine WL_none (og rfl ?_)
  refine r_storeAll rfl rfl hc4 (by rfl) (by rfl) (by rfl) ?_
  intro w6 hc7 u8
  have g9 := g5.upd u8 hb3
  have hge10 := Nat.le_trans G.size hb3
  replace G := G.tr g9
  clear u8 g5 hb3 hc4
  refine WL_nil ?_
  refine W_seq ?_
  refine W_seq ?_
  refine W_region rfl ?_   -- region 3
  refine WL_some (og rfl ?_)
  refine r_assign (v := .int .i64 0) rfl ?_
  refine WL_nil ?_
  refine W_block ?_
  refine W_loop (fun m_ e_ w_ => ∃ (i : Nat) (p0 : Int) (p1 : Int) (pa : Option Addr) (pn : Nat) (pc : Nat) (pd : Option Addr) (pe : Nat) (pf : Nat) (pg : Option Addr) (ph : Nat) (pi : Nat), m_ = (m % 40).toNat - i ∧ Fr [(1, .slice ad n cp), (4, .bool false), (5, .int .i64 (m % 40)), (6, .pointer (some ⟨b1, 0, none⟩)), (7, .int .i64 (i : Int))] e_ ∧ ((i : Int) ≤ m % 40) ∧ (w_.heap[b1]? = some (.cells #[.int .i64 p0, .int .i64 p1, .slice pa pn pc, .slice pd pe pf, .slice pg ph pi] 26 (0, 0))) ∧ (NodeR (see (fun x => x ≠ b1) w_) [.int .i64 p0, .int .i64 p1, .slice pa pn pc, .slice pd pe pf, .slice pg ph pi] (deepP ls i)) ∧ Grow w w_) _ ⟨0, 0, 0, none, 0, 0, none, 0, 0, none, 0, 0, rfl, fr_of ⟨rfl, rfl, rfl, rfl, rfl, trivial⟩, by omega, hc7, NodeR.zero _, G⟩ ?_
  clear hc7
  clear G
  rintro m_ e_ w11 ⟨i, p0, p1, pa, pn, pc, pd, pe, pf, pg, ph, pi, rfl, ⟨e12, rfl⟩, hi2, hc7, hT, G⟩
  refine W_seq ?_
  refine W_seq ?_
  refine W_region rfl ?_   -- region 4
  refine WL_some (og rfl ?_)
  refine r_move (v := .int .i64 (i : Int)) rfl ?_
  refine WL_some (og rfl ?_)
  refine r_move (v := .int .i64 (m % 40)) rfl ?_
  refine WL_some (og rfl ?_)
  refine r_lss rfl rfl ?_
  refine WL_nil ?_
  refine W_cond2 (b := (decide ((i : Int) < (m % 40)))) rfl (fun hlt => ?_) (fun hlt => ?_)
  ·  -- true
    replace hlt := of_decide_eq_true hlt
    have hTp := hT
    have hb6w := lt_of_heap hc7
    refine W_skip ?_
    refine W_seq ?_
    refine W_block ?_
    refine W_seq ?_
    refine W_region rfl ?_   -- region 6
    refine WL_some (og rfl ?_)
    refine r_loadAll rfl hc7 (by rfl) ?_
    refine WL_some (og rfl ?_)
    refine r_buildSlice (cs := #[.int .i64 p0, .int .i64 p1, .slice pa pn pc, .slice pd pe pf, .slice pg ph pi]) (el := 26) (fun w => by kernel_rfl) ?_
    intro bs13 w14 hb15 hc16 g17
    have hge18 := Nat.le_trans G.size hb15
    have ne19 := Nat.ne_of_lt (Nat.lt_of_lt_of_le (lt_of_heap hc7) hb15)
    replace hc7 := g17.heap hc7
    replace hT := hT.sees (Sees.grow g17)
    replace G := G.tr g17
    clear g17
    have hne_ : b1 < bs13 := Nat.lt_of_le_of_ne (by have h1_ := hb15; have h2_ := hb6w; omega) (ne19)
    refine WL_some (og rfl ?_)
    refine r_build (v := .agg #[.int .i64 1, .int .i64 0, .slice none 0 0, .slice none 0 0, .slice (some ⟨bs13, 0, none⟩) 1 1]) (fun w => by kernel_rfl) ?_
    refine WL_none (og rfl ?_)
    refine r_storeAll rfl rfl hc7 (by rfl) (by rfl) (by rfl) ?_
    intro w20 hc21 u22
    replace hT := hT.sees (Sees.upd u22 (fun h_ => h_ rfl))
    replace hc16 := u22.heap hc16 ne19.symm
    replace G := G.upd u22 hge10
    clear u22 hc7
    refine WL_nil ?_
    refine W_seq ?_
    refine W_region rfl ?_   -- region 7
    refine WL_some (og rfl ?_)
    refine r_move (v := .int .i64 (i : Int)) rfl ?_
    refine WL_some (og rfl ?_)
    refine r_move (v := .slice ad n cp) rfl ?_
    refine WL_some (og rfl ?_)
    refine r_len rfl rfl rfl ?_
    refine WL_some (og rfl ?_)
    refine r_lss rfl rfl ?_
    refine WL_some (og rfl ?_)
    refine r_move (v := .bool (decide ((i : Int) < (n : Int)))) rfl ?_
    refine WL_some (og_if (s := .bool (decide ((i : Int) < (n : Int)))) (b := true) (v := .slice ad n cp) rfl (wgb_t _) (fun hc23 => ?_) ?_)
    ·
      have hc23_ := of_decide_eq_true hc23
      refine r_move (v := .slice ad n cp) rfl ?_
      exact ⟨rfl, rfl⟩
    refine WL_some (og_if (s := .bool (decide ((i : Int) < (n : Int)))) (b := true) (v := .int .i64 (i : Int)) rfl (wgb_t _) (fun hc24 => ?_) ?_)
    ·
      have hc24_ := of_decide_eq_true hc24
      refine r_move (v := .int .i64 (i : Int)) rfl ?_
      exact ⟨rfl, rfl⟩
    refine WL_some (og_if (s := .bool (decide ((i : Int) < (n : Int)))) (b := true) (v := .pointer (some (eadr ad (i * 1)))) rfl (wgb_t _) (fun hc25 => ?_) ?_)
    ·
      have hc25_ := of_decide_eq_true hc25
      refine r_indexN (R.grow G) (gvt hc25) (gvt hc25) ?_ ?_; omega
      exact ⟨rfl, rfl⟩
    refine WL_some (og_if (s := .bool (decide ((i : Int) < (n : Int)))) (b := true) (v := .bool (ls.getD i false)) rfl (wgb_t _) (fun hc26 => ?_) ?_)
    ·
      have hc26_ := of_decide_eq_true hc26
      refine r_loadR (v := .bool (ls.getD i false)) (m := 0) (R.grow G) (gvt hc26) (map_get1 false (by omega)) ?_
      exact ⟨rfl, rfl⟩
    refine WL_some (og rfl ?_)
    refine r_and2 rfl rfl rfl ?_
    refine WL_nil ?_
    refine W_cond2 (b := ((decide ((i : Int) < (n : Int))) && (ls.getD i false))) rfl (fun hq => ?_) (fun hq => ?_)
    ·  -- true
      simp only [Bool.and_eq_true, Bool.or_eq_true, Bool.not_eq_true', Bool.and_eq_false_iff, Bool.or_eq_false_iff, Bool.not_eq_false', decide_eq_true_eq, decide_eq_false_iff_not, Bool.not_true, Bool.not_false, Bool.not_eq_eq_eq_not, Bool.or_false, Bool.and_true, Bool.or_true, Bool.and_false, Bool.false_or, Bool.true_and, Bool.true_or, Bool.false_and, Bool.false_eq_true, Bool.true_eq_false] at hq
      refine W_seq ?_
      refine W_region rfl ?_   -- region 8
      refine WL_some (og rfl ?_)
      refine r_fieldAddr rfl ?_
      refine WL_none (og rfl ?_)
      refine r_store1 (v := .int .i64 2) rfl rfl (by rfl) hc21 (by rfl) (by rfl) ?_
      intro w27 hc28 u29
      replace hT := hT.sees (Sees.upd u29 (fun h_ => h_ rfl))
      replace hc16 := u29.heap hc16 ne19.symm
      replace G := G.upd u29 hge10
      clear u29 hc21
      refine WL_nil ?_
      refine W_region rfl ?_   -- region 9
      refine WL_some (og rfl ?_)
      refine r_fieldAddr rfl ?_
      refine WL_none (og rfl ?_)
      refine r_store1 (v := .int .i64 6) rfl rfl (by rfl) hc28 (by rfl) (by rfl) ?_
      intro w30 hc31 u32
      replace hT := hT.sees (Sees.upd u32 (fun h_ => h_ rfl))
      replace hc16 := u32.heap hc16 ne19.symm
      replace G := G.upd u32 hge10
      clear u32 hc28
      refine WL_nil ?_
      have hst : deepP ls (i + 1) = .mk 2 6 [] [] [deepP ls i] := by simp only [deepP]; rw [if_pos (by first | exact hq.2 | simpa using hq)]
      have hT2 : NodeR (see (fun x => x ≠ b1) w30) [.int .i64 2, .int .i64 6, .slice none 0 0, .slice none 0 0, .slice (some ⟨bs13, 0, none⟩) 1 1] (deepP ls (i + 1)) := by rw [hst]; exact .mk (by simp [inR]) (by simp [inR]) (Row.nil _ _) (by simp) (Row.nil _ _) (by simp) (row_see (n := 1) (sz := 5) hc16 (by intro he_; rw [he_] at hne_; exact absurd hne_ (by omega)) rfl (by decide)) (by have h_ := KidsR.cons hT .nil; simpa using h_)
      refine W_region rfl ?_   -- region 5
      refine WL_some (og rfl ?_)
      refine r_move (v := .int .i64 (i : Int)) rfl ?_
      refine WL_some (og rfl ?_)
      refine r_add rfl rfl ?_ ?_; constructor <;> omega
      refine WL_some (og rfl ?_)
      refine r_assign (v := .int .i64 ((i : Int) + 1)) rfl ?_
      refine WL_nil ?_
      refine ⟨_, ?_, i + 1, 2, 6, none, 0, 0, none, 0, 0, (some ⟨bs13, 0, none⟩), 1, 1, rfl, fr_of ⟨rfl, rfl, rfl, rfl, congrArg (Value.int .i64) (by omega), trivial⟩, by omega, hc31, hT2, G⟩
      omega
    ·  -- false
      simp only [Bool.and_eq_true, Bool.or_eq_true, Bool.not_eq_true', Bool.and_eq_false_iff, Bool.or_eq_false_iff, Bool.not_eq_false', decide_eq_true_eq, decide_eq_false_iff_not, Bool.not_true, Bool.not_false, Bool.not_eq_eq_eq_not, Bool.or_false, Bool.and_true, Bool.or_true, Bool.and_false, Bool.false_or, Bool.true_and, Bool.true_or, Bool.false_and, Bool.false_eq_true, Bool.true_eq_false] at hq
      refine W_skip ?_
      have hst : deepP ls (i + 1) = .mk 1 0 [] [] [deepP ls i] := by simp only [deepP]; rw [if_neg (by intro hh_; first | (exact absurd (hq.resolve_left (fun h_ => by have := getD_lt hh_; omega)) (by rw [hh_]; simp)) | simp_all)]
      have hT2 : NodeR (see (fun x => x ≠ b1) w20) [.int .i64 1, .int .i64 0, .slice none 0 0, .slice none 0 0, .slice (some ⟨bs13, 0, none⟩) 1 1] (deepP ls (i + 1)) := by rw [hst]; exact .mk (by simp [inR]) (by simp [inR]) (Row.nil _ _) (by simp) (Row.nil _ _) (by simp) (row_see (n := 1) (sz := 5) hc16 (by intro he_; rw [he_] at hne_; exact absurd hne_ (by omega)) rfl (by decide)) (by have h_ := KidsR.cons hT .nil; simpa using h_)
      refine W_region rfl ?_   -- region 5
      refine WL_some (og rfl ?_)
      refine r_move (v := .int .i64 (i : Int)) rfl ?_
      refine WL_some (og rfl ?_)
      refine r_add rfl rfl ?_ ?_; constructor <;> omega
      refine WL_some (og rfl ?_)
      refine r_assign (v := .int .i64 ((i : Int) + 1)) rfl ?_
      refine WL_nil ?_
      refine ⟨_, ?_, i + 1, 1, 0, none, 0, 0, none, 0, 0, (some ⟨bs13, 0, none⟩), 1, 1, rfl, fr_of ⟨rfl, rfl, rfl, rfl, congrArg (Value.int .i64) (by omega), trivial⟩, by omega, hc21, hT2, G⟩
      omega
  ·  -- false
    replace hlt := of_decide_eq_false hlt
    have hi3 : (i : Int) = m % 40 := by omega
    replace hT := hT.sees (Sees.seen _ _)
    have hr := deepP_right ls i 32
    have hnd := deepP_needs ls i
    have hR0 := hT
    by_cases h32 : i ≤ 32
    ·
      have hr2 : (deepP ls i).right 32 = true := by rw [hr]; exact decide_eq_true h32
      obtain ⟨sg, hb1, hb2⟩ := Nd.build_one (t := deepP ls i) (size := 100) hr2 (by omega) (by omega)
      refine W_exit ?_
      refine W_seq ?_
      refine W_region rfl ?_   -- region 10
      refine WL_some (og rfl ?_)
      refine r_loadAll rfl hc7 (by rfl) ?_
      refine WL_some (og rfl ?_)
      refine r_call rfl (Build_calls _ hT 100) ?_
      rw [hb1]
      rintro v_ w33 ⟨so_, segs_, rfl, hA_, g_⟩
      replace hc7 := g_.heap hc7
      replace hT := hT.grow g_
      replace G := G.tr g_
      clear g_
      obtain ⟨ada, na, ca, rfl⟩ := own_slice hA_.out
      refine WL_some (og rfl ?_)
      refine r_move (v := .tuple #[.slice ada na ca, .int .u16 0]) rfl ?_
      refine WL_some (og rfl ?_)
      refine r_extract (v := .slice ada na ca) rfl rfl ?_
      refine WL_some (og rfl ?_)
      refine r_extract (v := .int .u16 0) rfl rfl ?_
      refine WL_some (og rfl ?_)
      refine r_assign (v := .slice ada na ca) rfl ?_
      refine WL_some (og rfl ?_)
      refine r_assign (v := .int .u16 0) rfl ?_
      refine WL_nil ?_
      refine W_seq ?_
      refine W_region rfl ?_   -- region 11
      refine WL_some (og rfl ?_)
      refine r_gives (v := .bool true) rfl (known_calls _) ?_
      intro w34 g35
      replace hc7 := g35.heap hc7
      replace hT := hT.grow g35
      replace G := G.tr g35
      clear g35
      refine WL_some (og rfl ?_)
      refine r_move (v := .bool true) rfl ?_
      refine WL_some (og rfl ?_)
      refine r_loadAll rfl hc7 (by rfl) ?_
      refine WL_some (og rfl ?_)
      refine r_gives (v := .bool true) rfl (gives_eq (Right_calls _ hT) (y := .bool true) (by rw [hr2])) ?_
      intro w36 g37
      replace hc7 := g37.heap hc7
      replace hT := hT.grow g37
      replace G := G.tr g37
      clear g37
      refine WL_some (og rfl ?_)
      refine r_move (v := .int .i64 (m % 40)) rfl ?_
      refine WL_some (og rfl ?_)
      refine r_leq_t rfl rfl (by omega) ?_
      refine WL_some (og rfl ?_)
      refine r_beq' (r := true) rfl rfl rfl ?_
      refine WL_some (og rfl ?_)
      refine r_pick_t (v := .bool true) rfl rfl rfl ?_
      refine WL_some (og rfl ?_)
      refine r_move (v := .bool true) rfl ?_
      refine WL_some (og rfl ?_)
      refine r_move (v := .int .u16 0) rfl ?_
      refine WL_some (og rfl ?_)
      refine r_eql_t rfl rfl (by decide) ?_
      refine WL_some (og rfl ?_)
      refine r_move (v := .int .i64 (m % 40)) rfl ?_
      refine WL_some (og rfl ?_)
      refine r_leq_t rfl rfl (by omega) ?_
      refine WL_some (og rfl ?_)
      refine r_beq' (r := true) rfl rfl rfl ?_
      refine WL_some (og rfl ?_)
      refine r_pick_t (v := .bool true) rfl rfl rfl ?_
      refine WL_some (og rfl ?_)
      refine r_move (v := .bool true) rfl ?_
      refine WL_some (og rfl ?_)
      refine r_move (v := .int .i64 (m % 40)) rfl ?_
      refine WL_some (og rfl ?_)
      refine r_leq_t rfl rfl (by omega) ?_
      refine WL_some (og rfl ?_)
      refine r_move (v := .bool true) rfl ?_
      refine WL_some (og_no rfl ?_)
      refine WL_some (og_no rfl ?_)
      refine WL_some (og rfl ?_)
      refine r_pick_t (v := .bool true) rfl rfl rfl ?_
      refine WL_some (og rfl ?_)
      refine r_pick_t (v := .bool true) rfl rfl rfl ?_
      refine WL_some (og rfl ?_)
      refine r_assign (v := .bool true) rfl ?_
      refine WL_nil ?_
      refine W_ret ?_
      refine ret1 (res_tmp (v := .bool true) rfl) ⟨?_, G⟩
      rfl
    ·
      have hr2 : (deepP ls i).right 32 = false := by rw [hr]; exact decide_eq_false h32
      have hb1 := Nd.build_bad (t := deepP ls i) (size := 100) hr2
      refine W_exit ?_
      refine W_seq ?_
      refine W_region rfl ?_   -- region 10
      refine WL_some (og rfl ?_)
      refine r_loadAll rfl hc7 (by rfl) ?_
      refine WL_some (og rfl ?_)
      refine r_call rfl (Build_calls _ hT 100) ?_
      rw [hb1]
      rintro v_ w38 ⟨so_, segs_, rfl, hA_, g_⟩
      replace hc7 := g_.heap hc7
      replace hT := hT.grow g_
      replace G := G.tr g_
      clear g_
      obtain ⟨ada, na, ca, rfl⟩ := own_slice hA_.out
      refine WL_some (og rfl ?_)
      refine r_move (v := .tuple #[.slice ada na ca, .int .u16 1]) rfl ?_
      refine WL_some (og rfl ?_)
      refine r_extract (v := .slice ada na ca) rfl rfl ?_
      refine WL_some (og rfl ?_)
      refine r_extract (v := .int .u16 1) rfl rfl ?_
      refine WL_some (og rfl ?_)
      refine r_assign (v := .slice ada na ca) rfl ?_
      refine WL_some (og rfl ?_)
      refine r_assign (v := .int .u16 1) rfl ?_
      refine WL_nil ?_
      refine W_seq ?_
      refine W_region rfl ?_   -- region 11
      refine WL_some (og rfl ?_)
      refine r_gives (v := .bool true) rfl (known_calls _) ?_
      intro w39 g40
      replace hc7 := g40.heap hc7
      replace hT := hT.grow g40
      replace G := G.tr g40
      clear g40
      refine WL_some (og rfl ?_)
      refine r_move (v := .bool true) rfl ?_
      refine WL_some (og rfl ?_)
      refine r_loadAll rfl hc7 (by rfl) ?_
      refine WL_some (og rfl ?_)
      refine r_gives (v := .bool false) rfl (gives_eq (Right_calls _ hT) (y := .bool false) (by rw [hr2])) ?_
      intro w41 g42
      replace hc7 := g42.heap hc7
      replace hT := hT.grow g42
      replace G := G.tr g42
      clear g42
      refine WL_some (og rfl ?_)
      refine r_move (v := .int .i64 (m % 40)) rfl ?_
      refine WL_some (og rfl ?_)
      refine r_leq_f rfl rfl (by omega) ?_
      refine WL_some (og rfl ?_)
      refine r_beq' (r := true) rfl rfl rfl ?_
      refine WL_some (og rfl ?_)
      refine r_pick_t (v := .bool true) rfl rfl rfl ?_
      refine WL_some (og rfl ?_)
      refine r_move (v := .bool true) rfl ?_
      refine WL_some (og rfl ?_)
      refine r_move (v := .int .u16 1) rfl ?_
      refine WL_some (og rfl ?_)
      refine r_eql_f rfl rfl (by decide) ?_
      refine WL_some (og rfl ?_)
      refine r_move (v := .int .i64 (m % 40)) rfl ?_
      refine WL_some (og rfl ?_)
      refine r_leq_f rfl rfl (by omega) ?_
      refine WL_some (og rfl ?_)
      refine r_beq' (r := true) rfl rfl rfl ?_
      refine WL_some (og rfl ?_)
      refine r_pick_t (v := .bool true) rfl rfl rfl ?_
      refine WL_some (og rfl ?_)
      refine r_move (v := .bool true) rfl ?_
      refine WL_some (og rfl ?_)
      refine r_move (v := .int .i64 (m % 40)) rfl ?_
      refine WL_some (og rfl ?_)
      refine r_leq_f rfl rfl (by omega) ?_
      refine WL_some (og rfl ?_)
      refine r_move (v := .bool false) rfl ?_
      refine WL_some (og rfl ?_)
      refine r_move (v := .int .u16 1) rfl ?_
      refine WL_some (og rfl ?_)
      refine r_eql_t rfl rfl (by decide) ?_
      refine WL_some (og rfl ?_)
      refine r_pick_f (v := .bool true) rfl rfl rfl ?_
      refine WL_some (og rfl ?_)
      refine r_pick_t (v := .bool true) rfl rfl rfl ?_
      refine WL_some (og rfl ?_)
      refine r_assign (v := .bool true) rfl ?_
      refine WL_nil ?_
      refine W_ret ?_
      refine ret1 (res_tmp (v := .bool true) rfl) ⟨?_, G⟩
      rfl
end Go.Proofs.Ythbcgfmoakokiaa.K
