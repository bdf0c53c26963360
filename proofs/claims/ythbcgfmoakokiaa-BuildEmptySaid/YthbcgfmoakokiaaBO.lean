/- The walks of chapter 08's statements (printed by l08.py). -/
import Derived.Test.YthbcgfmoakokiaaT
import Derived.Test.YthbcgfmoakokiaaM08
import Derived.Test.YthbcgfmoakokiaaB08
import Derived.Test.YthbcgfmoakokiaaO08
import Derived.Test.YthbcgfmoakokiaaPtr
import Derived.Test.YthbcgfmoakokiaaBA
import Derived.Test.YthbcgfmoakokiaaBB
import Derived.Test.YthbcgfmoakokiaaBC
import Derived.Test.YthbcgfmoakokiaaBD
import Derived.Test.YthbcgfmoakokiaaBE
import Derived.Test.YthbcgfmoakokiaaBF
import Derived.Test.YthbcgfmoakokiaaQ08
import Derived.Test.YthbcgfmoakokiaaP08
import Derived.Test.YthbcgfmoakokiaaBG
set_option linter.unusedVariables false
set_option linter.unusedSimpArgs false
namespace Go.Proofs.Ythbcgfmoakokiaa.K
open Go Go.RowKit Go.Proofs
attribute [local irreducible] Run1 OpG WL W AO Gives
set_option maxRecDepth 100000 in
theorem BuildEmpty_calls (w : World) {n cp : Nat} {ad : Option Addr} {ys : List Int} {m : Int} (R : RowAt w 1 ad n (ys.map (.int .u8))) (hn : n = ys.length) (hx : isU8 ys) (hm0 : 0 ≤ m) (hm1 : m ≤ 255) : Gives Try.prog 7 #[.int .u8 m, .slice ad n cp] w (.bool true) := by
  have hlim := R.lim
  have G := Grow.rfl' w
  refine gives_of Try.func7 Try.ntmps7 Try.results7 rfl rfl ?_
  refine W_seq ?_
  refine W_region rfl ?_   -- region 0
  refine WL_some (og rfl ?_)
  refine r_assign (v := .bool false) rfl ?_
  refine WL_nil ?_
  refine W_seq ?_
  refine W_region rfl ?_   -- region 1
  refine WL_some (og rfl ?_)
  refine r_build (v := .agg #[.int .i64 2, .int .i64 6, .slice none 0 0, .slice none 0 0, .slice none 0 0]) (fun w => by kernel_rfl) ?_
  refine WL_some (og rfl ?_)
  refine r_alloc ?_
  intro b1 w2 hb3 hc4 g5
  refine WL_none (og rfl ?_)
  refine r_storeAll rfl rfl hc4 (by rfl) (by rfl) (by rfl) ?_
  intro w6 hc7 u8
  have g9 := g5.upd u8 hb3
  have hge10 := Nat.le_trans G.size hb3
  replace G := G.tr g9
  clear u8 g5 hb3 hc4
  refine WL_nil ?_
  refine W_seq ?_
  refine W_seq ?_
  refine W_region rfl ?_   -- region 2
  refine WL_some (og rfl ?_)
  refine r_assign (v := .int .i64 0) rfl ?_
  refine WL_nil ?_
  refine W_block ?_
  obtain ⟨B, hB⟩ : ∃ B, B = w6.heap.size := ⟨_, rfl⟩
  have hB5 : b1 < B := by rw [hB]; exact lt_of_heap hc7
  have hwB : w.heap.size ≤ B := by rw [hB]; exact G.size
  have hBw : B ≤ w6.heap.size := by rw [hB]; exact Nat.le_refl _
  clear hB
  refine W_loop (fun m_ e_ w_ => ∃ (i : Nat) (ad6 : Option Addr) (n6 : Nat) (c6 : Nat), m_ = (m % 30).toNat - i ∧ Fr [(0, .int .u8 m), (1, .slice ad n cp), (4, .bool false), (5, .pointer (some ⟨b1, 0, none⟩)), (6, .int .i64 (i : Int))] e_ ∧ ((i : Int) ≤ (m % 30)) ∧ (w_.heap[b1]? = some (.cells #[.int .i64 2, .int .i64 6, .slice none 0 0, .slice none 0 0, .slice ad6 n6 c6] 26 (0, 0))) ∧ (B ≤ w_.heap.size) ∧ (w_.ownsRow B 26 5 (.slice ad6 n6 c6) i ((List.range i).flatMap (emptyC ys))) ∧ Grow w w_) _ ⟨0, none, 0, 0, rfl, fr_of ⟨rfl, rfl, rfl, rfl, rfl, trivial⟩, by omega, hc7, hBw, World.ownsRow_nil _ _ _ _, G⟩ ?_
  clear hc7
  clear G
  rintro m_ e_ w11 ⟨i, ad6, n6, c6, rfl, ⟨e12, rfl⟩, hi2, hc7, hBw, ownk, G⟩
  refine W_seq ?_
  refine W_seq ?_
  refine W_region rfl ?_   -- region 3
  refine WL_some (og rfl ?_)
  refine r_move (v := .int .i64 (i : Int)) rfl ?_
  refine WL_some (og rfl ?_)
  refine r_move (v := .int .u8 m) rfl ?_
  refine WL_some (og rfl ?_)
  refine r_rem rfl rfl ?_ ?_ ?_; omega; omega
  refine WL_some (og rfl ?_)
  refine r_conv rfl ?_ ?_; constructor <;> omega
  refine WL_some (og rfl ?_)
  refine r_lss rfl rfl ?_
  refine WL_nil ?_
  refine W_cond2 (b := (decide ((i : Int) < (m % 30)))) rfl (fun hlt => ?_) (fun hlt => ?_)
  ·  -- true
    replace hlt := of_decide_eq_true hlt
    have hyb : 0 ≤ ys.getD i 0 ∧ ys.getD i 0 ≤ 255 := getD_u8 hx i
    have gs_ : Grow w11 w11 := Grow.rfl' _
    have holt := fun x hx_ => (ownk.lt x hx_).2
    refine W_skip ?_
    refine W_seq ?_
    refine W_block ?_
    refine W_seq ?_
    refine W_region rfl ?_   -- region 5
    refine WL_some (og rfl ?_)
    refine r_build (v := .agg #[.int .i64 1, .int .i64 0, .slice none 0 0, .slice none 0 0, .slice none 0 0]) (fun w => by kernel_rfl) ?_
    refine WL_some (og rfl ?_)
    refine r_alloc ?_
    intro b13 w14 hb15 hc16 g17
    refine WL_none (og rfl ?_)
    refine r_storeAll rfl rfl hc16 (by rfl) (by rfl) (by rfl) ?_
    intro w18 hc19 u20
    have g21 := g17.upd u20 hb15
    have gge22 := Nat.le_trans gs_.size hb15
    have hge23 := Nat.le_trans G.size hb15
    have ne24 := Nat.ne_of_lt (Nat.lt_of_lt_of_le (lt_of_heap hc7) hb15)
    replace hc7 := g21.heap hc7
    replace hBw := Nat.le_trans hBw g21.size
    replace ownk := own_grow ownk g21
    replace gs_ := gs_.tr g21
    replace G := G.tr g21
    clear u20 g17 hb15 hc16
    refine WL_nil ?_
    refine W_seq ?_
    refine W_seq ?_
    refine W_region rfl ?_   -- region 6
    refine WL_some (og rfl ?_)
    refine r_move (v := .int .i64 (i : Int)) rfl ?_
    refine WL_some (og rfl ?_)
    refine r_move (v := .slice ad n cp) rfl ?_
    refine WL_some (og rfl ?_)
    refine r_len rfl rfl rfl ?_
    refine WL_some (og rfl ?_)
    refine r_lss rfl rfl ?_
    refine WL_some (og rfl ?_)
    refine r_move (v := .bool (decide ((i : Int) < (n : Int)))) rfl ?_
    refine WL_some (og_if (s := .bool (decide ((i : Int) < (n : Int)))) (b := true) (v := .slice ad n cp) rfl (wgb_t _) (fun hc25 => ?_) ?_)
    ·
      have hc25_ := of_decide_eq_true hc25
      refine r_move (v := .slice ad n cp) rfl ?_
      exact ⟨rfl, rfl⟩
    refine WL_some (og_if (s := .bool (decide ((i : Int) < (n : Int)))) (b := true) (v := .int .i64 (i : Int)) rfl (wgb_t _) (fun hc26 => ?_) ?_)
    ·
      have hc26_ := of_decide_eq_true hc26
      refine r_move (v := .int .i64 (i : Int)) rfl ?_
      exact ⟨rfl, rfl⟩
    refine WL_some (og_if (s := .bool (decide ((i : Int) < (n : Int)))) (b := true) (v := .pointer (some (eadr ad (i * 1)))) rfl (wgb_t _) (fun hc27 => ?_) ?_)
    ·
      have hc27_ := of_decide_eq_true hc27
      refine r_indexN (R.grow G) (gvt hc27) (gvt hc27) ?_ ?_; omega
      exact ⟨rfl, rfl⟩
    refine WL_some (og_if (s := .bool (decide ((i : Int) < (n : Int)))) (b := true) (v := .int .u8 (ys.getD i 0)) rfl (wgb_t _) (fun hc28 => ?_) ?_)
    ·
      have hc28_ := of_decide_eq_true hc28
      refine r_loadR (v := .int .u8 (ys.getD i 0)) (m := 0) (R.grow G) (gvt hc28) (map_get1 0 (by omega)) ?_
      exact ⟨rfl, rfl⟩
    refine WL_some (og_if (s := .bool (decide ((i : Int) < (n : Int)))) (b := true) (v := .int .u8 ((ys.getD i 0) % 3)) rfl (wgb_t _) (fun hc29 => ?_) ?_)
    ·
      have hc29_ := of_decide_eq_true hc29
      refine r_rem (gvt hc29) rfl ?_ ?_ ?_; omega; omega
      exact ⟨rfl, rfl⟩
    refine WL_some (og_if (s := .bool (decide ((i : Int) < (n : Int)))) (b := true) (v := .bool (decide (((ys.getD i 0) % 3) > 0))) rfl (wgb_t _) (fun hc30 => ?_) ?_)
    ·
      have hc30_ := of_decide_eq_true hc30
      refine r_gtr (gvt hc30) rfl ?_
      exact ⟨rfl, rfl⟩
    refine WL_some (og rfl ?_)
    refine r_and2 rfl rfl rfl ?_
    refine WL_nil ?_
    refine W_cond2 (b := ((decide ((i : Int) < (n : Int))) && (decide (((ys.getD i 0) % 3) > 0)))) rfl (fun hq => ?_) (fun hq => ?_)
    ·  -- true
      simp only [Bool.and_eq_true, Bool.or_eq_true, Bool.not_eq_true', Bool.and_eq_false_iff, Bool.or_eq_false_iff, Bool.not_eq_false', decide_eq_true_eq, decide_eq_false_iff_not, Bool.not_true, Bool.not_false, Bool.not_eq_eq_eq_not, Bool.or_false, Bool.and_true, Bool.or_true, Bool.and_false, Bool.false_or, Bool.true_and, Bool.true_or, Bool.false_and, Bool.false_eq_true, Bool.true_eq_false] at hq
      have hec : emptyC ys i = [Value.int .i64 2, .int .i64 (4 + ys.getD i 0 % 3), .slice none 0 0, .slice none 0 0, .slice none 0 0] := by unfold emptyC; rw [if_pos (by omega)]
      refine W_region rfl ?_   -- region 7
      refine WL_some (og rfl ?_)
      refine r_move (v := .slice ad n cp) rfl ?_
      refine WL_some (og rfl ?_)
      refine r_move (v := .int .i64 (i : Int)) rfl ?_
      refine WL_some (og rfl ?_)
      refine r_indexN (R.grow G) rfl rfl ?_ ?_; omega
      refine WL_some (og rfl ?_)
      refine r_loadR (v := .int .u8 (ys.getD i 0)) (m := 0) (R.grow G) rfl (map_get1 0 (by omega)) ?_
      refine WL_some (og rfl ?_)
      refine r_rem rfl rfl ?_ ?_ ?_; omega; omega
      refine WL_some (og rfl ?_)
      refine r_conv rfl ?_ ?_; constructor <;> omega
      refine WL_some (og rfl ?_)
      refine r_add rfl rfl ?_ ?_; constructor <;> omega
      refine WL_some (og rfl ?_)
      refine r_build (v := .agg #[.int .i64 2, .int .i64 (4 + ((ys.getD i 0) % 3)), .slice none 0 0, .slice none 0 0, .slice none 0 0]) (fun w => by kernel_rfl) ?_
      refine WL_none (og rfl ?_)
      refine r_storeAll rfl rfl hc19 (by rfl) (by rfl) (by rfl) ?_
      intro w31 hc32 u33
      replace hc7 := u33.heap hc7 ne24
      replace hBw := Nat.le_trans hBw (Nat.le_of_eq u33.size.symm)
      replace ownk := own_upd ownk u33 (fun he_ => by have h1_ := holt _ he_; have h2_ := gge22; omega)
      replace gs_ := Grow.upd gs_ u33 gge22
      replace G := G.upd u33 hge23
      clear u33 hc19
      refine WL_nil ?_
      refine W_region rfl ?_   -- region 8
      refine WL_some (og rfl ?_)
      refine r_fieldAddr rfl ?_
      refine WL_some (og rfl ?_)
      refine r_load (v := .slice ad6 n6 c6) rfl hc7 (by rfl) ?_
      refine WL_some (og rfl ?_)
      refine r_loadAll rfl hc32 (by rfl) ?_
      refine WL_some (og rfl ?_)
      refine r_buildSlice (cs := #[.int .i64 2, .int .i64 (4 + ((ys.getD i 0) % 3)), .slice none 0 0, .slice none 0 0, .slice none 0 0]) (el := 26) (fun w => by kernel_rfl) ?_
      intro bs34 w35 hb36 hc37 g38
      have hge39 := Nat.le_trans G.size hb36
      have ne40 := Nat.ne_of_lt (Nat.lt_of_lt_of_le (lt_of_heap hc7) hb36)
      have ne41 := Nat.ne_of_lt (Nat.lt_of_lt_of_le (lt_of_heap hc32) hb36)
      replace hc7 := g38.heap hc7
      replace hBw := Nat.le_trans hBw g38.size
      replace ownk := own_grow ownk g38
      replace gs_ := gs_.tr g38
      replace hc32 := g38.heap hc32
      replace G := G.tr g38
      clear g38
      refine WL_some (og rfl ?_)
      refine r_append rfl rfl rfl rfl ownk (Row.of_block (n := 1) hc37 rfl rfl (by omega)) (fun q_ hq_ => by simp at hq_; rcases hq_ with rfl | rfl | rfl <;> rfl) (by simp only [maxLen]; omega) (by omega) hBw ?_
      intro v42 w43 own6 gr6
      have k6_ : Kp (Value.slice ad6 n6 c6).ownBlock.toList w35 w43 := Kp.of_grownBy gr6 (fun k_ hk_ => by rw [Option.mem_toList]; exact hk_)
      have hF6 : ∀ x ∈ (Value.slice ad6 n6 c6).ownBlock.toList, B ≤ x := fun x hx_ => own_ge ownk x (Option.mem_toList.1 hx_)
      replace G := G.trK k6_ (fun x hx_ => Nat.le_trans hwB (hF6 x hx_))
      replace hc7 := k6_.heap hc7 (fun hm_ => by have h1_ := hF6 _ hm_; omega)
      replace hBw := Nat.le_trans hBw k6_.size
      obtain ⟨ad7, n7, c7, rfl⟩ := own_slice own6
      refine WL_some (og rfl ?_)
      refine r_fieldAddr rfl ?_
      refine WL_none (og rfl ?_)
      refine r_store1 (v := .slice ad7 n7 c7) rfl rfl (by rfl) hc7 (by rfl) (by rfl) ?_
      intro w44 hc45 u46
      replace hBw := Nat.le_trans hBw (Nat.le_of_eq u46.size.symm)
      replace own6 := own_upd own6 u46 (fun he_ => by have := own_ge own6 _ he_; omega)
      replace G := G.upd u46 hge10
      clear u46 hc7
      refine WL_nil ?_
      refine W_region rfl ?_   -- region 4
      refine WL_some (og rfl ?_)
      refine r_move (v := .int .i64 (i : Int)) rfl ?_
      refine WL_some (og rfl ?_)
      refine r_add rfl rfl ?_ ?_; constructor <;> omega
      refine WL_some (og rfl ?_)
      refine r_assign (v := .int .i64 ((i : Int) + 1)) rfl ?_
      refine WL_nil ?_
      refine ⟨_, ?_, i + 1, ad7, n7, c7, rfl, fr_of ⟨rfl, rfl, rfl, rfl, congrArg (Value.int .i64) (by omega), trivial⟩, by omega, hc45, hBw, (by rw [List.range_succ, List.flatMap_append]; simp only [List.flatMap_cons, List.flatMap_nil, List.append_nil, hec]; exact own6), G⟩
      omega
    ·  -- false
      simp only [Bool.and_eq_true, Bool.or_eq_true, Bool.not_eq_true', Bool.and_eq_false_iff, Bool.or_eq_false_iff, Bool.not_eq_false', decide_eq_true_eq, decide_eq_false_iff_not, Bool.not_true, Bool.not_false, Bool.not_eq_eq_eq_not, Bool.or_false, Bool.and_true, Bool.or_true, Bool.and_false, Bool.false_or, Bool.true_and, Bool.true_or, Bool.false_and, Bool.false_eq_true, Bool.true_eq_false] at hq
      have hec : emptyC ys i = [Value.int .i64 1, .int .i64 0, .slice none 0 0, .slice none 0 0, .slice none 0 0] := by unfold emptyC; rw [if_neg (by intro hh_; rcases hq with h_ | h_; (exact h_ (by omega)); (exact h_ hh_.2))]
      refine W_skip ?_
      refine W_region rfl ?_   -- region 8
      refine WL_some (og rfl ?_)
      refine r_fieldAddr rfl ?_
      refine WL_some (og rfl ?_)
      refine r_load (v := .slice ad6 n6 c6) rfl hc7 (by rfl) ?_
      refine WL_some (og rfl ?_)
      refine r_loadAll rfl hc19 (by rfl) ?_
      refine WL_some (og rfl ?_)
      refine r_buildSlice (cs := #[.int .i64 1, .int .i64 0, .slice none 0 0, .slice none 0 0, .slice none 0 0]) (el := 26) (fun w => by kernel_rfl) ?_
      intro bs47 w48 hb49 hc50 g51
      have hge52 := Nat.le_trans G.size hb49
      have ne53 := Nat.ne_of_lt (Nat.lt_of_lt_of_le (lt_of_heap hc7) hb49)
      have ne54 := Nat.ne_of_lt (Nat.lt_of_lt_of_le (lt_of_heap hc19) hb49)
      replace hc7 := g51.heap hc7
      replace hBw := Nat.le_trans hBw g51.size
      replace ownk := own_grow ownk g51
      replace gs_ := gs_.tr g51
      replace hc19 := g51.heap hc19
      replace G := G.tr g51
      clear g51
      refine WL_some (og rfl ?_)
      refine r_append rfl rfl rfl rfl ownk (Row.of_block (n := 1) hc50 rfl rfl (by omega)) (fun q_ hq_ => by simp at hq_; rcases hq_ with rfl | rfl | rfl <;> rfl) (by simp only [maxLen]; omega) (by omega) hBw ?_
      intro v55 w56 own6 gr6
      have k6_ : Kp (Value.slice ad6 n6 c6).ownBlock.toList w48 w56 := Kp.of_grownBy gr6 (fun k_ hk_ => by rw [Option.mem_toList]; exact hk_)
      have hF6 : ∀ x ∈ (Value.slice ad6 n6 c6).ownBlock.toList, B ≤ x := fun x hx_ => own_ge ownk x (Option.mem_toList.1 hx_)
      replace G := G.trK k6_ (fun x hx_ => Nat.le_trans hwB (hF6 x hx_))
      replace hc7 := k6_.heap hc7 (fun hm_ => by have h1_ := hF6 _ hm_; omega)
      replace hBw := Nat.le_trans hBw k6_.size
      obtain ⟨ad7, n7, c7, rfl⟩ := own_slice own6
      refine WL_some (og rfl ?_)
      refine r_fieldAddr rfl ?_
      refine WL_none (og rfl ?_)
      refine r_store1 (v := .slice ad7 n7 c7) rfl rfl (by rfl) hc7 (by rfl) (by rfl) ?_
      intro w57 hc58 u59
      replace hBw := Nat.le_trans hBw (Nat.le_of_eq u59.size.symm)
      replace own6 := own_upd own6 u59 (fun he_ => by have := own_ge own6 _ he_; omega)
      replace G := G.upd u59 hge10
      clear u59 hc7
      refine WL_nil ?_
      refine W_region rfl ?_   -- region 4
      refine WL_some (og rfl ?_)
      refine r_move (v := .int .i64 (i : Int)) rfl ?_
      refine WL_some (og rfl ?_)
      refine r_add rfl rfl ?_ ?_; constructor <;> omega
      refine WL_some (og rfl ?_)
      refine r_assign (v := .int .i64 ((i : Int) + 1)) rfl ?_
      refine WL_nil ?_
      refine ⟨_, ?_, i + 1, ad7, n7, c7, rfl, fr_of ⟨rfl, rfl, rfl, rfl, congrArg (Value.int .i64) (by omega), trivial⟩, by omega, hc58, hBw, (by rw [List.range_succ, List.flatMap_append]; simp only [List.flatMap_cons, List.flatMap_nil, List.append_nil, hec]; exact own6), G⟩
      omega
  ·  -- false
    replace hlt := of_decide_eq_false hlt
    have hi3 : (i : Int) = (m % 30) := by omega
    obtain ⟨hright, hneeds⟩ := emptyP_right ys (m := i) (by omega)
    obtain ⟨sg, hb1, hb2⟩ := Nd.build_one (t := emptyP ys i) (size := 100) hright (by omega) (by omega)
    have hlc : ((List.range i).map (emptyN ys)).length = i := by simp
    have hT : NodeR w11 [.int .i64 2, .int .i64 6, .slice none 0 0, .slice none 0 0, .slice ad6 n6 c6] (emptyP ys i) := .mk (by simp [inR]) (by simp [inR]) (Row.nil _ _) (by simp) (Row.nil _ _) (by simp) (by rw [hlc]; exact own_row ownk (by omega)) (emptyK _ ys i)
    refine W_exit ?_
    refine W_seq ?_
    refine W_region rfl ?_   -- region 9
    refine WL_some (og rfl ?_)
    refine r_loadAll rfl hc7 (by rfl) ?_
    refine WL_some (og rfl ?_)
    refine r_call rfl (Build_calls _ (t := (emptyP ys i)) hT 100) ?_
    rintro v_ w60 ⟨so_, segsa, rfl, hA_, g_⟩
    replace hc7 := g_.heap hc7
    replace hBw := Nat.le_trans hBw g_.size
    replace ownk := own_grow ownk g_
    replace hT := hT.grow g_
    replace G := G.tr g_
    clear g_
    have hsma := Nd.build_sml (emptyP ys i) 100
    have heea := Nd.build_err (emptyP ys i) 100
    obtain ⟨Aa, hAa⟩ : ∃ A, A = (Nd.build (emptyP ys i) 100).1 := ⟨_, rfl⟩
    obtain ⟨ea, hea⟩ : ∃ e, e = (Nd.build (emptyP ys i) 100).2 := ⟨_, rfl⟩
    rw [← hAa] at hA_ hsma
    rw [← hea] at heea ⊢
    obtain ⟨ada, cca, saa, sca, rfl, -, -, ROa, hsfa⟩ := hA_.fn (by have := hsma.len; omega)
    replace hsfa := fun i hi => (hsfa i hi).1
    clear hA_
    have hlena := hsma.len
    refine WL_some (og rfl ?_)
    refine r_move (v := .tuple #[.slice ada Aa.length cca, .int .u16 ea]) rfl ?_
    refine WL_some (og rfl ?_)
    refine r_extract (v := .slice ada Aa.length cca) rfl rfl ?_
    refine WL_some (og rfl ?_)
    refine r_extract (v := .int .u16 ea) rfl rfl ?_
    refine WL_some (og rfl ?_)
    refine r_assign (v := .slice ada Aa.length cca) rfl ?_
    refine WL_some (og rfl ?_)
    refine r_assign (v := .int .u16 ea) rfl ?_
    refine WL_nil ?_
    rw [hb1] at hAa hea
    dsimp only at hAa hea
    have hlena2 : Aa.length = 1 := by rw [hAa]; rfl
    have hla2 : len2 Aa 0 = sg.length := by rw [hAa]; rfl
    refine W_seq ?_
    refine W_region rfl ?_   -- region 10
    refine WL_some (og rfl ?_)
    refine r_gives (v := .bool true) rfl (known_calls _) ?_
    intro w61 g62
    replace hc7 := g62.heap hc7
    replace hBw := Nat.le_trans hBw g62.size
    replace ownk := own_grow ownk g62
    replace hT := hT.grow g62
    replace ROa := ROa.grow g62
    replace G := G.tr g62
    clear g62
    refine WL_some (og rfl ?_)
    refine r_move (v := .bool true) rfl ?_
    refine WL_some (og rfl ?_)
    refine r_move (v := .int .u16 ea) rfl ?_
    refine WL_some (og rfl ?_)
    refine r_eql_t rfl rfl (by omega) ?_
    refine WL_some (og rfl ?_)
    refine r_pick_t (v := .bool true) rfl rfl rfl ?_
    refine WL_some (og rfl ?_)
    refine r_move (v := .bool true) rfl ?_
    refine WL_some (og rfl ?_)
    refine r_move (v := .slice ada Aa.length cca) rfl ?_
    refine WL_some (og rfl ?_)
    refine r_len rfl rfl rfl ?_
    refine WL_some (og rfl ?_)
    refine r_eql_t rfl rfl (by omega) ?_
    refine WL_some (og rfl ?_)
    refine r_pick_t (v := .bool true) rfl rfl rfl ?_
    refine WL_some (og rfl ?_)
    refine r_move (v := .bool true) rfl ?_
    refine WL_some (og rfl ?_)
    refine r_move (v := .slice ada Aa.length cca) rfl ?_
    refine WL_some (og rfl ?_)
    refine r_indexR ROa rfl rfl ?_ ?_ ?_; omega; omega
    refine WL_some (og rfl ?_)
    refine r_loadR (v := .slice (saa 0) (len2 Aa 0) (sca 0)) (m := 0) ROa rfl (by first | (rw [Nat.mul_one]; exact hsfa _ (by omega)) | exact hsfa 0 (by omega)) ?_
    refine WL_some (og rfl ?_)
    refine r_len rfl rfl rfl ?_
    refine WL_some (og rfl ?_)
    refine r_move (v := .int .u8 m) rfl ?_
    refine WL_some (og rfl ?_)
    refine r_rem rfl rfl ?_ ?_ ?_; omega; omega
    refine WL_some (og rfl ?_)
    refine r_conv rfl ?_ ?_; constructor <;> omega
    refine WL_some (og rfl ?_)
    refine r_add rfl rfl ?_ ?_; constructor <;> omega
    refine WL_some (og rfl ?_)
    refine r_eql_t rfl rfl (by omega) ?_
    refine WL_some (og rfl ?_)
    refine r_pick_t (v := .bool true) rfl rfl rfl ?_
    refine WL_some (og rfl ?_)
    refine r_assign (v := .bool true) rfl ?_
    refine WL_nil ?_
    refine W_ret ?_
    refine ret1 (res_tmp (v := .bool true) rfl) ⟨?_, G⟩
    rfl
end Go.Proofs.Ythbcgfmoakokiaa.K
