/- Laid together: BF, J12, CE, BN. Each part is plain law, a rule, or a walk of the functions that its names tell. -/
import Derived.Test.YtfhfecepcnapfaaX2
import Derived.Laws.BytesArg
set_option linter.unusedVariables false
set_option linter.unusedSimpArgs false
namespace Go.Proofs.Ytfhfecepcnapfaa.K
open Go Go.RowKit Go.Proofs
attribute [local irreducible] Run1 OpG WL W AO Gives
set_option maxRecDepth 100000 in
theorem rset_calls (w : World) {base q i : Nat} {so : Value} {segs : List Value} {A : List (List Int)} {lim x : Int} {full : Bool} (h : OwnA 34 55 w base so segs A) (hbw : base ≤ w.heap.size) (hS : Sml A) (hq : q < A.length) (hi : i < len2 A q) : Calls Try.prog 56 #[.agg #[so, .int .i64 lim, .bool full], .int .i64 (q : Int), .int .i64 (i : Int), .int .u64 x] w (Ret fun v w' => LayV 34 55 w' base lim v ⟨setP A q i x, full⟩ ∧ Grow w w') := by
 have hA := hS.len
 have hAs := hS.all
 have hAq := hS.seg q
 have hsl := h.len
 obtain ⟨ado, co, sa, sc, rfl, hco, hco2, RO, hsf⟩ := h.fn (by omega)
 obtain ⟨hu, owu⟩ := hsf q hq
 have G := Grow.rfl' w
 refine calls_ret Try.func56 Try.ntmps56 Try.results56 rfl rfl ?_
 refine W_seq (W_region rfl ?_)
 refine WL_some (og rfl ?_)
 (first | refine r_box_agg rfl ?_ | refine r_box_int rfl ?_ | refine r_box_slice rfl ?_ | refine r_box rfl rfl ?_)
 intro b1 w2 hb3 hc4 g5
 have hge6 := Nat.le_trans G.size hb3
 replace G := G.tr g5
 clear g5 hb3
 refine stp (r_alloc ?_)
 intro b7 w8 hb9 hc10 g11
 refine WL_nil ?_
 refine W_seq (W_region rfl ?_)
 refine stp (r_assign_slice rfl ?_)
 refine WL_nil ?_
 refine W_seq (W_region rfl ?_)
 refine stp (r_move_slice rfl ?_)
 refine stp (r_fieldAddr rfl ?_)
 have hge12 := Nat.le_trans G.size hb9
 have ne13 := Nat.ne_of_lt (Nat.lt_of_lt_of_le (lt_of_heap hc4) hb9)
 replace hc4 := g11.heap hc4
 replace G := G.tr g11
 clear g11 hb9
 refine stp (r_load (v := .slice ado A.length co) rfl hc4 rfl ?_)
 refine WL_some (og rfl ?_)
 have own00 := World.ownsRow_nil w8 w.heap.size 34 1
 refine r_append rfl rfl rfl rfl own00 ⟨_, co, rfl, hco, hco2, RO.grow G⟩ h.one (by simp only [maxLen]; omega) (by omega) G.size ?_
 intro v14 w15 own5 gr6
 have g6 := gr_grow gr6
 replace hc4 := g6.heap hc4
 replace hc10 := g6.heap hc10
 replace G := G.tr g6
 clear g6 gr6 own00
 rw [Nat.zero_add, List.nil_append] at own5
 obtain ⟨g5, c5, cur5, rfl, hg5b, hg5, hc51, hc52, hc53, hc54⟩ := own_pos own5 (by omega)
 have R5 := own_row own5 (by omega)
 obtain ⟨_, _, h5_, _, _, R5⟩ := R5
 cases h5_
 refine stp (r_assign_slice rfl ?_)
 refine WL_nil ?_
 refine W_seq (W_region rfl ?_)
 refine stp (r_assign_slice rfl ?_)
 refine WL_nil ?_
 refine W_seq (W_region rfl ?_)
 refine stp (r_move_slice rfl ?_)
 refine stp (r_move_slice rfl ?_)
 refine stp (r_move_int rfl ?_)
 refine stp (r_indexN R5 rfl rfl ?_ ?_); omega
 refine stp (r_loadR (v := .slice (sa q) (len2 A q) (sc q)) (m := 0) R5 rfl (by rw [Nat.mul_one]; exact hu) ?_)
 refine WL_some (og rfl ?_)
 have own00 := World.ownsRow_nil w15 w.heap.size 55 1
 refine r_append rfl rfl rfl rfl own00 (own_row (own_grow owu G) (by omega)) (fun q_ hq_ => by obtain ⟨z, _, rfl⟩ := List.mem_map.1 hq_; rfl) (by simp only [maxLen]; omega) (by omega) G.size ?_
 intro v16 w17 own6 gr6
 have g6 := gr_grow gr6
 replace hc4 := g6.heap hc4
 replace hc10 := g6.heap hc10
 replace own5 := own_grow own5 g6
 replace hg5 := g6.heap hg5
 replace R5 := R5.grow g6
 replace G := G.tr g6
 clear g6 gr6 own00
 rw [Nat.zero_add, List.nil_append] at own6
 obtain ⟨g6, c6, cur6, rfl, hg6b, hg6, hc61, hc62, hc63, hc64⟩ := own_pos own6 (by omega)
 refine stp (r_assign_slice rfl ?_)
 refine WL_nil ?_
 have n56 : g5 ≠ g6 := fun he => by rw [he, hg6] at hg5; simp at hg5
 have m4 : g6 ≠ b1 := fun he => by rw [he, hc4] at hg6; simp at hg6
 have p4 : g5 ≠ b1 := fun he => by rw [he, hc4] at hg5; simp at hg5
 have m8 : g6 ≠ b7 := fun he => by rw [he, hc10] at hg6; simp at hg6
 have p8 : g5 ≠ b7 := fun he => by rw [he, hc10] at hg5; simp at hg5
 refine W_seq (W_region rfl ?_)
 refine stp (r_move_slice rfl ?_)
 refine stp (r_move_int rfl ?_)
 refine stp (r_move_int rfl ?_)
 refine WL_some (og rfl ?_)
 refine r_indexAddr (b := g6) (o := 0) rfl rfl (by omega) (by omega) ?_
 rw [Int.toNat_natCast, Nat.zero_add, Nat.mul_one]
 refine stn (r_store1 (v := .int .u64 x) rfl rfl rfl hg6 (Nat.ble_eq_true_of_le (by omega)) rfl ?_)
 intro w7 hs6 u7
 replace own6 := own_setcell (i := i) (x := .int .u64 x) own6 hg6 hs6 (by simp)
 replace own5 := own_upd own5 u7 (own_ne own5 hg6 (by decide))
 replace hg5 := u7.heap hg5 n56
 replace hc4 := u7.heap hc4 m4.symm
 replace hc10 := u7.heap hc10 m8.symm
 replace G := G.upd u7 hg6b
 clear hg6
 have hg6 := hs6
 clear hs6 R5
 refine WL_nil ?_
 refine W_seq (W_region rfl ?_)
 refine stp (r_move_slice rfl ?_)
 refine stp (r_move_int rfl ?_)
 refine stp (r_move_slice rfl ?_)
 refine WL_some (og rfl ?_)
 refine r_indexAddr (b := g5) (o := 0) rfl rfl (by omega) (by omega) ?_
 rw [Int.toNat_natCast, Nat.zero_add, Nat.mul_one]
 refine stn (r_store1 (v := .slice (some ⟨g6, 0, none⟩) (len2 A q) c6) rfl rfl rfl hg5 (Nat.ble_eq_true_of_le (by omega)) rfl ?_)
 intro w8 hs5 u8
 replace own5 := own_setcell (i := q) (x := .slice (some ⟨g6, 0, none⟩) (len2 A q) c6) own5 hg5 hs5 (by simp)
 replace own6 := own_upd own6 u8 (own_ne own6 hg5 (by decide))
 replace hg6 := u8.heap hg6 n56.symm
 replace hc4 := u8.heap hc4 p4.symm
 replace hc10 := u8.heap hc10 p8.symm
 replace G := G.upd u8 hg5b
 clear hg5
 have hg5 := hs5
 clear hs5
 refine WL_nil ?_
 refine W_seq (W_region rfl ?_)
 refine stp (r_move_slice rfl ?_)
 refine stp (r_fieldAddr rfl ?_)
 refine stn (r_store1 (v := .slice (some ⟨g5, 0, none⟩) A.length c5) rfl rfl (by rfl) hc4 (by rfl) (by rfl) ?_)
 intro w18 hc19 u20
 replace own5 := own_upd own5 u20 (own_ne own5 hc4 (by decide))
 replace own6 := own_upd own6 u20 (own_ne own6 hc4 (by decide))
 replace hc10 := u20.heap hc10 (by omega)
 replace G := G.upd u20 hge6
 clear u20 hc4
 refine WL_nil ?_
 refine W_seq (W_region rfl ?_)
 refine stp (r_loadAll rfl hc19 (by rfl) ?_)
 refine stn (r_storeAll rfl rfl hc10 (by rfl) (by rfl) (by rfl) ?_)
 intro w21 hc22 u23
 replace own5 := own_upd own5 u23 (own_ne own5 hc10 (by decide))
 replace own6 := own_upd own6 u23 (own_ne own6 hc10 (by decide))
 replace hc19 := u23.heap hc19 (by omega)
 replace G := G.upd u23 hge12
 clear u23 hc10
 refine WL_nil ?_
 refine W_ret ?_
 have hcp := OwnA.copy (q := q) (u := .slice (some ⟨g6, 0, none⟩) (len2 A q) c6) (ws := (A.getD q []).set i x) (so' := .slice (some ⟨g5, 0, none⟩) A.length c5) h hbw G (Nat.le_of_lt hq) (by rw [List.length_set, wordsV, List.map_set]; exact own6) (by have e1 : growB A q = A := (by unfold growB; rw [if_neg (by omega)]); have e2 : growV segs q = segs := (by unfold growV; rw [if_neg (by omega)]); rw [e1, e2]; exact own_base own5 hbw)
 rw [show growB A q = A from by unfold growB; rw [if_neg (by omega)]] at hcp
 refine ret1 (res_all rfl hc22 (by rfl)) ⟨⟨_, _, rfl, hcp⟩, G⟩

set_option maxRecDepth 100000 in
theorem rmore_calls (w : World) {base q : Nat} {so lv : Value} {segs : List Value} {A : List (List Int)} {l : List Int} {lim : Int} {full : Bool} (h : OwnA 34 55 w base so segs A) (hbw : base ≤ w.heap.size) (hS : Sml A) (hq : q ≤ A.length) (lR : Row w 1 lv l.length (wordsV l)) (hl : l.length ≤ 10000) : Calls Try.prog 58 #[.agg #[so, .int .i64 lim, .bool full], .int .i64 (q : Int), lv] w (Ret fun v w' => LayV 34 55 w' base lim v (moreP lim ⟨A, full⟩ q l) ∧ Grow w w') := by
 have hA := hS.len
 have hAs := hS.all
 have hAq := hS.seg q
 have hsl := h.len
 obtain ⟨ado, co, sa, sc, rfl, hco, hco2, RO, hsf⟩ := h.fn (by omega)
 obtain ⟨adu, cu, hu, owu⟩ := h.growV hq
 obtain ⟨adl, cl, rfl, hcl, hcl2, RL⟩ := lR
 have hgl := growV_length (q := q) hsl
 have hgb := growB_length A q
 have G := Grow.rfl' w
 refine calls_ret Try.func58 Try.ntmps58 Try.results58 rfl rfl ?_
 refine W_seq (W_region rfl ?_)
 refine WL_some (og rfl ?_)
 (first | refine r_box_agg rfl ?_ | refine r_box_int rfl ?_ | refine r_box_slice rfl ?_ | refine r_box rfl rfl ?_)
 intro b1 w2 hb3 hc4 g5
 have hge6 := Nat.le_trans G.size hb3
 replace G := G.tr g5
 clear g5 hb3
 refine stp (r_alloc ?_)
 intro b7 w8 hb9 hc10 g11
 refine WL_nil ?_
 refine W_seq (W_region rfl ?_)
 refine stp (r_assign_slice rfl ?_)
 refine WL_nil ?_
 refine W_seq (W_region rfl ?_)
 refine stp (r_move_slice rfl ?_)
 refine stp (r_fieldAddr rfl ?_)
 have hge12 := Nat.le_trans G.size hb9
 have ne13 := Nat.ne_of_lt (Nat.lt_of_lt_of_le (lt_of_heap hc4) hb9)
 replace hc4 := g11.heap hc4
 replace G := G.tr g11
 clear g11 hb9
 refine stp (r_load (v := .slice ado A.length co) rfl hc4 rfl ?_)
 refine WL_some (og rfl ?_)
 have own00 := World.ownsRow_nil w8 w.heap.size 34 1
 refine r_append rfl rfl rfl rfl own00 ⟨_, co, rfl, hco, hco2, RO.grow G⟩ h.one (by simp only [maxLen]; omega) (by omega) G.size ?_
 intro v14 w15 own5 gr6
 have g6 := gr_grow gr6
 replace hc4 := g6.heap hc4
 replace hc10 := g6.heap hc10
 replace G := G.tr g6
 clear g6 gr6 own00
 rw [Nat.zero_add, List.nil_append] at own5
 obtain ⟨ad5, c5, rfl, hc5⟩ := own_shape own5
 refine stp (r_assign_slice rfl ?_)
 refine WL_nil ?_
 refine W_cut1 (fun e_ w_ => ∃ (v5 : Value), Fr [(1, .int .i64 (q : Int)), (2, .slice adl l.length cl), (3, .pointer (some ⟨b1, 0, none⟩)), (6, .pointer (some ⟨b7, 0, none⟩)), (7, v5)] e_ ∧ (w_.heap[b1]? = some (.cells #[.slice ado A.length co, .int .i64 lim, .bool full] 78 (0, 0))) ∧ (w_.heap[b7]? = some (.cells #[.slice none 0 0, .int .i64 0, .bool false] 78 (0, 0))) ∧ (w_.ownsRow w.heap.size 34 1 v5 (growB A q).length (growV segs q)) ∧ Grow w w_) ?_ ?_
 ·-- the parts
  refine W_seq (W_region rfl ?_)
  refine stp (r_move_int rfl ?_)
  refine stp (r_move_slice rfl ?_)
  refine stp (r_len rfl rfl rfl ?_)
  refine stp (r_eql rfl rfl ?_)
  refine WL_nil ?_
  refine W_cond2 (b := (decide ((q : Int) = (A.length : Int)))) rfl (fun hq0 => ?_) (fun hq0 => ?_)
  ·-- true
   replace hq0 := of_decide_eq_true hq0
   have hqA : q = A.length := by omega
   refine W_region rfl ?_
   refine stp (r_move_slice rfl ?_)
   refine stp (r_buildSlice (cs := #[.slice none 0 0]) (el := 34) (fun w => by kernel_rfl) ?_)
   intro bs16 w17 hb18 hc19 g20
   have hge21 := Nat.le_trans G.size hb18
   have ne22 := Nat.ne_of_lt (Nat.lt_of_lt_of_le (lt_of_heap hc4) hb18)
   have ne23 := Nat.ne_of_lt (Nat.lt_of_lt_of_le (lt_of_heap hc10) hb18)
   replace hc4 := g20.heap hc4
   replace hc10 := g20.heap hc10
   replace own5 := own_grow own5 g20
   replace G := G.tr g20
   clear g20
   refine stp (r_append rfl rfl rfl rfl own5 (Row.of_block (n := 1) hc19 rfl rfl (by omega)) (fun q_ hq_ => by simp at hq_; subst hq_; rfl) (by simp only [maxLen]; omega) (by omega) G.size ?_)
   intro v24 w25 own6 gr6
   replace G := G.grown gr6 (own_ge own5)
   replace hc4 := gr_heap gr6 hc4 (own_ne own5 hc4 (by decide))
   replace hc10 := gr_heap gr6 hc10 (own_ne own5 hc10 (by decide))
   refine stp (r_assign (v := v24) rfl ?_)
   refine WL_nil ?_
   have e1 : (growB A q).length = A.length + 1 := by rw [hgb, if_pos hqA]
   have e2 : growV segs q = segs ++ [.slice none 0 0] := by unfold growV; rw [if_pos (by omega)]
   have own6' : w25.ownsRow w.heap.size 34 1 v24 (growB A q).length (growV segs q) := by rw [e1, e2]; exact own6
   exact ⟨v24, fr_of ⟨rfl, rfl, rfl, rfl, rfl, trivial⟩, hc4, hc10, own6', G⟩
  ·-- false
   replace hq0 := of_decide_eq_false hq0
   have hqA : ¬ q = A.length := by omega
   refine W_skip ?_
   have e1 : (growB A q).length = A.length := by rw [hgb, if_neg hqA]
   have e2 : growV segs q = segs := by unfold growV; rw [if_neg (by omega)]
   have own5' : w15.ownsRow w.heap.size 34 1 (.slice ad5 A.length c5) (growB A q).length (growV segs q) := by rw [e1, e2]; exact own5
   exact ⟨_, fr_of ⟨rfl, rfl, rfl, rfl, rfl, trivial⟩, hc4, hc10, own5', G⟩
 ·-- behind them
  clear hc4 hc10 own5
  clear G
  rintro e_ w26 ⟨v5, ⟨e27, rfl⟩, hc4, hc10, own5, G⟩
  have hqB := (growB_len hq).1
  have hgb2 := (growB_len hq).2
  obtain ⟨g5, c5, cur5, rfl, hg5b, hg5, hc51, hc52, hc53, hc54⟩ := own_pos own5 (by omega)
  have R5 := own_row own5 (by omega)
  obtain ⟨_, _, h5_, _, _, R5⟩ := R5
  cases h5_
  refine W_seq (W_region rfl ?_)
  refine stp (r_assign_slice rfl ?_)
  refine WL_nil ?_
  refine W_seq (W_region rfl ?_)
  refine stp (r_move_slice rfl ?_)
  refine stp (r_move_slice rfl ?_)
  refine stp (r_move_int rfl ?_)
  refine stp (r_indexN R5 rfl rfl ?_ ?_); omega
  refine stp (r_loadR (v := .slice adu (len2 A q) cu) (m := 0) R5 rfl (by rw [Nat.mul_one]; exact hu) ?_)
  refine WL_some (og rfl ?_)
  have own00 := World.ownsRow_nil w26 w.heap.size 55 1
  refine r_append rfl rfl rfl rfl own00 (own_row (own_grow owu G) (by omega)) (fun q_ hq_ => by obtain ⟨z, _, rfl⟩ := List.mem_map.1 hq_; rfl) (by simp only [maxLen]; omega) (by omega) G.size ?_
  intro v28 w29 own6 gr6
  have g6 := gr_grow gr6
  replace hc4 := g6.heap hc4
  replace hc10 := g6.heap hc10
  replace own5 := own_grow own5 g6
  replace hg5 := g6.heap hg5
  replace R5 := R5.grow g6
  replace G := G.tr g6
  clear g6 gr6 own00
  rw [Nat.zero_add, List.nil_append] at own6
  refine stp (r_assign (v := v28) rfl ?_)
  refine WL_nil ?_
  refine W_seq (W_region rfl ?_)
  refine stp (r_move (v := v28) rfl ?_)
  refine stp (r_move_slice rfl ?_)
  refine WL_some (og rfl ?_)
  clear R5
  refine r_append rfl rfl rfl rfl own6 ⟨_, cl, rfl, hcl, hcl2, RL.grow G⟩ (fun q_ hq_ => by obtain ⟨z, _, rfl⟩ := List.mem_map.1 hq_; rfl) (by simp only [maxLen]; omega) (by omega) G.size ?_
  intro v30 w31 own7 gr6
  replace G := G.grown gr6 (own_ge own6)
  replace hc4 := gr_heap gr6 hc4 (own_ne own6 hc4 (by decide))
  replace hc10 := gr_heap gr6 hc10 (own_ne own6 hc10 (by decide))
  replace own5 := own_gr own5 own6 (by decide) gr6
  replace hg5 := gr_heap gr6 hg5 (own_ne own6 hg5 (by decide))
  clear own6 gr6
  have own7' : w31.ownsRow w.heap.size 55 1 v30 (A.getD q [] ++ l).length (wordsV (A.getD q [] ++ l)) := by rw [List.length_append, wordsV, List.map_append]; exact own7
  clear own7
  obtain ⟨ad7, c7, rfl, hc7⟩ := own_shape own7'
  refine stp (r_assign_slice rfl ?_)
  refine WL_nil ?_
  refine W_seq (W_region rfl ?_)
  refine stp (r_move_slice rfl ?_)
  refine stp (r_move_int rfl ?_)
  refine stp (r_move_slice rfl ?_)
  refine WL_some (og rfl ?_)
  refine r_indexAddr (b := g5) (o := 0) rfl rfl (by omega) (by omega) ?_
  rw [Int.toNat_natCast, Nat.zero_add, Nat.mul_one]
  refine stn (r_store1 (v := .slice ad7 (A.getD q [] ++ l).length c7) rfl rfl rfl hg5 (Nat.ble_eq_true_of_le (by omega)) rfl ?_)
  intro w8 hs5 u8
  replace own5 := own_setcell (i := q) (x := .slice ad7 (A.getD q [] ++ l).length c7) own5 hg5 hs5 (by simp)
  replace own7' := own_upd own7' u8 (own_ne own7' hg5 (by decide))
  replace hc4 := u8.heap hc4 (fun he_ => by rw [he_, hg5] at hc4; simp at hc4)
  replace hc10 := u8.heap hc10 (fun he_ => by rw [he_, hg5] at hc10; simp at hc10)
  replace G := G.upd u8 hg5b
  clear hg5 hs5
  have hcp := OwnA.copy (q := q) (u := .slice ad7 (A.getD q [] ++ l).length c7) (ws := A.getD q [] ++ l) (so' := .slice (some ⟨g5, 0, none⟩) (growB A q).length c5) h hbw G hq own7' (own_base own5 hbw)
  have hgA : (growB A q).set q (A.getD q [] ++ l) = growA A q l := by unfold growA; rw [growB_getD]
  rw [hgA] at hcp
  have hnr := Near.more A q l hq
  have hS9 : ∀ s ∈ growA A q l, s.length ≤ 100000 := by
   intro s hm
   obtain ⟨j, hj, rfl⟩ := List.getElem_of_mem hm
   have h1_ := hnr.seg j
   have h2_ := hS.seg j
   rw [len2, getD_at hj] at h1_
   omega
  have hlen9 : (growB A q).length = (growA A q l).length := by rw [growA_length, growB_length]
  clear own5 own7'
  refine WL_nil ?_
  refine W_seq (W_region rfl ?_)
  refine stp (r_move_slice rfl ?_)
  refine stp (r_fieldAddr rfl ?_)
  refine stn (r_store1 (v := .slice (some ⟨g5, 0, none⟩) ((growB A q).length) c5) rfl rfl (by rfl) hc4 (by rfl) (by rfl) ?_)
  intro w32 hc33 u34
  replace hc10 := u34.heap hc10 ne13.symm
  replace hcp := hcp.upd u34 hc4 (by decide) (by decide)
  replace G := G.upd u34 hge6
  clear u34 hc4
  refine WL_nil ?_
  refine W_seq (W_region rfl ?_)
  refine stp (r_fieldAddr rfl ?_)
  refine stp (r_load (v := .bool full) rfl hc33 rfl ?_)
  refine stp (r_move_bool rfl ?_)
  refine WL_some (og_if (s := .bool full) (b := false) (v := .slice ad7 ((A.getD q [] ++ l).length) c7) rfl (wgb_f _) (fun hc35 => ?_) ?_)
  ·
   have hc35_ := hc35
   try simp only [sb] at hc35_
   refine r_move_slice rfl ?_
   exact ⟨rfl, rfl⟩
  refine WL_some (og_if (s := .bool full) (b := false) (v := .int .i64 ((A.getD q [] ++ l).length : Int)) rfl (wgb_f _) (fun hc36 => ?_) ?_)
  ·
   have hc36_ := hc36
   try simp only [sb] at hc36_
   refine r_len rfl rfl (gvt hc36) ?_
   exact ⟨rfl, rfl⟩
  refine WL_some (og_if (s := .bool full) (b := false) (v := .pointer (some ⟨b1, 1, none⟩)) rfl (wgb_f _) (fun hc37 => ?_) ?_)
  ·
   have hc37_ := hc37
   try simp only [sb] at hc37_
   refine r_fieldAddr rfl ?_
   exact ⟨rfl, rfl⟩
  refine WL_some (og_if (s := .bool full) (b := false) (v := .int .i64 lim) rfl (wgb_f _) (fun hc38 => ?_) ?_)
  ·
   have hc38_ := hc38
   try simp only [sb] at hc38_
   refine r_load (v := .int .i64 lim) (gvt hc38) hc33 rfl ?_
   exact ⟨rfl, rfl⟩
  refine WL_some (og_if (s := .bool full) (b := false) (v := .bool (decide (((A.getD q [] ++ l).length : Int) > lim))) rfl (wgb_f _) (fun hc39 => ?_) ?_)
  ·
   have hc39_ := hc39
   try simp only [sb] at hc39_
   refine r_gtr (gvt hc39) (gvt hc39) ?_
   exact ⟨rfl, rfl⟩
  refine stp (r_or2 rfl rfl rfl ?_)
  refine stp (r_move_bool rfl ?_)
  refine WL_some (og_if (s := .bool (full || (decide (((A.getD q [] ++ l).length : Int) > lim)))) (b := false) (v := .slice (some ⟨g5, 0, none⟩) ((growB A q).length) c5) rfl (wgb_f _) (fun hc40 => ?_) ?_)
  ·
   have hc40_ := hc40
   try simp only [sb] at hc40_
   refine r_move_slice rfl ?_
   exact ⟨rfl, rfl⟩
  refine WL_some (og_if (s := .bool (full || (decide (((A.getD q [] ++ l).length : Int) > lim)))) (b := false) (v := .int .i64 ((growB A q).length : Int)) rfl (wgb_f _) (fun hc41 => ?_) ?_)
  ·
   have hc41_ := hc41
   try simp only [sb] at hc41_
   refine r_len rfl rfl (gvt hc41) ?_
   exact ⟨rfl, rfl⟩
  refine WL_some (og_if (s := .bool (full || (decide (((A.getD q [] ++ l).length : Int) > lim)))) (b := false) (v := .bool (decide (((growB A q).length : Int) > 16))) rfl (wgb_f _) (fun hc42 => ?_) ?_)
  ·
   have hc42_ := hc42
   try simp only [sb] at hc42_
   refine r_gtr (gvt hc42) rfl ?_
   exact ⟨rfl, rfl⟩
  refine stp (r_or2 rfl rfl rfl ?_)
  refine stp (r_move_bool rfl ?_)
  refine WL_some (og_if (s := .bool ((full || (decide (((A.getD q [] ++ l).length : Int) > lim))) || (decide (((growB A q).length : Int) > 16)))) (b := false) (v := .slice (some ⟨g5, 0, none⟩) ((growB A q).length) c5) rfl (wgb_f _) (fun hc43 => ?_) ?_)
  ·
   have hc43_ := hc43
   try simp only [sb] at hc43_
   refine r_move_slice rfl ?_
   exact ⟨rfl, rfl⟩
  refine WL_some (og_ifg (s := .bool ((full || (decide (((A.getD q [] ++ l).length : Int) > lim))) || (decide (((growB A q).length : Int) > 16)))) (b := false) (v := .int .i64 (totalP (growA A q l))) rfl (wgb_f _) (fun hc44 => ?_) ?_)
  ·
   have hc44_ := hc44
   try simp only [sb] at hc44_
   exact r_givesA (l := ([.slice (some ⟨g5, 0, none⟩) ((growB A q).length) c5] : List Value)) rfl (by show ([gv (!((full || (decide (((A.getD q [] ++ l).length : Int) > lim))) || (decide (((growB A q).length : Int) > 16)))) (.slice (some ⟨g5, 0, none⟩) ((growB A q).length) c5)] : List Value) = _; rw [gvt hc44]) (awords_calls _ (hcp.rowat (by omega)).2 hlen9.symm (hcp.rows hS9) (by omega) hS9) (fun w2_ g2_ => ⟨rfl, g2_⟩)
  intro w45 g46
  replace hc10 := g46.heap hc10
  replace hcp := hcp.grow g46
  replace hc33 := g46.heap hc33
  replace G := G.tr g46
  clear g46
  refine WL_some (og_if (s := .bool ((full || (decide (((A.getD q [] ++ l).length : Int) > lim))) || (decide (((growB A q).length : Int) > 16)))) (b := false) (v := .bool (decide ((totalP (growA A q l)) > 4096))) rfl (wgb_f _) (fun hc47 => ?_) ?_)
  ·
   have hc47_ := hc47
   try simp only [sb] at hc47_
   refine r_gtr (gvt hc47) rfl ?_
   exact ⟨rfl, rfl⟩
  refine stp (r_or2 rfl rfl rfl ?_)
  refine stp (r_fieldAddr rfl ?_)
  refine stn (r_store1 (v := .bool (((full || (decide (((A.getD q [] ++ l).length : Int) > lim))) || (decide (((growB A q).length : Int) > 16))) || (decide ((totalP (growA A q l)) > 4096)))) rfl rfl (by rfl) hc33 (by rfl) (by rfl) ?_)
  intro w48 hc49 u50
  replace hc10 := u50.heap hc10 ne13.symm
  replace hcp := hcp.upd u50 hc33 (by decide) (by decide)
  replace G := G.upd u50 hge6
  clear u50 hc33
  refine WL_nil ?_
  refine W_seq (W_region rfl ?_)
  refine stp (r_loadAll rfl hc49 (by rfl) ?_)
  refine stn (r_storeAll rfl rfl hc10 (by rfl) (by rfl) (by rfl) ?_)
  intro w51 hc52 u53
  replace hcp := hcp.upd u53 hc10 (by decide) (by decide)
  replace hc49 := u53.heap hc49 ne13
  replace G := G.upd u53 hge12
  clear u53 hc10
  refine WL_nil ?_
  refine W_ret ?_
  have hfo := full_or full ((A.getD q [] ++ l).length : Int) ((growB A q).length : Int) (totalP (growA A q l)) lim
  refine ret1 (res_all rfl hc52 (by rfl)) ⟨⟨_, _, ?_, hcp⟩, G⟩
  rw [hfo]
  simp only [moreP, fullP, hlen9]
  rw [show len2 (growA A q l) q = (A.getD q [] ++ l).length from by simp only [len2]; rw [growA_getD A q q l hq, if_pos rfl]]
  rfl

set_option maxRecDepth 100000 in
theorem rlay_calls : ∀ (n_ : Nat) (w : World) {base s i : Nat} {so : Value} {segs : List Value} {S : Lay} {lim : Int} {c : List Value} {t : Nd} (h : OwnA 34 55 w base so segs S.A) (hbw : base ≤ w.heap.size) (T : NodeR w c t) (hR : t.fine) (hone : 1 ≤ S.A.length) (hl1 : 1 ≤ lim) (hl2 : lim ≤ 4096) (hF : S.full = false → Fit lim S.A ∧ s < S.A.length ∧ i < len2 S.A s), t.sz ≤ n_ → Calls Try.prog 36 #[.agg #[so, .int .i64 lim, .bool S.full], .agg c.toArray, .int .i64 (s : Int), .int .i64 (i : Int)] w (Ret fun v w' => LayV 34 55 w' base lim v (t.lay lim S s i) ∧ Grow w w') := by
 intro n_
 induction n_ with
 | zero => intro w base s i so segs S lim c t h hbw T hR hone hl1 hl2 hF hm_; exact absurd hm_ (by have := t.sz_pos; omega)
 | succ n_ ih_ =>
 intro w base s i so segs S lim c t h hbw T hR hone hl1 hl2 hF hm_
 obtain ⟨ads, ns, cs, rfl⟩ := own_slice h.out
 have Tk := T
 obtain @⟨kind, size, words, bytes, kids, ws, bs, ks, kc, hk, hs, hW, hwr, hB, hbr, hK, hKs⟩ := T
 obtain ⟨aw, cw, rfl, hcw, hcw2, RW⟩ := hW
 obtain ⟨ab, cb, rfl, hcb, hcb2, RB⟩ := hB
 obtain ⟨ak, ck, rfl, hck, hck2, RK⟩ := hK
 have lw := RW.lim
 have lb := RB.lim
 have lk := RK.lim
 simp only [inR] at hk hs
 have T0 := Tk
 obtain ⟨hkd, hlw, hlb, hlk, hnn, hnm, hkn, hb1⟩ := Nd.own_b (Nd.fine_own hR)
 have G := Grow.rfl' w
 refine calls_ret Try.func36 Try.ntmps36 Try.results36 rfl rfl ?_
 refine W_seq (W_region rfl ?_)
 refine WL_some (og rfl ?_)
 (first | refine r_box_agg rfl ?_ | refine r_box_int rfl ?_ | refine r_box_slice rfl ?_ | refine r_box rfl rfl ?_)
 intro b1 w2 hb3 hc4 g5
 have hge6 := Nat.le_trans G.size hb3
 replace h := h.grow g5
 replace G := G.tr g5
 clear g5 hb3
 refine WL_some (og rfl ?_)
 (first | refine r_box_agg rfl ?_ | refine r_box_int rfl ?_ | refine r_box_slice rfl ?_ | refine r_box rfl rfl ?_)
 intro b7 w8 hb9 hc10 g11
 have hge12 := Nat.le_trans G.size hb9
 have ne13 := Nat.ne_of_lt (Nat.lt_of_lt_of_le (lt_of_heap hc4) hb9)
 replace h := h.grow g11
 replace hc4 := g11.heap hc4
 replace G := G.tr g11
 clear g11 hb9
 refine stp (r_alloc ?_)
 intro b14 w15 hb16 hc17 g18
 refine WL_nil ?_
 refine W_seq ?_
 refine W_seq (W_region rfl ?_)
 refine stp (r_fieldAddr rfl ?_)
 have hge19 := Nat.le_trans G.size hb16
 have ne20 := Nat.ne_of_lt (Nat.lt_of_lt_of_le (lt_of_heap hc4) hb16)
 have ne21 := Nat.ne_of_lt (Nat.lt_of_lt_of_le (lt_of_heap hc10) hb16)
 replace h := h.grow g18
 replace hc4 := g18.heap hc4
 replace hc10 := g18.heap hc10
 replace G := G.tr g18
 clear g18 hb16
 refine stp (r_load (v := .int .i64 kind) rfl hc10 rfl ?_)
 refine stp (r_eql rfl rfl ?_)
 refine stp (r_move_bool rfl ?_)
 refine WL_some (og_if (s := .bool (decide (kind = 0))) (b := false) (v := .pointer (some ⟨b1, 2, none⟩)) rfl (wgb_f _) (fun hc22 => ?_) ?_)
 ·
  have hc22_ := hc22
  try simp only [sb] at hc22_
  refine r_fieldAddr rfl ?_
  exact ⟨rfl, rfl⟩
 refine WL_some (og_if (s := .bool (decide (kind = 0))) (b := false) (v := .bool S.full) rfl (wgb_f _) (fun hc23 => ?_) ?_)
 ·
  have hc23_ := hc23
  try simp only [sb] at hc23_
  refine r_load (v := .bool S.full) (gvt hc23) hc4 rfl ?_
  exact ⟨rfl, rfl⟩
 refine stp (r_or2 rfl rfl rfl ?_)
 refine WL_nil ?_
 refine W_cond2 (b := ((decide (kind = 0)) || S.full)) rfl (fun h1 => ?_) (fun h1 => ?_)
 ·-- true
  simp only [sb] at h1
  have hl : (Nd.mk kind size words bytes kids).lay lim S s i = S := by simp only [Nd.lay]; rw [if_pos h1]
  refine W_seq (W_region rfl ?_)
  refine stp (r_loadAll rfl hc4 (by rfl) ?_)
  refine stn (r_storeAll rfl rfl hc17 (by rfl) (by rfl) (by rfl) ?_)
  intro w24 hc25 u26
  replace h := h.upd u26 hc17 (by decide) (by decide)
  replace hc4 := u26.heap hc4 ne20
  replace hc10 := u26.heap hc10 ne21
  replace G := G.upd u26 hge19
  clear u26 hc17
  refine WL_nil ?_
  refine W_ret ?_
  rw [hl]
  refine ret1 (res_all rfl hc25 (by rfl)) ⟨⟨_, _, rfl, h⟩, G⟩
 ·-- false
  simp only [sb] at h1
  obtain ⟨h1k, h1f⟩ := h1
  obtain ⟨F, hsA, hiA⟩ := hF h1f
  have FS := F.sml hl2
  have hA16 := F.most
  have htn := totalP_nn S.A
  refine W_skip ?_
  refine W_seq (W_region rfl ?_)
  refine stp (r_loadAll rfl hc10 (by rfl) ?_)
  refine stp (r_gives (v := .int .i64 ((Nd.mk kind size words bytes kids).need)) rfl (rneed_calls _ (T0.grow G)) ?_)
  intro w27 g28
  replace h := h.grow g28
  replace hc4 := g28.heap hc4
  replace hc10 := g28.heap hc10
  replace hc17 := g28.heap hc17
  replace G := G.tr g28
  clear g28
  refine stp (r_assign_int rfl ?_)
  refine WL_nil ?_
  refine W_seq ?_
  refine W_seq (W_region rfl ?_)
  refine stp (r_move_int rfl ?_)
  refine stp (r_eql rfl rfl ?_)
  refine WL_nil ?_
  refine W_cond2 (b := (decide (((Nd.mk kind size words bytes kids).need) = 0))) rfl (fun h2 => ?_) (fun h2 => ?_)
  ·-- true
   replace h2 := of_decide_eq_true h2
   refine W_seq (W_region rfl ?_)
   refine stp (r_assign_int rfl ?_)
   refine WL_nil ?_
   refine W_seq ?_
   refine W_seq (W_region rfl ?_)
   refine stp (r_fieldAddr rfl ?_)
   refine stp (r_load (v := .int .i64 kind) rfl hc10 rfl ?_)
   refine stp (r_eql rfl rfl ?_)
   refine WL_nil ?_
   refine W_cond2 (b := (decide (kind = 1))) rfl (fun h3 => ?_) (fun h3 => ?_)
   ·-- true
    replace h3 := of_decide_eq_true h3
    have hl : (Nd.mk kind size words bytes kids).lay lim S s i = ⟨setP S.A s i ((Nd.mk kind size words bytes kids).near (-1)), S.full⟩ := by simp only [Nd.lay]; rw [if_neg (by simp [h1k, h1f]), if_pos h2, if_pos h3]
    refine W_region rfl ?_
    refine stp (r_assign_int rfl ?_)
    refine WL_nil ?_
    refine W_seq ?_
    refine W_any 7 [[], [], [], [], [], [1, 0], [5, 4, 3, 2, 1, 0]] mixed (by kernel_rfl) (by kernel_rfl) (by kernel_rfl) ?_
    intro w29 g30
    replace h := h.grow g30
    replace hc4 := g30.heap hc4
    replace hc10 := g30.heap hc10
    replace hc17 := g30.heap hc17
    replace G := G.tr g30
    clear g30
    apply AO_ex
    ·intro w_ g_; refine og rfl ?_; refine r_loadAll rfl (g_.heap hc4) (by rfl) ?_; exact ⟨Grow.rfl' _, rfl⟩
    apply AO_ex
    ·intro w_ g_; refine og rfl ?_; refine r_move_int rfl ?_; exact ⟨Grow.rfl' _, rfl⟩
    apply AO_ex
    ·intro w_ g_; refine og rfl ?_; refine r_move_int rfl ?_; exact ⟨Grow.rfl' _, rfl⟩
    apply AO_ex
    ·intro w_ g_; refine og rfl ?_; refine r_loadAll rfl (g_.heap hc10) (by rfl) ?_; exact ⟨Grow.rfl' _, rfl⟩
    apply AO_ex
    ·intro w_ g_; refine og rfl ?_; refine r_move_int rfl ?_; exact ⟨Grow.rfl' _, rfl⟩
    apply AO_ex
    ·intro w_ g_; refine og rfl ?_; exact r_gives (v := .int .u64 ((Nd.mk kind size words bytes kids).near (-1))) rfl (rnear_calls _ (T0.grow (G.tr g_)) (-1) (by simp only [Nd.kind]; omega)) (fun w2_ g2_ => ⟨g2_, rfl⟩)
    refine AO_so (fun w_ v_ => LayV 34 55 w_ base lim v_ (⟨setP (S.A) s i ((Nd.mk kind size words bytes kids).near (-1)), S.full⟩)) (fun _ _ _ g_ h_ => h_.grow g_) ?_ ?_
    ·intro w_ g_
     refine og rfl ?_
     refine r_call rfl (rset_calls _ (h.grow g_) (Nat.le_trans hbw (G.tr g_).size) FS hsA hiA) ?_
     rintro v2_ w2_ ⟨hl_, g2_⟩
     exact ⟨g2_, hl_⟩
    refine AO_nil ?_
    intro w31 g32
    replace h := h.grow g32
    replace hc4 := g32.heap hc4
    replace hc10 := g32.heap hc10
    replace hc17 := g32.heap hc17
    replace G := G.tr g32
    clear g32
    intro v_p hv_p
    obtain ⟨so_p, segs_p, rfl, h_p⟩ := hv_p
    obtain ⟨ad_p, n_p, c_p, rfl⟩ := own_slice h_p.out
    refine stn (r_storeAll rfl rfl hc17 (by rfl) (by rfl) (by rfl) ?_)
    intro w33 hc34 u35
    replace h := h.upd u35 hc17 (by decide) (by decide)
    replace hc4 := u35.heap hc4 ne20
    replace hc10 := u35.heap hc10 ne21
    replace h_p := h_p.upd u35 hc17 (by decide) (by decide)
    replace G := G.upd u35 hge19
    clear u35 hc17
    refine WL_nil ?_
    refine W_ret ?_
    rw [hl]
    refine ret1 (res_all rfl hc34 (by rfl)) ⟨⟨_, _, rfl, h_p⟩, G⟩
   ·-- false
    replace h3 := of_decide_eq_false h3
    have hl : (Nd.mk kind size words bytes kids).lay lim S s i = ⟨setP S.A s i ((Nd.mk kind size words bytes kids).near (0)), S.full⟩ := by simp only [Nd.lay]; rw [if_neg (by simp [h1k, h1f]), if_pos h2, if_neg h3]
    refine W_skip ?_
    refine W_seq ?_
    refine W_any 7 [[], [], [], [], [], [1, 0], [5, 4, 3, 2, 1, 0]] mixed (by kernel_rfl) (by kernel_rfl) (by kernel_rfl) ?_
    intro w36 g37
    replace h := h.grow g37
    replace hc4 := g37.heap hc4
    replace hc10 := g37.heap hc10
    replace hc17 := g37.heap hc17
    replace G := G.tr g37
    clear g37
    apply AO_ex
    ·intro w_ g_; refine og rfl ?_; refine r_loadAll rfl (g_.heap hc4) (by rfl) ?_; exact ⟨Grow.rfl' _, rfl⟩
    apply AO_ex
    ·intro w_ g_; refine og rfl ?_; refine r_move_int rfl ?_; exact ⟨Grow.rfl' _, rfl⟩
    apply AO_ex
    ·intro w_ g_; refine og rfl ?_; refine r_move_int rfl ?_; exact ⟨Grow.rfl' _, rfl⟩
    apply AO_ex
    ·intro w_ g_; refine og rfl ?_; refine r_loadAll rfl (g_.heap hc10) (by rfl) ?_; exact ⟨Grow.rfl' _, rfl⟩
    apply AO_ex
    ·intro w_ g_; refine og rfl ?_; refine r_move_int rfl ?_; exact ⟨Grow.rfl' _, rfl⟩
    apply AO_ex
    ·intro w_ g_; refine og rfl ?_; exact r_gives (v := .int .u64 ((Nd.mk kind size words bytes kids).near 0)) rfl (rnear_calls _ (T0.grow (G.tr g_)) (0) (by simp only [Nd.kind]; omega)) (fun w2_ g2_ => ⟨g2_, rfl⟩)
    refine AO_so (fun w_ v_ => LayV 34 55 w_ base lim v_ (⟨setP (S.A) s i ((Nd.mk kind size words bytes kids).near (0)), S.full⟩)) (fun _ _ _ g_ h_ => h_.grow g_) ?_ ?_
    ·intro w_ g_
     refine og rfl ?_
     refine r_call rfl (rset_calls _ (h.grow g_) (Nat.le_trans hbw (G.tr g_).size) FS hsA hiA) ?_
     rintro v2_ w2_ ⟨hl_, g2_⟩
     exact ⟨g2_, hl_⟩
    refine AO_nil ?_
    intro w38 g39
    replace h := h.grow g39
    replace hc4 := g39.heap hc4
    replace hc10 := g39.heap hc10
    replace hc17 := g39.heap hc17
    replace G := G.tr g39
    clear g39
    intro v_p hv_p
    obtain ⟨so_p, segs_p, rfl, h_p⟩ := hv_p
    obtain ⟨ad_p, n_p, c_p, rfl⟩ := own_slice h_p.out
    refine stn (r_storeAll rfl rfl hc17 (by rfl) (by rfl) (by rfl) ?_)
    intro w40 hc41 u42
    replace h := h.upd u42 hc17 (by decide) (by decide)
    replace hc4 := u42.heap hc4 ne20
    replace hc10 := u42.heap hc10 ne21
    replace h_p := h_p.upd u42 hc17 (by decide) (by decide)
    replace G := G.upd u42 hge19
    clear u42 hc17
    refine WL_nil ?_
    refine W_ret ?_
    rw [hl]
    refine ret1 (res_all rfl hc41 (by rfl)) ⟨⟨_, _, rfl, h_p⟩, G⟩
  ·-- false
   replace h2 := of_decide_eq_false h2
   have hp0 := placeP_ok lim (Nd.mk kind size words bytes kids) S s i F.one
   have hpn := placeP_near lim (Nd.mk kind size words bytes kids) S s i F.one
   obtain ⟨hlast, hlastE⟩ := lastP_lt F.one
   have hlseg := F.seg (lastP S.A)
   have hl : (Nd.mk kind size words bytes kids).lay lim S s i = Nd.lays lim kids (moreP lim (placeP lim (Nd.mk kind size words bytes kids) S s i).S (placeP lim (Nd.mk kind size words bytes kids) S s i).seg (Nd.mk kind size words bytes kids).content) (placeP lim (Nd.mk kind size words bytes kids) S s i).seg ((placeP lim (Nd.mk kind size words bytes kids) S s i).at_ + ((Nd.mk kind size words bytes kids).need.toNat - kids.length)) := by simp only [Nd.lay]; rw [if_neg (by simp [h1k, h1f]), if_neg h2]
   rw [hl]
   clear hl
   obtain ⟨ado, co, sa, sc, hso_, hco, hco2, RO, hsf⟩ := h.fn (by omega)
   cases hso_
   refine W_skip ?_
   refine W_seq (W_region rfl ?_)
   refine stp (r_fieldAddr rfl ?_)
   refine stp (r_load (v := .slice ads S.A.length cs) rfl hc4 rfl ?_)
   refine stp (r_len rfl rfl rfl ?_)
   refine WL_some (og rfl ?_)
   refine r_sub rfl rfl ?_ ?_; constructor <;> omega
   rw [hlastE]
   refine stp (r_assign_int rfl ?_)
   refine WL_nil ?_
   refine W_seq (W_region rfl ?_)
   refine stp (r_move_int rfl ?_)
   refine stp (r_assign_int rfl ?_)
   refine WL_nil ?_
   refine W_seq (W_region rfl ?_)
   refine stp (r_fieldAddr rfl ?_)
   refine stp (r_load (v := .slice ads S.A.length cs) rfl hc4 rfl ?_)
   refine stp (r_move_int rfl ?_)
   refine stp (r_indexN RO rfl rfl ?_ ?_); omega
   refine stp (r_loadR (v := .slice (sa (lastP S.A)) (len2 S.A (lastP S.A)) (sc (lastP S.A))) (m := 0) RO rfl (by rw [Nat.mul_one]; exact (hsf _ (by assumption)).1) ?_)
   refine stp (r_len rfl rfl rfl ?_)
   refine stp (r_assign_int rfl ?_)
   refine WL_nil ?_
   refine W_cut1 (fun e_ w_ => ∃ (ad4 : Option Addr) (n4 : Nat) (c4 : Nat) (segs4 : List Value), Fr [(4, .pointer (some ⟨b1, 0, none⟩)), (5, .pointer (some ⟨b7, 0, none⟩)), (8, .pointer (some ⟨b14, 0, none⟩)), (9, .int .i64 ((Nd.mk kind size words bytes kids).need)), (12, .int .i64 ((placeP lim (Nd.mk kind size words bytes kids) S s i).seg : Int)), (13, .int .i64 ((placeP lim (Nd.mk kind size words bytes kids) S s i).at_ : Int))] e_ ∧ (w_.heap[b7]? = some (.cells #[.int .i64 kind, .int .i64 size, .slice aw words.length cw, .slice ab bytes.length cb, .slice ak kids.length ck] 37 (0, 0))) ∧ (w_.heap[b14]? = some (.cells #[.slice none 0 0, .int .i64 0, .bool false] 78 (0, 0))) ∧ (w_.heap[b1]? = some (.cells #[.slice ad4 n4 c4, .int .i64 lim, .bool (placeP lim (Nd.mk kind size words bytes kids) S s i).S.full] 78 (0, 0))) ∧ (OwnA 34 55 w_ base (.slice ad4 n4 c4) segs4 ((placeP lim (Nd.mk kind size words bytes kids) S s i).S.A)) ∧ Grow w w_) ?_ ?_
   ·-- the parts
    refine W_seq (W_region rfl ?_)
    refine stp (r_move_int rfl ?_)
    refine stp (r_move_int rfl ?_)
    refine stp (r_eql rfl rfl ?_)
    refine stp (r_move_bool rfl ?_)
    refine WL_some (og_if (s := .bool (decide ((s : Int) = (lastP S.A : Int)))) (b := true) (v := .int .i64 ((len2 S.A (lastP S.A)) : Int)) rfl (wgb_t _) (fun hc43 => ?_) ?_)
    ·
     have hc43_ := of_decide_eq_true hc43
     refine r_move_int rfl ?_
     exact ⟨rfl, rfl⟩
    refine WL_some (og_if (s := .bool (decide ((s : Int) = (lastP S.A : Int)))) (b := true) (v := .int .i64 ((Nd.mk kind size words bytes kids).need)) rfl (wgb_t _) (fun hc44 => ?_) ?_)
    ·
     have hc44_ := of_decide_eq_true hc44
     refine r_move_int rfl ?_
     exact ⟨rfl, rfl⟩
    refine WL_some (og_if (s := .bool (decide ((s : Int) = (lastP S.A : Int)))) (b := true) (v := .int .i64 (((len2 S.A (lastP S.A)) : Int) + ((Nd.mk kind size words bytes kids).need))) rfl (wgb_t _) (fun hc45 => ?_) ?_)
    ·
     have hc45_ := of_decide_eq_true hc45
     refine r_add (gvt hc45) (gvt hc45) ?_ ?_; constructor <;> omega
     exact ⟨rfl, rfl⟩
    refine WL_some (og_if (s := .bool (decide ((s : Int) = (lastP S.A : Int)))) (b := true) (v := .pointer (some ⟨b1, 1, none⟩)) rfl (wgb_t _) (fun hc46 => ?_) ?_)
    ·
     have hc46_ := of_decide_eq_true hc46
     refine r_fieldAddr rfl ?_
     exact ⟨rfl, rfl⟩
    refine WL_some (og_if (s := .bool (decide ((s : Int) = (lastP S.A : Int)))) (b := true) (v := .int .i64 lim) rfl (wgb_t _) (fun hc47 => ?_) ?_)
    ·
     have hc47_ := of_decide_eq_true hc47
     refine r_load (v := .int .i64 lim) (gvt hc47) hc4 rfl ?_
     exact ⟨rfl, rfl⟩
    refine WL_some (og_if (s := .bool (decide ((s : Int) = (lastP S.A : Int)))) (b := true) (v := .bool (decide ((((len2 S.A (lastP S.A)) : Int) + ((Nd.mk kind size words bytes kids).need)) ≤ lim))) rfl (wgb_t _) (fun hc48 => ?_) ?_)
    ·
     have hc48_ := of_decide_eq_true hc48
     refine r_leq (gvt hc48) (gvt hc48) ?_
     exact ⟨rfl, rfl⟩
    refine stp (r_and2 rfl rfl rfl ?_)
    refine WL_nil ?_
    refine W_cond2 (b := ((decide ((s : Int) = (lastP S.A : Int))) && (decide ((((len2 S.A (lastP S.A)) : Int) + ((Nd.mk kind size words bytes kids).need)) ≤ lim)))) rfl (fun h3 => ?_) (fun h3 => ?_)
    ·-- true
     simp only [sb] at h3
     have hsl : s = lastP S.A := by omega
     have hi2 := hiA
     rw [hsl] at hi2
     have hp : (placeP lim (Nd.mk kind size words bytes kids) S s i) = ⟨⟨setP S.A s i ((Nd.mk kind size words bytes kids).near ((len2 S.A (lastP S.A) : Int) - i - 1)), S.full⟩, lastP S.A, len2 S.A (lastP S.A)⟩ := by unfold placeP; rw [if_pos ⟨by omega, h3.2⟩]
     refine W_any 10 [[], [], [], [], [], [], [1, 0], [2, 1, 0], [4, 3, 2, 1, 0], [8, 7, 6, 5, 4, 3, 2, 1, 0]] mixed (by kernel_rfl) (by kernel_rfl) (by kernel_rfl) ?_
     intro w49 g50
     replace hc10 := g50.heap hc10
     replace hc17 := g50.heap hc17
     replace hc4 := g50.heap hc4
     replace h := h.grow g50
     replace RO := RO.grow g50
     replace G := G.tr g50
     clear g50
     apply AO_ex
     ·intro w_ g_; refine og rfl ?_; refine r_loadAll rfl (g_.heap hc4) (by rfl) ?_; exact ⟨Grow.rfl' _, rfl⟩
     apply AO_ex
     ·intro w_ g_; refine og rfl ?_; refine r_move_int rfl ?_; exact ⟨Grow.rfl' _, rfl⟩
     apply AO_ex
     ·intro w_ g_; refine og rfl ?_; refine r_move_int rfl ?_; exact ⟨Grow.rfl' _, rfl⟩
     apply AO_ex
     ·intro w_ g_; refine og rfl ?_; refine r_loadAll rfl (g_.heap hc10) (by rfl) ?_; exact ⟨Grow.rfl' _, rfl⟩
     apply AO_ex
     ·intro w_ g_; refine og rfl ?_; refine r_move_int rfl ?_; exact ⟨Grow.rfl' _, rfl⟩
     apply AO_ex
     ·intro w_ g_; refine og rfl ?_; refine r_move_int rfl ?_; exact ⟨Grow.rfl' _, rfl⟩
     apply AO_ex
     ·intro w_ g_; refine og rfl ?_; refine r_sub rfl rfl ?_ ?_; constructor <;> omega; exact ⟨Grow.rfl' _, rfl⟩
     apply AO_ex
     ·intro w_ g_; refine og rfl ?_; refine r_sub rfl rfl ?_ ?_; constructor <;> omega; exact ⟨Grow.rfl' _, rfl⟩
     apply AO_ex
     ·intro w_ g_; refine og rfl ?_; exact r_gives (v := .int .u64 ((Nd.mk kind size words bytes kids).near ((((len2 S.A (lastP S.A)) : Int) - (i : Int)) - 1))) rfl (rnear_calls _ (T0.grow (G.tr g_)) ((((len2 S.A (lastP S.A)) : Int) - (i : Int)) - 1) (by simp only [Nd.kind]; omega)) (fun w2_ g2_ => ⟨g2_, rfl⟩)
     refine AO_so (fun w_ v_ => LayV 34 55 w_ base lim v_ (⟨setP (S.A) s i ((Nd.mk kind size words bytes kids).near ((len2 S.A (lastP S.A) : Int) - i - 1)), S.full⟩)) (fun _ _ _ g_ h_ => h_.grow g_) ?_ ?_
     ·intro w_ g_
      refine og rfl ?_
      refine r_call rfl (rset_calls _ (h.grow g_) (Nat.le_trans hbw (G.tr g_).size) FS hsA hiA) ?_
      rintro v2_ w2_ ⟨hl_, g2_⟩
      exact ⟨g2_, hl_⟩
     refine AO_nil ?_
     intro w51 g52
     replace hc10 := g52.heap hc10
     replace hc17 := g52.heap hc17
     replace hc4 := g52.heap hc4
     replace h := h.grow g52
     replace RO := RO.grow g52
     replace G := G.tr g52
     clear g52
     intro v_p hv_p
     obtain ⟨so_p, segs_p, rfl, h_p⟩ := hv_p
     obtain ⟨ad_p, n_p, c_p, rfl⟩ := own_slice h_p.out
     refine stn (r_storeAll rfl rfl hc4 (by rfl) (by rfl) (by rfl) ?_)
     intro w53 hc54 u55
     replace hc10 := u55.heap hc10 ne13.symm
     replace hc17 := u55.heap hc17 ne20.symm
     replace h := h.upd u55 hc4 (by decide) (by decide)
     replace h_p := h_p.upd u55 hc4 (by decide) (by decide)
     replace G := G.upd u55 hge6
     clear u55 hc4
     refine WL_nil ?_
     rw [hp]
     exact ⟨_, _, _, _, fr_of ⟨rfl, rfl, rfl, rfl, rfl, rfl, trivial⟩, hc10, hc17, hc54, h_p, G⟩
    ·-- false
     simp only [sb] at h3
     refine W_seq ?_
     refine W_seq (W_region rfl ?_)
     refine stp (r_move_int rfl ?_)
     refine stp (r_move_int rfl ?_)
     refine stp (r_eql rfl rfl ?_)
     refine stp (r_move_bool rfl ?_)
     refine WL_some (og_if (s := .bool (decide ((s : Int) = (lastP S.A : Int)))) (b := false) (v := .int .i64 ((len2 S.A (lastP S.A)) : Int)) rfl (wgb_f _) (fun hc56 => ?_) ?_)
     ·
      have hc56_ := hc56
      try simp only [sb] at hc56_
      refine r_move_int rfl ?_
      exact ⟨rfl, rfl⟩
     refine WL_some (og_if (s := .bool (decide ((s : Int) = (lastP S.A : Int)))) (b := false) (v := .int .i64 ((Nd.mk kind size words bytes kids).need)) rfl (wgb_f _) (fun hc57 => ?_) ?_)
     ·
      have hc57_ := hc57
      try simp only [sb] at hc57_
      refine r_move_int rfl ?_
      exact ⟨rfl, rfl⟩
     refine WL_some (og_if (s := .bool (decide ((s : Int) = (lastP S.A : Int)))) (b := false) (v := .int .i64 (((len2 S.A (lastP S.A)) : Int) + ((Nd.mk kind size words bytes kids).need))) rfl (wgb_f _) (fun hc58 => ?_) ?_)
     ·
      have hc58_ := hc58
      try simp only [sb] at hc58_
      refine r_add (gvt hc58) (gvt hc58) ?_ ?_; constructor <;> omega
      exact ⟨rfl, rfl⟩
     refine WL_some (og_if (s := .bool (decide ((s : Int) = (lastP S.A : Int)))) (b := false) (v := .int .i64 ((((len2 S.A (lastP S.A)) : Int) + ((Nd.mk kind size words bytes kids).need)) + 1)) rfl (wgb_f _) (fun hc59 => ?_) ?_)
     ·
      have hc59_ := hc59
      try simp only [sb] at hc59_
      refine r_add (gvt hc59) rfl ?_ ?_; constructor <;> omega
      exact ⟨rfl, rfl⟩
     refine WL_some (og_if (s := .bool (decide ((s : Int) = (lastP S.A : Int)))) (b := false) (v := .pointer (some ⟨b1, 1, none⟩)) rfl (wgb_f _) (fun hc60 => ?_) ?_)
     ·
      have hc60_ := hc60
      try simp only [sb] at hc60_
      refine r_fieldAddr rfl ?_
      exact ⟨rfl, rfl⟩
     refine WL_some (og_if (s := .bool (decide ((s : Int) = (lastP S.A : Int)))) (b := false) (v := .int .i64 lim) rfl (wgb_f _) (fun hc61 => ?_) ?_)
     ·
      have hc61_ := hc61
      try simp only [sb] at hc61_
      refine r_load (v := .int .i64 lim) (gvt hc61) hc4 rfl ?_
      exact ⟨rfl, rfl⟩
     refine WL_some (og_if (s := .bool (decide ((s : Int) = (lastP S.A : Int)))) (b := false) (v := .bool (decide (((((len2 S.A (lastP S.A)) : Int) + ((Nd.mk kind size words bytes kids).need)) + 1) > lim))) rfl (wgb_f _) (fun hc62 => ?_) ?_)
     ·
      have hc62_ := hc62
      try simp only [sb] at hc62_
      refine r_gtr (gvt hc62) (gvt hc62) ?_
      exact ⟨rfl, rfl⟩
     refine stp (r_or2 rfl rfl rfl ?_)
     refine WL_nil ?_
     refine W_cond2 (b := ((decide ((s : Int) = (lastP S.A : Int))) || (decide (((((len2 S.A (lastP S.A)) : Int) + ((Nd.mk kind size words bytes kids).need)) + 1) > lim)))) rfl (fun h4 => ?_) (fun h4 => ?_)
     ·-- true
      simp only [sb] at h4
      have hp : (placeP lim (Nd.mk kind size words bytes kids) S s i) = ⟨moreP lim ⟨setP S.A s i (farP ((lastP S.A : Int) + 1) 0), S.full⟩ (lastP S.A + 1) [(Nd.mk kind size words bytes kids).near 0], lastP S.A + 1, 1⟩ := by unfold placeP; rw [if_neg (by omega), if_pos (by simp only [newSeg, Bool.or_eq_true, decide_eq_true_eq]; omega)]
      have hqc0 : ((lastP S.A + 1 : Nat) : Int) = ((lastP S.A : Int) + 1) := by omega
      refine W_seq (W_region rfl ?_)
      refine stp (r_move_int rfl ?_)
      refine stp (r_add rfl rfl ?_ ?_); constructor <;> omega
      refine stp (r_assign_int rfl ?_)
      refine WL_nil ?_
      refine W_region rfl ?_
      refine stp (r_assign_int rfl ?_)
      refine WL_nil ?_
      refine W_seq ?_
      refine W_any 12 [[], [], [], [], [], [1, 0], [5, 4, 3, 2, 1, 0], [], [], [8, 7, 6, 5, 4, 3, 2, 0], [9, 8, 7, 6, 5, 4, 3, 1, 0], [10, 9, 8, 7, 6, 5, 4, 3, 2, 1, 0]] mixed (by kernel_rfl) (by kernel_rfl) (by kernel_rfl) ?_
      intro w63 g64
      replace hc10 := g64.heap hc10
      replace hc17 := g64.heap hc17
      replace hc4 := g64.heap hc4
      replace h := h.grow g64
      replace RO := RO.grow g64
      replace G := G.tr g64
      clear g64
      apply AO_ex
      ·intro w_ g_; refine og rfl ?_; refine r_loadAll rfl (g_.heap hc4) (by rfl) ?_; exact ⟨Grow.rfl' _, rfl⟩
      apply AO_ex
      ·intro w_ g_; refine og rfl ?_; refine r_move_int rfl ?_; exact ⟨Grow.rfl' _, rfl⟩
      apply AO_ex
      ·intro w_ g_; refine og rfl ?_; refine r_move_int rfl ?_; exact ⟨Grow.rfl' _, rfl⟩
      apply AO_ex
      ·intro w_ g_; refine og rfl ?_; refine r_move_int rfl ?_; exact ⟨Grow.rfl' _, rfl⟩
      apply AO_ex
      ·intro w_ g_; refine og rfl ?_; refine r_move_int rfl ?_; exact ⟨Grow.rfl' _, rfl⟩
      apply AO_ex
      ·intro w_ g_; refine og rfl ?_; exact r_gives (v := .int .u64 (farP ((lastP S.A : Int) + 1) 0)) rfl (rfar_calls _ ((lastP S.A : Int) + 1) 0) (fun w2_ g2_ => ⟨g2_, rfl⟩)
      refine AO_so (fun w_ v_ => LayV 34 55 w_ base lim v_ (⟨setP (S.A) s i (farP ((lastP S.A : Int) + 1) 0), S.full⟩)) (fun _ _ _ g_ h_ => h_.grow g_) ?_ ?_
      ·intro w_ g_
       refine og rfl ?_
       refine r_call rfl (rset_calls _ (h.grow g_) (Nat.le_trans hbw (G.tr g_).size) FS hsA hiA) ?_
       rintro v2_ w2_ ⟨hl_, g2_⟩
       exact ⟨g2_, hl_⟩
      apply AO_ex
      ·intro w_ g_; refine og rfl ?_; refine r_move_int rfl ?_; exact ⟨Grow.rfl' _, rfl⟩
      apply AO_ex
      ·intro w_ g_; refine og rfl ?_; refine r_loadAll rfl (g_.heap hc10) (by rfl) ?_; exact ⟨Grow.rfl' _, rfl⟩
      apply AO_ex
      ·intro w_ g_; intro v6_ hv6_; show OpG _ _ _ _ _ _; refine og rfl ?_; exact r_gives (v := .int .u64 ((Nd.mk kind size words bytes kids).near 0)) rfl (rnear_calls _ (T0.grow (G.tr g_)) (0) (by simp only [Nd.kind]; omega)) (fun w2_ g2_ => ⟨g2_, rfl⟩)
      refine AO_so (fun w_ v_ => Row w_ 1 v_ 1 (wordsV [(Nd.mk kind size words bytes kids).near 0])) (fun _ _ _ g_ h_ => h_.grow g_) ?_ ?_
      ·intro w_ g_
       intro v6_ hv6_; show OpG _ _ _ _ _ _
       refine og rfl ?_
       refine r_buildSlice (cs := #[.int .u64 ((Nd.mk kind size words bytes kids).near 0)]) (el := 55) (fun w => by kernel_rfl) ?_
       intro bs_ w2_ hb_ hc_ g2_
       exact ⟨g2_, Row.of_block (n := 1) hc_ rfl rfl (by omega)⟩
      refine AO_so (fun w_ v_ => LayV 34 55 w_ base lim v_ (moreP lim ⟨setP S.A s i (farP ((lastP S.A : Int) + 1) 0), S.full⟩ (lastP S.A + 1) [(Nd.mk kind size words bytes kids).near 0])) (fun _ _ _ g_ h_ => h_.grow g_) ?_ ?_
      ·intro w_ g_
       intro v6_ hv6_; intro v10_ hv10_; show OpG _ _ _ _ _ _
       refine og rfl ?_
       obtain ⟨so_p, segs_p, rfl, h_p⟩ := hv6_
       have hqc : ((lastP S.A + 1 : Nat) : Int) = ((lastP S.A : Int) + 1) := by omega
       have hcal := rmore_calls _ (q := lastP S.A + 1) (lim := lim) (full := S.full) (l := [(Nd.mk kind size words bytes kids).near 0]) h_p (Nat.le_trans hbw (G.tr g_).size) (FS.set s i (farP ((lastP S.A : Int) + 1) 0)) (by rw [setP_length]; omega) hv10_ (by simp)
       rw [hqc] at hcal
       refine r_call rfl hcal ?_
       rintro v2_ w2_ ⟨hl_, g2_⟩
       exact ⟨g2_, hl_⟩
      refine AO_nil ?_
      intro w65 g66
      replace hc10 := g66.heap hc10
      replace hc17 := g66.heap hc17
      replace hc4 := g66.heap hc4
      replace h := h.grow g66
      replace RO := RO.grow g66
      replace G := G.tr g66
      clear g66
      intro v_p hv_p
      intro v_l hv_l
      intro v_m hv_m
      obtain ⟨so_m, segs_m, rfl, h_m⟩ := hv_m
      obtain ⟨ad_m, n_m, c_m, rfl⟩ := own_slice h_m.out
      refine stn (r_storeAll rfl rfl hc4 (by rfl) (by rfl) (by rfl) ?_)
      intro w67 hc68 u69
      replace hc10 := u69.heap hc10 ne13.symm
      replace hc17 := u69.heap hc17 ne20.symm
      replace h := h.upd u69 hc4 (by decide) (by decide)
      replace h_m := h_m.upd u69 hc4 (by decide) (by decide)
      replace G := G.upd u69 hge6
      clear u69 hc4
      refine WL_nil ?_
      refine W_region rfl ?_
      refine stp (r_move_int rfl ?_)
      refine stp (r_add rfl rfl ?_ ?_); constructor <;> omega
      refine stp (r_assign_int rfl ?_)
      refine WL_nil ?_
      rw [hp]
      exact ⟨_, _, _, _, fr_of ⟨rfl, rfl, rfl, rfl, rfl, rfl, trivial⟩, hc10, hc17, hc68, h_m, G⟩
     ·-- false
      simp only [sb] at h4
      have hp : (placeP lim (Nd.mk kind size words bytes kids) S s i) = ⟨moreP lim ⟨setP S.A s i (farP (lastP S.A) (len2 S.A (lastP S.A))), S.full⟩ (lastP S.A) [(Nd.mk kind size words bytes kids).near 0], lastP S.A, len2 S.A (lastP S.A) + 1⟩ := by unfold placeP; rw [if_neg (by omega), if_neg (by simp only [newSeg, Bool.or_eq_true, decide_eq_true_eq]; omega)]
      refine W_skip ?_
      refine W_seq ?_
      refine W_any 12 [[], [], [], [], [], [1, 0], [5, 4, 3, 2, 1, 0], [], [], [8, 7, 6, 5, 4, 3, 2, 0], [9, 8, 7, 6, 5, 4, 3, 1, 0], [10, 9, 8, 7, 6, 5, 4, 3, 2, 1, 0]] mixed (by kernel_rfl) (by kernel_rfl) (by kernel_rfl) ?_
      intro w70 g71
      replace hc10 := g71.heap hc10
      replace hc17 := g71.heap hc17
      replace hc4 := g71.heap hc4
      replace h := h.grow g71
      replace RO := RO.grow g71
      replace G := G.tr g71
      clear g71
      apply AO_ex
      ·intro w_ g_; refine og rfl ?_; refine r_loadAll rfl (g_.heap hc4) (by rfl) ?_; exact ⟨Grow.rfl' _, rfl⟩
      apply AO_ex
      ·intro w_ g_; refine og rfl ?_; refine r_move_int rfl ?_; exact ⟨Grow.rfl' _, rfl⟩
      apply AO_ex
      ·intro w_ g_; refine og rfl ?_; refine r_move_int rfl ?_; exact ⟨Grow.rfl' _, rfl⟩
      apply AO_ex
      ·intro w_ g_; refine og rfl ?_; refine r_move_int rfl ?_; exact ⟨Grow.rfl' _, rfl⟩
      apply AO_ex
      ·intro w_ g_; refine og rfl ?_; refine r_move_int rfl ?_; exact ⟨Grow.rfl' _, rfl⟩
      apply AO_ex
      ·intro w_ g_; refine og rfl ?_; exact r_gives (v := .int .u64 (farP (lastP S.A : Int) (len2 S.A (lastP S.A) : Int))) rfl (rfar_calls _ (lastP S.A : Int) (len2 S.A (lastP S.A) : Int)) (fun w2_ g2_ => ⟨g2_, rfl⟩)
      refine AO_so (fun w_ v_ => LayV 34 55 w_ base lim v_ (⟨setP (S.A) s i (farP (lastP S.A : Int) (len2 S.A (lastP S.A) : Int)), S.full⟩)) (fun _ _ _ g_ h_ => h_.grow g_) ?_ ?_
      ·intro w_ g_
       refine og rfl ?_
       refine r_call rfl (rset_calls _ (h.grow g_) (Nat.le_trans hbw (G.tr g_).size) FS hsA hiA) ?_
       rintro v2_ w2_ ⟨hl_, g2_⟩
       exact ⟨g2_, hl_⟩
      apply AO_ex
      ·intro w_ g_; refine og rfl ?_; refine r_move_int rfl ?_; exact ⟨Grow.rfl' _, rfl⟩
      apply AO_ex
      ·intro w_ g_; refine og rfl ?_; refine r_loadAll rfl (g_.heap hc10) (by rfl) ?_; exact ⟨Grow.rfl' _, rfl⟩
      apply AO_ex
      ·intro w_ g_; intro v6_ hv6_; show OpG _ _ _ _ _ _; refine og rfl ?_; exact r_gives (v := .int .u64 ((Nd.mk kind size words bytes kids).near 0)) rfl (rnear_calls _ (T0.grow (G.tr g_)) (0) (by simp only [Nd.kind]; omega)) (fun w2_ g2_ => ⟨g2_, rfl⟩)
      refine AO_so (fun w_ v_ => Row w_ 1 v_ 1 (wordsV [(Nd.mk kind size words bytes kids).near 0])) (fun _ _ _ g_ h_ => h_.grow g_) ?_ ?_
      ·intro w_ g_
       intro v6_ hv6_; show OpG _ _ _ _ _ _
       refine og rfl ?_
       refine r_buildSlice (cs := #[.int .u64 ((Nd.mk kind size words bytes kids).near 0)]) (el := 55) (fun w => by kernel_rfl) ?_
       intro bs_ w2_ hb_ hc_ g2_
       exact ⟨g2_, Row.of_block (n := 1) hc_ rfl rfl (by omega)⟩
      refine AO_so (fun w_ v_ => LayV 34 55 w_ base lim v_ (moreP lim ⟨setP S.A s i (farP (lastP S.A : Int) (len2 S.A (lastP S.A) : Int)), S.full⟩ (lastP S.A) [(Nd.mk kind size words bytes kids).near 0])) (fun _ _ _ g_ h_ => h_.grow g_) ?_ ?_
      ·intro w_ g_
       intro v6_ hv6_; intro v10_ hv10_; show OpG _ _ _ _ _ _
       refine og rfl ?_
       obtain ⟨so_p, segs_p, rfl, h_p⟩ := hv6_
       have hqc : ((lastP S.A : Nat) : Int) = (lastP S.A : Int) := by omega
       have hcal := rmore_calls _ (q := lastP S.A) (lim := lim) (full := S.full) (l := [(Nd.mk kind size words bytes kids).near 0]) h_p (Nat.le_trans hbw (G.tr g_).size) (FS.set s i (farP (lastP S.A : Int) (len2 S.A (lastP S.A) : Int))) (by rw [setP_length]; omega) hv10_ (by simp)
       rw [hqc] at hcal
       refine r_call rfl hcal ?_
       rintro v2_ w2_ ⟨hl_, g2_⟩
       exact ⟨g2_, hl_⟩
      refine AO_nil ?_
      intro w72 g73
      replace hc10 := g73.heap hc10
      replace hc17 := g73.heap hc17
      replace hc4 := g73.heap hc4
      replace h := h.grow g73
      replace RO := RO.grow g73
      replace G := G.tr g73
      clear g73
      intro v_p hv_p
      intro v_l hv_l
      intro v_m hv_m
      obtain ⟨so_m, segs_m, rfl, h_m⟩ := hv_m
      obtain ⟨ad_m, n_m, c_m, rfl⟩ := own_slice h_m.out
      refine stn (r_storeAll rfl rfl hc4 (by rfl) (by rfl) (by rfl) ?_)
      intro w74 hc75 u76
      replace hc10 := u76.heap hc10 ne13.symm
      replace hc17 := u76.heap hc17 ne20.symm
      replace h := h.upd u76 hc4 (by decide) (by decide)
      replace h_m := h_m.upd u76 hc4 (by decide) (by decide)
      replace G := G.upd u76 hge6
      clear u76 hc4
      refine WL_nil ?_
      refine W_region rfl ?_
      refine stp (r_move_int rfl ?_)
      refine stp (r_add rfl rfl ?_ ?_); constructor <;> omega
      refine stp (r_assign_int rfl ?_)
      refine WL_nil ?_
      rw [hp]
      exact ⟨_, _, _, _, fr_of ⟨rfl, rfl, rfl, rfl, rfl, rfl, trivial⟩, hc10, hc17, hc75, h_m, G⟩
   ·-- behind them
    clear hc10 hc17 hc4 h RO
    clear G
    rintro e_ w77 ⟨ad4, n4, c4, segs4, ⟨e78, rfl⟩, hc10, hc17, hc4, h, G⟩
    obtain ⟨hpG, hpS, hpA, hpF, hpU⟩ := hp0
    generalize (placeP lim (Nd.mk kind size words bytes kids) S s i) = p at *
    have hpl := FS.len
    have hSp : Sml p.S.A := ⟨by have := hpn.len; omega, fun j => by have := hpn.seg j; have := F.seg j; omega⟩
    have hpb := hSp.seg p.seg
    rw [← hpA] at hpb
    have hco : ((Nd.mk kind size words bytes kids).content.length : Int) = (Nd.mk kind size words bytes kids).need := Nd.content_length _ (by simp only [Nd.kind]; omega) (by simpa only [Nd.kind, Nd.bytes] using hb1)
    have hok := LayOk.more lim p.S p.seg (Nd.mk kind size words bytes kids).content (Nat.le_of_lt hpS)
    have hge2 : p.at_ + (Nd.mk kind size words bytes kids).content.length ≤ len2 (moreP lim p.S p.seg (Nd.mk kind size words bytes kids).content).A p.seg := by rw [hpA, show (moreP lim p.S p.seg (Nd.mk kind size words bytes kids).content).A = growA p.S.A p.seg (Nd.mk kind size words bytes kids).content from rfl]; simp only [len2]; rw [growA_getD _ _ _ _ (Nat.le_of_lt hpS), if_pos rfl, List.length_append]; exact Nat.le_refl _
    have hQ0 : (moreP lim p.S p.seg (Nd.mk kind size words bytes kids).content).full = false → p.S.full = false := fun hx => by cases hy : p.S.full with | false => rfl | true => rw [hok.full hy] at hx; exact absurd hx (by simp)
    refine W_seq ?_
    refine W_any 5 [[], [], [], [0], [3, 2, 1, 0]] mixed (by kernel_rfl) (by kernel_rfl) (by kernel_rfl) ?_
    intro w79 g80
    replace hc10 := g80.heap hc10
    replace hc17 := g80.heap hc17
    replace h := h.grow g80
    replace hc4 := g80.heap hc4
    replace G := G.tr g80
    clear g80
    apply AO_ex
    ·intro w_ g_; refine og rfl ?_; refine r_loadAll rfl (g_.heap hc4) (by rfl) ?_; exact ⟨Grow.rfl' _, rfl⟩
    apply AO_ex
    ·intro w_ g_; refine og rfl ?_; refine r_move_int rfl ?_; exact ⟨Grow.rfl' _, rfl⟩
    apply AO_ex
    ·intro w_ g_; refine og rfl ?_; refine r_loadAll rfl (g_.heap hc10) (by rfl) ?_; exact ⟨Grow.rfl' _, rfl⟩
    refine AO_so (fun w_ v_ => Row w_ 1 v_ (Nd.mk kind size words bytes kids).content.length (wordsV (Nd.mk kind size words bytes kids).content)) (fun _ _ _ g_ h_ => h_.grow g_) ?_ ?_
    ·intro w_ g_
     refine og rfl ?_
     refine r_call rfl (rcontent_calls _ (T0.grow (G.tr g_)) hlw hlb hlk) ?_
     rintro v2_ w2_ ⟨ho_, g2_⟩
     exact ⟨g2_, own_row ho_ (by omega)⟩
    refine AO_so (fun w_ v_ => LayV 34 55 w_ base lim v_ (moreP lim p.S p.seg (Nd.mk kind size words bytes kids).content)) (fun _ _ _ g_ h_ => h_.grow g_) ?_ ?_
    ·intro w_ g_
     intro v3_ hv3_; show OpG _ _ _ _ _ _
     refine og rfl ?_
     refine r_call rfl (rmore_calls _ (q := p.seg) (lim := lim) (full := p.S.full) (l := (Nd.mk kind size words bytes kids).content) (h.grow g_) (Nat.le_trans hbw (G.tr g_).size) hSp (Nat.le_of_lt hpS) hv3_ (by omega)) ?_
     rintro v2_ w2_ ⟨hl_, g2_⟩
     exact ⟨g2_, hl_⟩
    refine AO_nil ?_
    intro w81 g82
    replace hc10 := g82.heap hc10
    replace hc17 := g82.heap hc17
    replace h := h.grow g82
    replace hc4 := g82.heap hc4
    replace G := G.tr g82
    clear g82
    intro v_c hv_c
    intro v_m hv_m
    obtain ⟨so_m, segs_m, rfl, h_m⟩ := hv_m
    obtain ⟨ad_m, n_m, c_m, rfl⟩ := own_slice h_m.out
    refine stn (r_storeAll rfl rfl hc4 (by rfl) (by rfl) (by rfl) ?_)
    intro w83 hc84 u85
    replace hc10 := u85.heap hc10 ne13.symm
    replace hc17 := u85.heap hc17 ne20.symm
    replace h := h.upd u85 hc4 (by decide) (by decide)
    replace h_m := h_m.upd u85 hc4 (by decide) (by decide)
    replace G := G.upd u85 hge6
    clear u85 hc4
    refine WL_nil ?_
    obtain ⟨Q, hQ⟩ : ∃ Q, Q = moreP lim p.S p.seg (Nd.mk kind size words bytes kids).content := ⟨_, rfl⟩
    rw [← hQ] at hge2 hQ0 hok ⊢
    have hok_A : (moreP lim p.S p.seg (Nd.mk kind size words bytes kids).content).A = Q.A := by rw [hQ]
    rw [hok_A] at h_m
    have hc84' : w83.heap[b1]? = some (.cells #[.slice ad_m n_m c_m, .int .i64 lim, .bool (Q.full)] 78 (0, 0)) := by rw [hQ]; exact hc84
    clear hok_A hQ hc84
    have hc84 := hc84'
    clear hc84'
    have hQs : p.seg < Q.A.length := Nat.lt_of_lt_of_le hpS hok.grew.len
    have hQ1 : 1 ≤ Q.A.length := by omega
    refine W_seq ?_
    refine W_seq (W_region rfl ?_)
    refine stp (r_assign_int rfl ?_)
    refine WL_nil ?_
    refine W_block ?_
    refine W_loop (fun m_ e_ w_ => ∃ (k : Nat) (ad5 : Option Addr) (n5 : Nat) (c5 : Nat) (segs5 : List Value), m_ = kids.length - k ∧ Fr [(4, .pointer (some ⟨b1, 0, none⟩)), (5, .pointer (some ⟨b7, 0, none⟩)), (8, .pointer (some ⟨b14, 0, none⟩)), (9, .int .i64 ((Nd.mk kind size words bytes kids).need)), (12, .int .i64 (p.seg : Int)), (13, .int .i64 (p.at_ : Int)), (14, .int .i64 (k : Int))] e_ ∧ (k ≤ kids.length) ∧ (w_.heap[b7]? = some (.cells #[.int .i64 kind, .int .i64 size, .slice aw words.length cw, .slice ab bytes.length cb, .slice ak kids.length ck] 37 (0, 0))) ∧ (w_.heap[b14]? = some (.cells #[.slice none 0 0, .int .i64 0, .bool false] 78 (0, 0))) ∧ (w_.heap[b1]? = some (.cells #[.slice ad5 n5 c5, .int .i64 lim, .bool ((Nd.lays lim (kids.take k) Q p.seg (p.at_ + ((Nd.mk kind size words bytes kids).need.toNat - kids.length))).full)] 78 (0, 0))) ∧ (OwnA 34 55 w_ base (.slice ad5 n5 c5) segs5 ((Nd.lays lim (kids.take k) Q p.seg (p.at_ + ((Nd.mk kind size words bytes kids).need.toNat - kids.length))).A)) ∧ Grow w w_) _ ⟨0, ad_m, n_m, c_m, segs_m, rfl, fr_of ⟨rfl, rfl, rfl, rfl, rfl, rfl, rfl, trivial⟩, by omega, hc10, hc17, hc84, h_m, G⟩ ?_
    clear hc10 hc17 hc84 h_m
    clear G
    rintro m_ e_ w86 ⟨k, ad5, n5, c5, segs5, rfl, ⟨e87, rfl⟩, hk2, hc10, hc17, hc84, h5, G⟩
    refine W_seq ?_
    refine W_seq (W_region rfl ?_)
    refine stp (r_move_int rfl ?_)
    refine stp (r_fieldAddr rfl ?_)
    refine stp (r_load (v := .slice ak kids.length ck) rfl hc10 rfl ?_)
    refine stp (r_len rfl rfl rfl ?_)
    refine stp (r_lss rfl rfl ?_)
    refine WL_nil ?_
    refine W_cond2 (b := (decide ((k : Int) < (kids.length : Int)))) rfl (fun hlt => ?_) (fun hlt => ?_)
    ·-- true
     replace hlt := of_decide_eq_true hlt
     have hk3 : k < kids.length := by omega
     have hat := KidsR.at_ k kids[k] hKs (by simp [hk3])
     obtain ⟨y0, y1, ya, yn, yc, za, zn, zc, ua, un, uc, hy⟩ := hat.cells
     rw [hy] at hat
     have hsz := Nd.szs_at kids k kids[k] (by simp [hk3])
     have hfk := Nd.fine_kid hR hk3
     have hkn2 := hkn h1k
     have hlk_ := Nd.lays_ok lim (kids.take k) Q p.seg (p.at_ + ((Nd.mk kind size words bytes kids).need.toNat - kids.length)) hQ1
     have hss : p.seg < (Nd.lays lim (kids.take k) Q p.seg (p.at_ + ((Nd.mk kind size words bytes kids).need.toNat - kids.length))).A.length := Nat.lt_of_lt_of_le hQs hlk_.grew.len
     have hii : p.at_ + ((Nd.mk kind size words bytes kids).need.toNat - kids.length) + k < len2 (Nd.lays lim (kids.take k) Q p.seg (p.at_ + ((Nd.mk kind size words bytes kids).need.toNat - kids.length))).A p.seg := by have := hlk_.grew.seg p.seg; omega
     have hFk : (Nd.lays lim (kids.take k) Q p.seg (p.at_ + ((Nd.mk kind size words bytes kids).need.toNat - kids.length))).full = false → Fit lim (Nd.lays lim (kids.take k) Q p.seg (p.at_ + ((Nd.mk kind size words bytes kids).need.toNat - kids.length))).A ∧ p.seg < (Nd.lays lim (kids.take k) Q p.seg (p.at_ + ((Nd.mk kind size words bytes kids).need.toNat - kids.length))).A.length ∧ p.at_ + ((Nd.mk kind size words bytes kids).need.toNat - kids.length) + k < len2 (Nd.lays lim (kids.take k) Q p.seg (p.at_ + ((Nd.mk kind size words bytes kids).need.toNat - kids.length))).A p.seg := fun hx => ⟨hlk_.fit (hok.fit (hpF F (hQ0 (by cases hy_ : Q.full with | false => rfl | true => rw [hlk_.full hy_] at hx; exact absurd hx (by simp)))) (by cases hy_ : Q.full with | false => rfl | true => rw [hlk_.full hy_] at hx; exact absurd hx (by simp))) hx, hss, hii⟩
     refine W_skip ?_
     refine W_seq ?_
     refine W_block ?_
     refine W_any 17 [[], [], [0], [], [2, 1, 0], [3, 2, 1, 0], [], [], [], [1, 0], [], [0], [1, 0], [5, 4, 3, 2, 1, 0], [], [7, 6, 5, 4, 3, 2, 1, 0], [15, 14, 13, 12, 11, 10, 9, 8, 7, 6, 5, 4, 3, 2, 1, 0]] mixed (by kernel_rfl) (by kernel_rfl) (by kernel_rfl) ?_
     intro w88 g89
     replace hc10 := g89.heap hc10
     replace hc17 := g89.heap hc17
     replace hc84 := g89.heap hc84
     replace h5 := h5.grow g89
     replace G := G.tr g89
     clear g89
     apply AO_ex
     ·intro w_ g_; refine og rfl ?_; refine r_loadAll rfl (g_.heap hc84) (by rfl) ?_; exact ⟨Grow.rfl' _, rfl⟩
     apply AO_ex
     ·intro w_ g_; refine og rfl ?_; refine r_fieldAddr rfl ?_; exact ⟨Grow.rfl' _, rfl⟩
     apply AO_ex
     ·intro w_ g_; refine og rfl ?_; refine r_load (v := .slice ak kids.length ck) rfl (g_.heap hc10) rfl ?_; exact ⟨Grow.rfl' _, rfl⟩
     apply AO_ex
     ·intro w_ g_; refine og rfl ?_; refine r_move_int rfl ?_; exact ⟨Grow.rfl' _, rfl⟩
     apply AO_ex
     ·intro w_ g_; refine og rfl ?_; refine r_indexN (RK.grow (G.tr g_)) rfl rfl ?_ ?_; omega; exact ⟨Grow.rfl' _, rfl⟩
     apply AO_ex
     ·intro w_ g_; refine og rfl ?_; refine r_loadNR (RK.grow (G.tr g_)) rfl (by decide) (by rw [RK.len]; omega) hy ?_; exact ⟨Grow.rfl' _, rfl⟩
     apply AO_ex
     ·intro w_ g_; refine og rfl ?_; refine r_move_int rfl ?_; exact ⟨Grow.rfl' _, rfl⟩
     apply AO_ex
     ·intro w_ g_; refine og rfl ?_; refine r_move_int rfl ?_; exact ⟨Grow.rfl' _, rfl⟩
     apply AO_ex
     ·intro w_ g_; refine og rfl ?_; refine r_move_int rfl ?_; exact ⟨Grow.rfl' _, rfl⟩
     apply AO_ex
     ·intro w_ g_; refine og rfl ?_; refine r_add rfl rfl ?_ ?_; constructor <;> omega; exact ⟨Grow.rfl' _, rfl⟩
     apply AO_ex
     ·intro w_ g_; refine og rfl ?_; refine r_fieldAddr rfl ?_; exact ⟨Grow.rfl' _, rfl⟩
     apply AO_ex
     ·intro w_ g_; refine og rfl ?_; refine r_load (v := .slice ak kids.length ck) rfl (g_.heap hc10) rfl ?_; exact ⟨Grow.rfl' _, rfl⟩
     apply AO_ex
     ·intro w_ g_; refine og rfl ?_; refine r_len rfl rfl rfl ?_; exact ⟨Grow.rfl' _, rfl⟩
     apply AO_ex
     ·intro w_ g_; refine og rfl ?_; refine r_sub rfl rfl ?_ ?_; constructor <;> omega; exact ⟨Grow.rfl' _, rfl⟩
     apply AO_ex
     ·intro w_ g_; refine og rfl ?_; refine r_move_int rfl ?_; exact ⟨Grow.rfl' _, rfl⟩
     apply AO_ex
     ·intro w_ g_; refine og rfl ?_; refine r_add rfl rfl ?_ ?_; constructor <;> omega; exact ⟨Grow.rfl' _, rfl⟩
     refine AO_so (fun w_ v_ => LayV 34 55 w_ base lim v_ ((Nd.lays lim (kids.take (k + 1)) Q p.seg (p.at_ + ((Nd.mk kind size words bytes kids).need.toNat - kids.length))))) (fun _ _ _ g_ h_ => h_.grow g_) ?_ ?_
     ·intro w_ g_
      refine og rfl ?_
      have hcal := ih_ _ (h5.grow g_) (Nat.le_trans hbw (G.tr g_).size) (hat.grow (G.tr g_)) hfk (by omega) hl1 hl2 hFk (by simp only [Nd.sz] at hm_; omega)
      rw [show ((p.at_ + ((Nd.mk kind size words bytes kids).need.toNat - kids.length) + k : Nat) : Int) = (p.at_ : Int) + (Nd.mk kind size words bytes kids).need - kids.length + k from by omega, ← Nd.lays_take hk3] at hcal
      refine r_call rfl hcal ?_
      rintro v2_ w2_ ⟨hl_, g2_⟩
      exact ⟨g2_, hl_⟩
     refine AO_nil ?_
     intro w90 g91
     replace hc10 := g91.heap hc10
     replace hc17 := g91.heap hc17
     replace hc84 := g91.heap hc84
     replace h5 := h5.grow g91
     replace G := G.tr g91
     clear g91
     intro v_k hv_k
     obtain ⟨so_k, segs_k, rfl, h_k⟩ := hv_k
     obtain ⟨ad_k, n_k, c_k, rfl⟩ := own_slice h_k.out
     refine stn (r_storeAll rfl rfl hc84 (by rfl) (by rfl) (by rfl) ?_)
     intro w92 hc93 u94
     replace hc10 := u94.heap hc10 ne13.symm
     replace hc17 := u94.heap hc17 ne20.symm
     replace h5 := h5.upd u94 hc84 (by decide) (by decide)
     replace h_k := h_k.upd u94 hc84 (by decide) (by decide)
     replace G := G.upd u94 hge6
     clear u94 hc84
     refine WL_nil ?_
     refine W_region rfl ?_
     refine stp (r_move_int rfl ?_)
     refine stp (r_add rfl rfl ?_ ?_); constructor <;> omega
     refine stp (r_assign_int rfl ?_)
     refine WL_nil ?_
     refine ⟨_, ?_, k + 1, ad_k, n_k, c_k, segs_k, rfl, fr_of ⟨rfl, rfl, rfl, rfl, rfl, rfl, congrArg (Value.int .i64) (by omega), trivial⟩, by omega, hc10, hc17, hc93, h_k, G⟩
     omega
    ·-- false
     replace hlt := of_decide_eq_false hlt
     have hk3 : k = kids.length := by omega
     have hSK : (Nd.lays lim (kids.take k) Q p.seg (p.at_ + ((Nd.mk kind size words bytes kids).need.toNat - kids.length))) = Nd.lays lim kids Q p.seg (p.at_ + ((Nd.mk kind size words bytes kids).need.toNat - kids.length)) := by rw [hk3, List.take_length]
     refine W_exit ?_
     refine W_seq (W_region rfl ?_)
     refine stp (r_loadAll rfl hc84 (by rfl) ?_)
     refine stn (r_storeAll rfl rfl hc17 (by rfl) (by rfl) (by rfl) ?_)
     intro w95 hc96 u97
     replace hc10 := u97.heap hc10 ne21
     replace hc84 := u97.heap hc84 ne20
     replace h5 := h5.upd u97 hc17 (by decide) (by decide)
     replace G := G.upd u97 hge19
     clear u97 hc17
     refine WL_nil ?_
     refine W_ret ?_
     rw [← hSK]
     refine ret1 (res_all rfl hc96 (by rfl)) ⟨⟨_, _, rfl, h5⟩, G⟩

set_option maxRecDepth 100000 in
theorem rBuild_calls (w : World) {c : List Value} {t : Nd} (T : NodeR w c t) (n : Int) : Calls Try.prog 21 #[.agg c.toArray, .int .i64 n] w (Ret fun v w' => ∃ so segs, v = .tuple #[so, .int .i64 (t.build n).2] ∧ OwnA 34 55 w' w.heap.size so segs (t.build n).1 ∧ Grow w w') := by
 obtain ⟨y0, y1, ya, yn, yc, za, zn, zc, ua, un, uc, rfl⟩ := T.cells
 have G := Grow.rfl' w
 refine calls_ret Try.func21 Try.ntmps21 Try.results21 rfl rfl ?_
 refine W_seq (W_region rfl ?_)
 refine WL_some (og rfl ?_)
 (first | refine r_box_agg rfl ?_ | refine r_box_int rfl ?_ | refine r_box_slice rfl ?_ | refine r_box rfl rfl ?_)
 intro b1 w2 hb3 hc4 g5
 have hge6 := Nat.le_trans G.size hb3
 replace G := G.tr g5
 clear g5 hb3
 refine stp (r_assign_slice rfl ?_)
 refine stp (r_assign_int rfl ?_)
 refine WL_nil ?_
 refine W_seq ?_
 refine W_seq (W_region rfl ?_)
 refine stp (r_move_int rfl ?_)
 refine stp (r_lss rfl rfl ?_)
 refine stp (r_move_bool rfl ?_)
 refine WL_some (og_if (s := .bool (decide (n < 1))) (b := false) (v := .int .i64 n) rfl (wgb_f _) (fun hc7 => ?_) ?_)
 ·
  have hc7_ := hc7
  try simp only [sb] at hc7_
  refine r_move_int rfl ?_
  exact ⟨rfl, rfl⟩
 refine WL_some (og_if (s := .bool (decide (n < 1))) (b := false) (v := .bool (decide (n > 4096))) rfl (wgb_f _) (fun hc8 => ?_) ?_)
 ·
  have hc8_ := hc8
  try simp only [sb] at hc8_
  refine r_gtr (gvt hc8) rfl ?_
  exact ⟨rfl, rfl⟩
 refine stp (r_or2 rfl rfl rfl ?_)
 refine stp (r_move_bool rfl ?_)
 refine WL_some (og_if (s := .bool ((decide (n < 1)) || (decide (n > 4096)))) (b := false) (v := .agg #[.int .i64 y0, .int .i64 y1, .slice ya yn yc, .slice za zn zc, .slice ua un uc]) rfl (wgb_f _) (fun hc9 => ?_) ?_)
 ·
  have hc9_ := hc9
  try simp only [sb] at hc9_
  refine r_loadAll rfl hc4 (by rfl) ?_
  exact ⟨rfl, rfl⟩
 refine WL_some (og_ifg (s := .bool ((decide (n < 1)) || (decide (n > 4096)))) (b := false) (v := .bool (t.right 32)) rfl (wgb_f _) (fun hc10 => ?_) ?_)
 ·
  have hc10_ := hc10
  try simp only [sb] at hc10_
  exact r_givesA (l := ([.agg #[.int .i64 y0, .int .i64 y1, .slice ya yn yc, .slice za zn zc, .slice ua un uc]] : List Value)) rfl (by show ([gv (!((decide (n < 1)) || (decide (n > 4096)))) (.agg #[.int .i64 y0, .int .i64 y1, .slice ya yn yc, .slice za zn zc, .slice ua un uc])] : List Value) = _; rw [gvt hc10]) (rRight_calls _ (T.grow G)) (fun w2_ g2_ => ⟨rfl, g2_⟩)
 intro w11 g12
 replace hc4 := g12.heap hc4
 replace G := G.tr g12
 clear g12
 refine WL_some (og_if (s := .bool ((decide (n < 1)) || (decide (n > 4096)))) (b := false) (v := .bool (!(t.right 32))) rfl (wgb_f _) (fun hc13 => ?_) ?_)
 ·
  have hc13_ := hc13
  try simp only [sb] at hc13_
  refine r_not (gvt hc13) ?_
  exact ⟨rfl, rfl⟩
 refine stp (r_or2 rfl rfl rfl ?_)
 refine WL_nil ?_
 refine W_cond2 (b := (((decide (n < 1)) || (decide (n > 4096))) || (!(t.right 32)))) rfl (fun h1 => ?_) (fun h1 => ?_)
 ·-- true
  simp only [sb] at h1
  have hb : t.build n = ([], 1) := by unfold Nd.build; rw [if_pos]; rcases h1 with (h | h) | h; exact .inl h; exact .inr (.inl h); exact .inr (.inr h)
  refine W_seq (W_region rfl ?_)
  refine stp (r_assign_slice rfl ?_)
  refine stp (r_assign_int rfl ?_)
  refine WL_nil ?_
  refine W_ret ?_
  rw [hb]
  refine ret2 (res_tmp (v := .slice none 0 0) rfl) (res_tmp (v := .int .i64 1) rfl) ⟨_, _, rfl, OwnA.nil _ _ _ _, G⟩
 ·-- false
  simp only [sb] at h1
  obtain ⟨⟨h1a, h1b⟩, h1c⟩ := h1
  have hlb1 : 1 ≤ n := by omega
  have hlb2 : n ≤ 4096 := by omega
  have hnb : ¬ (n < 1 ∨ n > 4096 ∨ t.right 32 = false) := by rw [h1c]; simp; omega
  refine W_skip ?_
  refine W_seq (W_region rfl ?_)
  refine stp (r_buildSlice (cs := #[.int .u64 0]) (el := 55) (fun w => by kernel_rfl) ?_)
  intro bs14 w15 hb16 hc17 g18
  have hge19 := Nat.le_trans G.size hb16
  replace hc4 := g18.heap hc4
  replace G := G.tr g18
  clear g18
  refine stp (r_buildSlice (cs := #[.slice (some ⟨bs14, 0, none⟩) 1 1]) (el := 34) (fun w => by kernel_rfl) ?_)
  intro bs20 w21 hb22 hc23 g24
  have hge25 := Nat.le_trans G.size hb22
  replace hc4 := g24.heap hc4
  replace hc17 := g24.heap hc17
  replace G := G.tr g24
  clear g24
  refine stp (r_move_int rfl ?_)
  refine stp (r_build (v := .agg #[.slice (some ⟨bs20, 0, none⟩) 1 1, .int .i64 n, .bool false]) (fun w => by kernel_rfl) ?_)
  refine stp (r_loadAll rfl hc4 (by rfl) ?_)
  refine WL_some (og rfl ?_)
  have h0 := OwnA.init (TO := 34) (TW := 55) (base := w.heap.size) hc23 hc17 hge25 hge19
  refine r_call rfl (rlay_calls _ _ (s := 0) (i := 0) (S := ⟨[[0]], false⟩) (lim := n) h0 G.size (T.grow G) ⟨32, h1c⟩ (by simp) hlb1 hlb2 (fun _ => ⟨Fit.init hlb1, by simp, by simp [len2]⟩) (Nat.le_refl _)) ?_
  rintro v_ w26 ⟨⟨so_p, segs_p, rfl, h_p⟩, g_⟩
  replace hc4 := g_.heap hc4
  replace hc17 := g_.heap hc17
  replace hc23 := g_.heap hc23
  replace G := G.tr g_
  clear g_
  obtain ⟨ad_p, n_p, c_p, rfl⟩ := own_slice h_p.out
  clear h0
  refine stp (r_alloc ?_)
  intro b27 w28 hb29 hc30 g31
  refine stn (r_storeAll rfl rfl hc30 (by rfl) (by rfl) (by rfl) ?_)
  intro w32 hc33 u34
  have g35 := g31.upd u34 hb29
  have hge36 := Nat.le_trans G.size hb29
  have ne37 := Nat.ne_of_lt (Nat.lt_of_lt_of_le (lt_of_heap hc4) hb29)
  have ne38 := Nat.ne_of_lt (Nat.lt_of_lt_of_le (lt_of_heap hc17) hb29)
  have ne39 := Nat.ne_of_lt (Nat.lt_of_lt_of_le (lt_of_heap hc23) hb29)
  replace hc4 := g35.heap hc4
  replace hc17 := g35.heap hc17
  replace hc23 := g35.heap hc23
  replace h_p := h_p.grow g35
  replace G := G.tr g35
  clear u34 g31 hb29 hc30
  refine WL_nil ?_
  refine W_seq ?_
  refine W_seq (W_region rfl ?_)
  refine stp (r_fieldAddr rfl ?_)
  refine stp (r_load (v := .bool ((t.lay n ⟨[[0]], false⟩ 0 0).full)) rfl hc33 rfl ?_)
  refine WL_nil ?_
  refine W_cond2 (b := ((t.lay n ⟨[[0]], false⟩ 0 0).full)) rfl (fun h2 => ?_) (fun h2 => ?_)
  ·-- true
   have hb : t.build n = ([], 24) := by unfold Nd.build; rw [if_neg hnb, if_pos h2]
   refine W_seq (W_region rfl ?_)
   refine stp (r_assign_slice rfl ?_)
   refine stp (r_assign_int rfl ?_)
   refine WL_nil ?_
   refine W_ret ?_
   rw [hb]
   refine ret2 (res_tmp (v := .slice none 0 0) rfl) (res_tmp (v := .int .i64 24) rfl) ⟨_, _, rfl, OwnA.nil _ _ _ _, G⟩
  ·-- false
   have hb : t.build n = ((t.lay n ⟨[[0]], false⟩ 0 0).A, 0) := by unfold Nd.build; rw [if_neg hnb, if_neg (by rw [h2]; simp)]
   refine W_skip ?_
   refine W_seq (W_region rfl ?_)
   refine stp (r_fieldAddr rfl ?_)
   refine stp (r_load (v := .slice ad_p n_p c_p) rfl hc33 rfl ?_)
   refine stp (r_assign_slice rfl ?_)
   refine stp (r_assign_int rfl ?_)
   refine WL_nil ?_
   refine W_ret ?_
   rw [hb]
   refine ret2 (res_tmp (v := .slice ad_p n_p c_p) rfl) (res_tmp (v := .int .i64 0) rfl) ⟨_, _, rfl, h_p, G⟩
end Go.Proofs.Ytfhfecepcnapfaa.K

namespace Go.Proofs.Ytfhfecepcnapfaa.K
open Go Go.RowKit

section
variable {P : Program} {ops : Array Oper} {Q : Ex → Env → World → Prop} {e : Env} {w : World} {K : Value → World → Prop} {r : List Oper}
variable {d : Option Nat} {ty : TypeId} {pos : String} {af : Array Edge} {g : Option (Nat × Bool)}
variable {t u : TypeId} {x y z : Operand}
theorem r_bytesStr {n c : Nat} {ad : Option Addr} {el : TypeId} {xs : List Int} [hui : ElI P t el 1] [hei : IntI P el .u8] [hsi : StrI P u] (R : RowAt w 1 ad n (xs.map (.int .u8))) (hx : ev e x = .slice ad n c) (h : K (.string (strOfNums xs)) w) : Run1 P ⟨d, .convert t u x, ty, pos, af, g⟩ e w K := by
  have hn : n = xs.length := by have := R.len; simp at this; exact this.symm
  have hu := hui.h
  have ht : P.underlying t = some (.slice el) := by
    unfold elS at hu
    split at hu
    · rename_i el' hul
      split at hu
      · simp only [Option.some.injEq, Prod.mk.injEq] at hu
        obtain ⟨rfl, _⟩ := hu
        exact hul
      · cases hu
    · cases hu
  have key : (convert t u (.slice ad n c)).run P w = .ok (.string (strOfNums xs)) w := by
    rcases Nat.eq_zero_or_pos n with h0 | h0
    · have hxs : xs = [] := List.eq_nil_of_length_eq_zero (by omega)
      subst hxs
      cases ad with
      | none => exact run_convert_bytes_nil w t el ht hei.h n c u hsi.h
      | some a =>
        subst h0
        rw [run_convert_bytes_string w t u el _ 0 c ht hei.h hsi.h, run_bytesToString w a 0 c [] (by rfl)]
        rfl
    · obtain ⟨b, o, cs, T, fr, rfl, hb, hr⟩ := R.at_ h0
      refine run_convert_bytes_arg w t el ht hei.h b o n c xs hn.symm (fun i hi => ?_) u hsi.h
      rw [cell_of_row w b (o + i) cs T fr hb]
      refine row_cell hr ?_
      rw [List.getElem?_map, List.getElem?_eq_getElem (by omega), List.getD_eq_getElem?_getD, List.getElem?_eq_getElem (by omega)]
      rfl
  exact run1_ok (w' := w) (by simp only [execOp, hx, Sem.run_bind, key, Result.andThen_ok, Sem.run_pure]) h
theorem r_neqStr {s q : ByteArray} (hx : ev e x = .string s) (hy : ev e y = .string q) (h : K (.bool (!(s.toList == q.toList))) w) : Run1 P ⟨d, .binOp .neq t x y u, ty, pos, af, g⟩ e w K :=
  run1_ok (w' := w) (by
    have hg : ∀ w : World, (eqGuard .neq t x y (.string s) (.string q)).run P w = .ok () w := fun _ => rfl
    simp only [execOp, hx, hy, Sem.run_bind, hg, Result.andThen_ok, binOp, Op.stringOp, Sem.run_pure]) h
end
theorem strOf_inj : ∀ (xs ys : List Int), (∀ x ∈ xs, inR .u8 x) → (∀ y ∈ ys, inR .u8 y) → (strOfNums xs).data.toList = (strOfNums ys).data.toList → xs = ys := by
  intro xs ys hx hy h2
  simp only [strOfNums_data] at h2
  induction xs generalizing ys with
  | nil => cases ys with
    | nil => rfl
    | cons y ys => simp at h2
  | cons x xs ih => cases ys with
    | nil => simp at h2
    | cons y ys =>
      simp only [List.map_cons, List.cons.injEq] at h2
      have h3 := ih ys (fun z hz => hx z (by simp [hz])) (fun z hz => hy z (by simp [hz])) h2.2
      have h4 := hx x (by simp)
      have h5 := hy y (by simp)
      simp only [inR] at h4 h5
      have h6 := congrArg UInt8.toNat h2.1
      simp only [UInt8.toNat_ofNat'] at h6
      have : x = y := by omega
      rw [this, h3]
theorem strOf_eq {xs ys : List Int} (hx : ∀ x ∈ xs, inR .u8 x) (hy : ∀ y ∈ ys, inR .u8 y) : ((strOfNums xs).toList == (strOfNums ys).toList) = decide (xs = ys) := by
  rw [ByteArray.toList_eq, ByteArray.toList_eq]
  by_cases h : xs = ys
  · subst h; simp
  · rw [decide_eq_false h, beq_eq_false_iff_ne]
    exact fun hs => h (strOf_inj xs ys hx hy hs)
end Go.Proofs.Ytfhfecepcnapfaa.K

namespace Go.Proofs.Ytfhfecepcnapfaa.K
open Go Go.RowKit Go.Proofs
attribute [local irreducible] Run1 OpG WL W AO Gives
set_option maxRecDepth 100000 in
theorem nsame_calls : ∀ (n_ : Nat) (w : World) {c : List Value} {t : Nd} (T : NodeR w c t) {d : List Value} {u : Nd} (U : NodeR w d u), t.sz ≤ n_ → Gives Try.prog 23 #[.agg c.toArray, .agg d.toArray] w (.bool (t.beq u)) := by
 intro n_
 induction n_ with
 | zero => intro w c t T d u U hm_; exact absurd hm_ (by have := t.sz_pos; omega)
 | succ n_ ih_ =>
 intro w c t T d u U hm_
 obtain @⟨kind, size, words, bytes, kids, ws, bs, ks, kc, hk, hs, hW, hwr, hB, hbr, hK, hKs⟩ := T
 obtain ⟨aw, cw, rfl, hcw, hcw2, RW⟩ := hW
 obtain ⟨ab, cb, rfl, hcb, hcb2, RB⟩ := hB
 obtain ⟨ak, ck, rfl, hck, hck2, RK⟩ := hK
 have lw := RW.lim
 have lb := RB.lim
 have lk := RK.lim
 simp only [inR] at hk hs
 obtain @⟨kind2, size2, words2, bytes2, kids2, ws2, bs2, ks2, kc2, hk2, hs2, hW2, hwr2, hB2, hbr2, hK2, hKs2⟩ := U
 obtain ⟨aw2, cw2, rfl, hcw2, hcw22, RW2⟩ := hW2
 obtain ⟨ab2, cb2, rfl, hcb2, hcb22, RB2⟩ := hB2
 obtain ⟨ak2, ck2, rfl, hck2, hck22, RK2⟩ := hK2
 have lw2 := RW2.lim
 have lb2 := RB2.lim
 have lk2 := RK2.lim
 simp only [inR] at hk2 hs2
 have G := Grow.rfl' w
 refine gives_of Try.func23 Try.ntmps23 Try.results23 rfl rfl ?_
 refine W_seq (W_region rfl ?_)
 refine WL_some (og rfl ?_)
 (first | refine r_box_agg rfl ?_ | refine r_box_int rfl ?_ | refine r_box_slice rfl ?_ | refine r_box rfl rfl ?_)
 intro b1 w2 hb3 hc4 g5
 have hge6 := Nat.le_trans G.size hb3
 replace G := G.tr g5
 clear g5 hb3
 refine WL_some (og rfl ?_)
 (first | refine r_box_agg rfl ?_ | refine r_box_int rfl ?_ | refine r_box_slice rfl ?_ | refine r_box rfl rfl ?_)
 intro b7 w8 hb9 hc10 g11
 have hge12 := Nat.le_trans G.size hb9
 replace hc4 := g11.heap hc4
 replace G := G.tr g11
 clear g11 hb9
 refine stp (r_assign (v := .bool false) rfl ?_)
 refine WL_nil ?_
 refine W_seq ?_
 refine W_seq (W_region rfl ?_)
 refine stp (r_fieldAddr rfl ?_)
 refine stp (r_load (v := .int .i64 kind) rfl hc4 rfl ?_)
 refine stp (r_fieldAddr rfl ?_)
 refine stp (r_load (v := .int .i64 kind2) rfl hc10 rfl ?_)
 refine stp (r_neq rfl rfl ?_)
 refine stp (r_move_bool rfl ?_)
 refine WL_some (og_if (s := .bool (decide (kind ≠ kind2))) (b := false) (v := .pointer (some ⟨b1, 1, none⟩)) rfl (wgb_f _) (fun hc13 => ?_) ?_)
 ·
  have hc13_ := hc13
  try simp only [sb] at hc13_
  refine r_fieldAddr rfl ?_
  exact ⟨rfl, rfl⟩
 refine WL_some (og_if (s := .bool (decide (kind ≠ kind2))) (b := false) (v := .int .i64 size) rfl (wgb_f _) (fun hc14 => ?_) ?_)
 ·
  have hc14_ := hc14
  try simp only [sb] at hc14_
  refine r_load (v := .int .i64 size) (gvt hc14) hc4 rfl ?_
  exact ⟨rfl, rfl⟩
 refine WL_some (og_if (s := .bool (decide (kind ≠ kind2))) (b := false) (v := .pointer (some ⟨b7, 1, none⟩)) rfl (wgb_f _) (fun hc15 => ?_) ?_)
 ·
  have hc15_ := hc15
  try simp only [sb] at hc15_
  refine r_fieldAddr rfl ?_
  exact ⟨rfl, rfl⟩
 refine WL_some (og_if (s := .bool (decide (kind ≠ kind2))) (b := false) (v := .int .i64 size2) rfl (wgb_f _) (fun hc16 => ?_) ?_)
 ·
  have hc16_ := hc16
  try simp only [sb] at hc16_
  refine r_load (v := .int .i64 size2) (gvt hc16) hc10 rfl ?_
  exact ⟨rfl, rfl⟩
 refine WL_some (og_if (s := .bool (decide (kind ≠ kind2))) (b := false) (v := .bool (decide (size ≠ size2))) rfl (wgb_f _) (fun hc17 => ?_) ?_)
 ·
  have hc17_ := hc17
  try simp only [sb] at hc17_
  refine r_neq (gvt hc17) (gvt hc17) ?_
  exact ⟨rfl, rfl⟩
 refine stp (r_or2 rfl rfl rfl ?_)
 refine stp (r_move_bool rfl ?_)
 refine WL_some (og_if (s := .bool ((decide (kind ≠ kind2)) || (decide (size ≠ size2)))) (b := false) (v := .pointer (some ⟨b1, 3, none⟩)) rfl (wgb_f _) (fun hc18 => ?_) ?_)
 ·
  have hc18_ := hc18
  try simp only [sb] at hc18_
  refine r_fieldAddr rfl ?_
  exact ⟨rfl, rfl⟩
 refine WL_some (og_if (s := .bool ((decide (kind ≠ kind2)) || (decide (size ≠ size2)))) (b := false) (v := .slice ab bytes.length cb) rfl (wgb_f _) (fun hc19 => ?_) ?_)
 ·
  have hc19_ := hc19
  try simp only [sb] at hc19_
  refine r_load (v := .slice ab bytes.length cb) (gvt hc19) hc4 rfl ?_
  exact ⟨rfl, rfl⟩
 refine WL_some (og_if (s := .bool ((decide (kind ≠ kind2)) || (decide (size ≠ size2)))) (b := false) (v := .string (strOfNums bytes)) rfl (wgb_f _) (fun hc20 => ?_) ?_)
 ·
  have hc20_ := hc20
  try simp only [sb] at hc20_
  refine r_bytesStr (xs := bytes) (RB.grow G) (gvt hc20) ?_
  exact ⟨rfl, rfl⟩
 refine WL_some (og_if (s := .bool ((decide (kind ≠ kind2)) || (decide (size ≠ size2)))) (b := false) (v := .pointer (some ⟨b7, 3, none⟩)) rfl (wgb_f _) (fun hc21 => ?_) ?_)
 ·
  have hc21_ := hc21
  try simp only [sb] at hc21_
  refine r_fieldAddr rfl ?_
  exact ⟨rfl, rfl⟩
 refine WL_some (og_if (s := .bool ((decide (kind ≠ kind2)) || (decide (size ≠ size2)))) (b := false) (v := .slice ab2 bytes2.length cb2) rfl (wgb_f _) (fun hc22 => ?_) ?_)
 ·
  have hc22_ := hc22
  try simp only [sb] at hc22_
  refine r_load (v := .slice ab2 bytes2.length cb2) (gvt hc22) hc10 rfl ?_
  exact ⟨rfl, rfl⟩
 refine WL_some (og_if (s := .bool ((decide (kind ≠ kind2)) || (decide (size ≠ size2)))) (b := false) (v := .string (strOfNums bytes2)) rfl (wgb_f _) (fun hc23 => ?_) ?_)
 ·
  have hc23_ := hc23
  try simp only [sb] at hc23_
  refine r_bytesStr (xs := bytes2) (RB2.grow G) (gvt hc23) ?_
  exact ⟨rfl, rfl⟩
 refine WL_some (og_if (s := .bool ((decide (kind ≠ kind2)) || (decide (size ≠ size2)))) (b := false) (v := .bool (!(decide (bytes = bytes2)))) rfl (wgb_f _) (fun hc24 => ?_) ?_)
 ·
  have hc24_ := hc24
  try simp only [sb] at hc24_
  refine r_neqStr (gvt hc24) (gvt hc24) ?_
  rw [strOf_eq hbr hbr2]
  exact ⟨rfl, rfl⟩
 refine stp (r_or2 rfl rfl rfl ?_)
 refine stp (r_move_bool rfl ?_)
 refine WL_some (og_if (s := .bool (((decide (kind ≠ kind2)) || (decide (size ≠ size2))) || (!(decide (bytes = bytes2))))) (b := false) (v := .pointer (some ⟨b1, 2, none⟩)) rfl (wgb_f _) (fun hc25 => ?_) ?_)
 ·
  have hc25_ := hc25
  try simp only [sb] at hc25_
  refine r_fieldAddr rfl ?_
  exact ⟨rfl, rfl⟩
 refine WL_some (og_if (s := .bool (((decide (kind ≠ kind2)) || (decide (size ≠ size2))) || (!(decide (bytes = bytes2))))) (b := false) (v := .slice aw words.length cw) rfl (wgb_f _) (fun hc26 => ?_) ?_)
 ·
  have hc26_ := hc26
  try simp only [sb] at hc26_
  refine r_load (v := .slice aw words.length cw) (gvt hc26) hc4 rfl ?_
  exact ⟨rfl, rfl⟩
 refine WL_some (og_if (s := .bool (((decide (kind ≠ kind2)) || (decide (size ≠ size2))) || (!(decide (bytes = bytes2))))) (b := false) (v := .int .i64 (words.length : Int)) rfl (wgb_f _) (fun hc27 => ?_) ?_)
 ·
  have hc27_ := hc27
  try simp only [sb] at hc27_
  refine r_len rfl rfl (gvt hc27) ?_
  exact ⟨rfl, rfl⟩
 refine WL_some (og_if (s := .bool (((decide (kind ≠ kind2)) || (decide (size ≠ size2))) || (!(decide (bytes = bytes2))))) (b := false) (v := .pointer (some ⟨b7, 2, none⟩)) rfl (wgb_f _) (fun hc28 => ?_) ?_)
 ·
  have hc28_ := hc28
  try simp only [sb] at hc28_
  refine r_fieldAddr rfl ?_
  exact ⟨rfl, rfl⟩
 refine WL_some (og_if (s := .bool (((decide (kind ≠ kind2)) || (decide (size ≠ size2))) || (!(decide (bytes = bytes2))))) (b := false) (v := .slice aw2 words2.length cw2) rfl (wgb_f _) (fun hc29 => ?_) ?_)
 ·
  have hc29_ := hc29
  try simp only [sb] at hc29_
  refine r_load (v := .slice aw2 words2.length cw2) (gvt hc29) hc10 rfl ?_
  exact ⟨rfl, rfl⟩
 refine WL_some (og_if (s := .bool (((decide (kind ≠ kind2)) || (decide (size ≠ size2))) || (!(decide (bytes = bytes2))))) (b := false) (v := .int .i64 (words2.length : Int)) rfl (wgb_f _) (fun hc30 => ?_) ?_)
 ·
  have hc30_ := hc30
  try simp only [sb] at hc30_
  refine r_len rfl rfl (gvt hc30) ?_
  exact ⟨rfl, rfl⟩
 refine WL_some (og_if (s := .bool (((decide (kind ≠ kind2)) || (decide (size ≠ size2))) || (!(decide (bytes = bytes2))))) (b := false) (v := .bool (decide ((words.length : Int) ≠ (words2.length : Int)))) rfl (wgb_f _) (fun hc31 => ?_) ?_)
 ·
  have hc31_ := hc31
  try simp only [sb] at hc31_
  refine r_neq (gvt hc31) (gvt hc31) ?_
  exact ⟨rfl, rfl⟩
 refine stp (r_or2 rfl rfl rfl ?_)
 refine stp (r_move_bool rfl ?_)
 refine WL_some (og_if (s := .bool ((((decide (kind ≠ kind2)) || (decide (size ≠ size2))) || (!(decide (bytes = bytes2)))) || (decide ((words.length : Int) ≠ (words2.length : Int))))) (b := false) (v := .pointer (some ⟨b1, 4, none⟩)) rfl (wgb_f _) (fun hc32 => ?_) ?_)
 ·
  have hc32_ := hc32
  try simp only [sb] at hc32_
  refine r_fieldAddr rfl ?_
  exact ⟨rfl, rfl⟩
 refine WL_some (og_if (s := .bool ((((decide (kind ≠ kind2)) || (decide (size ≠ size2))) || (!(decide (bytes = bytes2)))) || (decide ((words.length : Int) ≠ (words2.length : Int))))) (b := false) (v := .slice ak kids.length ck) rfl (wgb_f _) (fun hc33 => ?_) ?_)
 ·
  have hc33_ := hc33
  try simp only [sb] at hc33_
  refine r_load (v := .slice ak kids.length ck) (gvt hc33) hc4 rfl ?_
  exact ⟨rfl, rfl⟩
 refine WL_some (og_if (s := .bool ((((decide (kind ≠ kind2)) || (decide (size ≠ size2))) || (!(decide (bytes = bytes2)))) || (decide ((words.length : Int) ≠ (words2.length : Int))))) (b := false) (v := .int .i64 (kids.length : Int)) rfl (wgb_f _) (fun hc34 => ?_) ?_)
 ·
  have hc34_ := hc34
  try simp only [sb] at hc34_
  refine r_len rfl rfl (gvt hc34) ?_
  exact ⟨rfl, rfl⟩
 refine WL_some (og_if (s := .bool ((((decide (kind ≠ kind2)) || (decide (size ≠ size2))) || (!(decide (bytes = bytes2)))) || (decide ((words.length : Int) ≠ (words2.length : Int))))) (b := false) (v := .pointer (some ⟨b7, 4, none⟩)) rfl (wgb_f _) (fun hc35 => ?_) ?_)
 ·
  have hc35_ := hc35
  try simp only [sb] at hc35_
  refine r_fieldAddr rfl ?_
  exact ⟨rfl, rfl⟩
 refine WL_some (og_if (s := .bool ((((decide (kind ≠ kind2)) || (decide (size ≠ size2))) || (!(decide (bytes = bytes2)))) || (decide ((words.length : Int) ≠ (words2.length : Int))))) (b := false) (v := .slice ak2 kids2.length ck2) rfl (wgb_f _) (fun hc36 => ?_) ?_)
 ·
  have hc36_ := hc36
  try simp only [sb] at hc36_
  refine r_load (v := .slice ak2 kids2.length ck2) (gvt hc36) hc10 rfl ?_
  exact ⟨rfl, rfl⟩
 refine WL_some (og_if (s := .bool ((((decide (kind ≠ kind2)) || (decide (size ≠ size2))) || (!(decide (bytes = bytes2)))) || (decide ((words.length : Int) ≠ (words2.length : Int))))) (b := false) (v := .int .i64 (kids2.length : Int)) rfl (wgb_f _) (fun hc37 => ?_) ?_)
 ·
  have hc37_ := hc37
  try simp only [sb] at hc37_
  refine r_len rfl rfl (gvt hc37) ?_
  exact ⟨rfl, rfl⟩
 refine WL_some (og_if (s := .bool ((((decide (kind ≠ kind2)) || (decide (size ≠ size2))) || (!(decide (bytes = bytes2)))) || (decide ((words.length : Int) ≠ (words2.length : Int))))) (b := false) (v := .bool (decide ((kids.length : Int) ≠ (kids2.length : Int)))) rfl (wgb_f _) (fun hc38 => ?_) ?_)
 ·
  have hc38_ := hc38
  try simp only [sb] at hc38_
  refine r_neq (gvt hc38) (gvt hc38) ?_
  exact ⟨rfl, rfl⟩
 refine stp (r_or2 rfl rfl rfl ?_)
 refine WL_nil ?_
 refine W_cond2 (b := (((((decide (kind ≠ kind2)) || (decide (size ≠ size2))) || (!(decide (bytes = bytes2)))) || (decide ((words.length : Int) ≠ (words2.length : Int)))) || (decide ((kids.length : Int) ≠ (kids2.length : Int))))) rfl (fun h1 => ?_) (fun h1 => ?_)
 ·-- true
  simp only [sb] at h1
  refine W_seq (W_region rfl ?_)
  refine stp (r_assign (v := .bool false) rfl ?_)
  refine WL_nil ?_
  refine W_ret ?_
  have h9 : (Nd.mk kind size words bytes kids).beq (.mk kind2 size2 words2 bytes2 kids2) = false := by cases hb_ : ((Nd.mk kind size words bytes kids).beq (.mk kind2 size2 words2 bytes2 kids2)) with | false => rfl | true => (exfalso; have h_ := (Nd.beq_iff _ _).1 hb_; simp only [Nd.mk.injEq] at h_; obtain ⟨rfl, rfl, rfl, rfl, rfl⟩ := h_; simp at h1)
  refine ret1 (res_tmp (v := .bool false) rfl) ⟨?_, G⟩
  rw [h9]
 ·-- false
  simp only [sb] at h1
  obtain ⟨e1, e2, e3, e4, e5⟩ : kind = kind2 ∧ size = size2 ∧ bytes = bytes2 ∧ words.length = words2.length ∧ kids.length = kids2.length := by simp at h1; refine ⟨by omega, by omega, by simp_all, by omega, by omega⟩
  refine W_skip ?_
  refine W_seq ?_
  refine W_seq (W_region rfl ?_)
  refine stp (r_assign_int rfl ?_)
  refine WL_nil ?_
  refine W_block ?_
  refine W_loop (fun m_ e_ w_ => ∃ (k : Nat), m_ = words.length - k ∧ Fr [(2, .pointer (some ⟨b1, 0, none⟩)), (3, .pointer (some ⟨b7, 0, none⟩)), (5, .int .i64 (k : Int))] e_ ∧ (k ≤ words.length) ∧ (∀ j, j < k → words.getD j 0 = words2.getD j 0) ∧ (w_.heap[b1]? = some (.cells #[.int .i64 kind, .int .i64 size, .slice aw words.length cw, .slice ab bytes.length cb, .slice ak kids.length ck] 37 (0, 0))) ∧ (w_.heap[b7]? = some (.cells #[.int .i64 kind2, .int .i64 size2, .slice aw2 words2.length cw2, .slice ab2 bytes2.length cb2, .slice ak2 kids2.length ck2] 37 (0, 0))) ∧ Grow w w_) _ ⟨0, rfl, fr_of ⟨rfl, rfl, rfl, trivial⟩, by omega, fun j hj => by omega, hc4, hc10, G⟩ ?_
  clear hc4 hc10
  clear G
  rintro m_ e_ w39 ⟨k, rfl, ⟨e40, rfl⟩, hk2, hk_, hc4, hc10, G⟩
  refine W_seq ?_
  refine W_seq (W_region rfl ?_)
  refine stp (r_move_int rfl ?_)
  refine stp (r_fieldAddr rfl ?_)
  refine stp (r_load (v := .slice aw words.length cw) rfl hc4 rfl ?_)
  refine stp (r_len rfl rfl rfl ?_)
  refine stp (r_lss rfl rfl ?_)
  refine WL_nil ?_
  refine W_cond2 (b := (decide ((k : Int) < (words.length : Int)))) rfl (fun hlt => ?_) (fun hlt => ?_)
  ·-- true
   replace hlt := of_decide_eq_true hlt
   have hk3 : k < words2.length := by omega
   refine W_skip ?_
   refine W_seq ?_
   refine W_block ?_
   refine W_seq ?_
   refine W_any 11 [[], [0], [], [2, 1, 0], [3, 2, 1, 0], [], [0], [], [2, 1, 0], [3, 2, 1, 0], [9, 8, 7, 6, 5, 4, 3, 2, 1, 0]] mixed (by kernel_rfl) (by kernel_rfl) (by kernel_rfl) ?_
   intro w41 g42
   replace hc4 := g42.heap hc4
   replace hc10 := g42.heap hc10
   replace G := G.tr g42
   clear g42
   apply AO_ex
   ·intro w_ g_; refine og rfl ?_; refine r_fieldAddr rfl ?_; exact ⟨Grow.rfl' _, rfl⟩
   apply AO_ex
   ·intro w_ g_; refine og rfl ?_; refine r_load (v := .slice aw words.length cw) rfl (g_.heap hc4) rfl ?_; exact ⟨Grow.rfl' _, rfl⟩
   apply AO_ex
   ·intro w_ g_; refine og rfl ?_; refine r_move_int rfl ?_; exact ⟨Grow.rfl' _, rfl⟩
   apply AO_ex
   ·intro w_ g_; refine og rfl ?_; refine r_indexN (RW.grow (G.tr g_)) rfl rfl ?_ ?_; omega; exact ⟨Grow.rfl' _, rfl⟩
   apply AO_ex
   ·intro w_ g_; refine og rfl ?_; refine r_loadR (v := .int .u64 (words.getD k 0)) (m := 0) (RW.grow (G.tr g_)) rfl (map_get1 0 (by omega)) ?_; exact ⟨Grow.rfl' _, rfl⟩
   apply AO_ex
   ·intro w_ g_; refine og rfl ?_; refine r_fieldAddr rfl ?_; exact ⟨Grow.rfl' _, rfl⟩
   apply AO_ex
   ·intro w_ g_; refine og rfl ?_; refine r_load (v := .slice aw2 words2.length cw2) rfl (g_.heap hc10) rfl ?_; exact ⟨Grow.rfl' _, rfl⟩
   apply AO_ex
   ·intro w_ g_; refine og rfl ?_; refine r_move_int rfl ?_; exact ⟨Grow.rfl' _, rfl⟩
   apply AO_ex
   ·intro w_ g_; refine og rfl ?_; refine r_indexN (RW2.grow (G.tr g_)) rfl rfl ?_ ?_; omega; exact ⟨Grow.rfl' _, rfl⟩
   apply AO_ex
   ·intro w_ g_; refine og rfl ?_; refine r_loadR (v := .int .u64 (words2.getD k 0)) (m := 0) (RW2.grow (G.tr g_)) rfl (map_get1 0 (by omega)) ?_; exact ⟨Grow.rfl' _, rfl⟩
   apply AO_ex
   ·intro w_ g_; refine og rfl ?_; refine r_neq rfl rfl ?_; exact ⟨Grow.rfl' _, rfl⟩
   refine AO_nil ?_
   intro w43 g44
   replace hc4 := g44.heap hc4
   replace hc10 := g44.heap hc10
   replace G := G.tr g44
   clear g44
   refine WL_nil ?_
   refine W_cond2 (b := (decide ((words.getD k 0) ≠ (words2.getD k 0)))) rfl (fun h3 => ?_) (fun h3 => ?_)
   ·-- true
    replace h3 := of_decide_eq_true h3
    refine W_seq (W_region rfl ?_)
    refine stp (r_assign (v := .bool false) rfl ?_)
    refine WL_nil ?_
    refine W_ret ?_
    have h9 : (Nd.mk kind size words bytes kids).beq (.mk kind2 size2 words2 bytes2 kids2) = false := by cases hb_ : ((Nd.mk kind size words bytes kids).beq (.mk kind2 size2 words2 bytes2 kids2)) with | false => rfl | true => (exfalso; have h_ := (Nd.beq_iff _ _).1 hb_; simp only [Nd.mk.injEq] at h_; obtain ⟨-, -, h_, -, -⟩ := h_; rw [h_] at h3; exact h3 rfl)
    refine ret1 (res_tmp (v := .bool false) rfl) ⟨?_, G⟩
    rw [h9]
   ·-- false
    replace h3 := of_decide_eq_false h3
    refine W_skip ?_
    refine W_region rfl ?_
    refine stp (r_move_int rfl ?_)
    refine stp (r_add rfl rfl ?_ ?_); constructor <;> omega
    refine stp (r_assign_int rfl ?_)
    refine WL_nil ?_
    refine ⟨_, ?_, k + 1, rfl, fr_of ⟨rfl, rfl, rfl, trivial⟩, by omega, fun j hj => by rcases Nat.lt_succ_iff_lt_or_eq.1 hj with h_ | h_; exact hk_ j h_; subst h_; omega, hc4, hc10, G⟩
    omega
  ·-- false
   replace hlt := of_decide_eq_false hlt
   have hk3 : k = words.length := by omega
   have e6 : words = words2 := lists_eq e4 (fun j hj => hk_ j (by omega))
   refine W_exit ?_
   refine W_seq ?_
   refine W_seq (W_region rfl ?_)
   refine stp (r_assign_int rfl ?_)
   refine WL_nil ?_
   refine W_block ?_
   refine W_loop (fun m_ e_ w_ => ∃ (j : Nat), m_ = kids.length - j ∧ Fr [(2, .pointer (some ⟨b1, 0, none⟩)), (3, .pointer (some ⟨b7, 0, none⟩)), (6, .int .i64 (j : Int))] e_ ∧ (j ≤ kids.length) ∧ (∀ i, i < j → (h : i < kids.length) → kids[i] = kids2[i]) ∧ (w_.heap[b1]? = some (.cells #[.int .i64 kind, .int .i64 size, .slice aw words.length cw, .slice ab bytes.length cb, .slice ak kids.length ck] 37 (0, 0))) ∧ (w_.heap[b7]? = some (.cells #[.int .i64 kind2, .int .i64 size2, .slice aw2 words2.length cw2, .slice ab2 bytes2.length cb2, .slice ak2 kids2.length ck2] 37 (0, 0))) ∧ Grow w w_) _ ⟨0, rfl, fr_of ⟨rfl, rfl, rfl, trivial⟩, by omega, fun i hi => by omega, hc4, hc10, G⟩ ?_
   clear hc4 hc10
   clear G
   rintro m_ e_ w45 ⟨j, rfl, ⟨e46, rfl⟩, hj2, hj_, hc4, hc10, G⟩
   refine W_seq ?_
   refine W_seq (W_region rfl ?_)
   refine stp (r_move_int rfl ?_)
   refine stp (r_fieldAddr rfl ?_)
   refine stp (r_load (v := .slice ak kids.length ck) rfl hc4 rfl ?_)
   refine stp (r_len rfl rfl rfl ?_)
   refine stp (r_lss rfl rfl ?_)
   refine WL_nil ?_
   refine W_cond2 (b := (decide ((j : Int) < (kids.length : Int)))) rfl (fun hlt2 => ?_) (fun hlt2 => ?_)
   ·-- true
    replace hlt2 := of_decide_eq_true hlt2
    have hj3 : j < kids.length := by omega
    have hj4 : j < kids2.length := by omega
    have hat := KidsR.at_ j kids[j] hKs (by simp [hj3])
    have hat2 := KidsR.at_ j kids2[j] hKs2 (by simp [hj4])
    have hsz := Nd.szs_at kids j kids[j] (by simp [hj3])
    simp only [Nd.sz] at hm_
    refine W_skip ?_
    refine W_seq ?_
    refine W_block ?_
    refine W_seq ?_
    refine W_any 12 [[], [0], [], [2, 1, 0], [3, 2, 1, 0], [], [0], [], [2, 1, 0], [3, 2, 1, 0], [9, 8, 7, 6, 5, 4, 3, 2, 1, 0], [10, 9, 8, 7, 6, 5, 4, 3, 2, 1, 0]] mixed (by kernel_rfl) (by kernel_rfl) (by kernel_rfl) ?_
    intro w47 g48
    replace hc4 := g48.heap hc4
    replace hc10 := g48.heap hc10
    replace G := G.tr g48
    clear g48
    apply AO_ex
    ·intro w_ g_; refine og rfl ?_; refine r_fieldAddr rfl ?_; exact ⟨Grow.rfl' _, rfl⟩
    apply AO_ex
    ·intro w_ g_; refine og rfl ?_; refine r_load (v := .slice ak kids.length ck) rfl (g_.heap hc4) rfl ?_; exact ⟨Grow.rfl' _, rfl⟩
    apply AO_ex
    ·intro w_ g_; refine og rfl ?_; refine r_move_int rfl ?_; exact ⟨Grow.rfl' _, rfl⟩
    apply AO_ex
    ·intro w_ g_; refine og rfl ?_; refine r_indexN (RK.grow (G.tr g_)) rfl rfl ?_ ?_; omega; exact ⟨Grow.rfl' _, rfl⟩
    apply AO_ex
    ·intro w_ g_; refine og rfl ?_; refine r_loadNR (RK.grow (G.tr g_)) rfl (by decide) (by rw [RK.len]; omega) rfl ?_; exact ⟨Grow.rfl' _, rfl⟩
    apply AO_ex
    ·intro w_ g_; refine og rfl ?_; refine r_fieldAddr rfl ?_; exact ⟨Grow.rfl' _, rfl⟩
    apply AO_ex
    ·intro w_ g_; refine og rfl ?_; refine r_load (v := .slice ak2 kids2.length ck2) rfl (g_.heap hc10) rfl ?_; exact ⟨Grow.rfl' _, rfl⟩
    apply AO_ex
    ·intro w_ g_; refine og rfl ?_; refine r_move_int rfl ?_; exact ⟨Grow.rfl' _, rfl⟩
    apply AO_ex
    ·intro w_ g_; refine og rfl ?_; refine r_indexN (RK2.grow (G.tr g_)) rfl rfl ?_ ?_; omega; exact ⟨Grow.rfl' _, rfl⟩
    apply AO_ex
    ·intro w_ g_; refine og rfl ?_; refine r_loadNR (RK2.grow (G.tr g_)) rfl (by decide) (by rw [RK2.len]; omega) rfl ?_; exact ⟨Grow.rfl' _, rfl⟩
    apply AO_ex
    ·intro w_ g_; refine og rfl ?_; exact r_gives (v := .bool (kids[j].beq kids2[j])) rfl (ih_ _ (hat.grow (G.tr g_)) (hat2.grow (G.tr g_)) (by omega)) (fun w2_ g2_ => ⟨g2_, rfl⟩)
    apply AO_ex
    ·intro w_ g_; refine og rfl ?_; refine r_not rfl ?_; exact ⟨Grow.rfl' _, rfl⟩
    refine AO_nil ?_
    intro w49 g50
    replace hc4 := g50.heap hc4
    replace hc10 := g50.heap hc10
    replace G := G.tr g50
    clear g50
    refine WL_nil ?_
    refine W_cond2 (b := (!(kids[j].beq kids2[j]))) rfl (fun h5 => ?_) (fun h5 => ?_)
    ·-- true
     simp only [sb] at h5
     refine W_seq (W_region rfl ?_)
     refine stp (r_assign (v := .bool false) rfl ?_)
     refine WL_nil ?_
     refine W_ret ?_
     have h9 : (Nd.mk kind size words bytes kids).beq (.mk kind2 size2 words2 bytes2 kids2) = false := by cases hb_ : ((Nd.mk kind size words bytes kids).beq (.mk kind2 size2 words2 bytes2 kids2)) with | false => rfl | true => (exfalso; have h_ := (Nd.beq_iff _ _).1 hb_; simp only [Nd.mk.injEq] at h_; obtain ⟨-, -, -, -, rfl⟩ := h_; rw [(Nd.beq_iff _ _).2 rfl] at h5; simp at h5)
     refine ret1 (res_tmp (v := .bool false) rfl) ⟨?_, G⟩
     rw [h9]
    ·-- false
     simp only [sb] at h5
     refine W_skip ?_
     refine W_region rfl ?_
     refine stp (r_move_int rfl ?_)
     refine stp (r_add rfl rfl ?_ ?_); constructor <;> omega
     refine stp (r_assign_int rfl ?_)
     refine WL_nil ?_
     refine ⟨_, ?_, j + 1, rfl, fr_of ⟨rfl, rfl, rfl, trivial⟩, by omega, fun i hi hi2 => by rcases Nat.lt_succ_iff_lt_or_eq.1 hi with h_ | h_; exact hj_ i h_ hi2; subst h_; exact (Nd.beq_iff _ _).1 (by simpa using h5), hc4, hc10, G⟩
     omega
   ·-- false
    replace hlt2 := of_decide_eq_false hlt2
    have hj3 : j = kids.length := by omega
    have e7 : kids = kids2 := List.ext_getElem e5 (fun i h1_ h2_ => hj_ i (by omega) h1_)
    refine W_exit ?_
    refine W_seq (W_region rfl ?_)
    refine stp (r_assign (v := .bool true) rfl ?_)
    refine WL_nil ?_
    refine W_ret ?_
    have h9 : (Nd.mk kind size words bytes kids).beq (.mk kind2 size2 words2 bytes2 kids2) = true := by rw [Nd.beq_iff, e1, e2, e3, e6, e7]
    refine ret1 (res_tmp (v := .bool true) rfl) ⟨?_, G⟩
    rw [h9]

set_option maxRecDepth 100000 in
theorem tree_calls : ∀ (n_ : Nat) (w : World) {w0 : World} {d n cp : Nat} {ad : Option Addr} {xs : List Int} (R : RowAt w0 1 ad n (xs.map (.int .u8))) (g0 : Grow w0 w) (hn : n = xs.length) (hx : ∀ x ∈ xs, inR .u8 x) (hcp : n ≤ cp) (hcp2 : cp ≤ maxLen) (hd : d ≤ 100), d + 1 ≤ n_ → Calls Try.prog 15 #[.slice ad n cp, .int .i64 (d : Int)] w (Ret fun v w' => ∃ cells ad' n' c', v = .tuple #[.agg cells.toArray, .slice ad' n' c'] ∧ NodeR (hide w.heap.size w') cells (treeP d xs).1 ∧ n' = (treeP d xs).2.length ∧ n' ≤ c' ∧ c' ≤ maxLen ∧ RowAt w0 1 ad' n' ((treeP d xs).2.map (.int .u8)) ∧ Grow w w') := by
 intro n_
 induction n_ with
 | zero => intro w w0 d n cp ad xs R g0 hn hx hcp hcp2 hd hm_; exact absurd hm_ (by have := Nat.succ_pos d; omega)
 | succ n_ ih_ =>
 intro w w0 d n cp ad xs R g0 hn hx hcp hcp2 hd hm_
 have G := Grow.rfl' w
 refine calls_ret Try.func15 Try.ntmps15 Try.results15 rfl rfl ?_
 refine W_seq (W_region rfl ?_)
 refine stp (r_alloc ?_)
 intro b1 w2 hb3 hc4 g5
 refine stp (r_assign_slice rfl ?_)
 refine WL_nil ?_
 refine W_seq ?_
 refine W_seq (W_region rfl ?_)
 refine stp (r_move_slice rfl ?_)
 refine stp (r_len rfl rfl rfl ?_)
 refine stp (r_eql rfl rfl ?_)
 refine stp (r_move_bool rfl ?_)
 refine WL_some (og_if (s := .bool (decide ((n : Int) = 0))) (b := false) (v := .int .i64 (d : Int)) rfl (wgb_f _) (fun hc6 => ?_) ?_)
 ·
  have hc6_ := hc6
  try simp only [sb] at hc6_
  refine r_move_int rfl ?_
  exact ⟨rfl, rfl⟩
 refine WL_some (og_if (s := .bool (decide ((n : Int) = 0))) (b := false) (v := .bool (decide ((d : Int) = 0))) rfl (wgb_f _) (fun hc7 => ?_) ?_)
 ·
  have hc7_ := hc7
  try simp only [sb] at hc7_
  refine r_eql (gvt hc7) rfl ?_
  exact ⟨rfl, rfl⟩
 refine stp (r_or2 rfl rfl rfl ?_)
 refine WL_nil ?_
 have hge8 := Nat.le_trans G.size hb3
 replace G := G.tr g5
 clear g5 hb3
 refine W_cond2 (b := ((decide ((n : Int) = 0)) || (decide ((d : Int) = 0)))) rfl (fun h1 => ?_) (fun h1 => ?_)
 ·-- true
  simp only [sb] at h1
  have hst : treeP d xs = (.nil, xs) := treeP_stop (by rcases h1 with h | h; exact .inl (List.eq_nil_of_length_eq_zero (by omega)); exact .inr (by omega))
  refine W_seq (W_region rfl ?_)
  refine stp (r_build (v := .agg #[.int .i64 0, .int .i64 0, .slice none 0 0, .slice none 0 0, .slice none 0 0]) (fun w => by kernel_rfl) ?_)
  refine stp (r_move_slice rfl ?_)
  refine stn (r_storeAll rfl rfl hc4 (by rfl) (by rfl) (by rfl) ?_)
  intro w9 hc10 u11
  replace G := G.upd u11 hge8
  clear u11 hc4
  refine stp (r_assign_slice rfl ?_)
  refine WL_nil ?_
  refine W_ret ?_
  rw [hst]
  refine ret2 (res_all rfl hc10 (by rfl)) (res_tmp (v := .slice ad n cp) rfl) ⟨[_, _, _, _, _], _, _, _, rfl, NodeR.zero _, hn, hcp, hcp2, R, G⟩
 ·-- false
  simp only [sb] at h1
  obtain ⟨h1a, h1b⟩ := h1
  obtain ⟨d, rfl⟩ : ∃ e, d = e + 1 := ⟨d - 1, by omega⟩
  obtain ⟨k, c, rfl⟩ : ∃ k c, xs = k :: c := by cases xs with | nil => simp at hn; omega | cons k c => exact ⟨_, _, rfl⟩
  have hk := hx k (by simp)
  simp only [inR] at hk
  simp only [List.length_cons] at hn
  have hxc : ∀ x ∈ c, inR .u8 x := fun x h_ => hx x (by simp [h_])
  have hlim := R.lim
  have hnc : n - 1 = c.length := by omega
  refine W_skip ?_
  refine W_seq (W_region rfl ?_)
  refine stp (r_move_slice rfl ?_)
  refine stp (r_indexR ((R.grow g0).grow G) rfl rfl ?_ ?_ ?_); omega; omega
  refine stp (r_loadR (v := .int .u8 k) (m := 0) ((R.grow g0).grow G) rfl rfl ?_)
  refine stp (r_assign_int rfl ?_)
  refine WL_nil ?_
  refine W_seq (W_region rfl ?_)
  refine stp (r_move_slice rfl ?_)
  refine stp (r_sliceL rfl rfl (by omega) (by omega) ?_)
  have R1 := R.sliceLH (l := 1) (m := n - 1) hcp (by omega) (by omega)
  rw [show ((1 : Int).toNat) = 1 from rfl]
  generalize (if cp = 1 then ad else ad.map (·.add (1 * 1))) = ad1 at R1 ⊢
  have R2 : RowAt w0 1 ad1 (n - 1) (c.map (.int .u8)) := by
   have e_ : (List.take ((n - 1) * 1) (List.drop (1 * 1) (List.map (Value.int .u8) (k :: c)))) = c.map (.int .u8) := by simp only [Nat.mul_one, List.map_cons, List.drop_succ_cons, List.drop_zero]; rw [List.take_of_length_le (by rw [List.length_map]; omega)]
   rw [e_] at R1; exact R1
  clear R1
  refine stp (r_assign_slice rfl ?_)
  refine WL_nil ?_
  refine W_seq (W_region rfl ?_)
  refine stp (r_build (v := .agg #[.int .i64 0, .int .i64 0, .slice none 0 0, .slice none 0 0, .slice none 0 0]) (fun w => by kernel_rfl) ?_)
  refine stp (r_alloc ?_)
  intro b12 w13 hb14 hc15 g16
  refine stn (r_storeAll rfl rfl hc15 (by rfl) (by rfl) (by rfl) ?_)
  intro w17 hc18 u19
  have g20 := g16.upd u19 hb14
  have hge21 := Nat.le_trans G.size hb14
  have ne22 := Nat.ne_of_lt (Nat.lt_of_lt_of_le (lt_of_heap hc4) hb14)
  replace hc4 := g20.heap hc4
  replace G := G.tr g20
  clear u19 g16 hb14 hc15
  refine WL_nil ?_
  refine W_seq (W_region rfl ?_)
  refine stp (r_move_int rfl ?_)
  refine stp (r_quo rfl rfl ?_ ?_ ?_ ?_); omega; omega; (constructor <;> omega)
  refine stp (r_rem rfl rfl ?_ ?_ ?_); omega; omega
  refine stp (r_conv rfl ?_ ?_); constructor <;> omega
  refine stp (r_assign_int rfl ?_)
  refine WL_nil ?_
  refine W_seq ?_
  refine W_seq (W_region rfl ?_)
  refine stp (r_move_int rfl ?_)
  refine stp (r_rem rfl rfl ?_ ?_ ?_); omega; omega
  refine WL_nil ?_
  refine W_block ?_
  refine W_seq (W_region rfl ?_)
  refine stp (r_eql rfl rfl ?_)
  refine stp (r_assign_bool rfl ?_)
  refine WL_nil ?_
  refine W_cond2 (b := (decide ((k % 8) = 0))) rfl (fun h2 => ?_) (fun h2 => ?_)
  ·-- true
   replace h2 := of_decide_eq_true h2
   have ht : treeP (d + 1) (k :: c) = (.nil, c) := by simp only [treeP]; rw [if_pos h2]
   refine W_seq (W_region rfl ?_)
   refine stp (r_loadAll rfl hc18 (by rfl) ?_)
   refine stp (r_move_slice rfl ?_)
   refine stn (r_storeAll rfl rfl hc4 (by rfl) (by rfl) (by rfl) ?_)
   intro w23 hc24 u25
   replace hc18 := u25.heap hc18 ne22.symm
   replace G := G.upd u25 hge8
   clear u25 hc4
   refine stp (r_assign_slice rfl ?_)
   refine WL_nil ?_
   refine W_ret ?_
   rw [ht]
   refine ret2 (res_all rfl hc24 (by rfl)) (res_tmp (v := .slice ad1 (n - 1) (cp - 1)) rfl) ⟨[_, _, _, _, _], _, _, _, rfl, NodeR.zero _, hnc, by omega, by omega, R2, G⟩
  ·-- false
   replace h2 := of_decide_eq_false h2
   refine W_seq ?_
   refine W_seq (W_region rfl ?_)
   refine stp (r_eql rfl rfl ?_)
   refine stp (r_assign_bool rfl ?_)
   refine WL_nil ?_
   refine W_cond2 (b := (decide ((k % 8) = 1))) rfl (fun h3 => ?_) (fun h3 => ?_)
   ·-- true
    replace h3 := of_decide_eq_true h3
    refine W_skip ?_
    refine W_true (show _ = Value.bool true from congrArg Value.bool (decide_eq_true h3)) ?_
    refine W_seq (W_region rfl ?_)
    refine stp (r_fieldAddr rfl ?_)
    refine stn (r_store1 (v := .int .i64 2) rfl rfl (by rfl) hc18 (by rfl) (by rfl) ?_)
    intro w26 hc27 u28
    replace hc4 := u28.heap hc4 ne22
    replace G := G.upd u28 hge21
    clear u28 hc18
    refine WL_nil ?_
    refine W_seq (W_region rfl ?_)
    refine stp (r_fieldAddr rfl ?_)
    refine stn (r_store1 (v := .int .i64 2) rfl rfl (by rfl) hc27 (by rfl) (by rfl) ?_)
    intro w29 hc30 u31
    replace hc4 := u31.heap hc4 ne22
    replace G := G.upd u31 hge21
    clear u31 hc27
    refine WL_nil ?_
    refine W_seq (W_region rfl ?_)
    refine stp (r_assign_int rfl ?_)
    refine WL_nil ?_
    refine W_block ?_
    refine W_loop (fun m_ e_ w_ => ∃ (m : Nat) (ad3 : Option Addr) (n3 : Nat) (c3 : Nat), m_ = ((3 * (k / 8 % 5) + k % 2)).toNat - m ∧ Fr [(0, .slice ad1 (n - 1) (cp - 1)), (4, .pointer (some ⟨b1, 0, none⟩)), (5, .slice none 0 0), (6, .int .u8 k), (7, .pointer (some ⟨b12, 0, none⟩)), (8, .int .i64 ((k / 8) % 5)), (9, .int .i64 (m : Int))] e_ ∧ ((m : Int) ≤ (3 * (k / 8 % 5) + k % 2)) ∧ (w_.heap[b1]? = some (.cells #[.int .i64 0, .int .i64 0, .slice none 0 0, .slice none 0 0, .slice none 0 0] 37 (0, 0))) ∧ (w_.heap[b12]? = some (.cells #[.int .i64 2, .int .i64 2, .slice none 0 0, .slice ad3 n3 c3, .slice none 0 0] 37 (0, 0))) ∧ (w_.ownsRow w.heap.size 5 1 (.slice ad3 n3 c3) m ((List.range m).map fun i => .int .u8 (bTree k i))) ∧ Grow w w_) _ ⟨0, none, 0, 0, rfl, fr_of ⟨rfl, rfl, rfl, rfl, rfl, rfl, rfl, trivial⟩, by omega, hc4, hc30, World.ownsRow_nil _ _ _ _, G⟩ ?_
    clear hc4 hc30
    clear G
    rintro m_ e_ w32 ⟨m, ad3, n3, c3, rfl, ⟨e33, rfl⟩, hm, hc4, hc30, own, G⟩
    refine W_seq ?_
    refine W_seq (W_region rfl ?_)
    refine stp (r_move_int rfl ?_)
    refine stp (r_move_int rfl ?_)
    refine stp (r_mul rfl rfl ?_ ?_); constructor <;> omega
    refine stp (r_move_int rfl ?_)
    refine stp (r_rem rfl rfl ?_ ?_ ?_); omega; omega
    refine stp (r_conv rfl ?_ ?_); constructor <;> omega
    refine stp (r_add rfl rfl ?_ ?_); constructor <;> omega
    refine stp (r_lss rfl rfl ?_)
    refine WL_nil ?_
    refine W_cond2 (b := (decide ((m : Int) < ((3 * ((k / 8) % 5)) + (k % 2))))) rfl (fun hlt => ?_) (fun hlt => ?_)
    ·-- true
     replace hlt := of_decide_eq_true hlt
     refine W_skip ?_
     refine W_seq ?_
     refine W_block ?_
     refine W_region rfl ?_
     refine stp (r_fieldAddr rfl ?_)
     refine stp (r_load (v := .slice ad3 n3 c3) rfl hc30 rfl ?_)
     refine stp (r_move_int rfl ?_)
     refine stp (r_move_int rfl ?_)
     refine stp (r_conv rfl ?_ ?_); constructor <;> omega
     refine stp (r_addw rfl rfl ?_)
     refine stp (r_buildSlice (cs := #[.int .u8 (bTree k m)]) (el := 5) (fun w => by kernel_rfl) ?_)
     intro bs34 w35 hb36 hc37 g38
     have hge39 := Nat.le_trans G.size hb36
     have ne40 := Nat.ne_of_lt (Nat.lt_of_lt_of_le (lt_of_heap hc4) hb36)
     have ne41 := Nat.ne_of_lt (Nat.lt_of_lt_of_le (lt_of_heap hc30) hb36)
     replace hc4 := g38.heap hc4
     replace hc30 := g38.heap hc30
     replace own := own_grow own g38
     replace G := G.tr g38
     clear g38
     refine stp (r_append rfl rfl rfl rfl own (Row.of_block (n := 1) hc37 rfl rfl (by omega)) (fun q_ hq_ => by simp at hq_; subst hq_; rfl) (by simp only [maxLen]; omega) (by omega) G.size ?_)
     intro v42 w43 own6 gr6
     replace G := G.grown gr6 (own_ge own)
     replace hc4 := gr_heap gr6 hc4 (own_ne own hc4 (by decide))
     replace hc30 := gr_heap gr6 hc30 (own_ne own hc30 (by decide))
     clear own gr6
     obtain ⟨ad4, n4, c4, rfl⟩ := own_slice own6
     refine stp (r_fieldAddr rfl ?_)
     refine stn (r_store1 (v := .slice ad4 n4 c4) rfl rfl (by rfl) hc30 (by rfl) (by rfl) ?_)
     intro w44 hc45 u46
     replace hc4 := u46.heap hc4 ne22
     replace own6 := own_upd own6 u46 (own_ne own6 hc30 (by decide))
     replace G := G.upd u46 hge21
     clear u46 hc30
     refine WL_nil ?_
     refine W_region rfl ?_
     refine stp (r_move_int rfl ?_)
     refine stp (r_add rfl rfl ?_ ?_); constructor <;> omega
     refine stp (r_assign_int rfl ?_)
     refine WL_nil ?_
     refine ⟨_, ?_, m + 1, ad4, n4, c4, rfl, fr_of ⟨rfl, rfl, rfl, rfl, rfl, rfl, congrArg (Value.int .i64) (by omega), trivial⟩, by omega, hc4, hc45, (by rw [List.range_succ, List.map_append]; exact own6), G⟩
     omega
    ·-- false
     replace hlt := of_decide_eq_false hlt
     have hm2 : m = (3 * (k / 8 % 5) + k % 2).toNat := by omega
     have ht : treeP (d + 1) (k :: c) = (.mk 2 2 [] ((List.range (3 * (k / 8 % 5) + k % 2).toNat).map (bTree k)) [], c) := by simp only [treeP]; rw [if_neg h2, if_pos (by omega)]
     refine W_exit ?_
     refine W_seq (W_region rfl ?_)
     refine stp (r_loadAll rfl hc30 (by rfl) ?_)
     refine stp (r_move_slice rfl ?_)
     refine stn (r_storeAll rfl rfl hc4 (by rfl) (by rfl) (by rfl) ?_)
     intro w47 hc48 u49
     replace hc30 := u49.heap hc30 ne22.symm
     replace own := own_upd own u49 (own_ne own hc4 (by decide))
     replace G := G.upd u49 hge8
     clear u49 hc4
     refine stp (r_assign_slice rfl ?_)
     refine WL_nil ?_
     refine W_ret ?_
     rw [ht]
     refine ret2 (res_all rfl hc48 (by rfl)) (res_tmp (v := .slice ad1 (n - 1) (cp - 1)) rfl) ⟨[_, _, _, _, _], _, _, _, rfl, .mk (by simp [inR]) (by simp [inR]) (Row.nil _ _) (by simp) (own_hide_ints own hm2 (by omega)) (fun x hx_ => by obtain ⟨i, _, rfl⟩ := List.mem_map.1 hx_; exact wrap_u8R _) (Row.nil _ _) .nil, hnc, (by omega), (by omega), R2, G⟩
   ·-- false
    replace h3 := of_decide_eq_false h3
    refine W_region rfl ?_
    refine stp (r_eql rfl rfl ?_)
    refine stp (r_assign_bool rfl ?_)
    refine WL_nil ?_
    refine W_cond2 (b := (decide ((k % 8) = 2))) rfl (fun h4 => ?_) (fun h4 => ?_)
    ·-- true
     replace h4 := of_decide_eq_true h4
     refine W_seq (W_region rfl ?_)
     refine stp (r_fieldAddr rfl ?_)
     refine stn (r_store1 (v := .int .i64 2) rfl rfl (by rfl) hc18 (by rfl) (by rfl) ?_)
     intro w50 hc51 u52
     replace hc4 := u52.heap hc4 ne22
     replace G := G.upd u52 hge21
     clear u52 hc18
     refine WL_nil ?_
     refine W_seq (W_region rfl ?_)
     refine stp (r_fieldAddr rfl ?_)
     refine stn (r_store1 (v := .int .i64 2) rfl rfl (by rfl) hc51 (by rfl) (by rfl) ?_)
     intro w53 hc54 u55
     replace hc4 := u55.heap hc4 ne22
     replace G := G.upd u55 hge21
     clear u55 hc51
     refine WL_nil ?_
     refine W_seq (W_region rfl ?_)
     refine stp (r_assign_int rfl ?_)
     refine WL_nil ?_
     refine W_block ?_
     refine W_loop (fun m_ e_ w_ => ∃ (m : Nat) (ad3 : Option Addr) (n3 : Nat) (c3 : Nat), m_ = ((3 * (k / 8 % 5) + k % 2)).toNat - m ∧ Fr [(0, .slice ad1 (n - 1) (cp - 1)), (4, .pointer (some ⟨b1, 0, none⟩)), (5, .slice none 0 0), (6, .int .u8 k), (7, .pointer (some ⟨b12, 0, none⟩)), (8, .int .i64 ((k / 8) % 5)), (9, .int .i64 (m : Int))] e_ ∧ ((m : Int) ≤ (3 * (k / 8 % 5) + k % 2)) ∧ (w_.heap[b1]? = some (.cells #[.int .i64 0, .int .i64 0, .slice none 0 0, .slice none 0 0, .slice none 0 0] 37 (0, 0))) ∧ (w_.heap[b12]? = some (.cells #[.int .i64 2, .int .i64 2, .slice none 0 0, .slice ad3 n3 c3, .slice none 0 0] 37 (0, 0))) ∧ (w_.ownsRow w.heap.size 5 1 (.slice ad3 n3 c3) m ((List.range m).map fun i => .int .u8 (bTree k i))) ∧ Grow w w_) _ ⟨0, none, 0, 0, rfl, fr_of ⟨rfl, rfl, rfl, rfl, rfl, rfl, rfl, trivial⟩, by omega, hc4, hc54, World.ownsRow_nil _ _ _ _, G⟩ ?_
     clear hc4 hc54
     clear G
     rintro m_ e_ w56 ⟨m, ad3, n3, c3, rfl, ⟨e57, rfl⟩, hm, hc4, hc54, own, G⟩
     refine W_seq ?_
     refine W_seq (W_region rfl ?_)
     refine stp (r_move_int rfl ?_)
     refine stp (r_move_int rfl ?_)
     refine stp (r_mul rfl rfl ?_ ?_); constructor <;> omega
     refine stp (r_move_int rfl ?_)
     refine stp (r_rem rfl rfl ?_ ?_ ?_); omega; omega
     refine stp (r_conv rfl ?_ ?_); constructor <;> omega
     refine stp (r_add rfl rfl ?_ ?_); constructor <;> omega
     refine stp (r_lss rfl rfl ?_)
     refine WL_nil ?_
     refine W_cond2 (b := (decide ((m : Int) < ((3 * ((k / 8) % 5)) + (k % 2))))) rfl (fun hlt => ?_) (fun hlt => ?_)
     ·-- true
      replace hlt := of_decide_eq_true hlt
      refine W_skip ?_
      refine W_seq ?_
      refine W_block ?_
      refine W_region rfl ?_
      refine stp (r_fieldAddr rfl ?_)
      refine stp (r_load (v := .slice ad3 n3 c3) rfl hc54 rfl ?_)
      refine stp (r_move_int rfl ?_)
      refine stp (r_move_int rfl ?_)
      refine stp (r_conv rfl ?_ ?_); constructor <;> omega
      refine stp (r_addw rfl rfl ?_)
      refine stp (r_buildSlice (cs := #[.int .u8 (bTree k m)]) (el := 5) (fun w => by kernel_rfl) ?_)
      intro bs58 w59 hb60 hc61 g62
      have hge63 := Nat.le_trans G.size hb60
      have ne64 := Nat.ne_of_lt (Nat.lt_of_lt_of_le (lt_of_heap hc4) hb60)
      have ne65 := Nat.ne_of_lt (Nat.lt_of_lt_of_le (lt_of_heap hc54) hb60)
      replace hc4 := g62.heap hc4
      replace hc54 := g62.heap hc54
      replace own := own_grow own g62
      replace G := G.tr g62
      clear g62
      refine stp (r_append rfl rfl rfl rfl own (Row.of_block (n := 1) hc61 rfl rfl (by omega)) (fun q_ hq_ => by simp at hq_; subst hq_; rfl) (by simp only [maxLen]; omega) (by omega) G.size ?_)
      intro v66 w67 own6 gr6
      replace G := G.grown gr6 (own_ge own)
      replace hc4 := gr_heap gr6 hc4 (own_ne own hc4 (by decide))
      replace hc54 := gr_heap gr6 hc54 (own_ne own hc54 (by decide))
      clear own gr6
      obtain ⟨ad4, n4, c4, rfl⟩ := own_slice own6
      refine stp (r_fieldAddr rfl ?_)
      refine stn (r_store1 (v := .slice ad4 n4 c4) rfl rfl (by rfl) hc54 (by rfl) (by rfl) ?_)
      intro w68 hc69 u70
      replace hc4 := u70.heap hc4 ne22
      replace own6 := own_upd own6 u70 (own_ne own6 hc54 (by decide))
      replace G := G.upd u70 hge21
      clear u70 hc54
      refine WL_nil ?_
      refine W_region rfl ?_
      refine stp (r_move_int rfl ?_)
      refine stp (r_add rfl rfl ?_ ?_); constructor <;> omega
      refine stp (r_assign_int rfl ?_)
      refine WL_nil ?_
      refine ⟨_, ?_, m + 1, ad4, n4, c4, rfl, fr_of ⟨rfl, rfl, rfl, rfl, rfl, rfl, congrArg (Value.int .i64) (by omega), trivial⟩, by omega, hc4, hc69, (by rw [List.range_succ, List.map_append]; exact own6), G⟩
      omega
     ·-- false
      replace hlt := of_decide_eq_false hlt
      have hm2 : m = (3 * (k / 8 % 5) + k % 2).toNat := by omega
      have ht : treeP (d + 1) (k :: c) = (.mk 2 2 [] ((List.range (3 * (k / 8 % 5) + k % 2).toNat).map (bTree k)) [], c) := by simp only [treeP]; rw [if_neg h2, if_pos (by omega)]
      refine W_exit ?_
      refine W_seq (W_region rfl ?_)
      refine stp (r_loadAll rfl hc54 (by rfl) ?_)
      refine stp (r_move_slice rfl ?_)
      refine stn (r_storeAll rfl rfl hc4 (by rfl) (by rfl) (by rfl) ?_)
      intro w71 hc72 u73
      replace hc54 := u73.heap hc54 ne22.symm
      replace own := own_upd own u73 (own_ne own hc4 (by decide))
      replace G := G.upd u73 hge8
      clear u73 hc4
      refine stp (r_assign_slice rfl ?_)
      refine WL_nil ?_
      refine W_ret ?_
      rw [ht]
      refine ret2 (res_all rfl hc72 (by rfl)) (res_tmp (v := .slice ad1 (n - 1) (cp - 1)) rfl) ⟨[_, _, _, _, _], _, _, _, rfl, .mk (by simp [inR]) (by simp [inR]) (Row.nil _ _) (by simp) (own_hide_ints own hm2 (by omega)) (fun x hx_ => by obtain ⟨i, _, rfl⟩ := List.mem_map.1 hx_; exact wrap_u8R _) (Row.nil _ _) .nil, hnc, (by omega), (by omega), R2, G⟩
    ·-- false
     replace h4 := of_decide_eq_false h4
     refine W_seq (W_region rfl ?_)
     refine stp (r_eql rfl rfl ?_)
     refine stp (r_assign_bool rfl ?_)
     refine WL_nil ?_
     refine W_cond2 (b := (decide ((k % 8) = 3))) rfl (fun h5 => ?_) (fun h5 => ?_)
     ·-- true
      replace h5 := of_decide_eq_true h5
      refine W_seq (W_region rfl ?_)
      refine stp (r_fieldAddr rfl ?_)
      refine stn (r_store1 (v := .int .i64 2) rfl rfl (by rfl) hc18 (by rfl) (by rfl) ?_)
      intro w74 hc75 u76
      replace hc4 := u76.heap hc4 ne22
      replace G := G.upd u76 hge21
      clear u76 hc18
      refine WL_nil ?_
      refine W_seq (W_region rfl ?_)
      refine stp (r_fieldAddr rfl ?_)
      refine stn (r_store1 (v := .int .i64 5) rfl rfl (by rfl) hc75 (by rfl) (by rfl) ?_)
      intro w77 hc78 u79
      replace hc4 := u79.heap hc4 ne22
      replace G := G.upd u79 hge21
      clear u79 hc75
      refine WL_nil ?_
      refine W_seq (W_region rfl ?_)
      refine stp (r_assign_int rfl ?_)
      refine WL_nil ?_
      refine W_block ?_
      refine W_loop (fun m_ e_ w_ => ∃ (m : Nat) (ad3 : Option Addr) (n3 : Nat) (c3 : Nat), m_ = ((k / 8 % 5)).toNat - m ∧ Fr [(0, .slice ad1 (n - 1) (cp - 1)), (4, .pointer (some ⟨b1, 0, none⟩)), (5, .slice none 0 0), (6, .int .u8 k), (7, .pointer (some ⟨b12, 0, none⟩)), (8, .int .i64 ((k / 8) % 5)), (10, .int .i64 (m : Int))] e_ ∧ ((m : Int) ≤ (k / 8 % 5)) ∧ (w_.heap[b1]? = some (.cells #[.int .i64 0, .int .i64 0, .slice none 0 0, .slice none 0 0, .slice none 0 0] 37 (0, 0))) ∧ (w_.heap[b12]? = some (.cells #[.int .i64 2, .int .i64 5, .slice ad3 n3 c3, .slice none 0 0, .slice none 0 0] 37 (0, 0))) ∧ (w_.ownsRow w.heap.size 55 1 (.slice ad3 n3 c3) m ((List.range m).map fun i => .int .u64 (w3Tree k i))) ∧ Grow w w_) _ ⟨0, none, 0, 0, rfl, fr_of ⟨rfl, rfl, rfl, rfl, rfl, rfl, rfl, trivial⟩, by omega, hc4, hc78, World.ownsRow_nil _ _ _ _, G⟩ ?_
      clear hc4 hc78
      clear G
      rintro m_ e_ w80 ⟨m, ad3, n3, c3, rfl, ⟨e81, rfl⟩, hm, hc4, hc78, own, G⟩
      refine W_seq ?_
      refine W_seq (W_region rfl ?_)
      refine stp (r_move_int rfl ?_)
      refine stp (r_move_int rfl ?_)
      refine stp (r_lss rfl rfl ?_)
      refine WL_nil ?_
      refine W_cond2 (b := (decide ((m : Int) < ((k / 8) % 5)))) rfl (fun hlt => ?_) (fun hlt => ?_)
      ·-- true
       replace hlt := of_decide_eq_true hlt
       refine W_skip ?_
       refine W_seq ?_
       refine W_block ?_
       refine W_region rfl ?_
       refine stp (r_fieldAddr rfl ?_)
       refine stp (r_load (v := .slice ad3 n3 c3) rfl hc78 rfl ?_)
       refine stp (r_move_int rfl ?_)
       refine stp (r_conv rfl ?_ ?_); constructor <;> omega
       refine stp (r_mulw rfl rfl ?_)
       refine stp (r_move_int rfl ?_)
       refine stp (r_conv rfl ?_ ?_); constructor <;> omega
       refine stp (r_addw rfl rfl ?_)
       refine stp (r_buildSlice (cs := #[.int .u64 (w3Tree k m)]) (el := 55) (fun w => by kernel_rfl) ?_)
       intro bs82 w83 hb84 hc85 g86
       have hge87 := Nat.le_trans G.size hb84
       have ne88 := Nat.ne_of_lt (Nat.lt_of_lt_of_le (lt_of_heap hc4) hb84)
       have ne89 := Nat.ne_of_lt (Nat.lt_of_lt_of_le (lt_of_heap hc78) hb84)
       replace hc4 := g86.heap hc4
       replace hc78 := g86.heap hc78
       replace own := own_grow own g86
       replace G := G.tr g86
       clear g86
       refine stp (r_append rfl rfl rfl rfl own (Row.of_block (n := 1) hc85 rfl rfl (by omega)) (fun q_ hq_ => by simp at hq_; subst hq_; rfl) (by simp only [maxLen]; omega) (by omega) G.size ?_)
       intro v90 w91 own6 gr6
       replace G := G.grown gr6 (own_ge own)
       replace hc4 := gr_heap gr6 hc4 (own_ne own hc4 (by decide))
       replace hc78 := gr_heap gr6 hc78 (own_ne own hc78 (by decide))
       clear own gr6
       obtain ⟨ad4, n4, c4, rfl⟩ := own_slice own6
       refine stp (r_fieldAddr rfl ?_)
       refine stn (r_store1 (v := .slice ad4 n4 c4) rfl rfl (by rfl) hc78 (by rfl) (by rfl) ?_)
       intro w92 hc93 u94
       replace hc4 := u94.heap hc4 ne22
       replace own6 := own_upd own6 u94 (own_ne own6 hc78 (by decide))
       replace G := G.upd u94 hge21
       clear u94 hc78
       refine WL_nil ?_
       refine W_region rfl ?_
       refine stp (r_move_int rfl ?_)
       refine stp (r_add rfl rfl ?_ ?_); constructor <;> omega
       refine stp (r_assign_int rfl ?_)
       refine WL_nil ?_
       refine ⟨_, ?_, m + 1, ad4, n4, c4, rfl, fr_of ⟨rfl, rfl, rfl, rfl, rfl, rfl, congrArg (Value.int .i64) (by omega), trivial⟩, by omega, hc4, hc93, (by rw [List.range_succ, List.map_append]; exact own6), G⟩
       omega
      ·-- false
       replace hlt := of_decide_eq_false hlt
       have hm2 : m = (k / 8 % 5).toNat := by omega
       have ht : treeP (d + 1) (k :: c) = (.mk 2 5 ((List.range (k / 8 % 5).toNat).map (w3Tree k)) [] [], c) := by simp only [treeP]; rw [if_neg h2, if_neg (by omega), if_pos h5]
       refine W_exit ?_
       refine W_seq (W_region rfl ?_)
       refine stp (r_loadAll rfl hc78 (by rfl) ?_)
       refine stp (r_move_slice rfl ?_)
       refine stn (r_storeAll rfl rfl hc4 (by rfl) (by rfl) (by rfl) ?_)
       intro w95 hc96 u97
       replace hc78 := u97.heap hc78 ne22.symm
       replace own := own_upd own u97 (own_ne own hc4 (by decide))
       replace G := G.upd u97 hge8
       clear u97 hc4
       refine stp (r_assign_slice rfl ?_)
       refine WL_nil ?_
       refine W_ret ?_
       rw [ht]
       refine ret2 (res_all rfl hc96 (by rfl)) (res_tmp (v := .slice ad1 (n - 1) (cp - 1)) rfl) ⟨[_, _, _, _, _], _, _, _, rfl, .mk (by simp [inR]) (by simp [inR]) (own_hide_ints own hm2 (by omega)) (fun x hx_ => by obtain ⟨i, _, rfl⟩ := List.mem_map.1 hx_; exact wrap_u64R _) (Row.nil _ _) (by simp) (Row.nil _ _) .nil, hnc, (by omega), (by omega), R2, G⟩
     ·-- false
      replace h5 := of_decide_eq_false h5
      refine W_seq (W_region rfl ?_)
      refine stp (r_fieldAddr rfl ?_)
      refine stn (r_store1 (v := .int .i64 1) rfl rfl (by rfl) hc18 (by rfl) (by rfl) ?_)
      intro w98 hc99 u100
      replace hc4 := u100.heap hc4 ne22
      replace G := G.upd u100 hge21
      clear u100 hc18
      refine WL_nil ?_
      refine W_seq ?_
      refine W_seq (W_region rfl ?_)
      refine stp (r_move_int rfl ?_)
      refine stp (r_rem rfl rfl ?_ ?_ ?_); omega; omega
      refine stp (r_gtr rfl rfl ?_)
      refine WL_nil ?_
      refine W_cond2 (b := (decide ((k % 8) > 6))) rfl (fun h6 => ?_) (fun h6 => ?_)
      ·-- true
       replace h6 := of_decide_eq_true h6
       refine W_seq (W_region rfl ?_)
       refine stp (r_fieldAddr rfl ?_)
       refine stn (r_store1 (v := .int .i64 2) rfl rfl (by rfl) hc99 (by rfl) (by rfl) ?_)
       intro w101 hc102 u103
       replace hc4 := u103.heap hc4 ne22
       replace G := G.upd u103 hge21
       clear u103 hc99
       refine WL_nil ?_
       refine W_region rfl ?_
       refine stp (r_fieldAddr rfl ?_)
       refine stn (r_store1 (v := .int .i64 6) rfl rfl (by rfl) hc102 (by rfl) (by rfl) ?_)
       intro w104 hc105 u106
       replace hc4 := u106.heap hc4 ne22
       replace G := G.upd u106 hge21
       clear u106 hc102
       refine WL_nil ?_
       refine W_seq ?_
       refine W_seq (W_region rfl ?_)
       refine stp (r_assign_int rfl ?_)
       refine WL_nil ?_
       refine W_block ?_
       refine W_loop (fun m_ e_ w_ => m_ = 0 ∧ Fr [(0, .slice ad1 (n - 1) (cp - 1)), (1, .int .i64 ((d + 1 : Nat) : Int)), (4, .pointer (some ⟨b1, 0, none⟩)), (5, .slice none 0 0), (6, .int .u8 k), (7, .pointer (some ⟨b12, 0, none⟩)), (8, .int .i64 ((k / 8) % 5)), (11, .int .i64 0)] e_ ∧ (w_.heap[b1]? = some (.cells #[.int .i64 0, .int .i64 0, .slice none 0 0, .slice none 0 0, .slice none 0 0] 37 (0, 0))) ∧ (w_.heap[b12]? = some (.cells #[.int .i64 2, .int .i64 6, .slice none 0 0, .slice none 0 0, .slice none 0 0] 37 (0, 0))) ∧ Grow w w_) _ ⟨rfl, fr_of ⟨rfl, rfl, rfl, rfl, rfl, rfl, rfl, rfl, trivial⟩, hc4, hc105, G⟩ ?_
       clear hc4 hc105
       clear G
       rintro m_ e_ w107 ⟨rfl, ⟨e108, rfl⟩, hc4, hc105, G⟩
       refine W_seq ?_
       refine W_seq (W_region rfl ?_)
       refine stp (r_move_int rfl ?_)
       refine stp (r_move_int rfl ?_)
       refine stp (r_quo rfl rfl ?_ ?_ ?_ ?_); omega; omega; (constructor <;> omega)
       refine stp (r_conv rfl ?_ ?_); constructor <;> omega
       refine stp (r_lss rfl rfl ?_)
       refine stp (r_move_bool rfl ?_)
       refine WL_some (og_if (s := .bool (decide (0 < (k / 64)))) (b := true) (v := .pointer (some ⟨b12, 0, none⟩)) rfl (wgb_t _) (fun hc109 => ?_) ?_)
       ·
        have hc109_ := of_decide_eq_true hc109
        refine r_fieldAddr rfl ?_
        exact ⟨rfl, rfl⟩
       refine WL_some (og_if (s := .bool (decide (0 < (k / 64)))) (b := true) (v := .int .i64 2) rfl (wgb_t _) (fun hc110 => ?_) ?_)
       ·
        have hc110_ := of_decide_eq_true hc110
        refine r_load (v := .int .i64 2) (gvt hc110) hc105 rfl ?_
        exact ⟨rfl, rfl⟩
       refine WL_some (og_if (s := .bool (decide (0 < (k / 64)))) (b := true) (v := .bool false) rfl (wgb_t _) (fun hc111 => ?_) ?_)
       ·
        have hc111_ := of_decide_eq_true hc111
        refine r_eql_f (gvt hc111) rfl (by decide) ?_
        exact ⟨rfl, rfl⟩
       refine stp (r_and2 rfl rfl rfl ?_)
       refine WL_nil ?_
       refine W_false (show _ = Value.bool false from congrArg Value.bool (by simp)) ?_
       refine W_exit ?_
       refine W_seq (W_region rfl ?_)
       refine stp (r_assign_int rfl ?_)
       refine WL_nil ?_
       refine W_block ?_
       obtain ⟨B, hB⟩ : ∃ B, B = w107.heap.size := ⟨_, rfl⟩
       have hB7 : b12 < B := by rw [hB]; exact lt_of_heap hc105
       have hwB : w.heap.size ≤ B := by rw [hB]; exact G.size
       have hBw : B ≤ w107.heap.size := by rw [hB]; exact Nat.le_refl _
       have hB4 : b1 < B := by rw [hB]; exact lt_of_heap hc4
       clear hB
       have hc1 : (treesP (treeP d) 0 c).2 = c := rfl
       refine W_loop (fun m_ e_ w_ => ∃ (j : Nat) (ad5 : Option Addr) (n5 : Nat) (c5 : Nat) (ad6 : Option Addr) (n6 : Nat) (c6 : Nat) (kc : List Value) (V : Nat → Prop), m_ = (k / 8 % 5).toNat - j ∧ Fr [(1, .int .i64 ((d + 1 : Nat) : Int)), (4, .pointer (some ⟨b1, 0, none⟩)), (5, .slice none 0 0), (7, .pointer (some ⟨b12, 0, none⟩)), (8, .int .i64 ((k / 8) % 5)), (12, .int .i64 (j : Int)), (0, .slice ad5 n5 c5)] e_ ∧ ((j : Int) ≤ (k / 8 % 5)) ∧ (n5 = (treesP (treeP d) j c).2.length) ∧ (n5 ≤ c5) ∧ (c5 ≤ maxLen) ∧ (RowAt w0 1 ad5 n5 ((treesP (treeP d) j c).2.map (.int .u8))) ∧ (∀ x, (Value.slice ad6 n6 c6).ownBlock = some x → ¬ V x) ∧ (w_.heap[b1]? = some (.cells #[.int .i64 0, .int .i64 0, .slice none 0 0, .slice none 0 0, .slice none 0 0] 37 (0, 0))) ∧ (w_.heap[b12]? = some (.cells #[.int .i64 2, .int .i64 6, .slice none 0 0, .slice none 0 0, .slice ad6 n6 c6] 37 (0, 0))) ∧ (B ≤ w_.heap.size) ∧ (w_.ownsRow B 37 5 (.slice ad6 n6 c6) j kc) ∧ (∀ x, V x → B ≤ x ∧ x < w_.heap.size) ∧ (KidsR (see V w_) kc (treesP (treeP d) j c).1) ∧ Grow w w_) _ ⟨0, ad1, n - 1, cp - 1, none, 0, 0, [], fun _ => False, rfl, fr_of ⟨rfl, rfl, rfl, rfl, rfl, rfl, rfl, trivial⟩, by omega, hnc, by omega, by omega, R2, fun x _ h_ => h_, hc4, hc105, hBw, World.ownsRow_nil _ _ _ _, fun x h_ => h_.elim, .nil, G⟩ ?_
       clear hc4 hc105
       clear G
       rintro m_ e_ w112 ⟨j, ad5, n5, c5, ad6, n6, c6, kc, V, rfl, ⟨e113, rfl⟩, hj, hn5, hc5, hc52, hR5, hVo, hc4, hc105, hBw, ownk, hV, hK, G⟩
       refine W_seq ?_
       refine W_seq (W_region rfl ?_)
       refine stp (r_move_int rfl ?_)
       refine stp (r_move_int rfl ?_)
       refine stp (r_lss rfl rfl ?_)
       refine WL_nil ?_
       refine W_cond2 (b := (decide ((j : Int) < ((k / 8) % 5)))) rfl (fun hlt => ?_) (fun hlt => ?_)
       ·-- true
        replace hlt := of_decide_eq_true hlt
        refine W_skip ?_
        refine W_seq ?_
        refine W_block ?_
        refine W_seq (W_region rfl ?_)
        refine stp (r_move_slice rfl ?_)
        refine stp (r_move_int rfl ?_)
        refine stp (r_sub rfl rfl ?_ ?_); constructor <;> omega
        refine WL_some (og rfl ?_)
        have hBw0 := hBw
        have hol := fun x hx_ => (ownk.lt x hx_).2
        have hcal := ih_ _ (d := d) hR5 (g0.tr G) hn5 (treesP_rest d j c hxc) hc5 hc52 (by omega) (by omega)
        rw [show ((d : Nat) : Int) = ((d + 1 : Nat) : Int) - 1 from by omega] at hcal
        refine r_call rfl hcal ?_
        rintro v_ w114 ⟨cells, ad9, n9, c9, rfl, hT9, hn9, hc9, hc92, hR9, g_⟩
        have hsz9 := lt_of_heap hc105
        replace hc4 := g_.heap hc4
        replace hc105 := g_.heap hc105
        replace hBw := Nat.le_trans hBw g_.size
        replace ownk := own_grow ownk g_
        replace hV := vlt hV g_.size
        replace hK := hK.sees (Sees.grow g_)
        replace G := G.tr g_
        clear g_
        obtain ⟨y0, y1, ya, yn, yc, za, zn, zc, ua, un, uc, rfl⟩ := hT9.cells
        have hT8 := hT9.sees (Sees.more (V' := fun x => V x ∨ (w112.heap.size ≤ x ∧ x < w114.heap.size)) w114 (fun x h1_ h2_ => .inr ⟨h2_, h1_⟩))
        clear hT9
        replace hK := hK.sees (Sees.more (V' := fun x => V x ∨ (w112.heap.size ≤ x ∧ x < w114.heap.size)) w114 (fun x _ h2_ => .inl h2_))
        have hV9 : ∀ x, (V x ∨ (w112.heap.size ≤ x ∧ x < w114.heap.size)) → B ≤ x ∧ x < w114.heap.size := fun x hx_ => hx_.elim (fun h_ => hV x h_) (fun h_ => ⟨Nat.le_trans hBw0 h_.1, h_.2⟩)
        have hVo9 : ∀ x, (Value.slice ad6 n6 c6).ownBlock = some x → ¬ (V x ∨ (w112.heap.size ≤ x ∧ x < w114.heap.size)) := fun x hx_ hv_ => hv_.elim (hVo x hx_) (fun h_ => by have := (hol x hx_); omega)
        clear hV hVo
        obtain ⟨V9, hV9e⟩ : ∃ V9 : Nat → Prop, V9 = fun x => V x ∨ (w112.heap.size ≤ x ∧ x < w114.heap.size) := ⟨_, rfl⟩
        rw [← hV9e] at hT8 hK
        have hV : ∀ x, V9 x → B ≤ x ∧ x < w114.heap.size := by rw [hV9e]; exact hV9
        have hVo : ∀ x, (Value.slice ad6 n6 c6).ownBlock = some x → ¬ V9 x := by rw [hV9e]; exact hVo9
        clear hV9 hVo9 hV9e hBw0 hol
        refine stp (r_move (v := .tuple #[.agg #[.int .i64 y0, .int .i64 y1, .slice ya yn yc, .slice za zn zc, .slice ua un uc], .slice ad9 n9 c9]) rfl ?_)
        refine stp (r_extract (v := .agg #[.int .i64 y0, .int .i64 y1, .slice ya yn yc, .slice za zn zc, .slice ua un uc]) rfl rfl ?_)
        refine stp (r_extract (v := .slice ad9 n9 c9) rfl rfl ?_)
        refine stp (r_alloc ?_)
        intro b115 w116 hb117 hc118 g119
        refine stn (r_storeAll rfl rfl hc118 (by rfl) (by rfl) (by rfl) ?_)
        intro w120 hc121 u122
        have g123 := g119.upd u122 hb117
        have hge124 := Nat.le_trans G.size hb117
        have ne125 := Nat.ne_of_lt (Nat.lt_of_lt_of_le (lt_of_heap hc4) hb117)
        have ne126 := Nat.ne_of_lt (Nat.lt_of_lt_of_le (lt_of_heap hc105) hb117)
        replace hc4 := g123.heap hc4
        replace hc105 := g123.heap hc105
        replace hBw := Nat.le_trans hBw g123.size
        replace ownk := own_grow ownk g123
        replace hK := hK.sees (Sees.grow g123)
        replace hT8 := hT8.sees (Sees.grow g123)
        replace hV := vlt hV g123.size
        replace G := G.tr g123
        clear u122 g119 hb117 hc118
        refine stp (r_assign_slice rfl ?_)
        refine WL_nil ?_
        refine W_seq (W_region rfl ?_)
        refine stp (r_move_slice rfl ?_)
        refine stp (r_assign_slice rfl ?_)
        refine WL_nil ?_
        refine W_region rfl ?_
        refine stp (r_fieldAddr rfl ?_)
        refine stp (r_load (v := .slice ad6 n6 c6) rfl hc105 rfl ?_)
        refine stp (r_loadAll rfl hc121 (by rfl) ?_)
        refine stp (r_buildSlice (cs := #[.int .i64 y0, .int .i64 y1, .slice ya yn yc, .slice za zn zc, .slice ua un uc]) (el := 37) (fun w => by kernel_rfl) ?_)
        intro bs127 w128 hb129 hc130 g131
        have hge132 := Nat.le_trans G.size hb129
        have ne133 := Nat.ne_of_lt (Nat.lt_of_lt_of_le (lt_of_heap hc4) hb129)
        have ne134 := Nat.ne_of_lt (Nat.lt_of_lt_of_le (lt_of_heap hc105) hb129)
        have ne135 := Nat.ne_of_lt (Nat.lt_of_lt_of_le (lt_of_heap hc121) hb129)
        replace hc4 := g131.heap hc4
        replace hc105 := g131.heap hc105
        replace hBw := Nat.le_trans hBw g131.size
        replace ownk := own_grow ownk g131
        replace hK := hK.sees (Sees.grow g131)
        replace hT8 := hT8.sees (Sees.grow g131)
        replace hV := vlt hV g131.size
        replace hc121 := g131.heap hc121
        replace G := G.tr g131
        clear g131
        refine stp (r_appendB rfl rfl rfl rfl ownk (Row.of_block (n := 1) hc130 rfl rfl (by omega)) (fun q_ hq_ => by simp at hq_; rcases hq_ with rfl | rfl | rfl | rfl | rfl <;> rfl) (by simp only [maxLen]; omega) (by omega) hBw ?_)
        intro v136 w137 own6 gr6 hbk6
        have k6_ : Kp (Value.slice ad6 n6 c6).ownBlock.toList w128 w137 := Kp.of_grownBy gr6 (fun k_ hk_ => by rw [Option.mem_toList]; exact hk_)
        have hF6 : ∀ x ∈ (Value.slice ad6 n6 c6).ownBlock.toList, B ≤ x := fun x hx_ => own_ge ownk x (Option.mem_toList.1 hx_)
        have hF7 : ∀ x ∈ (Value.slice ad6 n6 c6).ownBlock.toList, ¬ V9 x := fun x hx_ => hVo x (Option.mem_toList.1 hx_)
        replace hT8 := hT8.sees (Sees.kp k6_ hF7)
        replace hK := hK.sees (Sees.kp k6_ hF7)
        have hVo6 : ∀ x, v136.ownBlock = some x → ¬ V9 x := fun x hx_ hv_ => hbk6.elim (fun h_ => hVo x (h_ ▸ hx_) hv_) (fun h_ => by rw [h_] at hx_; simp only [Option.some.injEq] at hx_; have := (hV x hv_).2; omega)
        replace hV := fun x hx_ => (⟨(hV x hx_).1, Nat.lt_of_lt_of_le (hV x hx_).2 k6_.size⟩ : B ≤ x ∧ x < w137.heap.size)
        replace G := G.trK k6_ (fun x hx_ => Nat.le_trans hwB (hF6 x hx_))
        clear hc121
        replace hc4 := k6_.heap hc4 (fun hm_ => by have h1_ := hF6 _ hm_; have := hB4; omega)
        replace hc105 := k6_.heap hc105 (fun hm_ => by have h1_ := hF6 _ hm_; omega)
        replace hBw := Nat.le_trans hBw k6_.size
        clear ownk gr6 hVo k6_ hF6 hF7 hbk6
        obtain ⟨ad7, n7, c7, rfl⟩ := own_slice own6
        refine stp (r_fieldAddr rfl ?_)
        refine stn (r_store1 (v := .slice ad7 n7 c7) rfl rfl (by rfl) hc105 (by rfl) (by rfl) ?_)
        intro w138 hc139 u140
        replace hc4 := u140.heap hc4 ne22
        replace own6 := own_upd own6 u140 (fun he_ => by have := own_ge own6 _ he_; omega)
        replace hT8 := hT8.sees (Sees.upd u140 (fun h_ => by have := (hV _ h_).1; omega))
        replace hK := hK.sees (Sees.upd u140 (fun h_ => by have := (hV _ h_).1; omega))
        replace hV := fun x hx_ => (⟨(hV x hx_).1, Nat.lt_of_lt_of_le (hV x hx_).2 (Nat.le_of_eq u140.size.symm)⟩ : B ≤ x ∧ x < w138.heap.size)
        replace hBw : B ≤ w138.heap.size := by rw [u140.size]; exact hBw
        replace G := G.upd u140 hge21
        clear hc105
        refine WL_nil ?_
        refine W_region rfl ?_
        refine stp (r_move_int rfl ?_)
        refine stp (r_add rfl rfl ?_ ?_); constructor <;> omega
        refine stp (r_assign_int rfl ?_)
        refine WL_nil ?_
        refine ⟨_, ?_, j + 1, ad9, n9, c9, ad7, n7, c7, _, V9, rfl, fr_of ⟨rfl, rfl, rfl, rfl, rfl, congrArg (Value.int .i64) (by omega), rfl, trivial⟩, by omega, hn9, hc9, hc92, hR9, hVo6, hc4, hc139, hBw, own6, hV, (KidsR.append hK (by have := KidsR.cons hT8 .nil; simpa using this)), G⟩
        omega
       ·-- false
        replace hlt := of_decide_eq_false hlt
        have hj2 : j = (k / 8 % 5).toNat := by omega
        have hlk := treesP_count (treeP d) j c
        have hrk : Row (hide B w112) 5 (.slice ad6 n6 c6) (treesP (treeP d) j c).1.length kc := by rw [hlk]; exact own_hide ownk (by omega)
        have hK9 := hK.sees (Sees.more (V' := fun x => B ≤ x) _ (fun x _ hx_ => (hV x hx_).1))
        clear hK hV
        have ht : treeP (d + 1) (k :: c) = (.mk 2 6 [] [] (treesP (treeP d) j c).1, (treesP (treeP d) j c).2) := by simp only [treeP]; rw [if_neg h2, if_neg (by omega), if_neg h5, if_pos h6, ← hj2]
        refine W_exit ?_
        refine W_seq (W_region rfl ?_)
        refine stp (r_loadAll rfl hc105 (by rfl) ?_)
        refine stp (r_move_slice rfl ?_)
        refine stn (r_storeAll rfl rfl hc4 (by rfl) (by rfl) (by rfl) ?_)
        intro w141 hc142 u143
        replace hc105 := u143.heap hc105 ne22.symm
        replace hrk := hrk.sees (Sees.upd u143 (fun h_ => by omega))
        replace hK9 := hK9.sees (Sees.upd u143 (fun h_ => by omega))
        replace G := G.upd u143 hge8
        clear u143 hc4
        refine stp (r_assign_slice rfl ?_)
        refine WL_nil ?_
        refine W_ret ?_
        rw [ht]
        refine ret2 (res_all rfl hc142 (by rfl)) (res_tmp (v := .slice ad5 n5 c5) rfl) ⟨[_, _, _, _, _], _, _, _, rfl, .mk (by simp [inR]) (by simp [inR]) (Row.nil _ _) (by simp) (Row.nil _ _) (by simp) (hrk.sees (Sees.low hwB _)) (hK9.sees (Sees.low hwB _)), hn5, hc5, hc52, hR5, G⟩
      ·-- false
       replace h6 := of_decide_eq_false h6
       have hkd6 : ¬ k % 8 > 6 := h6
       refine W_skip ?_
       refine W_seq ?_
       refine W_seq (W_region rfl ?_)
       refine stp (r_assign_int rfl ?_)
       refine WL_nil ?_
       refine W_block ?_
       refine W_loop (fun m_ e_ w_ => ∃ (m : Nat) (ad3 : Option Addr) (n3 : Nat) (c3 : Nat), m_ = ((k / 64)).toNat - m ∧ Fr [(0, .slice ad1 (n - 1) (cp - 1)), (1, .int .i64 ((d + 1 : Nat) : Int)), (4, .pointer (some ⟨b1, 0, none⟩)), (5, .slice none 0 0), (6, .int .u8 k), (7, .pointer (some ⟨b12, 0, none⟩)), (8, .int .i64 ((k / 8) % 5)), (11, .int .i64 (m : Int))] e_ ∧ ((m : Int) ≤ (k / 64)) ∧ (w_.heap[b1]? = some (.cells #[.int .i64 0, .int .i64 0, .slice none 0 0, .slice none 0 0, .slice none 0 0] 37 (0, 0))) ∧ (w_.heap[b12]? = some (.cells #[.int .i64 1, .int .i64 0, .slice ad3 n3 c3, .slice none 0 0, .slice none 0 0] 37 (0, 0))) ∧ (w_.ownsRow w.heap.size 55 1 (.slice ad3 n3 c3) m ((List.range m).map fun i => .int .u64 (w4Tree k i))) ∧ Grow w w_) _ ⟨0, none, 0, 0, rfl, fr_of ⟨rfl, rfl, rfl, rfl, rfl, rfl, rfl, rfl, trivial⟩, by omega, hc4, hc99, World.ownsRow_nil _ _ _ _, G⟩ ?_
       clear hc4 hc99
       clear G
       rintro m_ e_ w144 ⟨m, ad3, n3, c3, rfl, ⟨e145, rfl⟩, hm, hc4, hc99, own, G⟩
       refine W_seq ?_
       refine W_seq (W_region rfl ?_)
       refine stp (r_move_int rfl ?_)
       refine stp (r_move_int rfl ?_)
       refine stp (r_quo rfl rfl ?_ ?_ ?_ ?_); omega; omega; (constructor <;> omega)
       refine stp (r_conv rfl ?_ ?_); constructor <;> omega
       refine stp (r_lss rfl rfl ?_)
       refine stp (r_move_bool rfl ?_)
       refine WL_some (og_if (s := .bool (decide ((m : Int) < (k / 64)))) (b := true) (v := .pointer (some ⟨b12, 0, none⟩)) rfl (wgb_t _) (fun hc146 => ?_) ?_)
       ·
        have hc146_ := of_decide_eq_true hc146
        refine r_fieldAddr rfl ?_
        exact ⟨rfl, rfl⟩
       refine WL_some (og_if (s := .bool (decide ((m : Int) < (k / 64)))) (b := true) (v := .int .i64 1) rfl (wgb_t _) (fun hc147 => ?_) ?_)
       ·
        have hc147_ := of_decide_eq_true hc147
        refine r_load (v := .int .i64 1) (gvt hc147) hc99 rfl ?_
        exact ⟨rfl, rfl⟩
       refine WL_some (og_if (s := .bool (decide ((m : Int) < (k / 64)))) (b := true) (v := .bool true) rfl (wgb_t _) (fun hc148 => ?_) ?_)
       ·
        have hc148_ := of_decide_eq_true hc148
        refine r_eql_t (gvt hc148) rfl (by decide) ?_
        exact ⟨rfl, rfl⟩
       refine stp (r_and2 rfl rfl rfl ?_)
       refine WL_nil ?_
       refine W_cond2 (b := ((decide ((m : Int) < (k / 64))) && true)) rfl (fun hlt => ?_) (fun hlt => ?_)
       ·-- true
        simp only [sb] at hlt
        refine W_skip ?_
        refine W_seq ?_
        refine W_block ?_
        refine W_region rfl ?_
        refine stp (r_fieldAddr rfl ?_)
        refine stp (r_load (v := .slice ad3 n3 c3) rfl hc99 rfl ?_)
        refine stp (r_move_int rfl ?_)
        refine stp (r_conv rfl ?_ ?_); constructor <;> omega
        refine stp (r_move_int rfl ?_)
        refine stp (r_mul rfl rfl ?_ ?_); constructor <;> omega
        refine stp (r_conv rfl ?_ ?_); constructor <;> omega
        refine stp (r_shl rfl rfl ?_ ?_); omega
        refine stp (r_move_int rfl ?_)
        refine stp (r_conv rfl ?_ ?_); constructor <;> omega
        refine stp (r_addw rfl rfl ?_)
        refine stp (r_buildSlice (cs := #[.int .u64 (w4Tree k m)]) (el := 55) (fun w => by kernel_rfl) ?_)
        intro bs149 w150 hb151 hc152 g153
        have hge154 := Nat.le_trans G.size hb151
        have ne155 := Nat.ne_of_lt (Nat.lt_of_lt_of_le (lt_of_heap hc4) hb151)
        have ne156 := Nat.ne_of_lt (Nat.lt_of_lt_of_le (lt_of_heap hc99) hb151)
        replace hc4 := g153.heap hc4
        replace hc99 := g153.heap hc99
        replace own := own_grow own g153
        replace G := G.tr g153
        clear g153
        refine stp (r_append rfl rfl rfl rfl own (Row.of_block (n := 1) hc152 rfl rfl (by omega)) (fun q_ hq_ => by simp at hq_; subst hq_; rfl) (by simp only [maxLen]; omega) (by omega) G.size ?_)
        intro v157 w158 own6 gr6
        replace G := G.grown gr6 (own_ge own)
        replace hc4 := gr_heap gr6 hc4 (own_ne own hc4 (by decide))
        replace hc99 := gr_heap gr6 hc99 (own_ne own hc99 (by decide))
        clear own gr6
        obtain ⟨ad4, n4, c4, rfl⟩ := own_slice own6
        refine stp (r_fieldAddr rfl ?_)
        refine stn (r_store1 (v := .slice ad4 n4 c4) rfl rfl (by rfl) hc99 (by rfl) (by rfl) ?_)
        intro w159 hc160 u161
        replace hc4 := u161.heap hc4 ne22
        replace own6 := own_upd own6 u161 (own_ne own6 hc99 (by decide))
        replace G := G.upd u161 hge21
        clear u161 hc99
        refine WL_nil ?_
        refine W_region rfl ?_
        refine stp (r_move_int rfl ?_)
        refine stp (r_add rfl rfl ?_ ?_); constructor <;> omega
        refine stp (r_assign_int rfl ?_)
        refine WL_nil ?_
        refine ⟨_, ?_, m + 1, ad4, n4, c4, rfl, fr_of ⟨rfl, rfl, rfl, rfl, rfl, rfl, rfl, congrArg (Value.int .i64) (by omega), trivial⟩, by omega, hc4, hc160, (by rw [List.range_succ, List.map_append]; exact own6), G⟩
        omega
       ·-- false
        simp only [sb] at hlt
        have hm2 : m = (k / 64).toNat := by omega
        refine W_exit ?_
        refine W_seq (W_region rfl ?_)
        refine stp (r_assign_int rfl ?_)
        refine WL_nil ?_
        refine W_block ?_
        obtain ⟨B, hB⟩ : ∃ B, B = w144.heap.size := ⟨_, rfl⟩
        have hB7 : b12 < B := by rw [hB]; exact lt_of_heap hc99
        have hwB : w.heap.size ≤ B := by rw [hB]; exact G.size
        have hBw : B ≤ w144.heap.size := by rw [hB]; exact Nat.le_refl _
        have hB4 : b1 < B := by rw [hB]; exact lt_of_heap hc4
        clear hB
        have hc1 : (treesP (treeP d) 0 c).2 = c := rfl
        refine W_loop (fun m_ e_ w_ => ∃ (j : Nat) (ad5 : Option Addr) (n5 : Nat) (c5 : Nat) (ad6 : Option Addr) (n6 : Nat) (c6 : Nat) (kc : List Value) (V : Nat → Prop), m_ = (k / 8 % 5).toNat - j ∧ Fr [(1, .int .i64 ((d + 1 : Nat) : Int)), (4, .pointer (some ⟨b1, 0, none⟩)), (5, .slice none 0 0), (7, .pointer (some ⟨b12, 0, none⟩)), (8, .int .i64 ((k / 8) % 5)), (12, .int .i64 (j : Int)), (0, .slice ad5 n5 c5)] e_ ∧ ((j : Int) ≤ (k / 8 % 5)) ∧ (n5 = (treesP (treeP d) j c).2.length) ∧ (n5 ≤ c5) ∧ (c5 ≤ maxLen) ∧ (RowAt w0 1 ad5 n5 ((treesP (treeP d) j c).2.map (.int .u8))) ∧ (∀ x, (Value.slice ad6 n6 c6).ownBlock = some x → ¬ V x) ∧ (w_.heap[b1]? = some (.cells #[.int .i64 0, .int .i64 0, .slice none 0 0, .slice none 0 0, .slice none 0 0] 37 (0, 0))) ∧ (w_.ownsRow w.heap.size 55 1 (.slice ad3 n3 c3) m ((List.range m).map fun i => .int .u64 (w4Tree k i))) ∧ (w_.heap[b12]? = some (.cells #[.int .i64 1, .int .i64 0, .slice ad3 n3 c3, .slice none 0 0, .slice ad6 n6 c6] 37 (0, 0))) ∧ (B ≤ w_.heap.size) ∧ (w_.ownsRow B 37 5 (.slice ad6 n6 c6) j kc) ∧ (∀ x, V x → B ≤ x ∧ x < w_.heap.size) ∧ (KidsR (see V w_) kc (treesP (treeP d) j c).1) ∧ Grow w w_) _ ⟨0, ad1, n - 1, cp - 1, none, 0, 0, [], fun _ => False, rfl, fr_of ⟨rfl, rfl, rfl, rfl, rfl, rfl, rfl, trivial⟩, by omega, hnc, by omega, by omega, R2, fun x _ h_ => h_, hc4, own, hc99, hBw, World.ownsRow_nil _ _ _ _, fun x h_ => h_.elim, .nil, G⟩ ?_
        clear hc4 hc99 own
        clear G
        rintro m_ e_ w162 ⟨j, ad5, n5, c5, ad6, n6, c6, kc, V, rfl, ⟨e163, rfl⟩, hj, hn5, hc5, hc52, hR5, hVo, hc4, own, hc99, hBw, ownk, hV, hK, G⟩
        refine W_seq ?_
        refine W_seq (W_region rfl ?_)
        refine stp (r_move_int rfl ?_)
        refine stp (r_move_int rfl ?_)
        refine stp (r_lss rfl rfl ?_)
        refine WL_nil ?_
        refine W_cond2 (b := (decide ((j : Int) < ((k / 8) % 5)))) rfl (fun hlt => ?_) (fun hlt => ?_)
        ·-- true
         replace hlt := of_decide_eq_true hlt
         refine W_skip ?_
         refine W_seq ?_
         refine W_block ?_
         refine W_seq (W_region rfl ?_)
         refine stp (r_move_slice rfl ?_)
         refine stp (r_move_int rfl ?_)
         refine stp (r_sub rfl rfl ?_ ?_); constructor <;> omega
         refine WL_some (og rfl ?_)
         have hBw0 := hBw
         have hol := fun x hx_ => (ownk.lt x hx_).2
         have hcal := ih_ _ (d := d) hR5 (g0.tr G) hn5 (treesP_rest d j c hxc) hc5 hc52 (by omega) (by omega)
         rw [show ((d : Nat) : Int) = ((d + 1 : Nat) : Int) - 1 from by omega] at hcal
         refine r_call rfl hcal ?_
         rintro v_ w164 ⟨cells, ad9, n9, c9, rfl, hT9, hn9, hc9, hc92, hR9, g_⟩
         have hsz9 := lt_of_heap hc99
         replace hc4 := g_.heap hc4
         replace own := own_grow own g_
         replace hc99 := g_.heap hc99
         replace hBw := Nat.le_trans hBw g_.size
         replace ownk := own_grow ownk g_
         replace hV := vlt hV g_.size
         replace hK := hK.sees (Sees.grow g_)
         replace G := G.tr g_
         clear g_
         obtain ⟨y0, y1, ya, yn, yc, za, zn, zc, ua, un, uc, rfl⟩ := hT9.cells
         have hT8 := hT9.sees (Sees.more (V' := fun x => V x ∨ (w162.heap.size ≤ x ∧ x < w164.heap.size)) w164 (fun x h1_ h2_ => .inr ⟨h2_, h1_⟩))
         clear hT9
         replace hK := hK.sees (Sees.more (V' := fun x => V x ∨ (w162.heap.size ≤ x ∧ x < w164.heap.size)) w164 (fun x _ h2_ => .inl h2_))
         have hV9 : ∀ x, (V x ∨ (w162.heap.size ≤ x ∧ x < w164.heap.size)) → B ≤ x ∧ x < w164.heap.size := fun x hx_ => hx_.elim (fun h_ => hV x h_) (fun h_ => ⟨Nat.le_trans hBw0 h_.1, h_.2⟩)
         have hVo9 : ∀ x, (Value.slice ad6 n6 c6).ownBlock = some x → ¬ (V x ∨ (w162.heap.size ≤ x ∧ x < w164.heap.size)) := fun x hx_ hv_ => hv_.elim (hVo x hx_) (fun h_ => by have := (hol x hx_); omega)
         clear hV hVo
         obtain ⟨V9, hV9e⟩ : ∃ V9 : Nat → Prop, V9 = fun x => V x ∨ (w162.heap.size ≤ x ∧ x < w164.heap.size) := ⟨_, rfl⟩
         rw [← hV9e] at hT8 hK
         have hV : ∀ x, V9 x → B ≤ x ∧ x < w164.heap.size := by rw [hV9e]; exact hV9
         have hVo : ∀ x, (Value.slice ad6 n6 c6).ownBlock = some x → ¬ V9 x := by rw [hV9e]; exact hVo9
         clear hV9 hVo9 hV9e hBw0 hol
         refine stp (r_move (v := .tuple #[.agg #[.int .i64 y0, .int .i64 y1, .slice ya yn yc, .slice za zn zc, .slice ua un uc], .slice ad9 n9 c9]) rfl ?_)
         refine stp (r_extract (v := .agg #[.int .i64 y0, .int .i64 y1, .slice ya yn yc, .slice za zn zc, .slice ua un uc]) rfl rfl ?_)
         refine stp (r_extract (v := .slice ad9 n9 c9) rfl rfl ?_)
         refine stp (r_alloc ?_)
         intro b165 w166 hb167 hc168 g169
         refine stn (r_storeAll rfl rfl hc168 (by rfl) (by rfl) (by rfl) ?_)
         intro w170 hc171 u172
         have g173 := g169.upd u172 hb167
         have hge174 := Nat.le_trans G.size hb167
         have ne175 := Nat.ne_of_lt (Nat.lt_of_lt_of_le (lt_of_heap hc4) hb167)
         have ne176 := Nat.ne_of_lt (Nat.lt_of_lt_of_le (lt_of_heap hc99) hb167)
         replace hc4 := g173.heap hc4
         replace own := own_grow own g173
         replace hc99 := g173.heap hc99
         replace hBw := Nat.le_trans hBw g173.size
         replace ownk := own_grow ownk g173
         replace hK := hK.sees (Sees.grow g173)
         replace hT8 := hT8.sees (Sees.grow g173)
         replace hV := vlt hV g173.size
         replace G := G.tr g173
         clear u172 g169 hb167 hc168
         refine stp (r_assign_slice rfl ?_)
         refine WL_nil ?_
         refine W_seq (W_region rfl ?_)
         refine stp (r_move_slice rfl ?_)
         refine stp (r_assign_slice rfl ?_)
         refine WL_nil ?_
         refine W_region rfl ?_
         refine stp (r_fieldAddr rfl ?_)
         refine stp (r_load (v := .slice ad6 n6 c6) rfl hc99 rfl ?_)
         refine stp (r_loadAll rfl hc171 (by rfl) ?_)
         refine stp (r_buildSlice (cs := #[.int .i64 y0, .int .i64 y1, .slice ya yn yc, .slice za zn zc, .slice ua un uc]) (el := 37) (fun w => by kernel_rfl) ?_)
         intro bs177 w178 hb179 hc180 g181
         have hge182 := Nat.le_trans G.size hb179
         have ne183 := Nat.ne_of_lt (Nat.lt_of_lt_of_le (lt_of_heap hc4) hb179)
         have ne184 := Nat.ne_of_lt (Nat.lt_of_lt_of_le (lt_of_heap hc99) hb179)
         have ne185 := Nat.ne_of_lt (Nat.lt_of_lt_of_le (lt_of_heap hc171) hb179)
         replace hc4 := g181.heap hc4
         replace own := own_grow own g181
         replace hc99 := g181.heap hc99
         replace hBw := Nat.le_trans hBw g181.size
         replace ownk := own_grow ownk g181
         replace hK := hK.sees (Sees.grow g181)
         replace hT8 := hT8.sees (Sees.grow g181)
         replace hV := vlt hV g181.size
         replace hc171 := g181.heap hc171
         replace G := G.tr g181
         clear g181
         refine stp (r_appendB rfl rfl rfl rfl ownk (Row.of_block (n := 1) hc180 rfl rfl (by omega)) (fun q_ hq_ => by simp at hq_; rcases hq_ with rfl | rfl | rfl | rfl | rfl <;> rfl) (by simp only [maxLen]; omega) (by omega) hBw ?_)
         intro v186 w187 own6 gr6 hbk6
         have k6_ : Kp (Value.slice ad6 n6 c6).ownBlock.toList w178 w187 := Kp.of_grownBy gr6 (fun k_ hk_ => by rw [Option.mem_toList]; exact hk_)
         have hF6 : ∀ x ∈ (Value.slice ad6 n6 c6).ownBlock.toList, B ≤ x := fun x hx_ => own_ge ownk x (Option.mem_toList.1 hx_)
         have hF7 : ∀ x ∈ (Value.slice ad6 n6 c6).ownBlock.toList, ¬ V9 x := fun x hx_ => hVo x (Option.mem_toList.1 hx_)
         replace hT8 := hT8.sees (Sees.kp k6_ hF7)
         replace hK := hK.sees (Sees.kp k6_ hF7)
         have hVo6 : ∀ x, v186.ownBlock = some x → ¬ V9 x := fun x hx_ hv_ => hbk6.elim (fun h_ => hVo x (h_ ▸ hx_) hv_) (fun h_ => by rw [h_] at hx_; simp only [Option.some.injEq] at hx_; have := (hV x hv_).2; omega)
         replace hV := fun x hx_ => (⟨(hV x hx_).1, Nat.lt_of_lt_of_le (hV x hx_).2 k6_.size⟩ : B ≤ x ∧ x < w187.heap.size)
         replace G := G.trK k6_ (fun x hx_ => Nat.le_trans hwB (hF6 x hx_))
         replace own := own_gr own ownk (by decide) gr6
         clear hc171
         replace hc4 := k6_.heap hc4 (fun hm_ => by have h1_ := hF6 _ hm_; have := hB4; omega)
         replace hc99 := k6_.heap hc99 (fun hm_ => by have h1_ := hF6 _ hm_; omega)
         replace hBw := Nat.le_trans hBw k6_.size
         clear ownk gr6 hVo k6_ hF6 hF7 hbk6
         obtain ⟨ad7, n7, c7, rfl⟩ := own_slice own6
         refine stp (r_fieldAddr rfl ?_)
         refine stn (r_store1 (v := .slice ad7 n7 c7) rfl rfl (by rfl) hc99 (by rfl) (by rfl) ?_)
         intro w188 hc189 u190
         replace hc4 := u190.heap hc4 ne22
         replace own := own_upd own u190 (own_ne own hc99 (by decide))
         replace own6 := own_upd own6 u190 (fun he_ => by have := own_ge own6 _ he_; omega)
         replace hT8 := hT8.sees (Sees.upd u190 (fun h_ => by have := (hV _ h_).1; omega))
         replace hK := hK.sees (Sees.upd u190 (fun h_ => by have := (hV _ h_).1; omega))
         replace hV := fun x hx_ => (⟨(hV x hx_).1, Nat.lt_of_lt_of_le (hV x hx_).2 (Nat.le_of_eq u190.size.symm)⟩ : B ≤ x ∧ x < w188.heap.size)
         replace hBw : B ≤ w188.heap.size := by rw [u190.size]; exact hBw
         replace G := G.upd u190 hge21
         clear hc99
         refine WL_nil ?_
         refine W_region rfl ?_
         refine stp (r_move_int rfl ?_)
         refine stp (r_add rfl rfl ?_ ?_); constructor <;> omega
         refine stp (r_assign_int rfl ?_)
         refine WL_nil ?_
         refine ⟨_, ?_, j + 1, ad9, n9, c9, ad7, n7, c7, _, V9, rfl, fr_of ⟨rfl, rfl, rfl, rfl, rfl, congrArg (Value.int .i64) (by omega), rfl, trivial⟩, by omega, hn9, hc9, hc92, hR9, hVo6, hc4, own, hc189, hBw, own6, hV, (KidsR.append hK (by have := KidsR.cons hT8 .nil; simpa using this)), G⟩
         omega
        ·-- false
         replace hlt := of_decide_eq_false hlt
         have hj2 : j = (k / 8 % 5).toNat := by omega
         have hlk := treesP_count (treeP d) j c
         have hrk : Row (hide B w162) 5 (.slice ad6 n6 c6) (treesP (treeP d) j c).1.length kc := by rw [hlk]; exact own_hide ownk (by omega)
         have hK9 := hK.sees (Sees.more (V' := fun x => B ≤ x) _ (fun x _ hx_ => (hV x hx_).1))
         clear hK hV
         have ht : treeP (d + 1) (k :: c) = (.mk 1 0 ((List.range (k / 64).toNat).map (w4Tree k)) [] (treesP (treeP d) j c).1, (treesP (treeP d) j c).2) := by simp only [treeP]; rw [if_neg h2, if_neg (by omega), if_neg h5, if_neg h6, ← hj2]
         refine W_exit ?_
         refine W_seq (W_region rfl ?_)
         refine stp (r_loadAll rfl hc99 (by rfl) ?_)
         refine stp (r_move_slice rfl ?_)
         refine stn (r_storeAll rfl rfl hc4 (by rfl) (by rfl) (by rfl) ?_)
         intro w191 hc192 u193
         replace own := own_upd own u193 (own_ne own hc4 (by decide))
         replace hc99 := u193.heap hc99 ne22.symm
         replace hrk := hrk.sees (Sees.upd u193 (fun h_ => by omega))
         replace hK9 := hK9.sees (Sees.upd u193 (fun h_ => by omega))
         replace G := G.upd u193 hge8
         clear u193 hc4
         refine stp (r_assign_slice rfl ?_)
         refine WL_nil ?_
         refine W_ret ?_
         rw [ht]
         refine ret2 (res_all rfl hc192 (by rfl)) (res_tmp (v := .slice ad5 n5 c5) rfl) ⟨[_, _, _, _, _], _, _, _, rfl, .mk (by simp [inR]) (by simp [inR]) (own_hide_ints own hm2 (by omega)) (fun x hx_ => by obtain ⟨i, _, rfl⟩ := List.mem_map.1 hx_; exact wrap_u64R _) (Row.nil _ _) (by simp) (hrk.sees (Sees.low hwB _)) (hK9.sees (Sees.low hwB _)), hn5, hc5, hc52, hR5, G⟩
end Go.Proofs.Ytfhfecepcnapfaa.K

namespace Go.Proofs.Ytfhfecepcnapfaa.K
open Go Go.RowKit Go.Proofs
attribute [local irreducible] Run1 OpG WL W AO Gives
set_option maxRecDepth 100000 in
theorem bent_calls (w : World) {ad ae : Option Addr} {cp cq : Nat} {xs ys : List Int} (R : RowAt w 1 ad xs.length (xs.map (.int .u8))) (hx : ∀ x ∈ xs, inR .u8 x) (hcp : xs.length ≤ cp) (hcp2 : cp ≤ maxLen) (hl : xs.length ≤ 200) (R2 : RowAt w 1 ae ys.length (ys.map (.int .u8))) (hy : ∀ x ∈ ys, inR .u8 x) {k : Int} (k0 : 0 ≤ k) (k1 : k ≤ 255) : Calls Try.prog 13 #[.slice ad xs.length cp, .slice ae ys.length cq, .int .u8 k] w (Ret fun v w' => ∃ ado co segs A, v = .slice ado A.length co ∧ OwnA 34 55 w' w.heap.size (.slice ado A.length co) segs A ∧ Bent1 xs k A ∧ Grow w w') := by
 have lR2 := R2.lim
 have hri := bentT_right (xs := xs) hx
 have G := Grow.rfl' w
 refine calls_ret Try.func13 Try.ntmps13 Try.results13 rfl rfl ?_
 refine W_seq (W_region rfl ?_)
 refine stp (r_assign_slice rfl ?_)
 refine WL_nil ?_
 refine W_seq (W_region rfl ?_)
 refine stp (r_move_slice rfl ?_)
 refine stp (r_move_slice rfl ?_)
 refine stp (r_len rfl rfl rfl ?_)
 refine WL_some (og rfl ?_)
 refine r_min rfl rfl rfl ?_
 rw [if_neg (by omega)]
 refine stp (r_sliceH rfl rfl (by omega) (by omega) ?_)
 have R1 := R.sliceH (m := xs.length) hcp (Nat.le_refl _) (by decide)
 rw [List.take_of_length_le (by rw [List.length_map]; omega)] at R1
 rw [Int.toNat_natCast]
 generalize (if cp = 0 then ad else ad.map (·.add (0 * 1))) = ad1 at R1 ⊢
 refine WL_some (og rfl ?_)
 refine r_call rfl (tree_calls _ _ R1 G rfl hx hcp hcp2 (d := 6) (by decide) (Nat.le_refl _)) ?_
 rintro v_ w1 ⟨cells_, ad9, n9, c9, rfl, hX_, -, -, -, -, g_⟩
 have hX := hX_.sees (Sees.seen _ _)
 clear hX_
 replace G := G.tr g_
 clear g_
 obtain ⟨x0, x1, xa, xn, xc, pa, pn, pc, qa, qn, qc, rfl⟩ := hX.cells
 have hX : NodeR w1 [.int .i64 x0, .int .i64 x1, .slice xa xn xc, .slice pa pn pc, .slice qa qn qc] (bentT xs) := hX
 refine stp (r_move (v := .tuple #[.agg #[.int .i64 x0, .int .i64 x1, .slice xa xn xc, .slice pa pn pc, .slice qa qn qc], .slice ad9 n9 c9]) rfl ?_)
 refine stp (r_extract (v := .agg #[.int .i64 x0, .int .i64 x1, .slice xa xn xc, .slice pa pn pc, .slice qa qn qc]) rfl rfl ?_)
 refine stp (r_extract (v := .slice ad9 n9 c9) rfl rfl ?_)
 refine stp (r_alloc ?_)
 intro b2 w3 hb4 hc5 g6
 refine stn (r_storeAll rfl rfl hc5 (by rfl) (by rfl) (by rfl) ?_)
 intro w7 hc8 u9
 have g10 := g6.upd u9 hb4
 have hge11 := Nat.le_trans G.size hb4
 replace hX := hX.grow g10
 replace G := G.tr g10
 clear u9 g6 hb4 hc5
 refine stp (r_assign_slice rfl ?_)
 refine WL_nil ?_
 refine W_seq (W_region rfl ?_)
 refine stp (r_loadAll rfl hc8 (by rfl) ?_)
 refine stp (r_move_int rfl ?_)
 refine stp (r_rem rfl rfl ?_ ?_ ?_); omega; omega
 refine stp (r_conv rfl ?_ ?_); constructor <;> omega
 refine stp (r_add rfl rfl ?_ ?_); constructor <;> omega
 refine WL_some (og rfl ?_)
 have hcal := rBuild_calls _ hX (3 + k % 30)
 have hszp := G.size
 refine r_call rfl hcal ?_
 rintro v_ w12 ⟨so_, segsp, rfl, hO_, g_⟩
 clear hcal
 replace hX := hX.grow g_
 replace hc8 := g_.heap hc8
 replace G := G.tr g_
 clear g_
 have hOp := hO_.lower hszp
 clear hO_
 obtain ⟨adp, cp, rfl, -⟩ := own_shape hOp.out
 refine stp (r_move (v := .tuple #[.slice adp (((bentT xs).build (3 + k % 30)).1.length) cp, .int .i64 (((bentT xs).build (3 + k % 30)).2)]) rfl ?_)
 refine stp (r_extract (v := .slice adp (((bentT xs).build (3 + k % 30)).1.length) cp) rfl rfl ?_)
 refine stp (r_extract (v := .int .i64 (((bentT xs).build (3 + k % 30)).2)) rfl rfl ?_)
 refine stp (r_assign_slice rfl ?_)
 refine stp (r_assign_int rfl ?_)
 refine WL_nil ?_
 have hB0 := bentB_len (xs := xs) hx hl k
 obtain ⟨B, hB⟩ : ∃ B, B = bentB xs k := ⟨_, rfl⟩
 rw [← hB] at hB0
 refine W_cut1 (fun e_ w_ => ∃ (ado : Option Addr) (co : Nat) (segs : List Value), Fr [(1, .slice ae ys.length cq), (6, .slice none 0 0), (9, .slice ado B.length co)] e_ ∧ (OwnA 34 55 w_ w.heap.size (.slice ado B.length co) segs B) ∧ Grow w w_) ?_ ?_
 ·-- the parts
  refine W_seq (W_region rfl ?_)
  refine stp (r_move_int rfl ?_)
  refine stp (r_neq rfl rfl ?_)
  refine WL_nil ?_
  refine W_cond2 (b := (decide ((((bentT xs).build (3 + k % 30)).2) ≠ 0))) rfl (fun h1 => ?_) (fun h1 => ?_)
  ·-- true
   replace h1 := of_decide_eq_true h1
   refine W_seq (W_region rfl ?_)
   refine stp (r_loadAll rfl hc8 (by rfl) ?_)
   refine WL_some (og rfl ?_)
   have hcal := rBuild_calls _ hX 4096
   have hszq := G.size
   refine r_call rfl hcal ?_
   rintro v_ w13 ⟨so_, segsq, rfl, hO_, g_⟩
   clear hcal
   replace hX := hX.grow g_
   replace hc8 := g_.heap hc8
   replace hOp := hOp.grow g_
   replace G := G.tr g_
   clear g_
   have hOq := hO_.lower hszq
   clear hO_
   obtain ⟨adq, cq, rfl, -⟩ := own_shape hOq.out
   refine stp (r_move (v := .tuple #[.slice adq (((bentT xs).build 4096).1.length) cq, .int .i64 (((bentT xs).build 4096).2)]) rfl ?_)
   refine stp (r_extract (v := .slice adq (((bentT xs).build 4096).1.length) cq) rfl rfl ?_)
   refine stp (r_extract (v := .int .i64 (((bentT xs).build 4096).2)) rfl rfl ?_)
   refine stp (r_assign_slice rfl ?_)
   refine stp (r_assign_int rfl ?_)
   refine WL_nil ?_
   refine W_region rfl ?_
   refine stp (r_move_slice rfl ?_)
   refine stp (r_assign_slice rfl ?_)
   refine WL_nil ?_
   have hBe : B = ((bentT xs).build 4096).1 := by rw [hB]; unfold bentB; rw [if_pos h1]
   exact ⟨adq, cq, segsq, fr_of ⟨rfl, rfl, by rw [hBe]; rfl, trivial⟩, (by rw [hBe]; exact hOq), G⟩
  ·-- false
   replace h1 := of_decide_eq_false h1
   refine W_skip ?_
   have hBe : B = ((bentT xs).build (3 + k % 30)).1 := by rw [hB]; unfold bentB; rw [if_neg h1]
   exact ⟨adp, cp, segsp, fr_of ⟨rfl, rfl, by rw [hBe]; rfl, trivial⟩, (by rw [hBe]; exact hOp), G⟩
 ·-- behind them
  clear hX hc8 hOp
  clear G
  rintro e_ w14 ⟨ado, co, segs, ⟨e15, rfl⟩, hO, G⟩
  refine W_seq ?_
  refine W_seq (W_region rfl ?_)
  refine stp (r_assign_int rfl ?_)
  refine WL_nil ?_
  refine W_block ?_
  refine W_loop (fun m_ e_ w_ => ∃ (m : Nat) (ado : Option Addr) (co : Nat) (segs : List Value) (A : List (List Int)), m_ = 12 - m ∧ Fr [(1, .slice ae ys.length cq), (6, .slice none 0 0), (13, .int .i64 (m : Int)), (9, .slice ado A.length co)] e_ ∧ (m ≤ 15) ∧ (BentA B A) ∧ (OwnA 34 55 w_ w.heap.size (.slice ado A.length co) segs A) ∧ Grow w w_) _ ⟨0, ado, co, segs, B, rfl, fr_of ⟨rfl, rfl, rfl, rfl, trivial⟩, by omega, .refl, hO, G⟩ ?_
  clear hO
  clear G
  rintro m_ e_ w16 ⟨m, ado, co, segs, A, rfl, ⟨e17, rfl⟩, hm15, hA, hO, G⟩
  refine W_seq ?_
  refine W_seq (W_region rfl ?_)
  refine stp (r_move_int rfl ?_)
  refine stp (r_add rfl rfl ?_ ?_); constructor <;> omega
  refine stp (r_move_slice rfl ?_)
  refine stp (r_len rfl rfl rfl ?_)
  refine stp (r_lss rfl rfl ?_)
  refine stp (r_move_bool rfl ?_)
  refine WL_some (og_if (s := .bool (decide (((m : Int) + 3) < (ys.length : Int)))) (b := true) (v := .int .i64 (m : Int)) rfl (wgb_t _) (fun hc18 => ?_) ?_)
  ·
   have hc18_ := of_decide_eq_true hc18
   refine r_move_int rfl ?_
   exact ⟨rfl, rfl⟩
  refine WL_some (og_if (s := .bool (decide (((m : Int) + 3) < (ys.length : Int)))) (b := true) (v := .bool (decide ((m : Int) < 12))) rfl (wgb_t _) (fun hc19 => ?_) ?_)
  ·
   have hc19_ := of_decide_eq_true hc19
   refine r_lss (gvt hc19) rfl ?_
   exact ⟨rfl, rfl⟩
  refine stp (r_and2 rfl rfl rfl ?_)
  refine WL_nil ?_
  refine W_cond2 (b := ((decide (((m : Int) + 3) < (ys.length : Int))) && (decide ((m : Int) < 12)))) rfl (fun hlt => ?_) (fun hlt => ?_)
  ·-- true
   simp only [sb] at hlt
   have hd0 := getD_u8 hy m
   have hd1 := getD_u8 hy ((m : Int) + 1).toNat
   have hd2 := getD_u8 hy ((m : Int) + 2).toNat
   have hd3 := getD_u8 hy ((m : Int) + 3).toNat
   have hAl : A.length = B.length := (BentA.len hA).1
   obtain ⟨ado1, co1, sa, sc, hso, hco1, hco2, RO, hsf⟩ := hO.fn (by omega)
   simp only [Value.slice.injEq, true_and] at hso
   obtain ⟨rfl, rfl⟩ := hso
   obtain ⟨s, hsE⟩ : ∃ s : Nat, (s : Int) = ys.getD m 0 % (A.length : Int) := ⟨(ys.getD m 0 % (A.length : Int)).toNat, by have := Int.emod_nonneg (ys.getD m 0) (show (A.length : Int) ≠ 0 by omega); omega⟩
   have hsA : s < A.length := by have := Int.emod_lt_of_pos (ys.getD m 0) (show 0 < (A.length : Int) by omega); omega
   obtain ⟨hss, hos⟩ := hsf s hsA
   refine W_skip ?_
   refine W_seq ?_
   refine W_block ?_
   refine W_seq (W_region rfl ?_)
   refine stp (r_move_slice rfl ?_)
   refine stp (r_move_int rfl ?_)
   refine stp (r_indexN (R2.grow G) rfl rfl ?_ ?_); omega
   refine stp (r_loadR (v := .int .u8 (ys.getD m 0)) (m := 0) (R2.grow G) rfl (map_get1 0 (by omega)) ?_)
   refine stp (r_conv rfl ?_ ?_); constructor <;> omega
   refine stp (r_move_slice rfl ?_)
   refine stp (r_len rfl rfl rfl ?_)
   refine WL_some (og rfl ?_)
   refine r_rem rfl rfl ?_ ?_ ?_; omega; omega
   rw [← hsE]
   refine stp (r_assign_int rfl ?_)
   refine WL_nil ?_
   refine W_seq ?_
   refine W_seq (W_region rfl ?_)
   refine stp (r_move_slice rfl ?_)
   refine stp (r_move_int rfl ?_)
   refine stp (r_indexN RO rfl rfl ?_ ?_); omega
   refine stp (r_loadR (v := .slice (sa s) (len2 A s) (sc s)) (m := 0) RO rfl (by rw [Nat.mul_one]; exact hss) ?_)
   refine stp (r_len rfl rfl rfl ?_)
   refine stp (r_eql rfl rfl ?_)
   refine WL_nil ?_
   refine W_cond2 (b := (decide (((len2 A s) : Int) = 0))) rfl (fun h3 => ?_) (fun h3 => ?_)
   ·-- true
    replace h3 := of_decide_eq_true h3
    refine W_exit ?_
    refine W_region rfl ?_
    refine stp (r_move_int rfl ?_)
    refine stp (r_add rfl rfl ?_ ?_); constructor <;> omega
    refine stp (r_assign_int rfl ?_)
    refine WL_nil ?_
    refine ⟨_, ?_, m + 4, ado, co, segs, A, rfl, fr_of ⟨rfl, rfl, congrArg (Value.int .i64) (by omega), rfl, trivial⟩, by omega, hA, hO, G⟩
    omega
   ·-- false
    replace h3 := of_decide_eq_false h3
    have hs0 : 0 < len2 A s := by omega
    obtain ⟨j, hjE⟩ : ∃ j : Nat, (j : Int) = (ys.getD ((m : Int) + 1).toNat 0) % (len2 A s : Int) := ⟨((ys.getD ((m : Int) + 1).toNat 0) % (len2 A s : Int)).toNat, by have := Int.emod_nonneg (ys.getD ((m : Int) + 1).toNat 0) (show (len2 A s : Int) ≠ 0 by omega); omega⟩
    have hjA : j < len2 A s := by have := Int.emod_lt_of_pos (ys.getD ((m : Int) + 1).toNat 0) (show 0 < (len2 A s : Int) by omega); omega
    refine W_skip ?_
    refine W_seq ?_
    refine W_any 13 [[], [], [0], [2, 1, 0], [3, 2, 1, 0], [4, 3, 2, 1, 0], [], [], [1, 0], [2, 1, 0], [3, 2, 1, 0], [10, 9, 8, 7, 6, 5, 4, 3, 2, 1, 0], [11, 10, 9, 8, 7, 6, 5, 4, 3, 2, 1, 0]] mixed (by kernel_rfl) (by kernel_rfl) (by kernel_rfl) ?_
    intro w20 g21
    replace hO := hO.grow g21
    replace RO := RO.grow g21
    replace G := G.tr g21
    clear g21
    apply AO_ex
    ·intro w_ g_; refine og rfl ?_; refine r_move_slice rfl ?_; exact ⟨Grow.rfl' _, rfl⟩
    apply AO_ex
    ·intro w_ g_; refine og rfl ?_; refine r_move_int rfl ?_; exact ⟨Grow.rfl' _, rfl⟩
    apply AO_ex
    ·intro w_ g_; refine og rfl ?_; refine r_add rfl rfl ?_ ?_; constructor <;> omega; exact ⟨Grow.rfl' _, rfl⟩
    apply AO_ex
    ·intro w_ g_; refine og rfl ?_; refine r_indexR (R2.grow (G.tr g_)) rfl rfl ?_ ?_ ?_; omega; omega; exact ⟨Grow.rfl' _, rfl⟩
    apply AO_ex
    ·intro w_ g_; refine og rfl ?_; refine r_loadR (v := .int .u8 (ys.getD (((m : Int) + 1).toNat) 0)) (m := 0) (R2.grow (G.tr g_)) rfl (map_get1 0 (by omega)) ?_; exact ⟨Grow.rfl' _, rfl⟩
    apply AO_ex
    ·intro w_ g_; refine og rfl ?_; refine r_conv rfl ?_ ?_; constructor <;> omega; exact ⟨Grow.rfl' _, rfl⟩
    apply AO_ex
    ·intro w_ g_; refine og rfl ?_; refine r_move_slice rfl ?_; exact ⟨Grow.rfl' _, rfl⟩
    apply AO_ex
    ·intro w_ g_; refine og rfl ?_; refine r_move_int rfl ?_; exact ⟨Grow.rfl' _, rfl⟩
    apply AO_ex
    ·intro w_ g_; refine og rfl ?_; refine r_indexN (RO.grow g_) rfl rfl ?_ ?_; omega; exact ⟨Grow.rfl' _, rfl⟩
    apply AO_ex
    ·intro w_ g_; refine og rfl ?_; refine r_loadR (v := .slice (sa s) (len2 A s) (sc s)) (m := 0) (RO.grow g_) rfl (by rw [Nat.mul_one]; exact hss) ?_; exact ⟨Grow.rfl' _, rfl⟩
    apply AO_ex
    ·intro w_ g_; refine og rfl ?_; refine r_len rfl rfl rfl ?_; exact ⟨Grow.rfl' _, rfl⟩
    apply AO_ex
    ·intro w_ g_; refine og rfl ?_; refine r_rem rfl rfl ?_ ?_ ?_; omega; omega; rw [← hjE]; exact ⟨Grow.rfl' _, rfl⟩
    apply AO_ex
    ·intro w_ g_; refine og rfl ?_; refine r_assign_int rfl ?_; exact ⟨Grow.rfl' _, rfl⟩
    refine AO_nil ?_
    intro w22 g23
    replace hO := hO.grow g23
    replace RO := RO.grow g23
    replace G := G.tr g23
    clear g23
    refine WL_nil ?_
    have hsG := G.size
    obtain ⟨M, hM⟩ : ∃ M, M = w22.heap.size := ⟨_, rfl⟩
    have hMw : M ≤ w22.heap.size := by rw [hM]; exact Nat.le_refl _
    have hwM : w.heap.size ≤ M := by rw [hM]; exact hsG
    clear hM hsG
    obtain ⟨x, hxE⟩ : ∃ x, x = encR (bentP (ys.getD ((m : Int) + 2).toNat 0) (ys.getD ((m : Int) + 3).toNat 0) A.length) := ⟨_, rfl⟩
    obtain ⟨z, hzE⟩ : ∃ z, z = encE (bentP (ys.getD ((m : Int) + 2).toNat 0) (ys.getD ((m : Int) + 3).toNat 0) A.length) := ⟨_, rfl⟩
    refine W_seq ?_
    refine W_any 18 [[], [], [0], [2, 1, 0], [3, 2, 1, 0], [4, 3, 2, 1, 0], [5, 4, 3, 2, 1, 0], [6, 5, 4, 3, 2, 1, 0], [], [], [0], [2, 1, 0], [3, 2, 1, 0], [4, 3, 2, 1, 0], [5, 4, 3, 2, 1, 0], [6, 5, 4, 3, 2, 1, 0], [15, 14, 13, 12, 11, 10, 9, 8, 7, 6, 5, 4, 3, 2, 1, 0], []] mixed (by kernel_rfl) (by kernel_rfl) (by kernel_rfl) ?_
    intro w24 g25
    replace hO := hO.grow g25
    replace RO := RO.grow g25
    replace hMw := Nat.le_trans hMw g25.size
    replace G := G.tr g25
    clear g25
    apply AO_ex
    ·intro w_ g_; refine og rfl ?_; refine r_move_slice rfl ?_; exact ⟨Grow.rfl' _, rfl⟩
    apply AO_ex
    ·intro w_ g_; refine og rfl ?_; refine r_move_int rfl ?_; exact ⟨Grow.rfl' _, rfl⟩
    apply AO_ex
    ·intro w_ g_; refine og rfl ?_; refine r_add rfl rfl ?_ ?_; constructor <;> omega; exact ⟨Grow.rfl' _, rfl⟩
    apply AO_ex
    ·intro w_ g_; refine og rfl ?_; refine r_indexR (R2.grow (G.tr g_)) rfl rfl ?_ ?_ ?_; omega; omega; exact ⟨Grow.rfl' _, rfl⟩
    apply AO_ex
    ·intro w_ g_; refine og rfl ?_; refine r_loadR (v := .int .u8 (ys.getD (((m : Int) + 2).toNat) 0)) (m := 0) (R2.grow (G.tr g_)) rfl (map_get1 0 (by omega)) ?_; exact ⟨Grow.rfl' _, rfl⟩
    apply AO_ex
    ·intro w_ g_; refine og rfl ?_; refine r_rem rfl rfl ?_ ?_ ?_; omega; omega; exact ⟨Grow.rfl' _, rfl⟩
    apply AO_ex
    ·intro w_ g_; refine og rfl ?_; refine r_conv rfl ?_ ?_; constructor <;> omega; exact ⟨Grow.rfl' _, rfl⟩
    apply AO_ex
    ·intro w_ g_; refine og rfl ?_; refine r_add rfl rfl ?_ ?_; constructor <;> omega; exact ⟨Grow.rfl' _, rfl⟩
    apply AO_ex
    ·intro w_ g_; refine og rfl ?_; refine r_move_slice rfl ?_; exact ⟨Grow.rfl' _, rfl⟩
    apply AO_ex
    ·intro w_ g_; refine og rfl ?_; refine r_move_int rfl ?_; exact ⟨Grow.rfl' _, rfl⟩
    apply AO_ex
    ·intro w_ g_; refine og rfl ?_; refine r_add rfl rfl ?_ ?_; constructor <;> omega; exact ⟨Grow.rfl' _, rfl⟩
    apply AO_ex
    ·intro w_ g_; refine og rfl ?_; refine r_indexR (R2.grow (G.tr g_)) rfl rfl ?_ ?_ ?_; omega; omega; exact ⟨Grow.rfl' _, rfl⟩
    apply AO_ex
    ·intro w_ g_; refine og rfl ?_; refine r_loadR (v := .int .u8 (ys.getD (((m : Int) + 3).toNat) 0)) (m := 0) (R2.grow (G.tr g_)) rfl (map_get1 0 (by omega)) ?_; exact ⟨Grow.rfl' _, rfl⟩
    apply AO_ex
    ·intro w_ g_; refine og rfl ?_; refine r_rem rfl rfl ?_ ?_ ?_; omega; omega; exact ⟨Grow.rfl' _, rfl⟩
    apply AO_ex
    ·intro w_ g_; refine og rfl ?_; refine r_conv rfl ?_ ?_; constructor <;> omega; exact ⟨Grow.rfl' _, rfl⟩
    apply AO_ex
    ·intro w_ g_; refine og rfl ?_; refine r_sub rfl rfl ?_ ?_; constructor <;> omega; exact ⟨Grow.rfl' _, rfl⟩
    apply AO_ex
    ·intro w_ g_; refine og rfl ?_; refine r_build (v := .agg #[.int .i64 (1 + ((ys.getD (((m : Int) + 2).toNat) 0) % 3)), .int .i64 (((ys.getD (((m : Int) + 3).toNat) 0) % 16) - 4), .int .i64 0, .int .i64 0, .int .i64 0, .int .i64 0, .int .i64 0, .bool false]) (fun w => by kernel_rfl) ?_; exact ⟨Grow.rfl' _, rfl⟩
    refine AO_so (fun w_ v_ => ∃ b, v_ = .pointer (some ⟨b, 0, none⟩) ∧ M ≤ b ∧ w_.heap[b]? = some (.cells #[.int .i64 0, .int .i64 0, .int .i64 0, .int .i64 0, .int .i64 0, .int .i64 0, .int .i64 0, .bool false] 67 (0, 0))) (fun _ _ _ g_ ⟨b, h1_, h2_, h3_⟩ => ⟨b, h1_, h2_, g_.heap h3_⟩) ?_ ?_
    ·intro w_ g_
     refine og rfl ?_
     refine r_alloc ?_
     intro b_ w2_ hb_ hc_ g2_
     exact ⟨g2_, b_, rfl, Nat.le_trans hMw (Nat.le_trans g_.size hb_), hc_⟩
    refine AO_nil ?_
    intro w26 g27
    replace hO := hO.grow g27
    replace RO := RO.grow g27
    replace hMw := Nat.le_trans hMw g27.size
    replace G := G.tr g27
    clear g27
    intro v_p hv_p
    obtain ⟨bp, rfl, hgP, hcP⟩ := hv_p
    have hgQ := Nat.le_trans hwM hgP
    refine stn (r_storeAll rfl rfl hcP (by rfl) (by rfl) (by rfl) ?_)
    intro w28 hc29 u30
    replace hO := hO.upd u30 hcP (by decide) (by decide)
    replace RO := (OwnA.rowat hO (by omega)).2
    replace hMw := Nat.le_trans hMw (Nat.le_of_eq u30.size.symm)
    replace G := G.upd u30 hgQ
    clear u30 hcP
    refine WL_nil ?_
    refine W_seq ?_
    refine W_seq (W_region rfl ?_)
    refine stp (r_fieldAddr rfl ?_)
    refine stp (r_load (v := .int .i64 (1 + ((ys.getD (((m : Int) + 2).toNat) 0) % 3))) rfl hc29 rfl ?_)
    refine WL_nil ?_
    refine W_block ?_
    refine W_seq (W_region rfl ?_)
    refine stp (r_eql rfl rfl ?_)
    refine stp (r_assign_bool rfl ?_)
    refine WL_nil ?_
    refine W_cond2 (b := (decide ((1 + ((ys.getD (((m : Int) + 2).toNat) 0) % 3)) = 1))) rfl (fun h4 => ?_) (fun h4 => ?_)
    ·-- true
     replace h4 := of_decide_eq_true h4
     refine W_seq (W_region rfl ?_)
     refine stp (r_move_slice rfl ?_)
     refine stp (r_move_int rfl ?_)
     refine stp (r_add rfl rfl ?_ ?_); constructor <;> omega
     refine stp (r_indexR (R2.grow G) rfl rfl ?_ ?_ ?_); omega; omega
     refine stp (r_loadR (v := .int .u8 (ys.getD (((m : Int) + 2).toNat) 0)) (m := 0) (R2.grow G) rfl (map_get1 0 (by omega)) ?_)
     refine stp (r_rem rfl rfl ?_ ?_ ?_); omega; omega
     refine stp (r_conv rfl ?_ ?_); constructor <;> omega
     refine stp (r_fieldAddr rfl ?_)
     refine stn (r_store1 (v := .int .i64 ((ys.getD (((m : Int) + 2).toNat) 0) % 4)) rfl rfl (by rfl) hc29 (by rfl) (by rfl) ?_)
     intro w31 hc32 u33
     replace hO := hO.upd u33 hc29 (by decide) (by decide)
     replace RO := (OwnA.rowat hO (by omega)).2
     replace hMw := Nat.le_trans hMw (Nat.le_of_eq u33.size.symm)
     replace G := G.upd u33 hgQ
     clear u33 hc29
     refine WL_nil ?_
     refine W_region rfl ?_
     refine stp (r_move_slice rfl ?_)
     refine stp (r_move_int rfl ?_)
     refine stp (r_add rfl rfl ?_ ?_); constructor <;> omega
     refine stp (r_indexR (R2.grow G) rfl rfl ?_ ?_ ?_); omega; omega
     refine stp (r_loadR (v := .int .u8 (ys.getD (((m : Int) + 2).toNat) 0)) (m := 0) (R2.grow G) rfl (map_get1 0 (by omega)) ?_)
     refine stp (r_quo rfl rfl ?_ ?_ ?_ ?_); omega; omega; (constructor <;> omega)
     refine stp (r_conv rfl ?_ ?_); constructor <;> omega
     refine stp (r_fieldAddr rfl ?_)
     refine stn (r_store1 (v := .int .i64 ((ys.getD (((m : Int) + 2).toNat) 0) / 64)) rfl rfl (by rfl) hc32 (by rfl) (by rfl) ?_)
     intro w34 hc35 u36
     replace hO := hO.upd u36 hc32 (by decide) (by decide)
     replace RO := (OwnA.rowat hO (by omega)).2
     replace hMw := Nat.le_trans hMw (Nat.le_of_eq u36.size.symm)
     replace G := G.upd u36 hgQ
     clear u36 hc32
     refine WL_nil ?_
     refine W_seq (W_region rfl ?_)
     refine stp (r_loadAll rfl hc35 (by rfl) ?_)
     refine WL_some (og rfl ?_)
     have hP : (⟨1 + ((ys.getD (((m : Int) + 2).toNat) 0) % 3), ((ys.getD (((m : Int) + 3).toNat) 0) % 16) - 4, (ys.getD (((m : Int) + 2).toNat) 0) % 4, (ys.getD (((m : Int) + 2).toNat) 0) / 64, 0, 0, 0, false⟩ : Pt) = bentP (ys.getD ((m : Int) + 2).toNat 0) (ys.getD ((m : Int) + 3).toNat 0) A.length := by unfold bentP; rw [if_pos (by omega)]; rw [show 1 + (ys.getD ((m : Int) + 2).toNat 0) % 3 = 1 from by omega]
     refine r_gives (v := .tuple #[.int .u64 x, .int .i64 z]) rfl (gives_eq (rencode_calls _ ⟨1 + ((ys.getD (((m : Int) + 2).toNat) 0) % 3), ((ys.getD (((m : Int) + 3).toNat) 0) % 16) - 4, (ys.getD (((m : Int) + 2).toNat) 0) % 4, (ys.getD (((m : Int) + 2).toNat) 0) / 64, 0, 0, 0, false⟩) (y := .tuple #[.int .u64 x, .int .i64 z]) (by rw [hP, ← hxE, ← hzE])) ?_
     intro w37 g38
     replace hO := hO.grow g38
     replace RO := RO.grow g38
     replace hMw := Nat.le_trans hMw g38.size
     replace hc35 := g38.heap hc35
     replace G := G.tr g38
     clear g38
     refine stp (r_move (v := .tuple #[.int .u64 x, .int .i64 z]) rfl ?_)
     refine stp (r_extract (v := .int .u64 x) rfl rfl ?_)
     refine stp (r_extract (v := .int .i64 z) rfl rfl ?_)
     refine stp (r_assign_int rfl ?_)
     refine stp (r_assign_int rfl ?_)
     refine WL_nil ?_
     refine W_region rfl ?_
     refine stp (r_move_slice rfl ?_)
     refine stp (r_move_int rfl ?_)
     refine stp (r_indexN RO rfl rfl ?_ ?_); omega
     refine stp (r_loadR (v := .slice (sa s) (len2 A s) (sc s)) (m := 0) RO rfl (by rw [Nat.mul_one]; exact hss) ?_)
     refine stp (r_move_int rfl ?_)
     refine stp (r_move_int rfl ?_)
     refine WL_some (og rfl ?_)
     have hos9 := hO.seg s _ _ hss (List.getElem?_eq_getElem hsA)
     have hlen9 : len2 A s = A[s].length := by rw [len2, getD_at hsA]
     obtain ⟨g5, c5, cur5, he5, hg5b, hg5, hc51, hc52, hc53, hc54⟩ := own_pos hos9 (by omega)
     simp only [Value.slice.injEq] at he5
     obtain ⟨hsa, -, hsc⟩ := he5
     refine r_indexAddr (b := g5) (o := 0) (n := len2 A s) (c := sc s) (i := (j : Int)) (show _ = _ from congrArg (fun a_ => Value.slice a_ (len2 A s) (sc s)) hsa) rfl (by omega) (by omega) ?_
     rw [Int.toNat_natCast, Nat.zero_add, Nat.mul_one]
     refine stn (r_store1 (v := .int .u64 x) rfl rfl rfl hg5 (Nat.ble_eq_true_of_le (by omega)) rfl ?_)
     intro w7 hs6 u7
     rw [hsa, hlen9] at hss
     have hO7 := hO.setw (i := j) (x := x) (by decide) (List.getElem?_eq_getElem hsA) hss hg5 hs6 (by simp) u7
     replace G := G.upd u7 hg5b
     have hset : A.set s (A[s].set j x) = setP A s j x := by unfold setP; rw [getD_at hsA]
     rw [hset] at hO7
     refine WL_nil ?_
     refine W_region rfl ?_
     refine stp (r_move_int rfl ?_)
     refine stp (r_add rfl rfl ?_ ?_); constructor <;> omega
     refine stp (r_assign_int rfl ?_)
     refine WL_nil ?_
     have hln := setP_length A s j x
     rw [show (Value.slice ado A.length co) = .slice ado (setP A s j x).length co from by rw [hln]] at hO7
     refine ⟨_, ?_, m + 4, ado, co, segs, setP A s j x, rfl, fr_of ⟨rfl, rfl, congrArg (Value.int .i64) (by omega), by rw [hln]; rfl, trivial⟩, by omega, by rw [hxE]; exact .put hA hsA hjA hd2.1 hd2.2 hd3.1 hd3.2, hO7, G⟩
     omega
    ·-- false
     replace h4 := of_decide_eq_false h4
     refine W_seq (W_region rfl ?_)
     refine stp (r_eql rfl rfl ?_)
     refine stp (r_assign_bool rfl ?_)
     refine WL_nil ?_
     refine W_cond2 (b := (decide ((1 + ((ys.getD (((m : Int) + 2).toNat) 0) % 3)) = 2))) rfl (fun h5 => ?_) (fun h5 => ?_)
     ·-- true
      replace h5 := of_decide_eq_true h5
      refine W_seq (W_region rfl ?_)
      refine stp (r_buildSlice (cs := #[.int .i64 2, .int .i64 5, .int .i64 6, .int .i64 3]) (el := 3) (fun w => by kernel_rfl) ?_)
      intro bs39 w40 hb41 hc42 g43
      have hge44 := Nat.le_trans G.size hb41
      have ne45 := Nat.ne_of_lt (Nat.lt_of_lt_of_le (lt_of_heap hc29) hb41)
      replace hO := hO.grow g43
      replace RO := RO.grow g43
      replace hMw := Nat.le_trans hMw g43.size
      replace hc29 := g43.heap hc29
      replace G := G.tr g43
      clear g43
      refine stp (r_move_slice rfl ?_)
      refine stp (r_move_int rfl ?_)
      refine stp (r_add rfl rfl ?_ ?_); constructor <;> omega
      refine stp (r_indexR (R2.grow G) rfl rfl ?_ ?_ ?_); omega; omega
      refine stp (r_loadR (v := .int .u8 (ys.getD (((m : Int) + 2).toNat) 0)) (m := 0) (R2.grow G) rfl (map_get1 0 (by omega)) ?_)
      refine stp (r_rem rfl rfl ?_ ?_ ?_); omega; omega
      refine WL_some (og rfl ?_)
      have RL := Row.of_block (n := 4) (sz := 1) hc42 rfl rfl (by decide)
      obtain ⟨_, _, hr_, -, -, RL⟩ := RL
      cases hr_
      refine r_indexR RL rfl rfl ?_ ?_ ?_; omega; omega
      refine stp (r_loadR (v := .int .i64 (bentZ ((ys.getD ((m : Int) + 2).toNat 0) % 4))) (m := 0) RL rfl (bentZ_at _ (by omega) (by omega)) ?_)
      refine stp (r_fieldAddr rfl ?_)
      refine stn (r_store1 (v := .int .i64 (bentZ ((ys.getD ((m : Int) + 2).toNat 0) % 4))) rfl rfl (by rfl) hc29 (by rfl) (by rfl) ?_)
      intro w46 hc47 u48
      replace hO := hO.upd u48 hc29 (by decide) (by decide)
      replace RO := (OwnA.rowat hO (by omega)).2
      replace hMw := Nat.le_trans hMw (Nat.le_of_eq u48.size.symm)
      replace hc42 := u48.heap hc42 ne45.symm
      replace G := G.upd u48 hgQ
      clear u48 hc29
      refine WL_nil ?_
      refine W_region rfl ?_
      refine stp (r_move_slice rfl ?_)
      refine stp (r_move_int rfl ?_)
      refine stp (r_add rfl rfl ?_ ?_); constructor <;> omega
      refine stp (r_indexR (R2.grow G) rfl rfl ?_ ?_ ?_); omega; omega
      refine stp (r_loadR (v := .int .u8 (ys.getD (((m : Int) + 2).toNat) 0)) (m := 0) (R2.grow G) rfl (map_get1 0 (by omega)) ?_)
      refine stp (r_quo rfl rfl ?_ ?_ ?_ ?_); omega; omega; (constructor <;> omega)
      refine stp (r_conv rfl ?_ ?_); constructor <;> omega
      refine stp (r_fieldAddr rfl ?_)
      refine stn (r_store1 (v := .int .i64 ((ys.getD (((m : Int) + 2).toNat) 0) / 16)) rfl rfl (by rfl) hc47 (by rfl) (by rfl) ?_)
      intro w49 hc50 u51
      replace hO := hO.upd u51 hc47 (by decide) (by decide)
      replace RO := (OwnA.rowat hO (by omega)).2
      replace hMw := Nat.le_trans hMw (Nat.le_of_eq u51.size.symm)
      replace hc42 := u51.heap hc42 ne45.symm
      replace G := G.upd u51 hgQ
      clear u51 hc47
      refine WL_nil ?_
      refine W_seq (W_region rfl ?_)
      refine stp (r_loadAll rfl hc50 (by rfl) ?_)
      refine WL_some (og rfl ?_)
      have hP : (⟨1 + ((ys.getD (((m : Int) + 2).toNat) 0) % 3), ((ys.getD (((m : Int) + 3).toNat) 0) % 16) - 4, 0, 0, bentZ ((ys.getD ((m : Int) + 2).toNat 0) % 4), (ys.getD (((m : Int) + 2).toNat) 0) / 16, 0, false⟩ : Pt) = bentP (ys.getD ((m : Int) + 2).toNat 0) (ys.getD ((m : Int) + 3).toNat 0) A.length := by unfold bentP; rw [if_neg (by omega), if_pos (by omega)]; rw [show 1 + (ys.getD ((m : Int) + 2).toNat 0) % 3 = 2 from by omega]
      refine r_gives (v := .tuple #[.int .u64 x, .int .i64 z]) rfl (gives_eq (rencode_calls _ ⟨1 + ((ys.getD (((m : Int) + 2).toNat) 0) % 3), ((ys.getD (((m : Int) + 3).toNat) 0) % 16) - 4, 0, 0, bentZ ((ys.getD ((m : Int) + 2).toNat 0) % 4), (ys.getD (((m : Int) + 2).toNat) 0) / 16, 0, false⟩) (y := .tuple #[.int .u64 x, .int .i64 z]) (by rw [hP, ← hxE, ← hzE])) ?_
      intro w52 g53
      replace hO := hO.grow g53
      replace RO := RO.grow g53
      replace hMw := Nat.le_trans hMw g53.size
      replace hc42 := g53.heap hc42
      replace hc50 := g53.heap hc50
      replace G := G.tr g53
      clear g53
      refine stp (r_move (v := .tuple #[.int .u64 x, .int .i64 z]) rfl ?_)
      refine stp (r_extract (v := .int .u64 x) rfl rfl ?_)
      refine stp (r_extract (v := .int .i64 z) rfl rfl ?_)
      refine stp (r_assign_int rfl ?_)
      refine stp (r_assign_int rfl ?_)
      refine WL_nil ?_
      refine W_region rfl ?_
      refine stp (r_move_slice rfl ?_)
      refine stp (r_move_int rfl ?_)
      refine stp (r_indexN RO rfl rfl ?_ ?_); omega
      refine stp (r_loadR (v := .slice (sa s) (len2 A s) (sc s)) (m := 0) RO rfl (by rw [Nat.mul_one]; exact hss) ?_)
      refine stp (r_move_int rfl ?_)
      refine stp (r_move_int rfl ?_)
      refine WL_some (og rfl ?_)
      have hos9 := hO.seg s _ _ hss (List.getElem?_eq_getElem hsA)
      have hlen9 : len2 A s = A[s].length := by rw [len2, getD_at hsA]
      obtain ⟨g5, c5, cur5, he5, hg5b, hg5, hc51, hc52, hc53, hc54⟩ := own_pos hos9 (by omega)
      simp only [Value.slice.injEq] at he5
      obtain ⟨hsa, -, hsc⟩ := he5
      refine r_indexAddr (b := g5) (o := 0) (n := len2 A s) (c := sc s) (i := (j : Int)) (show _ = _ from congrArg (fun a_ => Value.slice a_ (len2 A s) (sc s)) hsa) rfl (by omega) (by omega) ?_
      rw [Int.toNat_natCast, Nat.zero_add, Nat.mul_one]
      refine stn (r_store1 (v := .int .u64 x) rfl rfl rfl hg5 (Nat.ble_eq_true_of_le (by omega)) rfl ?_)
      intro w7 hs6 u7
      rw [hsa, hlen9] at hss
      have hO7 := hO.setw (i := j) (x := x) (by decide) (List.getElem?_eq_getElem hsA) hss hg5 hs6 (by simp) u7
      replace G := G.upd u7 hg5b
      have hset : A.set s (A[s].set j x) = setP A s j x := by unfold setP; rw [getD_at hsA]
      rw [hset] at hO7
      refine WL_nil ?_
      refine W_region rfl ?_
      refine stp (r_move_int rfl ?_)
      refine stp (r_add rfl rfl ?_ ?_); constructor <;> omega
      refine stp (r_assign_int rfl ?_)
      refine WL_nil ?_
      have hln := setP_length A s j x
      rw [show (Value.slice ado A.length co) = .slice ado (setP A s j x).length co from by rw [hln]] at hO7
      refine ⟨_, ?_, m + 4, ado, co, segs, setP A s j x, rfl, fr_of ⟨rfl, rfl, congrArg (Value.int .i64) (by omega), by rw [hln]; rfl, trivial⟩, by omega, by rw [hxE]; exact .put hA hsA hjA hd2.1 hd2.2 hd3.1 hd3.2, hO7, G⟩
      omega
     ·-- false
      replace h5 := of_decide_eq_false h5
      refine W_seq (W_region rfl ?_)
      refine stp (r_move_slice rfl ?_)
      refine stp (r_move_int rfl ?_)
      refine stp (r_add rfl rfl ?_ ?_); constructor <;> omega
      refine stp (r_indexR (R2.grow G) rfl rfl ?_ ?_ ?_); omega; omega
      refine stp (r_loadR (v := .int .u8 (ys.getD (((m : Int) + 3).toNat) 0)) (m := 0) (R2.grow G) rfl (map_get1 0 (by omega)) ?_)
      refine stp (r_rem rfl rfl ?_ ?_ ?_); omega; omega
      refine stp (r_conv rfl ?_ ?_); constructor <;> omega
      refine stp (r_fieldAddr rfl ?_)
      refine stn (r_store1 (v := .int .i64 ((ys.getD (((m : Int) + 3).toNat) 0) % 12)) rfl rfl (by rfl) hc29 (by rfl) (by rfl) ?_)
      intro w54 hc55 u56
      replace hO := hO.upd u56 hc29 (by decide) (by decide)
      replace RO := (OwnA.rowat hO (by omega)).2
      replace hMw := Nat.le_trans hMw (Nat.le_of_eq u56.size.symm)
      replace G := G.upd u56 hgQ
      clear u56 hc29
      refine WL_nil ?_
      refine W_seq (W_region rfl ?_)
      refine stp (r_move_slice rfl ?_)
      refine stp (r_move_int rfl ?_)
      refine stp (r_add rfl rfl ?_ ?_); constructor <;> omega
      refine stp (r_indexR (R2.grow G) rfl rfl ?_ ?_ ?_); omega; omega
      refine stp (r_loadR (v := .int .u8 (ys.getD (((m : Int) + 2).toNat) 0)) (m := 0) (R2.grow G) rfl (map_get1 0 (by omega)) ?_)
      refine stp (r_quo rfl rfl ?_ ?_ ?_ ?_); omega; omega; (constructor <;> omega)
      refine stp (r_conv rfl ?_ ?_); constructor <;> omega
      refine stp (r_move_slice rfl ?_)
      refine stp (r_len rfl rfl rfl ?_)
      refine stp (r_add rfl rfl ?_ ?_); constructor <;> omega
      refine stp (r_rem rfl rfl ?_ ?_ ?_); omega; omega
      refine stp (r_fieldAddr rfl ?_)
      refine stn (r_store1 (v := .int .i64 (((ys.getD (((m : Int) + 2).toNat) 0) / 3) % ((A.length : Int) + 1))) rfl rfl (by rfl) hc55 (by rfl) (by rfl) ?_)
      intro w57 hc58 u59
      replace hO := hO.upd u59 hc55 (by decide) (by decide)
      replace RO := (OwnA.rowat hO (by omega)).2
      replace hMw := Nat.le_trans hMw (Nat.le_of_eq u59.size.symm)
      replace G := G.upd u59 hgQ
      clear u59 hc55
      refine WL_nil ?_
      refine W_region rfl ?_
      refine stp (r_move_slice rfl ?_)
      refine stp (r_move_int rfl ?_)
      refine stp (r_add rfl rfl ?_ ?_); constructor <;> omega
      refine stp (r_indexR (R2.grow G) rfl rfl ?_ ?_ ?_); omega; omega
      refine stp (r_loadR (v := .int .u8 (ys.getD (((m : Int) + 2).toNat) 0)) (m := 0) (R2.grow G) rfl (map_get1 0 (by omega)) ?_)
      refine stp (r_rem rfl rfl ?_ ?_ ?_); omega; omega
      refine stp (r_eql rfl rfl ?_)
      refine stp (r_fieldAddr rfl ?_)
      refine stn (r_store1 (v := .bool (decide (((ys.getD (((m : Int) + 2).toNat) 0) % 2) = 1))) rfl rfl (by rfl) hc58 (by rfl) (by rfl) ?_)
      intro w60 hc61 u62
      replace hO := hO.upd u62 hc58 (by decide) (by decide)
      replace RO := (OwnA.rowat hO (by omega)).2
      replace hMw := Nat.le_trans hMw (Nat.le_of_eq u62.size.symm)
      replace G := G.upd u62 hgQ
      clear u62 hc58
      refine WL_nil ?_
      refine W_seq (W_region rfl ?_)
      refine stp (r_loadAll rfl hc61 (by rfl) ?_)
      refine WL_some (og rfl ?_)
      have hP : (⟨1 + ((ys.getD (((m : Int) + 2).toNat) 0) % 3), (ys.getD (((m : Int) + 3).toNat) 0) % 12, 0, 0, 0, 0, ((ys.getD (((m : Int) + 2).toNat) 0) / 3) % ((A.length : Int) + 1), (decide (((ys.getD (((m : Int) + 2).toNat) 0) % 2) = 1))⟩ : Pt) = bentP (ys.getD ((m : Int) + 2).toNat 0) (ys.getD ((m : Int) + 3).toNat 0) A.length := by unfold bentP; rw [if_neg (by omega), if_neg (by omega)]; rw [show 1 + (ys.getD ((m : Int) + 2).toNat 0) % 3 = 3 from by omega]
      refine r_gives (v := .tuple #[.int .u64 x, .int .i64 z]) rfl (gives_eq (rencode_calls _ ⟨1 + ((ys.getD (((m : Int) + 2).toNat) 0) % 3), (ys.getD (((m : Int) + 3).toNat) 0) % 12, 0, 0, 0, 0, ((ys.getD (((m : Int) + 2).toNat) 0) / 3) % ((A.length : Int) + 1), (decide (((ys.getD (((m : Int) + 2).toNat) 0) % 2) = 1))⟩) (y := .tuple #[.int .u64 x, .int .i64 z]) (by rw [hP, ← hxE, ← hzE])) ?_
      intro w63 g64
      replace hO := hO.grow g64
      replace RO := RO.grow g64
      replace hMw := Nat.le_trans hMw g64.size
      replace hc61 := g64.heap hc61
      replace G := G.tr g64
      clear g64
      refine stp (r_move (v := .tuple #[.int .u64 x, .int .i64 z]) rfl ?_)
      refine stp (r_extract (v := .int .u64 x) rfl rfl ?_)
      refine stp (r_extract (v := .int .i64 z) rfl rfl ?_)
      refine stp (r_assign_int rfl ?_)
      refine stp (r_assign_int rfl ?_)
      refine WL_nil ?_
      refine W_region rfl ?_
      refine stp (r_move_slice rfl ?_)
      refine stp (r_move_int rfl ?_)
      refine stp (r_indexN RO rfl rfl ?_ ?_); omega
      refine stp (r_loadR (v := .slice (sa s) (len2 A s) (sc s)) (m := 0) RO rfl (by rw [Nat.mul_one]; exact hss) ?_)
      refine stp (r_move_int rfl ?_)
      refine stp (r_move_int rfl ?_)
      refine WL_some (og rfl ?_)
      have hos9 := hO.seg s _ _ hss (List.getElem?_eq_getElem hsA)
      have hlen9 : len2 A s = A[s].length := by rw [len2, getD_at hsA]
      obtain ⟨g5, c5, cur5, he5, hg5b, hg5, hc51, hc52, hc53, hc54⟩ := own_pos hos9 (by omega)
      simp only [Value.slice.injEq] at he5
      obtain ⟨hsa, -, hsc⟩ := he5
      refine r_indexAddr (b := g5) (o := 0) (n := len2 A s) (c := sc s) (i := (j : Int)) (show _ = _ from congrArg (fun a_ => Value.slice a_ (len2 A s) (sc s)) hsa) rfl (by omega) (by omega) ?_
      rw [Int.toNat_natCast, Nat.zero_add, Nat.mul_one]
      refine stn (r_store1 (v := .int .u64 x) rfl rfl rfl hg5 (Nat.ble_eq_true_of_le (by omega)) rfl ?_)
      intro w7 hs6 u7
      rw [hsa, hlen9] at hss
      have hO7 := hO.setw (i := j) (x := x) (by decide) (List.getElem?_eq_getElem hsA) hss hg5 hs6 (by simp) u7
      replace G := G.upd u7 hg5b
      have hset : A.set s (A[s].set j x) = setP A s j x := by unfold setP; rw [getD_at hsA]
      rw [hset] at hO7
      refine WL_nil ?_
      refine W_region rfl ?_
      refine stp (r_move_int rfl ?_)
      refine stp (r_add rfl rfl ?_ ?_); constructor <;> omega
      refine stp (r_assign_int rfl ?_)
      refine WL_nil ?_
      have hln := setP_length A s j x
      rw [show (Value.slice ado A.length co) = .slice ado (setP A s j x).length co from by rw [hln]] at hO7
      refine ⟨_, ?_, m + 4, ado, co, segs, setP A s j x, rfl, fr_of ⟨rfl, rfl, congrArg (Value.int .i64) (by omega), by rw [hln]; rfl, trivial⟩, by omega, by rw [hxE]; exact .put hA hsA hjA hd2.1 hd2.2 hd3.1 hd3.2, hO7, G⟩
      omega
  ·-- false
   simp only [sb] at hlt
   refine W_exit ?_
   refine W_seq (W_region rfl ?_)
   refine stp (r_move_slice rfl ?_)
   refine stp (r_assign_slice rfl ?_)
   refine WL_nil ?_
   refine W_ret ?_
   refine ret1 (res_tmp (v := .slice ado A.length co) rfl) ⟨ado, co, segs, A, rfl, hO, by rw [hB] at hA; exact hA, G⟩

end Go.Proofs.Ytfhfecepcnapfaa.K

