/- Laid together: BF, MB, P16, V09, W09, V11, V10, N09, S16, PA, PB, QF, QK, J12, CE. Each part is plain law, a rule, or a walk of the functions that its names tell. -/
import Derived.Test.YtifhcfhdajkhlaaGreatX4
import Derived.Laws.BytesArg
set_option linter.unusedVariables false
set_option linter.unusedSimpArgs false
namespace Go.Proofs.YtifhcfhdajkhlaaGreat.K
open Go Go.RowKit Go.Proofs
attribute [local irreducible] Run1 OpG WL W AO Gives
set_option maxRecDepth 100000 in
theorem rset_calls (w : World) {base q i : Nat} {so : Value} {segs : List Value} {A : List (List Int)} {lim x : Int} {full : Bool} (h : OwnA 67 33 w base so segs A) (hbw : base ≤ w.heap.size) (hS : Sml A) (hq : q < A.length) (hi : i < len2 A q) : Calls Tryz.prog 93 #[.agg #[so, .int .i64 lim, .bool full], .int .i64 (q : Int), .int .i64 (i : Int), .int .u64 x] w (Ret fun v w' => LayV 67 33 w' base lim v ⟨setP A q i x, full⟩ ∧ Grow w w') := by
 have hA := hS.len
 have hAs := hS.all
 have hAq := hS.seg q
 have hsl := h.len
 obtain ⟨ado, co, sa, sc, rfl, hco, hco2, RO, hsf⟩ := h.fn (by omega)
 obtain ⟨hu, owu⟩ := hsf q hq
 have G := Grow.rfl' w
 refine calls_ret Tryz.func93 Tryz.ntmps93 Tryz.results93 rfl rfl ?_
 refine W_seq (W_region rfl ?_)
 refine WL_some (og rfl ?_)
 (first | refine r_box_agg rfl ?_ | refine r_box_int rfl ?_ | refine r_box_slice rfl ?_ | refine r_box rfl rfl ?_)
 intro b1 w2 hb3 hc4 g5
 have hge6 := Nat.le_trans G.size hb3
 replace G := G.tr g5
 clear g5 hb3
 refine stp (r_alloc ?_)
 intro b7 w8 hb9 hc10 g11
 refine WL_nil ?_
 refine W_seq (W_region rfl ?_)
 refine stp (r_assign_slice rfl ?_)
 refine WL_nil ?_
 refine W_seq (W_region rfl ?_)
 refine stp (r_move_slice rfl ?_)
 refine stp (r_fieldAddr rfl ?_)
 have hge12 := Nat.le_trans G.size hb9
 have ne13 := Nat.ne_of_lt (Nat.lt_of_lt_of_le (lt_of_heap hc4) hb9)
 replace hc4 := g11.heap hc4
 replace G := G.tr g11
 clear g11 hb9
 refine stp (r_load (v := .slice ado A.length co) rfl hc4 rfl ?_)
 refine WL_some (og rfl ?_)
 have own00 := World.ownsRow_nil w8 w.heap.size 67 1
 refine r_append rfl rfl rfl rfl own00 ⟨_, co, rfl, hco, hco2, RO.grow G⟩ h.one (by simp only [maxLen]; omega) (by omega) G.size ?_
 intro v14 w15 own5 gr6
 have g6 := gr_grow gr6
 replace hc4 := g6.heap hc4
 replace hc10 := g6.heap hc10
 replace G := G.tr g6
 clear g6 gr6 own00
 rw [Nat.zero_add, List.nil_append] at own5
 obtain ⟨g5, c5, cur5, rfl, hg5b, hg5, hc51, hc52, hc53, hc54⟩ := own_pos own5 (by omega)
 have R5 := own_row own5 (by omega)
 obtain ⟨_, _, h5_, _, _, R5⟩ := R5
 cases h5_
 refine stp (r_assign_slice rfl ?_)
 refine WL_nil ?_
 refine W_seq (W_region rfl ?_)
 refine stp (r_assign_slice rfl ?_)
 refine WL_nil ?_
 refine W_seq (W_region rfl ?_)
 refine stp (r_move_slice rfl ?_)
 refine stp (r_move_slice rfl ?_)
 refine stp (r_move_int rfl ?_)
 refine stp (r_indexN R5 rfl rfl ?_ ?_); omega
 refine stp (r_loadR (v := .slice (sa q) (len2 A q) (sc q)) (m := 0) R5 rfl (by rw [Nat.mul_one]; exact hu) ?_)
 refine WL_some (og rfl ?_)
 have own00 := World.ownsRow_nil w15 w.heap.size 33 1
 refine r_append rfl rfl rfl rfl own00 (own_row (own_grow owu G) (by omega)) (fun q_ hq_ => by obtain ⟨z, _, rfl⟩ := List.mem_map.1 hq_; rfl) (by simp only [maxLen]; omega) (by omega) G.size ?_
 intro v16 w17 own6 gr6
 have g6 := gr_grow gr6
 replace hc4 := g6.heap hc4
 replace hc10 := g6.heap hc10
 replace own5 := own_grow own5 g6
 replace hg5 := g6.heap hg5
 replace R5 := R5.grow g6
 replace G := G.tr g6
 clear g6 gr6 own00
 rw [Nat.zero_add, List.nil_append] at own6
 obtain ⟨g6, c6, cur6, rfl, hg6b, hg6, hc61, hc62, hc63, hc64⟩ := own_pos own6 (by omega)
 refine stp (r_assign_slice rfl ?_)
 refine WL_nil ?_
 have n56 : g5 ≠ g6 := fun he => by rw [he, hg6] at hg5; simp at hg5
 have m4 : g6 ≠ b1 := fun he => by rw [he, hc4] at hg6; simp at hg6
 have p4 : g5 ≠ b1 := fun he => by rw [he, hc4] at hg5; simp at hg5
 have m8 : g6 ≠ b7 := fun he => by rw [he, hc10] at hg6; simp at hg6
 have p8 : g5 ≠ b7 := fun he => by rw [he, hc10] at hg5; simp at hg5
 refine W_seq (W_region rfl ?_)
 refine stp (r_move_slice rfl ?_)
 refine stp (r_move_int rfl ?_)
 refine stp (r_move_int rfl ?_)
 refine WL_some (og rfl ?_)
 refine r_indexAddr (b := g6) (o := 0) rfl rfl (by omega) (by omega) ?_
 rw [Int.toNat_natCast, Nat.zero_add, Nat.mul_one]
 refine stn (r_store1 (v := .int .u64 x) rfl rfl rfl hg6 (Nat.ble_eq_true_of_le (by omega)) rfl ?_)
 intro w7 hs6 u7
 replace own6 := own_setcell (i := i) (x := .int .u64 x) own6 hg6 hs6 (by simp)
 replace own5 := own_upd own5 u7 (own_ne own5 hg6 (by decide))
 replace hg5 := u7.heap hg5 n56
 replace hc4 := u7.heap hc4 m4.symm
 replace hc10 := u7.heap hc10 m8.symm
 replace G := G.upd u7 hg6b
 clear hg6
 have hg6 := hs6
 clear hs6 R5
 refine WL_nil ?_
 refine W_seq (W_region rfl ?_)
 refine stp (r_move_slice rfl ?_)
 refine stp (r_move_int rfl ?_)
 refine stp (r_move_slice rfl ?_)
 refine WL_some (og rfl ?_)
 refine r_indexAddr (b := g5) (o := 0) rfl rfl (by omega) (by omega) ?_
 rw [Int.toNat_natCast, Nat.zero_add, Nat.mul_one]
 refine stn (r_store1 (v := .slice (some ⟨g6, 0, none⟩) (len2 A q) c6) rfl rfl rfl hg5 (Nat.ble_eq_true_of_le (by omega)) rfl ?_)
 intro w8 hs5 u8
 replace own5 := own_setcell (i := q) (x := .slice (some ⟨g6, 0, none⟩) (len2 A q) c6) own5 hg5 hs5 (by simp)
 replace own6 := own_upd own6 u8 (own_ne own6 hg5 (by decide))
 replace hg6 := u8.heap hg6 n56.symm
 replace hc4 := u8.heap hc4 p4.symm
 replace hc10 := u8.heap hc10 p8.symm
 replace G := G.upd u8 hg5b
 clear hg5
 have hg5 := hs5
 clear hs5
 refine WL_nil ?_
 refine W_seq (W_region rfl ?_)
 refine stp (r_move_slice rfl ?_)
 refine stp (r_fieldAddr rfl ?_)
 refine stn (r_store1 (v := .slice (some ⟨g5, 0, none⟩) A.length c5) rfl rfl (by rfl) hc4 (by rfl) (by rfl) ?_)
 intro w18 hc19 u20
 replace own5 := own_upd own5 u20 (own_ne own5 hc4 (by decide))
 replace own6 := own_upd own6 u20 (own_ne own6 hc4 (by decide))
 replace hc10 := u20.heap hc10 (by omega)
 replace G := G.upd u20 hge6
 clear u20 hc4
 refine WL_nil ?_
 refine W_seq (W_region rfl ?_)
 refine stp (r_loadAll rfl hc19 (by rfl) ?_)
 refine stn (r_storeAll rfl rfl hc10 (by rfl) (by rfl) (by rfl) ?_)
 intro w21 hc22 u23
 replace own5 := own_upd own5 u23 (own_ne own5 hc10 (by decide))
 replace own6 := own_upd own6 u23 (own_ne own6 hc10 (by decide))
 replace hc19 := u23.heap hc19 (by omega)
 replace G := G.upd u23 hge12
 clear u23 hc10
 refine WL_nil ?_
 refine W_ret ?_
 have hcp := OwnA.copy (q := q) (u := .slice (some ⟨g6, 0, none⟩) (len2 A q) c6) (ws := (A.getD q []).set i x) (so' := .slice (some ⟨g5, 0, none⟩) A.length c5) h hbw G (Nat.le_of_lt hq) (by rw [List.length_set, wordsV, List.map_set]; exact own6) (by have e1 : growB A q = A := (by unfold growB; rw [if_neg (by omega)]); have e2 : growV segs q = segs := (by unfold growV; rw [if_neg (by omega)]); rw [e1, e2]; exact own_base own5 hbw)
 rw [show growB A q = A from by unfold growB; rw [if_neg (by omega)]] at hcp
 refine ret1 (res_all rfl hc22 (by rfl)) ⟨⟨_, _, rfl, hcp⟩, G⟩

set_option maxRecDepth 100000 in
theorem rmore_calls (w : World) {base q : Nat} {so lv : Value} {segs : List Value} {A : List (List Int)} {l : List Int} {lim : Int} {full : Bool} (h : OwnA 67 33 w base so segs A) (hbw : base ≤ w.heap.size) (hS : Sml A) (hq : q ≤ A.length) (lR : Row w 1 lv l.length (wordsV l)) (hl : l.length ≤ 10000) : Calls Tryz.prog 95 #[.agg #[so, .int .i64 lim, .bool full], .int .i64 (q : Int), lv] w (Ret fun v w' => LayV 67 33 w' base lim v (moreP lim ⟨A, full⟩ q l) ∧ Grow w w') := by
 have hA := hS.len
 have hAs := hS.all
 have hAq := hS.seg q
 have hsl := h.len
 obtain ⟨ado, co, sa, sc, rfl, hco, hco2, RO, hsf⟩ := h.fn (by omega)
 obtain ⟨adu, cu, hu, owu⟩ := h.growV hq
 obtain ⟨adl, cl, rfl, hcl, hcl2, RL⟩ := lR
 have hgl := growV_length (q := q) hsl
 have hgb := growB_length A q
 have G := Grow.rfl' w
 refine calls_ret Tryz.func95 Tryz.ntmps95 Tryz.results95 rfl rfl ?_
 refine W_seq (W_region rfl ?_)
 refine WL_some (og rfl ?_)
 (first | refine r_box_agg rfl ?_ | refine r_box_int rfl ?_ | refine r_box_slice rfl ?_ | refine r_box rfl rfl ?_)
 intro b1 w2 hb3 hc4 g5
 have hge6 := Nat.le_trans G.size hb3
 replace G := G.tr g5
 clear g5 hb3
 refine stp (r_alloc ?_)
 intro b7 w8 hb9 hc10 g11
 refine WL_nil ?_
 refine W_seq (W_region rfl ?_)
 refine stp (r_assign_slice rfl ?_)
 refine WL_nil ?_
 refine W_seq (W_region rfl ?_)
 refine stp (r_move_slice rfl ?_)
 refine stp (r_fieldAddr rfl ?_)
 have hge12 := Nat.le_trans G.size hb9
 have ne13 := Nat.ne_of_lt (Nat.lt_of_lt_of_le (lt_of_heap hc4) hb9)
 replace hc4 := g11.heap hc4
 replace G := G.tr g11
 clear g11 hb9
 refine stp (r_load (v := .slice ado A.length co) rfl hc4 rfl ?_)
 refine WL_some (og rfl ?_)
 have own00 := World.ownsRow_nil w8 w.heap.size 67 1
 refine r_append rfl rfl rfl rfl own00 ⟨_, co, rfl, hco, hco2, RO.grow G⟩ h.one (by simp only [maxLen]; omega) (by omega) G.size ?_
 intro v14 w15 own5 gr6
 have g6 := gr_grow gr6
 replace hc4 := g6.heap hc4
 replace hc10 := g6.heap hc10
 replace G := G.tr g6
 clear g6 gr6 own00
 rw [Nat.zero_add, List.nil_append] at own5
 obtain ⟨ad5, c5, rfl, hc5⟩ := own_shape own5
 refine stp (r_assign_slice rfl ?_)
 refine WL_nil ?_
 refine W_cut1 (fun e_ w_ => ∃ (v5 : Value), Fr [(1, .int .i64 (q : Int)), (2, .slice adl l.length cl), (3, .pointer (some ⟨b1, 0, none⟩)), (6, .pointer (some ⟨b7, 0, none⟩)), (7, v5)] e_ ∧ (w_.heap[b1]? = some (.cells #[.slice ado A.length co, .int .i64 lim, .bool full] 125 (0, 0))) ∧ (w_.heap[b7]? = some (.cells #[.slice none 0 0, .int .i64 0, .bool false] 125 (0, 0))) ∧ (w_.ownsRow w.heap.size 67 1 v5 (growB A q).length (growV segs q)) ∧ Grow w w_) ?_ ?_
 ·-- the parts
  refine W_seq (W_region rfl ?_)
  refine stp (r_move_int rfl ?_)
  refine stp (r_move_slice rfl ?_)
  refine stp (r_len rfl rfl rfl ?_)
  refine stp (r_eql rfl rfl ?_)
  refine WL_nil ?_
  refine W_cond2 (b := (decide ((q : Int) = (A.length : Int)))) rfl (fun hq0 => ?_) (fun hq0 => ?_)
  ·-- true
   replace hq0 := of_decide_eq_true hq0
   have hqA : q = A.length := by omega
   refine W_region rfl ?_
   refine stp (r_move_slice rfl ?_)
   refine stp (r_buildSlice (cs := #[.slice none 0 0]) (el := 67) (fun w => by kernel_rfl) ?_)
   intro bs16 w17 hb18 hc19 g20
   have hge21 := Nat.le_trans G.size hb18
   have ne22 := Nat.ne_of_lt (Nat.lt_of_lt_of_le (lt_of_heap hc4) hb18)
   have ne23 := Nat.ne_of_lt (Nat.lt_of_lt_of_le (lt_of_heap hc10) hb18)
   replace hc4 := g20.heap hc4
   replace hc10 := g20.heap hc10
   replace own5 := own_grow own5 g20
   replace G := G.tr g20
   clear g20
   refine stp (r_append rfl rfl rfl rfl own5 (Row.of_block (n := 1) hc19 rfl rfl (by omega)) (fun q_ hq_ => by simp at hq_; subst hq_; rfl) (by simp only [maxLen]; omega) (by omega) G.size ?_)
   intro v24 w25 own6 gr6
   replace G := G.grown gr6 (own_ge own5)
   replace hc4 := gr_heap gr6 hc4 (own_ne own5 hc4 (by decide))
   replace hc10 := gr_heap gr6 hc10 (own_ne own5 hc10 (by decide))
   refine stp (r_assign (v := v24) rfl ?_)
   refine WL_nil ?_
   have e1 : (growB A q).length = A.length + 1 := by rw [hgb, if_pos hqA]
   have e2 : growV segs q = segs ++ [.slice none 0 0] := by unfold growV; rw [if_pos (by omega)]
   have own6' : w25.ownsRow w.heap.size 67 1 v24 (growB A q).length (growV segs q) := by rw [e1, e2]; exact own6
   exact ⟨v24, fr_of ⟨rfl, rfl, rfl, rfl, rfl, trivial⟩, hc4, hc10, own6', G⟩
  ·-- false
   replace hq0 := of_decide_eq_false hq0
   have hqA : ¬ q = A.length := by omega
   refine W_skip ?_
   have e1 : (growB A q).length = A.length := by rw [hgb, if_neg hqA]
   have e2 : growV segs q = segs := by unfold growV; rw [if_neg (by omega)]
   have own5' : w15.ownsRow w.heap.size 67 1 (.slice ad5 A.length c5) (growB A q).length (growV segs q) := by rw [e1, e2]; exact own5
   exact ⟨_, fr_of ⟨rfl, rfl, rfl, rfl, rfl, trivial⟩, hc4, hc10, own5', G⟩
 ·-- behind them
  clear hc4 hc10 own5
  clear G
  rintro e_ w26 ⟨v5, ⟨e27, rfl⟩, hc4, hc10, own5, G⟩
  have hqB := (growB_len hq).1
  have hgb2 := (growB_len hq).2
  obtain ⟨g5, c5, cur5, rfl, hg5b, hg5, hc51, hc52, hc53, hc54⟩ := own_pos own5 (by omega)
  have R5 := own_row own5 (by omega)
  obtain ⟨_, _, h5_, _, _, R5⟩ := R5
  cases h5_
  refine W_seq (W_region rfl ?_)
  refine stp (r_assign_slice rfl ?_)
  refine WL_nil ?_
  refine W_seq (W_region rfl ?_)
  refine stp (r_move_slice rfl ?_)
  refine stp (r_move_slice rfl ?_)
  refine stp (r_move_int rfl ?_)
  refine stp (r_indexN R5 rfl rfl ?_ ?_); omega
  refine stp (r_loadR (v := .slice adu (len2 A q) cu) (m := 0) R5 rfl (by rw [Nat.mul_one]; exact hu) ?_)
  refine WL_some (og rfl ?_)
  have own00 := World.ownsRow_nil w26 w.heap.size 33 1
  refine r_append rfl rfl rfl rfl own00 (own_row (own_grow owu G) (by omega)) (fun q_ hq_ => by obtain ⟨z, _, rfl⟩ := List.mem_map.1 hq_; rfl) (by simp only [maxLen]; omega) (by omega) G.size ?_
  intro v28 w29 own6 gr6
  have g6 := gr_grow gr6
  replace hc4 := g6.heap hc4
  replace hc10 := g6.heap hc10
  replace own5 := own_grow own5 g6
  replace hg5 := g6.heap hg5
  replace R5 := R5.grow g6
  replace G := G.tr g6
  clear g6 gr6 own00
  rw [Nat.zero_add, List.nil_append] at own6
  refine stp (r_assign (v := v28) rfl ?_)
  refine WL_nil ?_
  refine W_seq (W_region rfl ?_)
  refine stp (r_move (v := v28) rfl ?_)
  refine stp (r_move_slice rfl ?_)
  refine WL_some (og rfl ?_)
  clear R5
  refine r_append rfl rfl rfl rfl own6 ⟨_, cl, rfl, hcl, hcl2, RL.grow G⟩ (fun q_ hq_ => by obtain ⟨z, _, rfl⟩ := List.mem_map.1 hq_; rfl) (by simp only [maxLen]; omega) (by omega) G.size ?_
  intro v30 w31 own7 gr6
  replace G := G.grown gr6 (own_ge own6)
  replace hc4 := gr_heap gr6 hc4 (own_ne own6 hc4 (by decide))
  replace hc10 := gr_heap gr6 hc10 (own_ne own6 hc10 (by decide))
  replace own5 := own_gr own5 own6 (by decide) gr6
  replace hg5 := gr_heap gr6 hg5 (own_ne own6 hg5 (by decide))
  clear own6 gr6
  have own7' : w31.ownsRow w.heap.size 33 1 v30 (A.getD q [] ++ l).length (wordsV (A.getD q [] ++ l)) := by rw [List.length_append, wordsV, List.map_append]; exact own7
  clear own7
  obtain ⟨ad7, c7, rfl, hc7⟩ := own_shape own7'
  refine stp (r_assign_slice rfl ?_)
  refine WL_nil ?_
  refine W_seq (W_region rfl ?_)
  refine stp (r_move_slice rfl ?_)
  refine stp (r_move_int rfl ?_)
  refine stp (r_move_slice rfl ?_)
  refine WL_some (og rfl ?_)
  refine r_indexAddr (b := g5) (o := 0) rfl rfl (by omega) (by omega) ?_
  rw [Int.toNat_natCast, Nat.zero_add, Nat.mul_one]
  refine stn (r_store1 (v := .slice ad7 (A.getD q [] ++ l).length c7) rfl rfl rfl hg5 (Nat.ble_eq_true_of_le (by omega)) rfl ?_)
  intro w8 hs5 u8
  replace own5 := own_setcell (i := q) (x := .slice ad7 (A.getD q [] ++ l).length c7) own5 hg5 hs5 (by simp)
  replace own7' := own_upd own7' u8 (own_ne own7' hg5 (by decide))
  replace hc4 := u8.heap hc4 (fun he_ => by rw [he_, hg5] at hc4; simp at hc4)
  replace hc10 := u8.heap hc10 (fun he_ => by rw [he_, hg5] at hc10; simp at hc10)
  replace G := G.upd u8 hg5b
  clear hg5 hs5
  have hcp := OwnA.copy (q := q) (u := .slice ad7 (A.getD q [] ++ l).length c7) (ws := A.getD q [] ++ l) (so' := .slice (some ⟨g5, 0, none⟩) (growB A q).length c5) h hbw G hq own7' (own_base own5 hbw)
  have hgA : (growB A q).set q (A.getD q [] ++ l) = growA A q l := by unfold growA; rw [growB_getD]
  rw [hgA] at hcp
  have hnr := Near.more A q l hq
  have hS9 : ∀ s ∈ growA A q l, s.length ≤ 100000 := by
   intro s hm
   obtain ⟨j, hj, rfl⟩ := List.getElem_of_mem hm
   have h1_ := hnr.seg j
   have h2_ := hS.seg j
   rw [len2, getD_at hj] at h1_
   omega
  have hlen9 : (growB A q).length = (growA A q l).length := by rw [growA_length, growB_length]
  clear own5 own7'
  refine WL_nil ?_
  refine W_seq (W_region rfl ?_)
  refine stp (r_move_slice rfl ?_)
  refine stp (r_fieldAddr rfl ?_)
  refine stn (r_store1 (v := .slice (some ⟨g5, 0, none⟩) ((growB A q).length) c5) rfl rfl (by rfl) hc4 (by rfl) (by rfl) ?_)
  intro w32 hc33 u34
  replace hc10 := u34.heap hc10 ne13.symm
  replace hcp := hcp.upd u34 hc4 (by decide) (by decide)
  replace G := G.upd u34 hge6
  clear u34 hc4
  refine WL_nil ?_
  refine W_seq (W_region rfl ?_)
  refine stp (r_fieldAddr rfl ?_)
  refine stp (r_load (v := .bool full) rfl hc33 rfl ?_)
  refine stp (r_move_bool rfl ?_)
  refine WL_some (og_if (s := .bool full) (b := false) (v := .slice ad7 ((A.getD q [] ++ l).length) c7) rfl (wgb_f _) (fun hc35 => ?_) ?_)
  ·
   have hc35_ := hc35
   try simp only [sb] at hc35_
   refine r_move_slice rfl ?_
   exact ⟨rfl, rfl⟩
  refine WL_some (og_if (s := .bool full) (b := false) (v := .int .i64 ((A.getD q [] ++ l).length : Int)) rfl (wgb_f _) (fun hc36 => ?_) ?_)
  ·
   have hc36_ := hc36
   try simp only [sb] at hc36_
   refine r_len rfl rfl (gvt hc36) ?_
   exact ⟨rfl, rfl⟩
  refine WL_some (og_if (s := .bool full) (b := false) (v := .pointer (some ⟨b1, 1, none⟩)) rfl (wgb_f _) (fun hc37 => ?_) ?_)
  ·
   have hc37_ := hc37
   try simp only [sb] at hc37_
   refine r_fieldAddr rfl ?_
   exact ⟨rfl, rfl⟩
  refine WL_some (og_if (s := .bool full) (b := false) (v := .int .i64 lim) rfl (wgb_f _) (fun hc38 => ?_) ?_)
  ·
   have hc38_ := hc38
   try simp only [sb] at hc38_
   refine r_load (v := .int .i64 lim) (gvt hc38) hc33 rfl ?_
   exact ⟨rfl, rfl⟩
  refine WL_some (og_if (s := .bool full) (b := false) (v := .bool (decide (((A.getD q [] ++ l).length : Int) > lim))) rfl (wgb_f _) (fun hc39 => ?_) ?_)
  ·
   have hc39_ := hc39
   try simp only [sb] at hc39_
   refine r_gtr (gvt hc39) (gvt hc39) ?_
   exact ⟨rfl, rfl⟩
  refine stp (r_or2 rfl rfl rfl ?_)
  refine stp (r_move_bool rfl ?_)
  refine WL_some (og_if (s := .bool (full || (decide (((A.getD q [] ++ l).length : Int) > lim)))) (b := false) (v := .slice (some ⟨g5, 0, none⟩) ((growB A q).length) c5) rfl (wgb_f _) (fun hc40 => ?_) ?_)
  ·
   have hc40_ := hc40
   try simp only [sb] at hc40_
   refine r_move_slice rfl ?_
   exact ⟨rfl, rfl⟩
  refine WL_some (og_if (s := .bool (full || (decide (((A.getD q [] ++ l).length : Int) > lim)))) (b := false) (v := .int .i64 ((growB A q).length : Int)) rfl (wgb_f _) (fun hc41 => ?_) ?_)
  ·
   have hc41_ := hc41
   try simp only [sb] at hc41_
   refine r_len rfl rfl (gvt hc41) ?_
   exact ⟨rfl, rfl⟩
  refine WL_some (og_if (s := .bool (full || (decide (((A.getD q [] ++ l).length : Int) > lim)))) (b := false) (v := .bool (decide (((growB A q).length : Int) > 16))) rfl (wgb_f _) (fun hc42 => ?_) ?_)
  ·
   have hc42_ := hc42
   try simp only [sb] at hc42_
   refine r_gtr (gvt hc42) rfl ?_
   exact ⟨rfl, rfl⟩
  refine stp (r_or2 rfl rfl rfl ?_)
  refine stp (r_move_bool rfl ?_)
  refine WL_some (og_if (s := .bool ((full || (decide (((A.getD q [] ++ l).length : Int) > lim))) || (decide (((growB A q).length : Int) > 16)))) (b := false) (v := .slice (some ⟨g5, 0, none⟩) ((growB A q).length) c5) rfl (wgb_f _) (fun hc43 => ?_) ?_)
  ·
   have hc43_ := hc43
   try simp only [sb] at hc43_
   refine r_move_slice rfl ?_
   exact ⟨rfl, rfl⟩
  refine WL_some (og_ifg (s := .bool ((full || (decide (((A.getD q [] ++ l).length : Int) > lim))) || (decide (((growB A q).length : Int) > 16)))) (b := false) (v := .int .i64 (totalP (growA A q l))) rfl (wgb_f _) (fun hc44 => ?_) ?_)
  ·
   have hc44_ := hc44
   try simp only [sb] at hc44_
   exact r_givesA (l := ([.slice (some ⟨g5, 0, none⟩) ((growB A q).length) c5] : List Value)) rfl (by show ([gv (!((full || (decide (((A.getD q [] ++ l).length : Int) > lim))) || (decide (((growB A q).length : Int) > 16)))) (.slice (some ⟨g5, 0, none⟩) ((growB A q).length) c5)] : List Value) = _; rw [gvt hc44]) (awords_calls _ (hcp.rowat (by omega)).2 hlen9.symm (hcp.rows hS9) (by omega) hS9) (fun w2_ g2_ => ⟨rfl, g2_⟩)
  intro w45 g46
  replace hc10 := g46.heap hc10
  replace hcp := hcp.grow g46
  replace hc33 := g46.heap hc33
  replace G := G.tr g46
  clear g46
  refine WL_some (og_if (s := .bool ((full || (decide (((A.getD q [] ++ l).length : Int) > lim))) || (decide (((growB A q).length : Int) > 16)))) (b := false) (v := .bool (decide ((totalP (growA A q l)) > 4096))) rfl (wgb_f _) (fun hc47 => ?_) ?_)
  ·
   have hc47_ := hc47
   try simp only [sb] at hc47_
   refine r_gtr (gvt hc47) rfl ?_
   exact ⟨rfl, rfl⟩
  refine stp (r_or2 rfl rfl rfl ?_)
  refine stp (r_fieldAddr rfl ?_)
  refine stn (r_store1 (v := .bool (((full || (decide (((A.getD q [] ++ l).length : Int) > lim))) || (decide (((growB A q).length : Int) > 16))) || (decide ((totalP (growA A q l)) > 4096)))) rfl rfl (by rfl) hc33 (by rfl) (by rfl) ?_)
  intro w48 hc49 u50
  replace hc10 := u50.heap hc10 ne13.symm
  replace hcp := hcp.upd u50 hc33 (by decide) (by decide)
  replace G := G.upd u50 hge6
  clear u50 hc33
  refine WL_nil ?_
  refine W_seq (W_region rfl ?_)
  refine stp (r_loadAll rfl hc49 (by rfl) ?_)
  refine stn (r_storeAll rfl rfl hc10 (by rfl) (by rfl) (by rfl) ?_)
  intro w51 hc52 u53
  replace hcp := hcp.upd u53 hc10 (by decide) (by decide)
  replace hc49 := u53.heap hc49 ne13
  replace G := G.upd u53 hge12
  clear u53 hc10
  refine WL_nil ?_
  refine W_ret ?_
  have hfo := full_or full ((A.getD q [] ++ l).length : Int) ((growB A q).length : Int) (totalP (growA A q l)) lim
  refine ret1 (res_all rfl hc52 (by rfl)) ⟨⟨_, _, ?_, hcp⟩, G⟩
  rw [hfo]
  simp only [moreP, fullP, hlen9]
  rw [show len2 (growA A q l) q = (A.getD q [] ++ l).length from by simp only [len2]; rw [growA_getD A q q l hq, if_pos rfl]]
  rfl

set_option maxRecDepth 100000 in
theorem rlay_calls : ∀ (n_ : Nat) (w : World) {base s i : Nat} {so : Value} {segs : List Value} {S : Lay} {lim : Int} {c : List Value} {t : Nd} (h : OwnA 67 33 w base so segs S.A) (hbw : base ≤ w.heap.size) (T : NodeR w c t) (hR : t.fine) (hone : 1 ≤ S.A.length) (hl1 : 1 ≤ lim) (hl2 : lim ≤ 4096) (hF : S.full = false → Fit lim S.A ∧ s < S.A.length ∧ i < len2 S.A s), t.sz ≤ n_ → Calls Tryz.prog 58 #[.agg #[so, .int .i64 lim, .bool S.full], .agg c.toArray, .int .i64 (s : Int), .int .i64 (i : Int)] w (Ret fun v w' => LayV 67 33 w' base lim v (t.lay lim S s i) ∧ Grow w w') := by
 intro n_
 induction n_ with
 | zero => intro w base s i so segs S lim c t h hbw T hR hone hl1 hl2 hF hm_; exact absurd hm_ (by have := t.sz_pos; omega)
 | succ n_ ih_ =>
 intro w base s i so segs S lim c t h hbw T hR hone hl1 hl2 hF hm_
 obtain ⟨ads, ns, cs, rfl⟩ := own_slice h.out
 have Tk := T
 obtain @⟨kind, size, words, bytes, kids, ws, bs, ks, kc, hk, hs, hW, hwr, hB, hbr, hK, hKs⟩ := T
 obtain ⟨aw, cw, rfl, hcw, hcw2, RW⟩ := hW
 obtain ⟨ab, cb, rfl, hcb, hcb2, RB⟩ := hB
 obtain ⟨ak, ck, rfl, hck, hck2, RK⟩ := hK
 have lw := RW.lim
 have lb := RB.lim
 have lk := RK.lim
 simp only [inR] at hk hs
 have T0 := Tk
 obtain ⟨hkd, hlw, hlb, hlk, hnn, hnm, hkn, hb1⟩ := Nd.own_b (Nd.fine_own hR)
 have G := Grow.rfl' w
 refine calls_ret Tryz.func58 Tryz.ntmps58 Tryz.results58 rfl rfl ?_
 refine W_seq (W_region rfl ?_)
 refine WL_some (og rfl ?_)
 (first | refine r_box_agg rfl ?_ | refine r_box_int rfl ?_ | refine r_box_slice rfl ?_ | refine r_box rfl rfl ?_)
 intro b1 w2 hb3 hc4 g5
 have hge6 := Nat.le_trans G.size hb3
 replace h := h.grow g5
 replace G := G.tr g5
 clear g5 hb3
 refine WL_some (og rfl ?_)
 (first | refine r_box_agg rfl ?_ | refine r_box_int rfl ?_ | refine r_box_slice rfl ?_ | refine r_box rfl rfl ?_)
 intro b7 w8 hb9 hc10 g11
 have hge12 := Nat.le_trans G.size hb9
 have ne13 := Nat.ne_of_lt (Nat.lt_of_lt_of_le (lt_of_heap hc4) hb9)
 replace h := h.grow g11
 replace hc4 := g11.heap hc4
 replace G := G.tr g11
 clear g11 hb9
 refine stp (r_alloc ?_)
 intro b14 w15 hb16 hc17 g18
 refine WL_nil ?_
 refine W_seq ?_
 refine W_seq (W_region rfl ?_)
 refine stp (r_fieldAddr rfl ?_)
 have hge19 := Nat.le_trans G.size hb16
 have ne20 := Nat.ne_of_lt (Nat.lt_of_lt_of_le (lt_of_heap hc4) hb16)
 have ne21 := Nat.ne_of_lt (Nat.lt_of_lt_of_le (lt_of_heap hc10) hb16)
 replace h := h.grow g18
 replace hc4 := g18.heap hc4
 replace hc10 := g18.heap hc10
 replace G := G.tr g18
 clear g18 hb16
 refine stp (r_load (v := .int .i64 kind) rfl hc10 rfl ?_)
 refine stp (r_eql rfl rfl ?_)
 refine stp (r_move_bool rfl ?_)
 refine WL_some (og_if (s := .bool (decide (kind = 0))) (b := false) (v := .pointer (some ⟨b1, 2, none⟩)) rfl (wgb_f _) (fun hc22 => ?_) ?_)
 ·
  have hc22_ := hc22
  try simp only [sb] at hc22_
  refine r_fieldAddr rfl ?_
  exact ⟨rfl, rfl⟩
 refine WL_some (og_if (s := .bool (decide (kind = 0))) (b := false) (v := .bool S.full) rfl (wgb_f _) (fun hc23 => ?_) ?_)
 ·
  have hc23_ := hc23
  try simp only [sb] at hc23_
  refine r_load (v := .bool S.full) (gvt hc23) hc4 rfl ?_
  exact ⟨rfl, rfl⟩
 refine stp (r_or2 rfl rfl rfl ?_)
 refine WL_nil ?_
 refine W_cond2 (b := ((decide (kind = 0)) || S.full)) rfl (fun h1 => ?_) (fun h1 => ?_)
 ·-- true
  simp only [sb] at h1
  have hl : (Nd.mk kind size words bytes kids).lay lim S s i = S := by simp only [Nd.lay]; rw [if_pos h1]
  refine W_seq (W_region rfl ?_)
  refine stp (r_loadAll rfl hc4 (by rfl) ?_)
  refine stn (r_storeAll rfl rfl hc17 (by rfl) (by rfl) (by rfl) ?_)
  intro w24 hc25 u26
  replace h := h.upd u26 hc17 (by decide) (by decide)
  replace hc4 := u26.heap hc4 ne20
  replace hc10 := u26.heap hc10 ne21
  replace G := G.upd u26 hge19
  clear u26 hc17
  refine WL_nil ?_
  refine W_ret ?_
  rw [hl]
  refine ret1 (res_all rfl hc25 (by rfl)) ⟨⟨_, _, rfl, h⟩, G⟩
 ·-- false
  simp only [sb] at h1
  obtain ⟨h1k, h1f⟩ := h1
  obtain ⟨F, hsA, hiA⟩ := hF h1f
  have FS := F.sml hl2
  have hA16 := F.most
  have htn := totalP_nn S.A
  refine W_skip ?_
  refine W_seq (W_region rfl ?_)
  refine stp (r_loadAll rfl hc10 (by rfl) ?_)
  refine stp (r_gives (v := .int .i64 ((Nd.mk kind size words bytes kids).need)) rfl (rneed_calls _ (T0.grow G)) ?_)
  intro w27 g28
  replace h := h.grow g28
  replace hc4 := g28.heap hc4
  replace hc10 := g28.heap hc10
  replace hc17 := g28.heap hc17
  replace G := G.tr g28
  clear g28
  refine stp (r_assign_int rfl ?_)
  refine WL_nil ?_
  refine W_seq ?_
  refine W_seq (W_region rfl ?_)
  refine stp (r_move_int rfl ?_)
  refine stp (r_eql rfl rfl ?_)
  refine WL_nil ?_
  refine W_cond2 (b := (decide (((Nd.mk kind size words bytes kids).need) = 0))) rfl (fun h2 => ?_) (fun h2 => ?_)
  ·-- true
   replace h2 := of_decide_eq_true h2
   refine W_seq (W_region rfl ?_)
   refine stp (r_assign_int rfl ?_)
   refine WL_nil ?_
   refine W_seq ?_
   refine W_seq (W_region rfl ?_)
   refine stp (r_fieldAddr rfl ?_)
   refine stp (r_load (v := .int .i64 kind) rfl hc10 rfl ?_)
   refine stp (r_eql rfl rfl ?_)
   refine WL_nil ?_
   refine W_cond2 (b := (decide (kind = 1))) rfl (fun h3 => ?_) (fun h3 => ?_)
   ·-- true
    replace h3 := of_decide_eq_true h3
    have hl : (Nd.mk kind size words bytes kids).lay lim S s i = ⟨setP S.A s i ((Nd.mk kind size words bytes kids).near (-1)), S.full⟩ := by simp only [Nd.lay]; rw [if_neg (by simp [h1k, h1f]), if_pos h2, if_pos h3]
    refine W_region rfl ?_
    refine stp (r_assign_int rfl ?_)
    refine WL_nil ?_
    refine W_seq ?_
    refine W_any 7 [[], [], [], [], [], [1, 0], [5, 4, 3, 2, 1, 0]] mixed (by kernel_rfl) (by kernel_rfl) (by kernel_rfl) ?_
    intro w29 g30
    replace h := h.grow g30
    replace hc4 := g30.heap hc4
    replace hc10 := g30.heap hc10
    replace hc17 := g30.heap hc17
    replace G := G.tr g30
    clear g30
    apply AO_ex
    ·intro w_ g_; refine og rfl ?_; refine r_loadAll rfl (g_.heap hc4) (by rfl) ?_; exact ⟨Grow.rfl' _, rfl⟩
    apply AO_ex
    ·intro w_ g_; refine og rfl ?_; refine r_move_int rfl ?_; exact ⟨Grow.rfl' _, rfl⟩
    apply AO_ex
    ·intro w_ g_; refine og rfl ?_; refine r_move_int rfl ?_; exact ⟨Grow.rfl' _, rfl⟩
    apply AO_ex
    ·intro w_ g_; refine og rfl ?_; refine r_loadAll rfl (g_.heap hc10) (by rfl) ?_; exact ⟨Grow.rfl' _, rfl⟩
    apply AO_ex
    ·intro w_ g_; refine og rfl ?_; refine r_move_int rfl ?_; exact ⟨Grow.rfl' _, rfl⟩
    apply AO_ex
    ·intro w_ g_; refine og rfl ?_; exact r_gives (v := .int .u64 ((Nd.mk kind size words bytes kids).near (-1))) rfl (rnear_calls _ (T0.grow (G.tr g_)) (-1) (by simp only [Nd.kind]; omega)) (fun w2_ g2_ => ⟨g2_, rfl⟩)
    refine AO_so (fun w_ v_ => LayV 67 33 w_ base lim v_ (⟨setP (S.A) s i ((Nd.mk kind size words bytes kids).near (-1)), S.full⟩)) (fun _ _ _ g_ h_ => h_.grow g_) ?_ ?_
    ·intro w_ g_
     refine og rfl ?_
     refine r_call rfl (rset_calls _ (h.grow g_) (Nat.le_trans hbw (G.tr g_).size) FS hsA hiA) ?_
     rintro v2_ w2_ ⟨hl_, g2_⟩
     exact ⟨g2_, hl_⟩
    refine AO_nil ?_
    intro w31 g32
    replace h := h.grow g32
    replace hc4 := g32.heap hc4
    replace hc10 := g32.heap hc10
    replace hc17 := g32.heap hc17
    replace G := G.tr g32
    clear g32
    intro v_p hv_p
    obtain ⟨so_p, segs_p, rfl, h_p⟩ := hv_p
    obtain ⟨ad_p, n_p, c_p, rfl⟩ := own_slice h_p.out
    refine stn (r_storeAll rfl rfl hc17 (by rfl) (by rfl) (by rfl) ?_)
    intro w33 hc34 u35
    replace h := h.upd u35 hc17 (by decide) (by decide)
    replace hc4 := u35.heap hc4 ne20
    replace hc10 := u35.heap hc10 ne21
    replace h_p := h_p.upd u35 hc17 (by decide) (by decide)
    replace G := G.upd u35 hge19
    clear u35 hc17
    refine WL_nil ?_
    refine W_ret ?_
    rw [hl]
    refine ret1 (res_all rfl hc34 (by rfl)) ⟨⟨_, _, rfl, h_p⟩, G⟩
   ·-- false
    replace h3 := of_decide_eq_false h3
    have hl : (Nd.mk kind size words bytes kids).lay lim S s i = ⟨setP S.A s i ((Nd.mk kind size words bytes kids).near (0)), S.full⟩ := by simp only [Nd.lay]; rw [if_neg (by simp [h1k, h1f]), if_pos h2, if_neg h3]
    refine W_skip ?_
    refine W_seq ?_
    refine W_any 7 [[], [], [], [], [], [1, 0], [5, 4, 3, 2, 1, 0]] mixed (by kernel_rfl) (by kernel_rfl) (by kernel_rfl) ?_
    intro w36 g37
    replace h := h.grow g37
    replace hc4 := g37.heap hc4
    replace hc10 := g37.heap hc10
    replace hc17 := g37.heap hc17
    replace G := G.tr g37
    clear g37
    apply AO_ex
    ·intro w_ g_; refine og rfl ?_; refine r_loadAll rfl (g_.heap hc4) (by rfl) ?_; exact ⟨Grow.rfl' _, rfl⟩
    apply AO_ex
    ·intro w_ g_; refine og rfl ?_; refine r_move_int rfl ?_; exact ⟨Grow.rfl' _, rfl⟩
    apply AO_ex
    ·intro w_ g_; refine og rfl ?_; refine r_move_int rfl ?_; exact ⟨Grow.rfl' _, rfl⟩
    apply AO_ex
    ·intro w_ g_; refine og rfl ?_; refine r_loadAll rfl (g_.heap hc10) (by rfl) ?_; exact ⟨Grow.rfl' _, rfl⟩
    apply AO_ex
    ·intro w_ g_; refine og rfl ?_; refine r_move_int rfl ?_; exact ⟨Grow.rfl' _, rfl⟩
    apply AO_ex
    ·intro w_ g_; refine og rfl ?_; exact r_gives (v := .int .u64 ((Nd.mk kind size words bytes kids).near 0)) rfl (rnear_calls _ (T0.grow (G.tr g_)) (0) (by simp only [Nd.kind]; omega)) (fun w2_ g2_ => ⟨g2_, rfl⟩)
    refine AO_so (fun w_ v_ => LayV 67 33 w_ base lim v_ (⟨setP (S.A) s i ((Nd.mk kind size words bytes kids).near (0)), S.full⟩)) (fun _ _ _ g_ h_ => h_.grow g_) ?_ ?_
    ·intro w_ g_
     refine og rfl ?_
     refine r_call rfl (rset_calls _ (h.grow g_) (Nat.le_trans hbw (G.tr g_).size) FS hsA hiA) ?_
     rintro v2_ w2_ ⟨hl_, g2_⟩
     exact ⟨g2_, hl_⟩
    refine AO_nil ?_
    intro w38 g39
    replace h := h.grow g39
    replace hc4 := g39.heap hc4
    replace hc10 := g39.heap hc10
    replace hc17 := g39.heap hc17
    replace G := G.tr g39
    clear g39
    intro v_p hv_p
    obtain ⟨so_p, segs_p, rfl, h_p⟩ := hv_p
    obtain ⟨ad_p, n_p, c_p, rfl⟩ := own_slice h_p.out
    refine stn (r_storeAll rfl rfl hc17 (by rfl) (by rfl) (by rfl) ?_)
    intro w40 hc41 u42
    replace h := h.upd u42 hc17 (by decide) (by decide)
    replace hc4 := u42.heap hc4 ne20
    replace hc10 := u42.heap hc10 ne21
    replace h_p := h_p.upd u42 hc17 (by decide) (by decide)
    replace G := G.upd u42 hge19
    clear u42 hc17
    refine WL_nil ?_
    refine W_ret ?_
    rw [hl]
    refine ret1 (res_all rfl hc41 (by rfl)) ⟨⟨_, _, rfl, h_p⟩, G⟩
  ·-- false
   replace h2 := of_decide_eq_false h2
   have hp0 := placeP_ok lim (Nd.mk kind size words bytes kids) S s i F.one
   have hpn := placeP_near lim (Nd.mk kind size words bytes kids) S s i F.one
   obtain ⟨hlast, hlastE⟩ := lastP_lt F.one
   have hlseg := F.seg (lastP S.A)
   have hl : (Nd.mk kind size words bytes kids).lay lim S s i = Nd.lays lim kids (moreP lim (placeP lim (Nd.mk kind size words bytes kids) S s i).S (placeP lim (Nd.mk kind size words bytes kids) S s i).seg (Nd.mk kind size words bytes kids).content) (placeP lim (Nd.mk kind size words bytes kids) S s i).seg ((placeP lim (Nd.mk kind size words bytes kids) S s i).at_ + ((Nd.mk kind size words bytes kids).need.toNat - kids.length)) := by simp only [Nd.lay]; rw [if_neg (by simp [h1k, h1f]), if_neg h2]
   rw [hl]
   clear hl
   obtain ⟨ado, co, sa, sc, hso_, hco, hco2, RO, hsf⟩ := h.fn (by omega)
   cases hso_
   refine W_skip ?_
   refine W_seq (W_region rfl ?_)
   refine stp (r_fieldAddr rfl ?_)
   refine stp (r_load (v := .slice ads S.A.length cs) rfl hc4 rfl ?_)
   refine stp (r_len rfl rfl rfl ?_)
   refine WL_some (og rfl ?_)
   refine r_sub rfl rfl ?_ ?_; constructor <;> omega
   rw [hlastE]
   refine stp (r_assign_int rfl ?_)
   refine WL_nil ?_
   refine W_seq (W_region rfl ?_)
   refine stp (r_move_int rfl ?_)
   refine stp (r_assign_int rfl ?_)
   refine WL_nil ?_
   refine W_seq (W_region rfl ?_)
   refine stp (r_fieldAddr rfl ?_)
   refine stp (r_load (v := .slice ads S.A.length cs) rfl hc4 rfl ?_)
   refine stp (r_move_int rfl ?_)
   refine stp (r_indexN RO rfl rfl ?_ ?_); omega
   refine stp (r_loadR (v := .slice (sa (lastP S.A)) (len2 S.A (lastP S.A)) (sc (lastP S.A))) (m := 0) RO rfl (by rw [Nat.mul_one]; exact (hsf _ (by assumption)).1) ?_)
   refine stp (r_len rfl rfl rfl ?_)
   refine stp (r_assign_int rfl ?_)
   refine WL_nil ?_
   refine W_cut1 (fun e_ w_ => ∃ (ad4 : Option Addr) (n4 : Nat) (c4 : Nat) (segs4 : List Value), Fr [(4, .pointer (some ⟨b1, 0, none⟩)), (5, .pointer (some ⟨b7, 0, none⟩)), (8, .pointer (some ⟨b14, 0, none⟩)), (9, .int .i64 ((Nd.mk kind size words bytes kids).need)), (12, .int .i64 ((placeP lim (Nd.mk kind size words bytes kids) S s i).seg : Int)), (13, .int .i64 ((placeP lim (Nd.mk kind size words bytes kids) S s i).at_ : Int))] e_ ∧ (w_.heap[b7]? = some (.cells #[.int .i64 kind, .int .i64 size, .slice aw words.length cw, .slice ab bytes.length cb, .slice ak kids.length ck] 71 (0, 0))) ∧ (w_.heap[b14]? = some (.cells #[.slice none 0 0, .int .i64 0, .bool false] 125 (0, 0))) ∧ (w_.heap[b1]? = some (.cells #[.slice ad4 n4 c4, .int .i64 lim, .bool (placeP lim (Nd.mk kind size words bytes kids) S s i).S.full] 125 (0, 0))) ∧ (OwnA 67 33 w_ base (.slice ad4 n4 c4) segs4 ((placeP lim (Nd.mk kind size words bytes kids) S s i).S.A)) ∧ Grow w w_) ?_ ?_
   ·-- the parts
    refine W_seq (W_region rfl ?_)
    refine stp (r_move_int rfl ?_)
    refine stp (r_move_int rfl ?_)
    refine stp (r_eql rfl rfl ?_)
    refine stp (r_move_bool rfl ?_)
    refine WL_some (og_if (s := .bool (decide ((s : Int) = (lastP S.A : Int)))) (b := true) (v := .int .i64 ((len2 S.A (lastP S.A)) : Int)) rfl (wgb_t _) (fun hc43 => ?_) ?_)
    ·
     have hc43_ := of_decide_eq_true hc43
     refine r_move_int rfl ?_
     exact ⟨rfl, rfl⟩
    refine WL_some (og_if (s := .bool (decide ((s : Int) = (lastP S.A : Int)))) (b := true) (v := .int .i64 ((Nd.mk kind size words bytes kids).need)) rfl (wgb_t _) (fun hc44 => ?_) ?_)
    ·
     have hc44_ := of_decide_eq_true hc44
     refine r_move_int rfl ?_
     exact ⟨rfl, rfl⟩
    refine WL_some (og_if (s := .bool (decide ((s : Int) = (lastP S.A : Int)))) (b := true) (v := .int .i64 (((len2 S.A (lastP S.A)) : Int) + ((Nd.mk kind size words bytes kids).need))) rfl (wgb_t _) (fun hc45 => ?_) ?_)
    ·
     have hc45_ := of_decide_eq_true hc45
     refine r_add (gvt hc45) (gvt hc45) ?_ ?_; constructor <;> omega
     exact ⟨rfl, rfl⟩
    refine WL_some (og_if (s := .bool (decide ((s : Int) = (lastP S.A : Int)))) (b := true) (v := .pointer (some ⟨b1, 1, none⟩)) rfl (wgb_t _) (fun hc46 => ?_) ?_)
    ·
     have hc46_ := of_decide_eq_true hc46
     refine r_fieldAddr rfl ?_
     exact ⟨rfl, rfl⟩
    refine WL_some (og_if (s := .bool (decide ((s : Int) = (lastP S.A : Int)))) (b := true) (v := .int .i64 lim) rfl (wgb_t _) (fun hc47 => ?_) ?_)
    ·
     have hc47_ := of_decide_eq_true hc47
     refine r_load (v := .int .i64 lim) (gvt hc47) hc4 rfl ?_
     exact ⟨rfl, rfl⟩
    refine WL_some (og_if (s := .bool (decide ((s : Int) = (lastP S.A : Int)))) (b := true) (v := .bool (decide ((((len2 S.A (lastP S.A)) : Int) + ((Nd.mk kind size words bytes kids).need)) ≤ lim))) rfl (wgb_t _) (fun hc48 => ?_) ?_)
    ·
     have hc48_ := of_decide_eq_true hc48
     refine r_leq (gvt hc48) (gvt hc48) ?_
     exact ⟨rfl, rfl⟩
    refine stp (r_and2 rfl rfl rfl ?_)
    refine WL_nil ?_
    refine W_cond2 (b := ((decide ((s : Int) = (lastP S.A : Int))) && (decide ((((len2 S.A (lastP S.A)) : Int) + ((Nd.mk kind size words bytes kids).need)) ≤ lim)))) rfl (fun h3 => ?_) (fun h3 => ?_)
    ·-- true
     simp only [sb] at h3
     have hsl : s = lastP S.A := by omega
     have hi2 := hiA
     rw [hsl] at hi2
     have hp : (placeP lim (Nd.mk kind size words bytes kids) S s i) = ⟨⟨setP S.A s i ((Nd.mk kind size words bytes kids).near ((len2 S.A (lastP S.A) : Int) - i - 1)), S.full⟩, lastP S.A, len2 S.A (lastP S.A)⟩ := by unfold placeP; rw [if_pos ⟨by omega, h3.2⟩]
     refine W_any 10 [[], [], [], [], [], [], [1, 0], [2, 1, 0], [4, 3, 2, 1, 0], [8, 7, 6, 5, 4, 3, 2, 1, 0]] mixed (by kernel_rfl) (by kernel_rfl) (by kernel_rfl) ?_
     intro w49 g50
     replace hc10 := g50.heap hc10
     replace hc17 := g50.heap hc17
     replace hc4 := g50.heap hc4
     replace h := h.grow g50
     replace RO := RO.grow g50
     replace G := G.tr g50
     clear g50
     apply AO_ex
     ·intro w_ g_; refine og rfl ?_; refine r_loadAll rfl (g_.heap hc4) (by rfl) ?_; exact ⟨Grow.rfl' _, rfl⟩
     apply AO_ex
     ·intro w_ g_; refine og rfl ?_; refine r_move_int rfl ?_; exact ⟨Grow.rfl' _, rfl⟩
     apply AO_ex
     ·intro w_ g_; refine og rfl ?_; refine r_move_int rfl ?_; exact ⟨Grow.rfl' _, rfl⟩
     apply AO_ex
     ·intro w_ g_; refine og rfl ?_; refine r_loadAll rfl (g_.heap hc10) (by rfl) ?_; exact ⟨Grow.rfl' _, rfl⟩
     apply AO_ex
     ·intro w_ g_; refine og rfl ?_; refine r_move_int rfl ?_; exact ⟨Grow.rfl' _, rfl⟩
     apply AO_ex
     ·intro w_ g_; refine og rfl ?_; refine r_move_int rfl ?_; exact ⟨Grow.rfl' _, rfl⟩
     apply AO_ex
     ·intro w_ g_; refine og rfl ?_; refine r_sub rfl rfl ?_ ?_; constructor <;> omega; exact ⟨Grow.rfl' _, rfl⟩
     apply AO_ex
     ·intro w_ g_; refine og rfl ?_; refine r_sub rfl rfl ?_ ?_; constructor <;> omega; exact ⟨Grow.rfl' _, rfl⟩
     apply AO_ex
     ·intro w_ g_; refine og rfl ?_; exact r_gives (v := .int .u64 ((Nd.mk kind size words bytes kids).near ((((len2 S.A (lastP S.A)) : Int) - (i : Int)) - 1))) rfl (rnear_calls _ (T0.grow (G.tr g_)) ((((len2 S.A (lastP S.A)) : Int) - (i : Int)) - 1) (by simp only [Nd.kind]; omega)) (fun w2_ g2_ => ⟨g2_, rfl⟩)
     refine AO_so (fun w_ v_ => LayV 67 33 w_ base lim v_ (⟨setP (S.A) s i ((Nd.mk kind size words bytes kids).near ((len2 S.A (lastP S.A) : Int) - i - 1)), S.full⟩)) (fun _ _ _ g_ h_ => h_.grow g_) ?_ ?_
     ·intro w_ g_
      refine og rfl ?_
      refine r_call rfl (rset_calls _ (h.grow g_) (Nat.le_trans hbw (G.tr g_).size) FS hsA hiA) ?_
      rintro v2_ w2_ ⟨hl_, g2_⟩
      exact ⟨g2_, hl_⟩
     refine AO_nil ?_
     intro w51 g52
     replace hc10 := g52.heap hc10
     replace hc17 := g52.heap hc17
     replace hc4 := g52.heap hc4
     replace h := h.grow g52
     replace RO := RO.grow g52
     replace G := G.tr g52
     clear g52
     intro v_p hv_p
     obtain ⟨so_p, segs_p, rfl, h_p⟩ := hv_p
     obtain ⟨ad_p, n_p, c_p, rfl⟩ := own_slice h_p.out
     refine stn (r_storeAll rfl rfl hc4 (by rfl) (by rfl) (by rfl) ?_)
     intro w53 hc54 u55
     replace hc10 := u55.heap hc10 ne13.symm
     replace hc17 := u55.heap hc17 ne20.symm
     replace h := h.upd u55 hc4 (by decide) (by decide)
     replace h_p := h_p.upd u55 hc4 (by decide) (by decide)
     replace G := G.upd u55 hge6
     clear u55 hc4
     refine WL_nil ?_
     rw [hp]
     exact ⟨_, _, _, _, fr_of ⟨rfl, rfl, rfl, rfl, rfl, rfl, trivial⟩, hc10, hc17, hc54, h_p, G⟩
    ·-- false
     simp only [sb] at h3
     refine W_seq ?_
     refine W_seq (W_region rfl ?_)
     refine stp (r_move_int rfl ?_)
     refine stp (r_move_int rfl ?_)
     refine stp (r_eql rfl rfl ?_)
     refine stp (r_move_bool rfl ?_)
     refine WL_some (og_if (s := .bool (decide ((s : Int) = (lastP S.A : Int)))) (b := false) (v := .int .i64 ((len2 S.A (lastP S.A)) : Int)) rfl (wgb_f _) (fun hc56 => ?_) ?_)
     ·
      have hc56_ := hc56
      try simp only [sb] at hc56_
      refine r_move_int rfl ?_
      exact ⟨rfl, rfl⟩
     refine WL_some (og_if (s := .bool (decide ((s : Int) = (lastP S.A : Int)))) (b := false) (v := .int .i64 ((Nd.mk kind size words bytes kids).need)) rfl (wgb_f _) (fun hc57 => ?_) ?_)
     ·
      have hc57_ := hc57
      try simp only [sb] at hc57_
      refine r_move_int rfl ?_
      exact ⟨rfl, rfl⟩
     refine WL_some (og_if (s := .bool (decide ((s : Int) = (lastP S.A : Int)))) (b := false) (v := .int .i64 (((len2 S.A (lastP S.A)) : Int) + ((Nd.mk kind size words bytes kids).need))) rfl (wgb_f _) (fun hc58 => ?_) ?_)
     ·
      have hc58_ := hc58
      try simp only [sb] at hc58_
      refine r_add (gvt hc58) (gvt hc58) ?_ ?_; constructor <;> omega
      exact ⟨rfl, rfl⟩
     refine WL_some (og_if (s := .bool (decide ((s : Int) = (lastP S.A : Int)))) (b := false) (v := .int .i64 ((((len2 S.A (lastP S.A)) : Int) + ((Nd.mk kind size words bytes kids).need)) + 1)) rfl (wgb_f _) (fun hc59 => ?_) ?_)
     ·
      have hc59_ := hc59
      try simp only [sb] at hc59_
      refine r_add (gvt hc59) rfl ?_ ?_; constructor <;> omega
      exact ⟨rfl, rfl⟩
     refine WL_some (og_if (s := .bool (decide ((s : Int) = (lastP S.A : Int)))) (b := false) (v := .pointer (some ⟨b1, 1, none⟩)) rfl (wgb_f _) (fun hc60 => ?_) ?_)
     ·
      have hc60_ := hc60
      try simp only [sb] at hc60_
      refine r_fieldAddr rfl ?_
      exact ⟨rfl, rfl⟩
     refine WL_some (og_if (s := .bool (decide ((s : Int) = (lastP S.A : Int)))) (b := false) (v := .int .i64 lim) rfl (wgb_f _) (fun hc61 => ?_) ?_)
     ·
      have hc61_ := hc61
      try simp only [sb] at hc61_
      refine r_load (v := .int .i64 lim) (gvt hc61) hc4 rfl ?_
      exact ⟨rfl, rfl⟩
     refine WL_some (og_if (s := .bool (decide ((s : Int) = (lastP S.A : Int)))) (b := false) (v := .bool (decide (((((len2 S.A (lastP S.A)) : Int) + ((Nd.mk kind size words bytes kids).need)) + 1) > lim))) rfl (wgb_f _) (fun hc62 => ?_) ?_)
     ·
      have hc62_ := hc62
      try simp only [sb] at hc62_
      refine r_gtr (gvt hc62) (gvt hc62) ?_
      exact ⟨rfl, rfl⟩
     refine stp (r_or2 rfl rfl rfl ?_)
     refine WL_nil ?_
     refine W_cond2 (b := ((decide ((s : Int) = (lastP S.A : Int))) || (decide (((((len2 S.A (lastP S.A)) : Int) + ((Nd.mk kind size words bytes kids).need)) + 1) > lim)))) rfl (fun h4 => ?_) (fun h4 => ?_)
     ·-- true
      simp only [sb] at h4
      have hp : (placeP lim (Nd.mk kind size words bytes kids) S s i) = ⟨moreP lim ⟨setP S.A s i (farP ((lastP S.A : Int) + 1) 0), S.full⟩ (lastP S.A + 1) [(Nd.mk kind size words bytes kids).near 0], lastP S.A + 1, 1⟩ := by unfold placeP; rw [if_neg (by omega), if_pos (by simp only [newSeg, Bool.or_eq_true, decide_eq_true_eq]; omega)]
      have hqc0 : ((lastP S.A + 1 : Nat) : Int) = ((lastP S.A : Int) + 1) := by omega
      refine W_seq (W_region rfl ?_)
      refine stp (r_move_int rfl ?_)
      refine stp (r_add rfl rfl ?_ ?_); constructor <;> omega
      refine stp (r_assign_int rfl ?_)
      refine WL_nil ?_
      refine W_region rfl ?_
      refine stp (r_assign_int rfl ?_)
      refine WL_nil ?_
      refine W_seq ?_
      refine W_any 12 [[], [], [], [], [], [1, 0], [5, 4, 3, 2, 1, 0], [], [], [8, 7, 6, 5, 4, 3, 2, 0], [9, 8, 7, 6, 5, 4, 3, 1, 0], [10, 9, 8, 7, 6, 5, 4, 3, 2, 1, 0]] mixed (by kernel_rfl) (by kernel_rfl) (by kernel_rfl) ?_
      intro w63 g64
      replace hc10 := g64.heap hc10
      replace hc17 := g64.heap hc17
      replace hc4 := g64.heap hc4
      replace h := h.grow g64
      replace RO := RO.grow g64
      replace G := G.tr g64
      clear g64
      apply AO_ex
      ·intro w_ g_; refine og rfl ?_; refine r_loadAll rfl (g_.heap hc4) (by rfl) ?_; exact ⟨Grow.rfl' _, rfl⟩
      apply AO_ex
      ·intro w_ g_; refine og rfl ?_; refine r_move_int rfl ?_; exact ⟨Grow.rfl' _, rfl⟩
      apply AO_ex
      ·intro w_ g_; refine og rfl ?_; refine r_move_int rfl ?_; exact ⟨Grow.rfl' _, rfl⟩
      apply AO_ex
      ·intro w_ g_; refine og rfl ?_; refine r_move_int rfl ?_; exact ⟨Grow.rfl' _, rfl⟩
      apply AO_ex
      ·intro w_ g_; refine og rfl ?_; refine r_move_int rfl ?_; exact ⟨Grow.rfl' _, rfl⟩
      apply AO_ex
      ·intro w_ g_; refine og rfl ?_; exact r_gives (v := .int .u64 (farP ((lastP S.A : Int) + 1) 0)) rfl (rfar_calls _ ((lastP S.A : Int) + 1) 0) (fun w2_ g2_ => ⟨g2_, rfl⟩)
      refine AO_so (fun w_ v_ => LayV 67 33 w_ base lim v_ (⟨setP (S.A) s i (farP ((lastP S.A : Int) + 1) 0), S.full⟩)) (fun _ _ _ g_ h_ => h_.grow g_) ?_ ?_
      ·intro w_ g_
       refine og rfl ?_
       refine r_call rfl (rset_calls _ (h.grow g_) (Nat.le_trans hbw (G.tr g_).size) FS hsA hiA) ?_
       rintro v2_ w2_ ⟨hl_, g2_⟩
       exact ⟨g2_, hl_⟩
      apply AO_ex
      ·intro w_ g_; refine og rfl ?_; refine r_move_int rfl ?_; exact ⟨Grow.rfl' _, rfl⟩
      apply AO_ex
      ·intro w_ g_; refine og rfl ?_; refine r_loadAll rfl (g_.heap hc10) (by rfl) ?_; exact ⟨Grow.rfl' _, rfl⟩
      apply AO_ex
      ·intro w_ g_; intro v6_ hv6_; show OpG _ _ _ _ _ _; refine og rfl ?_; exact r_gives (v := .int .u64 ((Nd.mk kind size words bytes kids).near 0)) rfl (rnear_calls _ (T0.grow (G.tr g_)) (0) (by simp only [Nd.kind]; omega)) (fun w2_ g2_ => ⟨g2_, rfl⟩)
      refine AO_so (fun w_ v_ => Row w_ 1 v_ 1 (wordsV [(Nd.mk kind size words bytes kids).near 0])) (fun _ _ _ g_ h_ => h_.grow g_) ?_ ?_
      ·intro w_ g_
       intro v6_ hv6_; show OpG _ _ _ _ _ _
       refine og rfl ?_
       refine r_buildSlice (cs := #[.int .u64 ((Nd.mk kind size words bytes kids).near 0)]) (el := 33) (fun w => by kernel_rfl) ?_
       intro bs_ w2_ hb_ hc_ g2_
       exact ⟨g2_, Row.of_block (n := 1) hc_ rfl rfl (by omega)⟩
      refine AO_so (fun w_ v_ => LayV 67 33 w_ base lim v_ (moreP lim ⟨setP S.A s i (farP ((lastP S.A : Int) + 1) 0), S.full⟩ (lastP S.A + 1) [(Nd.mk kind size words bytes kids).near 0])) (fun _ _ _ g_ h_ => h_.grow g_) ?_ ?_
      ·intro w_ g_
       intro v6_ hv6_; intro v10_ hv10_; show OpG _ _ _ _ _ _
       refine og rfl ?_
       obtain ⟨so_p, segs_p, rfl, h_p⟩ := hv6_
       have hqc : ((lastP S.A + 1 : Nat) : Int) = ((lastP S.A : Int) + 1) := by omega
       have hcal := rmore_calls _ (q := lastP S.A + 1) (lim := lim) (full := S.full) (l := [(Nd.mk kind size words bytes kids).near 0]) h_p (Nat.le_trans hbw (G.tr g_).size) (FS.set s i (farP ((lastP S.A : Int) + 1) 0)) (by rw [setP_length]; omega) hv10_ (by simp)
       rw [hqc] at hcal
       refine r_call rfl hcal ?_
       rintro v2_ w2_ ⟨hl_, g2_⟩
       exact ⟨g2_, hl_⟩
      refine AO_nil ?_
      intro w65 g66
      replace hc10 := g66.heap hc10
      replace hc17 := g66.heap hc17
      replace hc4 := g66.heap hc4
      replace h := h.grow g66
      replace RO := RO.grow g66
      replace G := G.tr g66
      clear g66
      intro v_p hv_p
      intro v_l hv_l
      intro v_m hv_m
      obtain ⟨so_m, segs_m, rfl, h_m⟩ := hv_m
      obtain ⟨ad_m, n_m, c_m, rfl⟩ := own_slice h_m.out
      refine stn (r_storeAll rfl rfl hc4 (by rfl) (by rfl) (by rfl) ?_)
      intro w67 hc68 u69
      replace hc10 := u69.heap hc10 ne13.symm
      replace hc17 := u69.heap hc17 ne20.symm
      replace h := h.upd u69 hc4 (by decide) (by decide)
      replace h_m := h_m.upd u69 hc4 (by decide) (by decide)
      replace G := G.upd u69 hge6
      clear u69 hc4
      refine WL_nil ?_
      refine W_region rfl ?_
      refine stp (r_move_int rfl ?_)
      refine stp (r_add rfl rfl ?_ ?_); constructor <;> omega
      refine stp (r_assign_int rfl ?_)
      refine WL_nil ?_
      rw [hp]
      exact ⟨_, _, _, _, fr_of ⟨rfl, rfl, rfl, rfl, rfl, rfl, trivial⟩, hc10, hc17, hc68, h_m, G⟩
     ·-- false
      simp only [sb] at h4
      have hp : (placeP lim (Nd.mk kind size words bytes kids) S s i) = ⟨moreP lim ⟨setP S.A s i (farP (lastP S.A) (len2 S.A (lastP S.A))), S.full⟩ (lastP S.A) [(Nd.mk kind size words bytes kids).near 0], lastP S.A, len2 S.A (lastP S.A) + 1⟩ := by unfold placeP; rw [if_neg (by omega), if_neg (by simp only [newSeg, Bool.or_eq_true, decide_eq_true_eq]; omega)]
      refine W_skip ?_
      refine W_seq ?_
      refine W_any 12 [[], [], [], [], [], [1, 0], [5, 4, 3, 2, 1, 0], [], [], [8, 7, 6, 5, 4, 3, 2, 0], [9, 8, 7, 6, 5, 4, 3, 1, 0], [10, 9, 8, 7, 6, 5, 4, 3, 2, 1, 0]] mixed (by kernel_rfl) (by kernel_rfl) (by kernel_rfl) ?_
      intro w70 g71
      replace hc10 := g71.heap hc10
      replace hc17 := g71.heap hc17
      replace hc4 := g71.heap hc4
      replace h := h.grow g71
      replace RO := RO.grow g71
      replace G := G.tr g71
      clear g71
      apply AO_ex
      ·intro w_ g_; refine og rfl ?_; refine r_loadAll rfl (g_.heap hc4) (by rfl) ?_; exact ⟨Grow.rfl' _, rfl⟩
      apply AO_ex
      ·intro w_ g_; refine og rfl ?_; refine r_move_int rfl ?_; exact ⟨Grow.rfl' _, rfl⟩
      apply AO_ex
      ·intro w_ g_; refine og rfl ?_; refine r_move_int rfl ?_; exact ⟨Grow.rfl' _, rfl⟩
      apply AO_ex
      ·intro w_ g_; refine og rfl ?_; refine r_move_int rfl ?_; exact ⟨Grow.rfl' _, rfl⟩
      apply AO_ex
      ·intro w_ g_; refine og rfl ?_; refine r_move_int rfl ?_; exact ⟨Grow.rfl' _, rfl⟩
      apply AO_ex
      ·intro w_ g_; refine og rfl ?_; exact r_gives (v := .int .u64 (farP (lastP S.A : Int) (len2 S.A (lastP S.A) : Int))) rfl (rfar_calls _ (lastP S.A : Int) (len2 S.A (lastP S.A) : Int)) (fun w2_ g2_ => ⟨g2_, rfl⟩)
      refine AO_so (fun w_ v_ => LayV 67 33 w_ base lim v_ (⟨setP (S.A) s i (farP (lastP S.A : Int) (len2 S.A (lastP S.A) : Int)), S.full⟩)) (fun _ _ _ g_ h_ => h_.grow g_) ?_ ?_
      ·intro w_ g_
       refine og rfl ?_
       refine r_call rfl (rset_calls _ (h.grow g_) (Nat.le_trans hbw (G.tr g_).size) FS hsA hiA) ?_
       rintro v2_ w2_ ⟨hl_, g2_⟩
       exact ⟨g2_, hl_⟩
      apply AO_ex
      ·intro w_ g_; refine og rfl ?_; refine r_move_int rfl ?_; exact ⟨Grow.rfl' _, rfl⟩
      apply AO_ex
      ·intro w_ g_; refine og rfl ?_; refine r_loadAll rfl (g_.heap hc10) (by rfl) ?_; exact ⟨Grow.rfl' _, rfl⟩
      apply AO_ex
      ·intro w_ g_; intro v6_ hv6_; show OpG _ _ _ _ _ _; refine og rfl ?_; exact r_gives (v := .int .u64 ((Nd.mk kind size words bytes kids).near 0)) rfl (rnear_calls _ (T0.grow (G.tr g_)) (0) (by simp only [Nd.kind]; omega)) (fun w2_ g2_ => ⟨g2_, rfl⟩)
      refine AO_so (fun w_ v_ => Row w_ 1 v_ 1 (wordsV [(Nd.mk kind size words bytes kids).near 0])) (fun _ _ _ g_ h_ => h_.grow g_) ?_ ?_
      ·intro w_ g_
       intro v6_ hv6_; show OpG _ _ _ _ _ _
       refine og rfl ?_
       refine r_buildSlice (cs := #[.int .u64 ((Nd.mk kind size words bytes kids).near 0)]) (el := 33) (fun w => by kernel_rfl) ?_
       intro bs_ w2_ hb_ hc_ g2_
       exact ⟨g2_, Row.of_block (n := 1) hc_ rfl rfl (by omega)⟩
      refine AO_so (fun w_ v_ => LayV 67 33 w_ base lim v_ (moreP lim ⟨setP S.A s i (farP (lastP S.A : Int) (len2 S.A (lastP S.A) : Int)), S.full⟩ (lastP S.A) [(Nd.mk kind size words bytes kids).near 0])) (fun _ _ _ g_ h_ => h_.grow g_) ?_ ?_
      ·intro w_ g_
       intro v6_ hv6_; intro v10_ hv10_; show OpG _ _ _ _ _ _
       refine og rfl ?_
       obtain ⟨so_p, segs_p, rfl, h_p⟩ := hv6_
       have hqc : ((lastP S.A : Nat) : Int) = (lastP S.A : Int) := by omega
       have hcal := rmore_calls _ (q := lastP S.A) (lim := lim) (full := S.full) (l := [(Nd.mk kind size words bytes kids).near 0]) h_p (Nat.le_trans hbw (G.tr g_).size) (FS.set s i (farP (lastP S.A : Int) (len2 S.A (lastP S.A) : Int))) (by rw [setP_length]; omega) hv10_ (by simp)
       rw [hqc] at hcal
       refine r_call rfl hcal ?_
       rintro v2_ w2_ ⟨hl_, g2_⟩
       exact ⟨g2_, hl_⟩
      refine AO_nil ?_
      intro w72 g73
      replace hc10 := g73.heap hc10
      replace hc17 := g73.heap hc17
      replace hc4 := g73.heap hc4
      replace h := h.grow g73
      replace RO := RO.grow g73
      replace G := G.tr g73
      clear g73
      intro v_p hv_p
      intro v_l hv_l
      intro v_m hv_m
      obtain ⟨so_m, segs_m, rfl, h_m⟩ := hv_m
      obtain ⟨ad_m, n_m, c_m, rfl⟩ := own_slice h_m.out
      refine stn (r_storeAll rfl rfl hc4 (by rfl) (by rfl) (by rfl) ?_)
      intro w74 hc75 u76
      replace hc10 := u76.heap hc10 ne13.symm
      replace hc17 := u76.heap hc17 ne20.symm
      replace h := h.upd u76 hc4 (by decide) (by decide)
      replace h_m := h_m.upd u76 hc4 (by decide) (by decide)
      replace G := G.upd u76 hge6
      clear u76 hc4
      refine WL_nil ?_
      refine W_region rfl ?_
      refine stp (r_move_int rfl ?_)
      refine stp (r_add rfl rfl ?_ ?_); constructor <;> omega
      refine stp (r_assign_int rfl ?_)
      refine WL_nil ?_
      rw [hp]
      exact ⟨_, _, _, _, fr_of ⟨rfl, rfl, rfl, rfl, rfl, rfl, trivial⟩, hc10, hc17, hc75, h_m, G⟩
   ·-- behind them
    clear hc10 hc17 hc4 h RO
    clear G
    rintro e_ w77 ⟨ad4, n4, c4, segs4, ⟨e78, rfl⟩, hc10, hc17, hc4, h, G⟩
    obtain ⟨hpG, hpS, hpA, hpF, hpU⟩ := hp0
    generalize (placeP lim (Nd.mk kind size words bytes kids) S s i) = p at *
    have hpl := FS.len
    have hSp : Sml p.S.A := ⟨by have := hpn.len; omega, fun j => by have := hpn.seg j; have := F.seg j; omega⟩
    have hpb := hSp.seg p.seg
    rw [← hpA] at hpb
    have hco : ((Nd.mk kind size words bytes kids).content.length : Int) = (Nd.mk kind size words bytes kids).need := Nd.content_length _ (by simp only [Nd.kind]; omega) (by simpa only [Nd.kind, Nd.bytes] using hb1)
    have hok := LayOk.more lim p.S p.seg (Nd.mk kind size words bytes kids).content (Nat.le_of_lt hpS)
    have hge2 : p.at_ + (Nd.mk kind size words bytes kids).content.length ≤ len2 (moreP lim p.S p.seg (Nd.mk kind size words bytes kids).content).A p.seg := by rw [hpA, show (moreP lim p.S p.seg (Nd.mk kind size words bytes kids).content).A = growA p.S.A p.seg (Nd.mk kind size words bytes kids).content from rfl]; simp only [len2]; rw [growA_getD _ _ _ _ (Nat.le_of_lt hpS), if_pos rfl, List.length_append]; exact Nat.le_refl _
    have hQ0 : (moreP lim p.S p.seg (Nd.mk kind size words bytes kids).content).full = false → p.S.full = false := fun hx => by cases hy : p.S.full with | false => rfl | true => rw [hok.full hy] at hx; exact absurd hx (by simp)
    refine W_seq ?_
    refine W_any 5 [[], [], [], [0], [3, 2, 1, 0]] mixed (by kernel_rfl) (by kernel_rfl) (by kernel_rfl) ?_
    intro w79 g80
    replace hc10 := g80.heap hc10
    replace hc17 := g80.heap hc17
    replace h := h.grow g80
    replace hc4 := g80.heap hc4
    replace G := G.tr g80
    clear g80
    apply AO_ex
    ·intro w_ g_; refine og rfl ?_; refine r_loadAll rfl (g_.heap hc4) (by rfl) ?_; exact ⟨Grow.rfl' _, rfl⟩
    apply AO_ex
    ·intro w_ g_; refine og rfl ?_; refine r_move_int rfl ?_; exact ⟨Grow.rfl' _, rfl⟩
    apply AO_ex
    ·intro w_ g_; refine og rfl ?_; refine r_loadAll rfl (g_.heap hc10) (by rfl) ?_; exact ⟨Grow.rfl' _, rfl⟩
    refine AO_so (fun w_ v_ => Row w_ 1 v_ (Nd.mk kind size words bytes kids).content.length (wordsV (Nd.mk kind size words bytes kids).content)) (fun _ _ _ g_ h_ => h_.grow g_) ?_ ?_
    ·intro w_ g_
     refine og rfl ?_
     refine r_call rfl (rcontent_calls _ (T0.grow (G.tr g_)) hlw hlb hlk) ?_
     rintro v2_ w2_ ⟨ho_, g2_⟩
     exact ⟨g2_, own_row ho_ (by omega)⟩
    refine AO_so (fun w_ v_ => LayV 67 33 w_ base lim v_ (moreP lim p.S p.seg (Nd.mk kind size words bytes kids).content)) (fun _ _ _ g_ h_ => h_.grow g_) ?_ ?_
    ·intro w_ g_
     intro v3_ hv3_; show OpG _ _ _ _ _ _
     refine og rfl ?_
     refine r_call rfl (rmore_calls _ (q := p.seg) (lim := lim) (full := p.S.full) (l := (Nd.mk kind size words bytes kids).content) (h.grow g_) (Nat.le_trans hbw (G.tr g_).size) hSp (Nat.le_of_lt hpS) hv3_ (by omega)) ?_
     rintro v2_ w2_ ⟨hl_, g2_⟩
     exact ⟨g2_, hl_⟩
    refine AO_nil ?_
    intro w81 g82
    replace hc10 := g82.heap hc10
    replace hc17 := g82.heap hc17
    replace h := h.grow g82
    replace hc4 := g82.heap hc4
    replace G := G.tr g82
    clear g82
    intro v_c hv_c
    intro v_m hv_m
    obtain ⟨so_m, segs_m, rfl, h_m⟩ := hv_m
    obtain ⟨ad_m, n_m, c_m, rfl⟩ := own_slice h_m.out
    refine stn (r_storeAll rfl rfl hc4 (by rfl) (by rfl) (by rfl) ?_)
    intro w83 hc84 u85
    replace hc10 := u85.heap hc10 ne13.symm
    replace hc17 := u85.heap hc17 ne20.symm
    replace h := h.upd u85 hc4 (by decide) (by decide)
    replace h_m := h_m.upd u85 hc4 (by decide) (by decide)
    replace G := G.upd u85 hge6
    clear u85 hc4
    refine WL_nil ?_
    obtain ⟨Q, hQ⟩ : ∃ Q, Q = moreP lim p.S p.seg (Nd.mk kind size words bytes kids).content := ⟨_, rfl⟩
    rw [← hQ] at hge2 hQ0 hok ⊢
    have hok_A : (moreP lim p.S p.seg (Nd.mk kind size words bytes kids).content).A = Q.A := by rw [hQ]
    rw [hok_A] at h_m
    have hc84' : w83.heap[b1]? = some (.cells #[.slice ad_m n_m c_m, .int .i64 lim, .bool (Q.full)] 125 (0, 0)) := by rw [hQ]; exact hc84
    clear hok_A hQ hc84
    have hc84 := hc84'
    clear hc84'
    have hQs : p.seg < Q.A.length := Nat.lt_of_lt_of_le hpS hok.grew.len
    have hQ1 : 1 ≤ Q.A.length := by omega
    refine W_seq ?_
    refine W_seq (W_region rfl ?_)
    refine stp (r_assign_int rfl ?_)
    refine WL_nil ?_
    refine W_block ?_
    refine W_loop (fun m_ e_ w_ => ∃ (k : Nat) (ad5 : Option Addr) (n5 : Nat) (c5 : Nat) (segs5 : List Value), m_ = kids.length - k ∧ Fr [(4, .pointer (some ⟨b1, 0, none⟩)), (5, .pointer (some ⟨b7, 0, none⟩)), (8, .pointer (some ⟨b14, 0, none⟩)), (9, .int .i64 ((Nd.mk kind size words bytes kids).need)), (12, .int .i64 (p.seg : Int)), (13, .int .i64 (p.at_ : Int)), (14, .int .i64 (k : Int))] e_ ∧ (k ≤ kids.length) ∧ (w_.heap[b7]? = some (.cells #[.int .i64 kind, .int .i64 size, .slice aw words.length cw, .slice ab bytes.length cb, .slice ak kids.length ck] 71 (0, 0))) ∧ (w_.heap[b14]? = some (.cells #[.slice none 0 0, .int .i64 0, .bool false] 125 (0, 0))) ∧ (w_.heap[b1]? = some (.cells #[.slice ad5 n5 c5, .int .i64 lim, .bool ((Nd.lays lim (kids.take k) Q p.seg (p.at_ + ((Nd.mk kind size words bytes kids).need.toNat - kids.length))).full)] 125 (0, 0))) ∧ (OwnA 67 33 w_ base (.slice ad5 n5 c5) segs5 ((Nd.lays lim (kids.take k) Q p.seg (p.at_ + ((Nd.mk kind size words bytes kids).need.toNat - kids.length))).A)) ∧ Grow w w_) _ ⟨0, ad_m, n_m, c_m, segs_m, rfl, fr_of ⟨rfl, rfl, rfl, rfl, rfl, rfl, rfl, trivial⟩, by omega, hc10, hc17, hc84, h_m, G⟩ ?_
    clear hc10 hc17 hc84 h_m
    clear G
    rintro m_ e_ w86 ⟨k, ad5, n5, c5, segs5, rfl, ⟨e87, rfl⟩, hk2, hc10, hc17, hc84, h5, G⟩
    refine W_seq ?_
    refine W_seq (W_region rfl ?_)
    refine stp (r_move_int rfl ?_)
    refine stp (r_fieldAddr rfl ?_)
    refine stp (r_load (v := .slice ak kids.length ck) rfl hc10 rfl ?_)
    refine stp (r_len rfl rfl rfl ?_)
    refine stp (r_lss rfl rfl ?_)
    refine WL_nil ?_
    refine W_cond2 (b := (decide ((k : Int) < (kids.length : Int)))) rfl (fun hlt => ?_) (fun hlt => ?_)
    ·-- true
     replace hlt := of_decide_eq_true hlt
     have hk3 : k < kids.length := by omega
     have hat := KidsR.at_ k kids[k] hKs (by simp [hk3])
     obtain ⟨y0, y1, ya, yn, yc, za, zn, zc, ua, un, uc, hy⟩ := hat.cells
     rw [hy] at hat
     have hsz := Nd.szs_at kids k kids[k] (by simp [hk3])
     have hfk := Nd.fine_kid hR hk3
     have hkn2 := hkn h1k
     have hlk_ := Nd.lays_ok lim (kids.take k) Q p.seg (p.at_ + ((Nd.mk kind size words bytes kids).need.toNat - kids.length)) hQ1
     have hss : p.seg < (Nd.lays lim (kids.take k) Q p.seg (p.at_ + ((Nd.mk kind size words bytes kids).need.toNat - kids.length))).A.length := Nat.lt_of_lt_of_le hQs hlk_.grew.len
     have hii : p.at_ + ((Nd.mk kind size words bytes kids).need.toNat - kids.length) + k < len2 (Nd.lays lim (kids.take k) Q p.seg (p.at_ + ((Nd.mk kind size words bytes kids).need.toNat - kids.length))).A p.seg := by have := hlk_.grew.seg p.seg; omega
     have hFk : (Nd.lays lim (kids.take k) Q p.seg (p.at_ + ((Nd.mk kind size words bytes kids).need.toNat - kids.length))).full = false → Fit lim (Nd.lays lim (kids.take k) Q p.seg (p.at_ + ((Nd.mk kind size words bytes kids).need.toNat - kids.length))).A ∧ p.seg < (Nd.lays lim (kids.take k) Q p.seg (p.at_ + ((Nd.mk kind size words bytes kids).need.toNat - kids.length))).A.length ∧ p.at_ + ((Nd.mk kind size words bytes kids).need.toNat - kids.length) + k < len2 (Nd.lays lim (kids.take k) Q p.seg (p.at_ + ((Nd.mk kind size words bytes kids).need.toNat - kids.length))).A p.seg := fun hx => ⟨hlk_.fit (hok.fit (hpF F (hQ0 (by cases hy_ : Q.full with | false => rfl | true => rw [hlk_.full hy_] at hx; exact absurd hx (by simp)))) (by cases hy_ : Q.full with | false => rfl | true => rw [hlk_.full hy_] at hx; exact absurd hx (by simp))) hx, hss, hii⟩
     refine W_skip ?_
     refine W_seq ?_
     refine W_block ?_
     refine W_any 17 [[], [], [0], [], [2, 1, 0], [3, 2, 1, 0], [], [], [], [1, 0], [], [0], [1, 0], [5, 4, 3, 2, 1, 0], [], [7, 6, 5, 4, 3, 2, 1, 0], [15, 14, 13, 12, 11, 10, 9, 8, 7, 6, 5, 4, 3, 2, 1, 0]] mixed (by kernel_rfl) (by kernel_rfl) (by kernel_rfl) ?_
     intro w88 g89
     replace hc10 := g89.heap hc10
     replace hc17 := g89.heap hc17
     replace hc84 := g89.heap hc84
     replace h5 := h5.grow g89
     replace G := G.tr g89
     clear g89
     apply AO_ex
     ·intro w_ g_; refine og rfl ?_; refine r_loadAll rfl (g_.heap hc84) (by rfl) ?_; exact ⟨Grow.rfl' _, rfl⟩
     apply AO_ex
     ·intro w_ g_; refine og rfl ?_; refine r_fieldAddr rfl ?_; exact ⟨Grow.rfl' _, rfl⟩
     apply AO_ex
     ·intro w_ g_; refine og rfl ?_; refine r_load (v := .slice ak kids.length ck) rfl (g_.heap hc10) rfl ?_; exact ⟨Grow.rfl' _, rfl⟩
     apply AO_ex
     ·intro w_ g_; refine og rfl ?_; refine r_move_int rfl ?_; exact ⟨Grow.rfl' _, rfl⟩
     apply AO_ex
     ·intro w_ g_; refine og rfl ?_; refine r_indexN (RK.grow (G.tr g_)) rfl rfl ?_ ?_; omega; exact ⟨Grow.rfl' _, rfl⟩
     apply AO_ex
     ·intro w_ g_; refine og rfl ?_; refine r_loadNR (RK.grow (G.tr g_)) rfl (by decide) (by rw [RK.len]; omega) hy ?_; exact ⟨Grow.rfl' _, rfl⟩
     apply AO_ex
     ·intro w_ g_; refine og rfl ?_; refine r_move_int rfl ?_; exact ⟨Grow.rfl' _, rfl⟩
     apply AO_ex
     ·intro w_ g_; refine og rfl ?_; refine r_move_int rfl ?_; exact ⟨Grow.rfl' _, rfl⟩
     apply AO_ex
     ·intro w_ g_; refine og rfl ?_; refine r_move_int rfl ?_; exact ⟨Grow.rfl' _, rfl⟩
     apply AO_ex
     ·intro w_ g_; refine og rfl ?_; refine r_add rfl rfl ?_ ?_; constructor <;> omega; exact ⟨Grow.rfl' _, rfl⟩
     apply AO_ex
     ·intro w_ g_; refine og rfl ?_; refine r_fieldAddr rfl ?_; exact ⟨Grow.rfl' _, rfl⟩
     apply AO_ex
     ·intro w_ g_; refine og rfl ?_; refine r_load (v := .slice ak kids.length ck) rfl (g_.heap hc10) rfl ?_; exact ⟨Grow.rfl' _, rfl⟩
     apply AO_ex
     ·intro w_ g_; refine og rfl ?_; refine r_len rfl rfl rfl ?_; exact ⟨Grow.rfl' _, rfl⟩
     apply AO_ex
     ·intro w_ g_; refine og rfl ?_; refine r_sub rfl rfl ?_ ?_; constructor <;> omega; exact ⟨Grow.rfl' _, rfl⟩
     apply AO_ex
     ·intro w_ g_; refine og rfl ?_; refine r_move_int rfl ?_; exact ⟨Grow.rfl' _, rfl⟩
     apply AO_ex
     ·intro w_ g_; refine og rfl ?_; refine r_add rfl rfl ?_ ?_; constructor <;> omega; exact ⟨Grow.rfl' _, rfl⟩
     refine AO_so (fun w_ v_ => LayV 67 33 w_ base lim v_ ((Nd.lays lim (kids.take (k + 1)) Q p.seg (p.at_ + ((Nd.mk kind size words bytes kids).need.toNat - kids.length))))) (fun _ _ _ g_ h_ => h_.grow g_) ?_ ?_
     ·intro w_ g_
      refine og rfl ?_
      have hcal := ih_ _ (h5.grow g_) (Nat.le_trans hbw (G.tr g_).size) (hat.grow (G.tr g_)) hfk (by omega) hl1 hl2 hFk (by simp only [Nd.sz] at hm_; omega)
      rw [show ((p.at_ + ((Nd.mk kind size words bytes kids).need.toNat - kids.length) + k : Nat) : Int) = (p.at_ : Int) + (Nd.mk kind size words bytes kids).need - kids.length + k from by omega, ← Nd.lays_take hk3] at hcal
      refine r_call rfl hcal ?_
      rintro v2_ w2_ ⟨hl_, g2_⟩
      exact ⟨g2_, hl_⟩
     refine AO_nil ?_
     intro w90 g91
     replace hc10 := g91.heap hc10
     replace hc17 := g91.heap hc17
     replace hc84 := g91.heap hc84
     replace h5 := h5.grow g91
     replace G := G.tr g91
     clear g91
     intro v_k hv_k
     obtain ⟨so_k, segs_k, rfl, h_k⟩ := hv_k
     obtain ⟨ad_k, n_k, c_k, rfl⟩ := own_slice h_k.out
     refine stn (r_storeAll rfl rfl hc84 (by rfl) (by rfl) (by rfl) ?_)
     intro w92 hc93 u94
     replace hc10 := u94.heap hc10 ne13.symm
     replace hc17 := u94.heap hc17 ne20.symm
     replace h5 := h5.upd u94 hc84 (by decide) (by decide)
     replace h_k := h_k.upd u94 hc84 (by decide) (by decide)
     replace G := G.upd u94 hge6
     clear u94 hc84
     refine WL_nil ?_
     refine W_region rfl ?_
     refine stp (r_move_int rfl ?_)
     refine stp (r_add rfl rfl ?_ ?_); constructor <;> omega
     refine stp (r_assign_int rfl ?_)
     refine WL_nil ?_
     refine ⟨_, ?_, k + 1, ad_k, n_k, c_k, segs_k, rfl, fr_of ⟨rfl, rfl, rfl, rfl, rfl, rfl, congrArg (Value.int .i64) (by omega), trivial⟩, by omega, hc10, hc17, hc93, h_k, G⟩
     omega
    ·-- false
     replace hlt := of_decide_eq_false hlt
     have hk3 : k = kids.length := by omega
     have hSK : (Nd.lays lim (kids.take k) Q p.seg (p.at_ + ((Nd.mk kind size words bytes kids).need.toNat - kids.length))) = Nd.lays lim kids Q p.seg (p.at_ + ((Nd.mk kind size words bytes kids).need.toNat - kids.length)) := by rw [hk3, List.take_length]
     refine W_exit ?_
     refine W_seq (W_region rfl ?_)
     refine stp (r_loadAll rfl hc84 (by rfl) ?_)
     refine stn (r_storeAll rfl rfl hc17 (by rfl) (by rfl) (by rfl) ?_)
     intro w95 hc96 u97
     replace hc10 := u97.heap hc10 ne21
     replace hc84 := u97.heap hc84 ne20
     replace h5 := h5.upd u97 hc17 (by decide) (by decide)
     replace G := G.upd u97 hge19
     clear u97 hc17
     refine WL_nil ?_
     refine W_ret ?_
     rw [← hSK]
     refine ret1 (res_all rfl hc96 (by rfl)) ⟨⟨_, _, rfl, h5⟩, G⟩

set_option maxRecDepth 100000 in
theorem rBuild_calls (w : World) {c : List Value} {t : Nd} (T : NodeR w c t) (n : Int) : Calls Tryz.prog 22 #[.agg c.toArray, .int .i64 n] w (Ret fun v w' => ∃ so segs, v = .tuple #[so, .int .i64 (t.build n).2] ∧ OwnA 67 33 w' w.heap.size so segs (t.build n).1 ∧ Grow w w') := by
 obtain ⟨y0, y1, ya, yn, yc, za, zn, zc, ua, un, uc, rfl⟩ := T.cells
 have G := Grow.rfl' w
 refine calls_ret Tryz.func22 Tryz.ntmps22 Tryz.results22 rfl rfl ?_
 refine W_seq (W_region rfl ?_)
 refine WL_some (og rfl ?_)
 (first | refine r_box_agg rfl ?_ | refine r_box_int rfl ?_ | refine r_box_slice rfl ?_ | refine r_box rfl rfl ?_)
 intro b1 w2 hb3 hc4 g5
 have hge6 := Nat.le_trans G.size hb3
 replace G := G.tr g5
 clear g5 hb3
 refine stp (r_assign_slice rfl ?_)
 refine stp (r_assign_int rfl ?_)
 refine WL_nil ?_
 refine W_seq ?_
 refine W_seq (W_region rfl ?_)
 refine stp (r_move_int rfl ?_)
 refine stp (r_lss rfl rfl ?_)
 refine stp (r_move_bool rfl ?_)
 refine WL_some (og_if (s := .bool (decide (n < 1))) (b := false) (v := .int .i64 n) rfl (wgb_f _) (fun hc7 => ?_) ?_)
 ·
  have hc7_ := hc7
  try simp only [sb] at hc7_
  refine r_move_int rfl ?_
  exact ⟨rfl, rfl⟩
 refine WL_some (og_if (s := .bool (decide (n < 1))) (b := false) (v := .bool (decide (n > 4096))) rfl (wgb_f _) (fun hc8 => ?_) ?_)
 ·
  have hc8_ := hc8
  try simp only [sb] at hc8_
  refine r_gtr (gvt hc8) rfl ?_
  exact ⟨rfl, rfl⟩
 refine stp (r_or2 rfl rfl rfl ?_)
 refine stp (r_move_bool rfl ?_)
 refine WL_some (og_if (s := .bool ((decide (n < 1)) || (decide (n > 4096)))) (b := false) (v := .agg #[.int .i64 y0, .int .i64 y1, .slice ya yn yc, .slice za zn zc, .slice ua un uc]) rfl (wgb_f _) (fun hc9 => ?_) ?_)
 ·
  have hc9_ := hc9
  try simp only [sb] at hc9_
  refine r_loadAll rfl hc4 (by rfl) ?_
  exact ⟨rfl, rfl⟩
 refine WL_some (og_ifg (s := .bool ((decide (n < 1)) || (decide (n > 4096)))) (b := false) (v := .bool (t.right 32)) rfl (wgb_f _) (fun hc10 => ?_) ?_)
 ·
  have hc10_ := hc10
  try simp only [sb] at hc10_
  exact r_givesA (l := ([.agg #[.int .i64 y0, .int .i64 y1, .slice ya yn yc, .slice za zn zc, .slice ua un uc]] : List Value)) rfl (by show ([gv (!((decide (n < 1)) || (decide (n > 4096)))) (.agg #[.int .i64 y0, .int .i64 y1, .slice ya yn yc, .slice za zn zc, .slice ua un uc])] : List Value) = _; rw [gvt hc10]) (rRight_calls _ (T.grow G)) (fun w2_ g2_ => ⟨rfl, g2_⟩)
 intro w11 g12
 replace hc4 := g12.heap hc4
 replace G := G.tr g12
 clear g12
 refine WL_some (og_if (s := .bool ((decide (n < 1)) || (decide (n > 4096)))) (b := false) (v := .bool (!(t.right 32))) rfl (wgb_f _) (fun hc13 => ?_) ?_)
 ·
  have hc13_ := hc13
  try simp only [sb] at hc13_
  refine r_not (gvt hc13) ?_
  exact ⟨rfl, rfl⟩
 refine stp (r_or2 rfl rfl rfl ?_)
 refine WL_nil ?_
 refine W_cond2 (b := (((decide (n < 1)) || (decide (n > 4096))) || (!(t.right 32)))) rfl (fun h1 => ?_) (fun h1 => ?_)
 ·-- true
  simp only [sb] at h1
  have hb : t.build n = ([], 1) := by unfold Nd.build; rw [if_pos]; rcases h1 with (h | h) | h; exact .inl h; exact .inr (.inl h); exact .inr (.inr h)
  refine W_seq (W_region rfl ?_)
  refine stp (r_assign_slice rfl ?_)
  refine stp (r_assign_int rfl ?_)
  refine WL_nil ?_
  refine W_ret ?_
  rw [hb]
  refine ret2 (res_tmp (v := .slice none 0 0) rfl) (res_tmp (v := .int .i64 1) rfl) ⟨_, _, rfl, OwnA.nil _ _ _ _, G⟩
 ·-- false
  simp only [sb] at h1
  obtain ⟨⟨h1a, h1b⟩, h1c⟩ := h1
  have hlb1 : 1 ≤ n := by omega
  have hlb2 : n ≤ 4096 := by omega
  have hnb : ¬ (n < 1 ∨ n > 4096 ∨ t.right 32 = false) := by rw [h1c]; simp; omega
  refine W_skip ?_
  refine W_seq (W_region rfl ?_)
  refine stp (r_buildSlice (cs := #[.int .u64 0]) (el := 33) (fun w => by kernel_rfl) ?_)
  intro bs14 w15 hb16 hc17 g18
  have hge19 := Nat.le_trans G.size hb16
  replace hc4 := g18.heap hc4
  replace G := G.tr g18
  clear g18
  refine stp (r_buildSlice (cs := #[.slice (some ⟨bs14, 0, none⟩) 1 1]) (el := 67) (fun w => by kernel_rfl) ?_)
  intro bs20 w21 hb22 hc23 g24
  have hge25 := Nat.le_trans G.size hb22
  replace hc4 := g24.heap hc4
  replace hc17 := g24.heap hc17
  replace G := G.tr g24
  clear g24
  refine stp (r_move_int rfl ?_)
  refine stp (r_build (v := .agg #[.slice (some ⟨bs20, 0, none⟩) 1 1, .int .i64 n, .bool false]) (fun w => by kernel_rfl) ?_)
  refine stp (r_loadAll rfl hc4 (by rfl) ?_)
  refine WL_some (og rfl ?_)
  have h0 := OwnA.init (TO := 67) (TW := 33) (base := w.heap.size) hc23 hc17 hge25 hge19
  refine r_call rfl (rlay_calls _ _ (s := 0) (i := 0) (S := ⟨[[0]], false⟩) (lim := n) h0 G.size (T.grow G) ⟨32, h1c⟩ (by simp) hlb1 hlb2 (fun _ => ⟨Fit.init hlb1, by simp, by simp [len2]⟩) (Nat.le_refl _)) ?_
  rintro v_ w26 ⟨⟨so_p, segs_p, rfl, h_p⟩, g_⟩
  replace hc4 := g_.heap hc4
  replace hc17 := g_.heap hc17
  replace hc23 := g_.heap hc23
  replace G := G.tr g_
  clear g_
  obtain ⟨ad_p, n_p, c_p, rfl⟩ := own_slice h_p.out
  clear h0
  refine stp (r_alloc ?_)
  intro b27 w28 hb29 hc30 g31
  refine stn (r_storeAll rfl rfl hc30 (by rfl) (by rfl) (by rfl) ?_)
  intro w32 hc33 u34
  have g35 := g31.upd u34 hb29
  have hge36 := Nat.le_trans G.size hb29
  have ne37 := Nat.ne_of_lt (Nat.lt_of_lt_of_le (lt_of_heap hc4) hb29)
  have ne38 := Nat.ne_of_lt (Nat.lt_of_lt_of_le (lt_of_heap hc17) hb29)
  have ne39 := Nat.ne_of_lt (Nat.lt_of_lt_of_le (lt_of_heap hc23) hb29)
  replace hc4 := g35.heap hc4
  replace hc17 := g35.heap hc17
  replace hc23 := g35.heap hc23
  replace h_p := h_p.grow g35
  replace G := G.tr g35
  clear u34 g31 hb29 hc30
  refine WL_nil ?_
  refine W_seq ?_
  refine W_seq (W_region rfl ?_)
  refine stp (r_fieldAddr rfl ?_)
  refine stp (r_load (v := .bool ((t.lay n ⟨[[0]], false⟩ 0 0).full)) rfl hc33 rfl ?_)
  refine WL_nil ?_
  refine W_cond2 (b := ((t.lay n ⟨[[0]], false⟩ 0 0).full)) rfl (fun h2 => ?_) (fun h2 => ?_)
  ·-- true
   have hb : t.build n = ([], 24) := by unfold Nd.build; rw [if_neg hnb, if_pos h2]
   refine W_seq (W_region rfl ?_)
   refine stp (r_assign_slice rfl ?_)
   refine stp (r_assign_int rfl ?_)
   refine WL_nil ?_
   refine W_ret ?_
   rw [hb]
   refine ret2 (res_tmp (v := .slice none 0 0) rfl) (res_tmp (v := .int .i64 24) rfl) ⟨_, _, rfl, OwnA.nil _ _ _ _, G⟩
  ·-- false
   have hb : t.build n = ((t.lay n ⟨[[0]], false⟩ 0 0).A, 0) := by unfold Nd.build; rw [if_neg hnb, if_neg (by rw [h2]; simp)]
   refine W_skip ?_
   refine W_seq (W_region rfl ?_)
   refine stp (r_fieldAddr rfl ?_)
   refine stp (r_load (v := .slice ad_p n_p c_p) rfl hc33 rfl ?_)
   refine stp (r_assign_slice rfl ?_)
   refine stp (r_assign_int rfl ?_)
   refine WL_nil ?_
   refine W_ret ?_
   rw [hb]
   refine ret2 (res_tmp (v := .slice ad_p n_p c_p) rfl) (res_tmp (v := .int .i64 0) rfl) ⟨_, _, rfl, h_p, G⟩
end Go.Proofs.YtifhcfhdajkhlaaGreat.K

namespace Go.Proofs.YtifhcfhdajkhlaaGreat.K
open Go Go.RowKit Go.Proofs
attribute [local irreducible] Run1 OpG WL W AO Gives
set_option maxRecDepth 100000 in
theorem cloneB_calls (w : World) {b : Addr} {n c : Nat} {xs : List Value} (hc : n ≤ c) (hc2 : c ≤ maxLen) (R : RowAt w 1 (some b) n xs) (h1 : ∀ q ∈ xs, q.oneCell' = true) (hb : n ≤ 17592186044416) : Calls Tryz.prog 83 #[.slice (some b) n c] w (Ret fun v w' => w'.ownsRow w.heap.size 5 1 v n xs ∧ Grow w w') := by
 have G := Grow.rfl' w
 refine calls_ret Tryz.func83 Tryz.ntmps83 Tryz.results83 rfl rfl ?_
 refine W_seq (W_region rfl ?_)
 refine stp (r_assign_slice rfl ?_)
 refine WL_nil ?_
 refine W_seq ?_
 refine W_seq (W_region rfl ?_)
 refine stp (r_move_slice rfl ?_)
 refine stp (r_eqlNil rfl rfl ?_)
 refine WL_nil ?_
 refine W_false rfl ?_
 refine W_skip ?_
 refine W_seq (W_region rfl ?_)
 refine stp (r_buildSlice (cs := #[]) (el := 5) (fun w => by kernel_rfl) ?_)
 intro bs_ w5_ hbs_ hcs_ g5_
 replace G := G.tr g5_
 clear g5_
 have own0 := own_lit0 (base := w.heap.size) (sz := 1) hcs_ (by have := G.size; omega)
 refine stp (r_move_slice rfl ?_)
 refine stp (r_append rfl rfl rfl rfl own0 ⟨_, c, rfl, hc, hc2, R.grow G⟩ h1 (by simp only [maxLen]; omega) (by omega) G.size ?_)
 intro v6 w6 own6 gr6
 have G6 := G.grown gr6 (own_ge own0)
 rw [Nat.zero_add, List.nil_append] at own6
 refine stp (r_assign (v := v6) rfl ?_)
 refine WL_nil ?_
 refine W_ret ?_
 exact ret1 (res_tmp rfl) ⟨own6, G6⟩

set_option maxRecDepth 100000 in
theorem cloneN_calls (w : World) {b : Addr} {n c : Nat} {xs : List Value} (hc : n ≤ c) (hc2 : c ≤ maxLen) (R : RowAt w 1 (some b) n xs) (h1 : ∀ q ∈ xs, q.oneCell' = true) (hb : n ≤ 17592186044416) : Calls Tryz.prog 33 #[.slice (some b) n c] w (Ret fun v w' => w'.ownsRow w.heap.size 3 1 v n xs ∧ Grow w w') := by
 have G := Grow.rfl' w
 refine calls_ret Tryz.func33 Tryz.ntmps33 Tryz.results33 rfl rfl ?_
 refine W_seq (W_region rfl ?_)
 refine stp (r_assign_slice rfl ?_)
 refine WL_nil ?_
 refine W_seq ?_
 refine W_seq (W_region rfl ?_)
 refine stp (r_move_slice rfl ?_)
 refine stp (r_eqlNil rfl rfl ?_)
 refine WL_nil ?_
 refine W_false rfl ?_
 refine W_skip ?_
 refine W_seq (W_region rfl ?_)
 refine stp (r_buildSlice (cs := #[]) (el := 3) (fun w => by kernel_rfl) ?_)
 intro bs_ w5_ hbs_ hcs_ g5_
 replace G := G.tr g5_
 clear g5_
 have own0 := own_lit0 (base := w.heap.size) (sz := 1) hcs_ (by have := G.size; omega)
 refine stp (r_move_slice rfl ?_)
 refine stp (r_append rfl rfl rfl rfl own0 ⟨_, c, rfl, hc, hc2, R.grow G⟩ h1 (by simp only [maxLen]; omega) (by omega) G.size ?_)
 intro v6 w6 own6 gr6
 have G6 := G.grown gr6 (own_ge own0)
 rw [Nat.zero_add, List.nil_append] at own6
 refine stp (r_assign (v := v6) rfl ?_)
 refine WL_nil ?_
 refine W_ret ?_
 exact ret1 (res_tmp rfl) ⟨own6, G6⟩

set_option maxRecDepth 100000 in
theorem rput_calls (w : World) {x : Int} (h0 : 0 ≤ x) (h1 : x ≤ 18446744073709551615) {k : Nat} (hk : k ≤ 8) : Calls Tryz.prog 40 #[.int .u64 x, .int .i64 (k : Int)] w (Ret fun v w' => w'.ownsRow w.heap.size 5 1 v k (((List.range k).map (byt1 x)).map (.int .u8)) ∧ Grow w w') := by
 have G := Grow.rfl' w
 refine calls_ret Tryz.func40 Tryz.ntmps40 Tryz.results40 rfl rfl ?_
 refine W_seq (W_region rfl ?_)
 refine stp (r_assign_slice rfl ?_)
 refine WL_nil ?_
 refine W_seq (W_region rfl ?_)
 refine stp (r_assign_slice rfl ?_)
 refine WL_nil ?_
 refine W_seq ?_
 refine W_seq (W_region rfl ?_)
 refine stp (r_assign_int rfl ?_)
 refine WL_nil ?_
 refine W_block ?_
 refine W_loop (fun m_ e_ w_ => ∃ (m : Nat) (ad3 : Option Addr) (n3 : Nat) (c3 : Nat), m_ = k - m ∧ Fr [(1, .int .i64 (k : Int)), (4, .slice none 0 0), (0, .int .u64 (x / 2 ^ (8 * m))), (5, .slice ad3 n3 c3), (6, .int .i64 (m : Int))] e_ ∧ (m ≤ k) ∧ (w_.ownsRow w.heap.size 5 1 (.slice ad3 n3 c3) m (((List.range m).map (byt1 x)).map (.int .u8))) ∧ Grow w w_) _ ⟨0, none, 0, 0, rfl, fr_of ⟨rfl, rfl, congrArg (Value.int .u64) (by simp), rfl, rfl, trivial⟩, by omega, World.ownsRow_nil _ _ _ _, G⟩ ?_
 clear G
 rintro m_ e_ w1 ⟨m, ad3, n3, c3, rfl, ⟨e2, rfl⟩, hm, own, G⟩
 have hxq := shr_range x m h0 h1
 refine W_seq ?_
 refine W_seq (W_region rfl ?_)
 refine stp (r_move_int rfl ?_)
 refine stp (r_move_int rfl ?_)
 refine stp (r_lss rfl rfl ?_)
 refine stp (r_move_bool rfl ?_)
 refine WL_some (og_if (s := .bool (decide ((m : Int) < (k : Int)))) (b := true) (v := .int .i64 (m : Int)) rfl (wgb_t _) (fun hc3 => ?_) ?_)
 ·
  have hc3_ := of_decide_eq_true hc3
  refine r_move_int rfl ?_
  exact ⟨rfl, rfl⟩
 refine WL_some (og_if (s := .bool (decide ((m : Int) < (k : Int)))) (b := true) (v := .bool (decide ((m : Int) < 8))) rfl (wgb_t _) (fun hc4 => ?_) ?_)
 ·
  have hc4_ := of_decide_eq_true hc4
  refine r_lss (gvt hc4) rfl ?_
  exact ⟨rfl, rfl⟩
 refine stp (r_and2 rfl rfl rfl ?_)
 refine WL_nil ?_
 refine W_cond2 (b := ((decide ((m : Int) < (k : Int))) && (decide ((m : Int) < 8)))) rfl (fun hlt => ?_) (fun hlt => ?_)
 ·-- true
  simp only [sb] at hlt
  refine W_skip ?_
  refine W_seq ?_
  refine W_block ?_
  refine W_seq (W_region rfl ?_)
  refine stp (r_move_slice rfl ?_)
  refine stp (r_move_int rfl ?_)
  refine stp (r_rem rfl rfl ?_ ?_ ?_); omega; omega
  refine stp (r_conv rfl ?_ ?_); constructor <;> omega
  refine stp (r_buildSlice (cs := #[.int .u8 ((x / 2 ^ (8 * m)) % 256)]) (el := 5) (fun w => by kernel_rfl) ?_)
  intro bs5 w6 hb7 hc8 g9
  have hge10 := Nat.le_trans G.size hb7
  replace own := own_grow own g9
  replace G := G.tr g9
  clear g9
  refine stp (r_append rfl rfl rfl rfl own (Row.of_block (n := 1) hc8 rfl rfl (by omega)) (fun q_ hq_ => by simp at hq_; subst hq_; rfl) (by simp only [maxLen]; omega) (by omega) G.size ?_)
  intro v11 w12 own6 gr6
  replace G := G.grown gr6 (own_ge own)
  clear own gr6
  obtain ⟨ad4, n4, c4, rfl⟩ := own_slice own6
  refine stp (r_assign_slice rfl ?_)
  refine WL_nil ?_
  refine W_region rfl ?_
  refine stp (r_move_int rfl ?_)
  refine stp (r_quo rfl rfl ?_ ?_ ?_ ?_); omega; omega; (constructor <;> omega)
  refine stp (r_assign_int rfl ?_)
  refine WL_nil ?_
  refine W_region rfl ?_
  refine stp (r_move_int rfl ?_)
  refine stp (r_add rfl rfl ?_ ?_); constructor <;> omega
  refine stp (r_assign_int rfl ?_)
  refine WL_nil ?_
  refine ⟨_, ?_, m + 1, ad4, n4, c4, rfl, fr_of ⟨rfl, rfl, congrArg (Value.int .u64) (shr_step x m), rfl, congrArg (Value.int .i64) (by omega), trivial⟩, by omega, (by rw [List.range_succ, List.map_append, List.map_append]; exact own6), G⟩
  omega
 ·-- false
  simp only [sb] at hlt
  have hm9 : m = k := by omega
  rw [hm9] at own
  refine W_exit ?_
  refine W_seq (W_region rfl ?_)
  refine stp (r_move_slice rfl ?_)
  refine stp (r_assign_slice rfl ?_)
  refine WL_nil ?_
  refine W_ret ?_
  refine ret1 (res_tmp (v := .slice ad3 n3 c3) rfl) ⟨own, G⟩

set_option maxRecDepth 100000 in
theorem rbytes_calls (w : World) {u : Value} {A : List (List Int)} (hA : ArenaR w u A) (hx : ∀ q ∈ A, ∀ x ∈ q, inR .u64 x) (hn : A.length ≤ 1000) (hl : ∀ i, len2 A i ≤ 100000) : Calls Tryz.prog 41 #[u] w (Ret fun v w' => w'.ownsRow w.heap.size 5 1 v (bytesA A).length ((bytesA A).map (.int .u8)) ∧ Grow w w') := by
 obtain ⟨ada, ca, segs, sa, sc, rfl, hca, hca2, RA, hsf, hrf⟩ := hA.fn
 have G := Grow.rfl' w
 refine calls_ret Tryz.func41 Tryz.ntmps41 Tryz.results41 rfl rfl ?_
 refine W_seq (W_region rfl ?_)
 refine stp (r_assign_slice rfl ?_)
 refine WL_nil ?_
 refine W_seq (W_region rfl ?_)
 refine stp (r_assign_slice rfl ?_)
 refine WL_nil ?_
 refine W_seq ?_
 refine W_seq (W_region rfl ?_)
 refine stp (r_assign_int rfl ?_)
 refine WL_nil ?_
 refine W_block ?_
 refine W_loop (fun m_ e_ w_ => ∃ (i : Nat) (ad3 : Option Addr) (n3 : Nat) (c3 : Nat), m_ = A.length - i ∧ Fr [(0, .slice ada A.length ca), (2, .slice none 0 0), (3, .slice ad3 n3 c3), (4, .int .i64 (i : Int))] e_ ∧ (i ≤ A.length) ∧ (w_.ownsRow w.heap.size 5 1 (.slice ad3 n3 c3) (bytesA (A.take i)).length ((bytesA (A.take i)).map (.int .u8))) ∧ Grow w w_) _ ⟨0, none, 0, 0, rfl, fr_of ⟨rfl, rfl, rfl, rfl, trivial⟩, by omega, World.ownsRow_nil _ _ _ _, G⟩ ?_
 clear G
 rintro m_ e_ w1 ⟨i, ad3, n3, c3, rfl, ⟨e2, rfl⟩, hi0, own, G⟩
 refine W_seq ?_
 refine W_seq (W_region rfl ?_)
 refine stp (r_move_int rfl ?_)
 refine stp (r_move_slice rfl ?_)
 refine stp (r_len rfl rfl rfl ?_)
 refine stp (r_lss rfl rfl ?_)
 refine WL_nil ?_
 refine W_cond2 (b := (decide ((i : Int) < (A.length : Int)))) rfl (fun hlt => ?_) (fun hlt => ?_)
 ·-- true
  replace hlt := of_decide_eq_true hlt
  have hi : i < A.length := by omega
  have hli := hl i
  obtain ⟨-, -, Rk⟩ := hrf i hi
  have lk := Rk.lim
  refine W_skip ?_
  refine W_seq ?_
  refine W_block ?_
  refine W_seq (W_region rfl ?_)
  refine stp (r_assign_int rfl ?_)
  refine WL_nil ?_
  refine W_block ?_
  have hbl := bytesA_len (A.take i)
  have htl := totalP_small (A := A) hn hl i
  refine W_loop (fun m_ e_ w_ => ∃ (k : Nat) (ad3 : Option Addr) (n3 : Nat) (c3 : Nat), m_ = len2 A i - k ∧ Fr [(0, .slice ada A.length ca), (2, .slice none 0 0), (4, .int .i64 (i : Int)), (3, .slice ad3 n3 c3), (5, .int .i64 (k : Int))] e_ ∧ (k ≤ len2 A i) ∧ (w_.ownsRow w.heap.size 5 1 (.slice ad3 n3 c3) (bytesA (A.take i) ++ ((A.getD i []).take k).flatMap byt8).length ((bytesA (A.take i) ++ ((A.getD i []).take k).flatMap byt8).map (.int .u8))) ∧ Grow w w_) _ ⟨0, ad3, n3, c3, rfl, fr_of ⟨rfl, rfl, rfl, rfl, rfl, trivial⟩, by omega, (by simpa using own), G⟩ ?_
  clear own
  clear G
  rintro m_ e_ w3 ⟨k, ad3, n3, c3, rfl, ⟨e4, rfl⟩, hk2, own, G⟩
  refine W_seq ?_
  refine W_seq (W_region rfl ?_)
  refine stp (r_move_int rfl ?_)
  refine stp (r_move_slice rfl ?_)
  refine stp (r_move_int rfl ?_)
  refine stp (r_indexN (RA.grow G) rfl rfl ?_ ?_); omega
  refine stp (r_loadR (v := .slice (sa i) (len2 A i) (sc i)) (m := 0) (RA.grow G) rfl (by rw [Nat.mul_one]; exact hsf _ (by omega)) ?_)
  refine stp (r_len rfl rfl rfl ?_)
  refine stp (r_lss rfl rfl ?_)
  refine WL_nil ?_
  refine W_cond2 (b := (decide ((k : Int) < ((len2 A i) : Int)))) rfl (fun hlk => ?_) (fun hlk => ?_)
  ·-- true
   replace hlk := of_decide_eq_true hlk
   have hk : k < (A.getD i []).length := by have e_ : len2 A i = (A.getD i []).length := rfl; omega
   have hxk := getD2_u64 hx i hk
   have hLn : (bytesA (A.take i) ++ ((A.getD i []).take k).flatMap byt8).length ≤ 900000000 := by rw [List.length_append, flat8_len, List.length_take]; omega
   refine W_skip ?_
   refine W_seq ?_
   refine W_block ?_
   refine W_seq (W_region rfl ?_)
   refine stp (r_move_slice rfl ?_)
   refine stp (r_move_int rfl ?_)
   refine stp (r_indexN (RA.grow G) rfl rfl ?_ ?_); omega
   refine stp (r_loadR (v := .slice (sa i) (len2 A i) (sc i)) (m := 0) (RA.grow G) rfl (by rw [Nat.mul_one]; exact hsf _ (by omega)) ?_)
   refine stp (r_move_int rfl ?_)
   refine stp (r_indexN (Rk.grow G) rfl rfl ?_ ?_); omega
   refine stp (r_loadR (v := .int .u64 ((A.getD i []).getD k 0)) (m := 0) (Rk.grow G) rfl (map_get1 0 (by simp only [len2] at *; omega)) ?_)
   refine WL_some (og rfl ?_)
   refine r_call rfl (rput_calls _ hxk.1 hxk.2 (k := 8) (by decide)) ?_
   rintro v8 w5 ⟨o8, g_⟩
   replace own := own_grow own g_
   replace G := G.tr g_
   clear g_
   have R8 := own_row o8 (by decide)
   clear o8
   refine stp (r_assign (v := v8) rfl ?_)
   refine WL_nil ?_
   refine W_region rfl ?_
   refine stp (r_move_slice rfl ?_)
   refine stp (r_move (v := v8) rfl ?_)
   refine stp (r_append rfl rfl rfl rfl own R8 (fun q_ hq_ => by obtain ⟨z_, -, rfl⟩ := List.mem_map.1 hq_; rfl) (by simp only [maxLen]; omega) (by omega) G.size ?_)
   intro v6 w7 own6 gr6
   replace G := G.grown gr6 (own_ge own)
   clear own gr6
   obtain ⟨ad4, n4, c4, rfl⟩ := own_slice own6
   refine stp (r_assign_slice rfl ?_)
   refine WL_nil ?_
   refine W_region rfl ?_
   refine stp (r_move_int rfl ?_)
   refine stp (r_add rfl rfl ?_ ?_); constructor <;> omega
   refine stp (r_assign_int rfl ?_)
   refine WL_nil ?_
   refine ⟨_, ?_, k + 1, ad4, n4, c4, rfl, fr_of ⟨rfl, rfl, rfl, rfl, congrArg (Value.int .i64) (by omega), trivial⟩, by omega, (by rw [show bytesA (A.take i) ++ ((A.getD i []).take (k + 1)).flatMap byt8 = (bytesA (A.take i) ++ ((A.getD i []).take k).flatMap byt8) ++ byt8 ((A.getD i []).getD k 0) from by rw [flat8_take hk, List.append_assoc], List.length_append, List.map_append, byt8_len]; exact own6), G⟩
   omega
  ·-- false
   replace hlk := of_decide_eq_false hlk
   have hk9 : k = (A.getD i []).length := by have e_ : len2 A i = (A.getD i []).length := rfl; omega
   rw [hk9, List.take_length, ← bytesA_take hi] at own
   refine W_exit ?_
   refine W_region rfl ?_
   refine stp (r_move_int rfl ?_)
   refine stp (r_add rfl rfl ?_ ?_); constructor <;> omega
   refine stp (r_assign_int rfl ?_)
   refine WL_nil ?_
   refine ⟨_, ?_, i + 1, ad3, n3, c3, rfl, fr_of ⟨rfl, rfl, rfl, congrArg (Value.int .i64) (by omega), trivial⟩, by omega, own, G⟩
   omega
 ·-- false
  replace hlt := of_decide_eq_false hlt
  have hi9 : i = A.length := by omega
  rw [hi9, List.take_length] at own
  refine W_exit ?_
  refine W_seq (W_region rfl ?_)
  refine stp (r_move_slice rfl ?_)
  refine stp (r_assign_slice rfl ?_)
  refine WL_nil ?_
  refine W_ret ?_
  refine ret1 (res_tmp (v := .slice ad3 n3 c3) rfl) ⟨own, G⟩

set_option maxRecDepth 100000 in
theorem rsizesO_calls (w : World) {u : Value} {A : List (List Int)} (hA : ArenaR w u A) (hn : A.length ≤ 8796093022208) : Calls Tryz.prog 39 #[u] w (Ret fun v w' => ∃ ad c, v = .slice ad A.length c ∧ A.length ≤ c ∧ w'.ownsRow w.heap.size 3 1 (.slice ad A.length c) A.length ((sizesP A).map (.int .i64)) ∧ Grow w w') := by
 obtain ⟨ada, ca, segs, sa, sc, rfl, hca, hca2, RA, hsf, hrf⟩ := hA.fn
 have G := Grow.rfl' w
 refine calls_ret Tryz.func39 Tryz.ntmps39 Tryz.results39 rfl rfl ?_
 refine W_seq (W_region rfl ?_)
 refine stp (r_assign_slice rfl ?_)
 refine WL_nil ?_
 refine W_seq (W_region rfl ?_)
 refine stp (r_assign_slice rfl ?_)
 refine WL_nil ?_
 refine W_seq ?_
 refine W_seq (W_region rfl ?_)
 refine stp (r_assign_int rfl ?_)
 refine WL_nil ?_
 refine W_block ?_
 refine W_loop (fun m_ e_ w_ => ∃ (k : Nat) (ad3 : Option Addr) (n3 : Nat) (c3 : Nat), m_ = A.length - k ∧ Fr [(0, .slice ada A.length ca), (2, .slice none 0 0), (3, .slice ad3 n3 c3), (4, .int .i64 (k : Int))] e_ ∧ (k ≤ A.length) ∧ (w_.ownsRow w.heap.size 3 1 (.slice ad3 n3 c3) k ((sizesP (A.take k)).map (.int .i64))) ∧ Grow w w_) _ ⟨0, none, 0, 0, rfl, fr_of ⟨rfl, rfl, rfl, rfl, trivial⟩, by omega, World.ownsRow_nil _ _ _ _, G⟩ ?_
 clear G
 rintro m_ e_ w1 ⟨k, ad3, n3, c3, rfl, ⟨e2, rfl⟩, hk, own, G⟩
 refine W_seq ?_
 refine W_seq (W_region rfl ?_)
 refine stp (r_move_int rfl ?_)
 refine stp (r_move_slice rfl ?_)
 refine stp (r_len rfl rfl rfl ?_)
 refine stp (r_lss rfl rfl ?_)
 refine WL_nil ?_
 refine W_cond2 (b := (decide ((k : Int) < (A.length : Int)))) rfl (fun hlt => ?_) (fun hlt => ?_)
 ·-- true
  replace hlt := of_decide_eq_true hlt
  have hi : k < A.length := by omega
  have hlk := (hrf k hi).2.2.lim
  refine W_skip ?_
  refine W_seq ?_
  refine W_block ?_
  refine W_region rfl ?_
  refine stp (r_move_slice rfl ?_)
  refine stp (r_move_slice rfl ?_)
  refine stp (r_move_int rfl ?_)
  refine stp (r_indexN (RA.grow G) rfl rfl ?_ ?_); omega
  refine stp (r_loadR (v := .slice (sa k) (len2 A k) (sc k)) (m := 0) (RA.grow G) rfl (by rw [Nat.mul_one]; exact hsf _ (by omega)) ?_)
  refine stp (r_len rfl rfl rfl ?_)
  refine stp (r_buildSlice (cs := #[.int .i64 ((len2 A k) : Int)]) (el := 3) (fun w => by kernel_rfl) ?_)
  intro bs3 w4 hb5 hc6 g7
  have hge8 := Nat.le_trans G.size hb5
  replace own := own_grow own g7
  replace G := G.tr g7
  clear g7
  refine stp (r_append rfl rfl rfl rfl own (Row.of_block (n := 1) hc6 rfl rfl (by omega)) (fun q_ hq_ => by simp at hq_; subst hq_; rfl) (by simp only [maxLen]; omega) (by omega) G.size ?_)
  intro v9 w10 own6 gr6
  replace G := G.grown gr6 (own_ge own)
  clear own gr6
  obtain ⟨ad4, n4, c4, rfl⟩ := own_slice own6
  refine stp (r_assign_slice rfl ?_)
  refine WL_nil ?_
  refine W_region rfl ?_
  refine stp (r_move_int rfl ?_)
  refine stp (r_add rfl rfl ?_ ?_); constructor <;> omega
  refine stp (r_assign_int rfl ?_)
  refine WL_nil ?_
  refine ⟨_, ?_, k + 1, ad4, n4, c4, rfl, fr_of ⟨rfl, rfl, rfl, congrArg (Value.int .i64) (by omega), trivial⟩, by omega, (by rw [sizesP_take hi, List.map_append]; exact own6), G⟩
  omega
 ·-- false
  replace hlt := of_decide_eq_false hlt
  have hk2 : k = A.length := by omega
  subst hk2
  rw [List.take_length] at own
  have hn9 := own_len own
  subst hn9
  obtain ⟨_, _, hs9, hc9⟩ := own_shape own
  cases hs9
  refine W_exit ?_
  refine W_seq (W_region rfl ?_)
  refine stp (r_move_slice rfl ?_)
  refine stp (r_assign_slice rfl ?_)
  refine WL_nil ?_
  refine W_ret ?_
  refine ret1 (res_tmp (v := .slice ad3 A.length c3) rfl) ⟨_, _, rfl, hc9, own, G⟩

set_option maxRecDepth 100000 in
theorem rrightO_calls (w : World) {u : Value} {A : List (List Int)} (hA : ArenaR w u A) (hn : A.length ≤ 8796093022208) : Gives Tryz.prog 26 #[u] w (.bool (rightB A)) := by
 have hA0 := hA
 obtain ⟨ada, ca, segs, sa, sc, rfl, hca, hca2, RA, hsf, hrf⟩ := hA.fn
 have hr : ∀ x ∈ sizesP A, inR .i64 x := sizesP_rng (fun i hi => (hrf i hi).2.2.lim)
 have G := Grow.rfl' w
 refine gives_of Tryz.func26 Tryz.ntmps26 Tryz.results26 rfl rfl ?_
 refine W_seq (W_region rfl ?_)
 refine stp (r_assign (v := .bool false) rfl ?_)
 refine WL_nil ?_
 refine W_seq (W_region rfl ?_)
 refine stp (r_move_slice rfl ?_)
 refine WL_some (og rfl ?_)
 refine r_call rfl (rsizesO_calls _ (hA0.grow G) hn) ?_
 rintro v_ w1 ⟨ad9, c9, rfl, -, oZ, g_⟩
 replace G := G.tr g_
 clear g_
 obtain ⟨_, _, hs9, -, -, RZ⟩ := own_row oZ (by omega)
 cases hs9
 rw [← sizesP_len A] at RZ
 clear oZ
 refine stp (r_gives (v := .bool (rightB A)) rfl ((by have h_ := rfitsL_calls w1 (c := c9) RZ hr; rw [sizesP_len, fits_right] at h_; exact h_)) ?_)
 intro w2 g3
 replace RZ := RZ.grow g3
 replace G := G.tr g3
 clear g3
 refine stp (r_assign_bool rfl ?_)
 refine WL_nil ?_
 refine W_ret ?_
 refine ret1 (res_tmp (v := .bool (rightB A)) rfl) ⟨?_, G⟩
 rfl

set_option maxRecDepth 100000 in
theorem rof_calls (w : World) {u : Value} {A : List (List Int)} {ses : Int} (hA : ArenaR w u A) (hr : rightB A = true) (hx : ∀ q ∈ A, ∀ x ∈ q, inR .u64 x) (s0 : 0 ≤ ses) (s1 : ses ≤ 18446744073709551615) : Calls Tryz.prog 15 #[.int .u64 ses, u] w (Ret fun v w' => ∃ ad c, v = .tuple #[.agg #[.int .u64 ses, .slice ad A.length c, .int .u32 (sumA ses A)], .int .i64 0] ∧ A.length ≤ c ∧ w'.ownsRow w.heap.size 3 1 (.slice ad A.length c) A.length ((sizesP A).map (.int .i64)) ∧ Grow w w') := by
 have hA0 := hA
 obtain ⟨r1, r2, r3, r4⟩ := of_decide_eq_true hr
 have hl : ∀ i, len2 A i ≤ 4096 := fun i => by have := seg_le_total A i; omega
 have G := Grow.rfl' w
 refine calls_ret Tryz.func15 Tryz.ntmps15 Tryz.results15 rfl rfl ?_
 refine W_seq (W_region rfl ?_)
 refine stp (r_alloc ?_)
 intro b1 w2 hb3 hc4 g5
 refine stp (r_assign_int rfl ?_)
 refine WL_nil ?_
 refine W_seq ?_
 refine W_seq (W_region rfl ?_)
 refine stp (r_move (v := u) rfl ?_)
 have hge6 := Nat.le_trans G.size hb3
 replace G := G.tr g5
 clear g5 hb3
 refine stp (r_gives (v := .bool true) rfl (gives_eq (rrightO_calls _ (hA0.grow G) (by omega)) (y := .bool true) (by rw [hr])) ?_)
 intro w7 g8
 replace hc4 := g8.heap hc4
 replace G := G.tr g8
 clear g8
 refine stp (r_not_f rfl rfl ?_)
 refine WL_nil ?_
 refine W_false rfl ?_
 refine W_skip ?_
 refine W_seq (W_region rfl ?_)
 refine stp (r_move_int rfl ?_)
 refine stp (r_move (v := u) rfl ?_)
 refine WL_some (og rfl ?_)
 have hG3 := G.size
 refine r_call rfl (rsizesO_calls _ (hA0.grow G) (by omega)) ?_
 rintro v_ w9 ⟨adz, cz, rfl, hcz, oZ_, g_⟩
 have oZ := own_base oZ_ hG3
 clear oZ_
 replace hc4 := g_.heap hc4
 replace G := G.tr g_
 clear g_
 refine stp (r_build (v := .agg #[.int .u64 ses, .slice adz A.length cz, .int .u32 0]) (fun w => by kernel_rfl) ?_)
 refine stp (r_alloc ?_)
 intro b10 w11 hb12 hc13 g14
 refine stn (r_storeAll rfl rfl hc13 (by rfl) (by rfl) (by rfl) ?_)
 intro w15 hc16 u17
 have g18 := g14.upd u17 hb12
 have hge19 := Nat.le_trans G.size hb12
 have ne20 := Nat.ne_of_lt (Nat.lt_of_lt_of_le (lt_of_heap hc4) hb12)
 replace hc4 := g18.heap hc4
 replace oZ := own_grow oZ g18
 replace G := G.tr g18
 clear u17 g14 hb12 hc13
 refine WL_nil ?_
 refine W_seq (W_region rfl ?_)
 refine stp (r_move_int rfl ?_)
 refine WL_some (og rfl ?_)
 have hG4 := G.size
 refine r_call rfl (rput_calls _ s0 s1 (k := 8) (by decide)) ?_
 rintro v_ w21 ⟨o8_, g_⟩
 have o8 := own_base o8_ hG4
 clear o8_
 replace hc4 := g_.heap hc4
 replace oZ := own_grow oZ g_
 replace hc16 := g_.heap hc16
 replace G := G.tr g_
 clear g_
 obtain ⟨ad8, n8, c8, rfl⟩ := own_slice o8
 refine stp (r_assign_slice rfl ?_)
 refine WL_nil ?_
 refine W_seq ?_
 refine W_seq (W_region rfl ?_)
 refine stp (r_assign_int rfl ?_)
 refine WL_nil ?_
 refine W_block ?_
 refine W_loop (fun m_ e_ w_ => ∃ (i : Nat) (ad3 : Option Addr) (n3 : Nat) (c3 : Nat), m_ = A.length - i ∧ Fr [(1, u), (4, .pointer (some ⟨b1, 0, none⟩)), (5, .int .i64 0), (6, .pointer (some ⟨b10, 0, none⟩)), (7, .slice ad3 n3 c3), (8, .int .i64 (i : Int))] e_ ∧ (i ≤ A.length) ∧ (w_.heap[b1]? = some (.cells #[.int .u64 0, .slice none 0 0, .int .u32 0] 51 (0, 0))) ∧ (w_.ownsRow w.heap.size 3 1 (.slice adz A.length cz) A.length ((sizesP A).map (.int .i64))) ∧ (w_.heap[b10]? = some (.cells #[.int .u64 ses, .slice adz A.length cz, .int .u32 0] 51 (0, 0))) ∧ (w_.ownsRow w.heap.size 5 1 (.slice ad3 n3 c3) (((List.range 8).map (byt1 ses)) ++ ((sizesP A).take i).flatMap fun n => ((List.range 2).map (byt1 n))).length ((((List.range 8).map (byt1 ses)) ++ ((sizesP A).take i).flatMap fun n => ((List.range 2).map (byt1 n))).map (.int .u8))) ∧ Grow w w_) _ ⟨0, ad8, n8, c8, rfl, fr_of ⟨rfl, rfl, rfl, rfl, rfl, rfl, trivial⟩, by omega, hc4, oZ, hc16, (by simpa using o8), G⟩ ?_
 clear hc4 oZ hc16 o8
 clear G
 rintro m_ e_ w22 ⟨i, ad3, n3, c3, rfl, ⟨e23, rfl⟩, hi0, hc4, oZ, hc16, own, G⟩
 obtain ⟨_, _, hs9, -, -, RZ⟩ := own_row oZ (by omega)
 cases hs9
 refine W_seq ?_
 refine W_seq (W_region rfl ?_)
 refine stp (r_move_int rfl ?_)
 refine stp (r_fieldAddr rfl ?_)
 refine stp (r_load (v := .slice adz A.length cz) rfl hc16 rfl ?_)
 refine stp (r_len rfl rfl rfl ?_)
 refine stp (r_lss rfl rfl ?_)
 refine WL_nil ?_
 refine W_cond2 (b := (decide ((i : Int) < (A.length : Int)))) rfl (fun hlt => ?_) (fun hlt => ?_)
 ·-- true
  replace hlt := of_decide_eq_true hlt
  have hi : i < A.length := by omega
  have hsl := sizesP_len A
  have hzi := sizesP_at A i
  have hli := hl i
  have hle := pre_len ses (sizesP A) i
  refine W_skip ?_
  refine W_seq ?_
  refine W_block ?_
  refine W_seq (W_region rfl ?_)
  refine stp (r_fieldAddr rfl ?_)
  refine stp (r_load (v := .slice adz A.length cz) rfl hc16 rfl ?_)
  refine stp (r_move_int rfl ?_)
  refine stp (r_indexN RZ rfl rfl ?_ ?_); omega
  refine stp (r_loadR (v := .int .i64 ((sizesP A).getD i 0)) (m := 0) RZ rfl (map_get1 0 (by rw [sizesP_len]; omega)) ?_)
  refine stp (r_conv rfl ?_ ?_); constructor <;> omega
  refine WL_some (og rfl ?_)
  refine r_call rfl (rput_calls _ (x := (sizesP A).getD i 0) (by omega) (by omega) (k := 2) (by decide)) ?_
  rintro v8 w24 ⟨o2, g_⟩
  replace hc4 := g_.heap hc4
  replace oZ := own_grow oZ g_
  replace hc16 := g_.heap hc16
  replace own := own_grow own g_
  replace RZ := RZ.grow g_
  replace G := G.tr g_
  clear g_
  have R2 := own_row o2 (by decide)
  clear o2
  refine stp (r_assign (v := v8) rfl ?_)
  refine WL_nil ?_
  refine W_region rfl ?_
  refine stp (r_move_slice rfl ?_)
  refine stp (r_move (v := v8) rfl ?_)
  refine stp (r_append rfl rfl rfl rfl own R2 (fun q_ hq_ => by obtain ⟨z_, -, rfl⟩ := List.mem_map.1 hq_; rfl) (by simp only [maxLen]; omega) (by omega) G.size ?_)
  intro v25 w26 own6 gr6
  replace G := G.grown gr6 (own_ge own)
  replace hc4 := gr_heap gr6 hc4 (own_ne own hc4 (by decide))
  replace oZ := own_gr oZ own (by decide) gr6
  replace hc16 := gr_heap gr6 hc16 (own_ne own hc16 (by decide))
  clear own gr6
  obtain ⟨ad4, n4, c4, rfl⟩ := own_slice own6
  refine stp (r_assign_slice rfl ?_)
  refine WL_nil ?_
  refine W_region rfl ?_
  refine stp (r_move_int rfl ?_)
  refine stp (r_add rfl rfl ?_ ?_); constructor <;> omega
  refine stp (r_assign_int rfl ?_)
  refine WL_nil ?_
  refine ⟨_, ?_, i + 1, ad4, n4, c4, rfl, fr_of ⟨rfl, rfl, rfl, rfl, rfl, congrArg (Value.int .i64) (by omega), trivial⟩, by omega, hc4, oZ, hc16, (by rw [pre_step (by rw [sizesP_len]; exact hi), List.length_append, List.map_append]; simpa using own6), G⟩
  omega
 ·-- false
  replace hlt := of_decide_eq_false hlt
  clear RZ
  have hi9 : i = (sizesP A).length := by rw [sizesP_len]; omega
  rw [hi9, List.take_length] at own
  have hle := pre_len ses (sizesP A) (sizesP A).length
  rw [List.take_length] at hle
  have hsl := sizesP_len A
  have hbl := bytesA_len A
  refine W_exit ?_
  refine W_seq (W_region rfl ?_)
  refine stp (r_move (v := u) rfl ?_)
  refine WL_some (og rfl ?_)
  refine r_call rfl (rbytes_calls _ (hA0.grow G) hx (by omega) (fun i => by have := hl i; omega)) ?_
  rintro vb w27 ⟨oB, g_⟩
  replace hc4 := g_.heap hc4
  replace oZ := own_grow oZ g_
  replace hc16 := g_.heap hc16
  replace own := own_grow own g_
  replace G := G.tr g_
  clear g_
  have RB := own_row oB (by omega)
  clear oB
  refine stp (r_assign (v := vb) rfl ?_)
  refine WL_nil ?_
  refine W_seq (W_region rfl ?_)
  refine stp (r_move_slice rfl ?_)
  refine stp (r_move (v := vb) rfl ?_)
  refine stp (r_append rfl rfl rfl rfl own RB (fun q_ hq_ => by obtain ⟨z_, -, rfl⟩ := List.mem_map.1 hq_; rfl) (by simp only [maxLen]; omega) (by omega) G.size ?_)
  intro v28 w29 own6 gr6
  replace G := G.grown gr6 (own_ge own)
  replace hc4 := gr_heap gr6 hc4 (own_ne own hc4 (by decide))
  replace oZ := own_gr oZ own (by decide) gr6
  replace hc16 := gr_heap gr6 hc16 (own_ne own hc16 (by decide))
  clear own gr6
  obtain ⟨ad4, n4, c4, rfl⟩ := own_slice own6
  refine stp (r_assign_slice rfl ?_)
  refine WL_nil ?_
  refine W_seq (W_region rfl ?_)
  refine stp (r_move_slice rfl ?_)
  refine WL_some (og rfl ?_)
  have own7 := own6
  rw [← List.map_append, ← List.length_append] at own7
  obtain ⟨_, _, hs9, -, -, RS⟩ := own_row own7 (by rw [List.length_append]; omega)
  have hnl := own_len own7
  subst hnl
  cases hs9
  refine r_gives (v := .int .u32 (sumA ses A)) rfl (crcP_calls _ RS (sumA_isB ses A)) ?_
  intro w30 g31
  replace hc4 := g31.heap hc4
  replace oZ := own_grow oZ g31
  replace hc16 := g31.heap hc16
  replace own6 := own_grow own6 g31
  replace G := G.tr g31
  clear g31
  refine stp (r_fieldAddr rfl ?_)
  refine stn (r_store1 (v := .int .u32 (sumA ses A)) rfl rfl (by rfl) hc16 (by rfl) (by rfl) ?_)
  intro w32 hc33 u34
  replace hc4 := u34.heap hc4 ne20
  replace oZ := own_upd oZ u34 (own_ne oZ hc16 (by decide))
  replace own6 := own_upd own6 u34 (own_ne own6 hc16 (by decide))
  replace G := G.upd u34 hge19
  clear u34 hc16
  refine WL_nil ?_
  refine W_seq (W_region rfl ?_)
  refine stp (r_loadAll rfl hc33 (by rfl) ?_)
  refine stn (r_storeAll rfl rfl hc4 (by rfl) (by rfl) (by rfl) ?_)
  intro w35 hc36 u37
  replace oZ := own_upd oZ u37 (own_ne oZ hc4 (by decide))
  replace own6 := own_upd own6 u37 (own_ne own6 hc4 (by decide))
  replace hc33 := u37.heap hc33 ne20.symm
  replace G := G.upd u37 hge6
  clear u37 hc4
  refine stp (r_assign_int rfl ?_)
  refine WL_nil ?_
  refine W_ret ?_
  refine ret2 (res_all rfl hc36 (by rfl)) (res_tmp (v := .int .i64 0) rfl) ⟨adz, cz, rfl, hcz, oZ, G⟩

set_option maxRecDepth 100000 in
theorem rchunk_calls (w : World) {u : Value} {A : List (List Int)} (hA : ArenaR w u A) (hr : rightB A = true) (hx : ∀ q ∈ A, ∀ x ∈ q, inR .u64 x) {i : Nat} (hi : i ≤ 1000000) : Calls Tryz.prog 16 #[u, .int .i64 (i : Int)] w (Ret fun v w' => ∃ ad c, v = .slice ad (chunkA A i).length c ∧ (chunkA A i).length ≤ c ∧ c ≤ maxLen ∧ RowAt w' 1 ad (chunkA A i).length ((chunkA A i).map (.int .u8)) ∧ (0 < (chunkA A i).length → ∃ g q cs, ad = some ⟨g, q, none⟩ ∧ w.heap.size ≤ g ∧ w'.heap[g]? = some (.cells cs 5 (0, 0)) ∧ q + (chunkA A i).length ≤ cs.size) ∧ Grow w w') := by
 have hA0 := hA
 obtain ⟨r1, r2, r3, r4⟩ := of_decide_eq_true hr
 have hl : ∀ i, len2 A i ≤ 100000 := fun i => by have := seg_le_total A i; omega
 have hbl := bytesA_len A
 have hcl := chunkA_len A i
 have G := Grow.rfl' w
 refine calls_ret Tryz.func16 Tryz.ntmps16 Tryz.results16 rfl rfl ?_
 refine W_seq (W_region rfl ?_)
 refine stp (r_assign_slice rfl ?_)
 refine WL_nil ?_
 refine W_seq (W_region rfl ?_)
 refine stp (r_move (v := u) rfl ?_)
 refine WL_some (og rfl ?_)
 have hG4 := G.size
 refine r_call rfl (rbytes_calls _ (hA0.grow G) hx (by omega) hl) ?_
 rintro vb w1 ⟨oB_, g_⟩
 have oB := own_base oB_ hG4
 clear oB_
 replace G := G.tr g_
 clear g_
 have hs0 := seg_le_total A 0
 obtain ⟨g5, cb, cur5, rfl, hg5b, hg5, hcb, hcb2, hc53, hc54⟩ := own_pos oB (by omega)
 refine stp (r_assign_slice rfl ?_)
 refine WL_nil ?_
 refine W_seq ?_
 refine W_seq (W_region rfl ?_)
 refine stp (r_move (v := u) rfl ?_)
 refine stp (r_gives (v := .bool true) rfl (gives_eq (rrightO_calls _ (hA0.grow G) (by omega)) (y := .bool true) (by rw [hr])) ?_)
 intro w2 g3
 replace oB := own_grow oB g3
 replace hg5 := g3.heap hg5
 replace G := G.tr g3
 clear g3
 refine stp (r_not_f rfl rfl ?_)
 refine stp (r_move (v := .bool false) rfl ?_)
 refine stp (r_move_int rfl ?_)
 refine stp (r_lss rfl rfl ?_)
 refine stp (r_pick_f (v := .bool (decide ((i : Int) < 0))) rfl rfl rfl ?_)
 refine stp (r_move_bool rfl ?_)
 refine WL_some (og_if (s := .bool (decide ((i : Int) < 0))) (b := false) (v := .int .i64 (i : Int)) rfl (wgb_f _) (fun hc4 => ?_) ?_)
 ·
  have hc4_ := hc4
  try simp only [sb] at hc4_
  refine r_move_int rfl ?_
  exact ⟨rfl, rfl⟩
 refine WL_some (og_if (s := .bool (decide ((i : Int) < 0))) (b := false) (v := .slice (some ⟨g5, 0, none⟩) ((bytesA A).length) cb) rfl (wgb_f _) (fun hc5 => ?_) ?_)
 ·
  have hc5_ := hc5
  try simp only [sb] at hc5_
  refine r_move_slice rfl ?_
  exact ⟨rfl, rfl⟩
 refine WL_some (og_if (s := .bool (decide ((i : Int) < 0))) (b := false) (v := .int .i64 ((bytesA A).length : Int)) rfl (wgb_f _) (fun hc6 => ?_) ?_)
 ·
  have hc6_ := hc6
  try simp only [sb] at hc6_
  refine r_len rfl rfl (gvt hc6) ?_
  exact ⟨rfl, rfl⟩
 refine WL_some (og_if (s := .bool (decide ((i : Int) < 0))) (b := false) (v := .int .i64 (((bytesA A).length : Int) + 63)) rfl (wgb_f _) (fun hc7 => ?_) ?_)
 ·
  have hc7_ := hc7
  try simp only [sb] at hc7_
  refine r_add (gvt hc7) rfl ?_ ?_; constructor <;> omega
  exact ⟨rfl, rfl⟩
 refine WL_some (og_if (s := .bool (decide ((i : Int) < 0))) (b := false) (v := .int .i64 ((((bytesA A).length : Int) + 63) / 64)) rfl (wgb_f _) (fun hc8 => ?_) ?_)
 ·
  have hc8_ := hc8
  try simp only [sb] at hc8_
  refine r_quo (gvt hc8) rfl ?_ ?_ ?_ ?_; omega; omega; (constructor <;> omega)
  exact ⟨rfl, rfl⟩
 refine WL_some (og_if (s := .bool (decide ((i : Int) < 0))) (b := false) (v := .bool (decide ((i : Int) ≥ ((((bytesA A).length : Int) + 63) / 64)))) rfl (wgb_f _) (fun hc9 => ?_) ?_)
 ·
  have hc9_ := hc9
  try simp only [sb] at hc9_
  refine r_geq (gvt hc9) (gvt hc9) ?_
  exact ⟨rfl, rfl⟩
 refine stp (r_or2 rfl rfl rfl ?_)
 refine WL_nil ?_
 refine W_cond2 (b := ((decide ((i : Int) < 0)) || (decide ((i : Int) ≥ ((((bytesA A).length : Int) + 63) / 64))))) rfl (fun h1 => ?_) (fun h1 => ?_)
 ·-- true
  simp only [sb] at h1
  have h0 : chunkA A i = [] := List.eq_nil_of_length_eq_zero (by omega)
  refine W_seq (W_region rfl ?_)
  refine stp (r_assign_slice rfl ?_)
  refine WL_nil ?_
  refine W_ret ?_
  rw [h0]
  refine ret1 (res_tmp (v := .slice none 0 0) rfl) ⟨none, 0, rfl, Nat.le_refl _, Nat.zero_le _, RowAt.empty _ _ _, fun h_ => by simp at h_, G⟩
 ·-- false
  simp only [sb] at h1
  refine W_skip ?_
  refine W_seq (W_region rfl ?_)
  refine stp (r_move_slice rfl ?_)
  refine stp (r_move_int rfl ?_)
  refine stp (r_mul rfl rfl ?_ ?_); constructor <;> omega
  refine stp (r_move_int rfl ?_)
  refine stp (r_mul rfl rfl ?_ ?_); constructor <;> omega
  refine stp (r_add rfl rfl ?_ ?_); constructor <;> omega
  refine stp (r_move_slice rfl ?_)
  refine stp (r_len rfl rfl rfl ?_)
  refine WL_some (og rfl ?_)
  refine r_min rfl rfl rfl ?_
  rw [show (if ((bytesA A).length : Int) < 64 * (i : Int) + 64 then ((bytesA A).length : Int) else 64 * (i : Int) + 64) = ((64 * i + (chunkA A i).length : Nat) : Int) from by split <;> omega]
  refine WL_some (og rfl ?_)
  refine r_sliceLH (l := 64 * (i : Int)) rfl rfl rfl (by omega) (by omega) (by omega) ?_
  rw [show (64 * (i : Int)).toNat = 64 * i from by omega, Int.toNat_natCast, show 64 * i + (chunkA A i).length - 64 * i = (chunkA A i).length from by omega]
  refine stp (r_assign_slice rfl ?_)
  refine WL_nil ?_
  refine W_ret ?_
  obtain ⟨_, _, hs9, hcc, hcm, RB⟩ := own_row oB (by omega)
  cases hs9
  have RC := RB.sliceLH (l := 64 * i) (m := (chunkA A i).length) hcb (by omega) (by decide)
  have he9 : (((bytesA A).map (Value.int .u8)).drop (64 * i * 1)).take ((chunkA A i).length * 1) = (chunkA A i).map (.int .u8) := by rw [Nat.mul_one, Nat.mul_one, ← List.map_drop, ← List.map_take, chunkA_eq]
  rw [he9] at RC
  refine ret1 (res_tmp (v := .slice (if cb = 64 * i then some ⟨g5, 0, none⟩ else (some ⟨g5, 0, none⟩ : Option Addr).map (·.add (64 * i * 1))) ((chunkA A i).length) (cb - 64 * i)) rfl) ⟨_, _, rfl, by omega, by omega, RC, fun hp_ => ⟨g5, 64 * i, cur5, by rw [if_neg (by omega)]; show some (Addr.add _ _) = _; rw [add_lit, Nat.mul_one, Nat.zero_add], hg5b, hg5, by omega⟩, G⟩

set_option maxRecDepth 100000 in
theorem bmake_calls (w : World) {n : Nat} (hn : n ≤ 65536) : Calls Tryz.prog 35 #[.int .i64 (n : Int)] w (Ret fun v w' => ∃ b, v = .slice (some ⟨b, 0, none⟩) ((n + 7) / 8) ((n + 7) / 8) ∧ w.heap.size ≤ b ∧ w'.ownsRow w.heap.size 5 1 (.slice (some ⟨b, 0, none⟩) ((n + 7) / 8) ((n + 7) / 8)) ((n + 7) / 8) ((List.replicate ((n + 7) / 8) (0 : Int)).map (.int .u8)) ∧ Grow w w') := by
 have G := Grow.rfl' w
 refine calls_ret Tryz.func35 Tryz.ntmps35 Tryz.results35 rfl rfl ?_
 refine W_seq (W_region rfl ?_)
 refine stp (r_assign_slice rfl ?_)
 refine WL_nil ?_
 refine W_seq (W_region rfl ?_)
 refine stp (r_move_int rfl ?_)
 refine WL_some (og rfl ?_)
 refine r_min rfl rfl rfl ?_
 rw [if_neg (by omega)]
 refine WL_some (og rfl ?_)
 refine r_max rfl rfl rfl ?_
 rw [show (if (n : Int) > 0 then (n : Int) else 0) = (n : Int) from by split <;> omega]
 refine stp (r_gives (v := .int .i64 (((n + 7) / 8 : Nat) : Int)) rfl (gives_eq (ceil_calls _ _ (by omega) (by omega)) (y := .int .i64 (((n + 7) / 8 : Nat) : Int)) (by congr 1 <;> omega)) ?_)
 intro w1 g2
 replace G := G.tr g2
 clear g2
 refine stp (r_make (n := ((n + 7) / 8)) (base := w.heap.size) rfl rfl (by first | omega | (simp only [maxLen]; omega)) (by first | omega | (simp only [maxLen]; omega)) G.size ?_)
 intro bm6 w3 hb4 own7 g5
 rw [show (madeCells (Value.cells (.int .u8 0 : Value)) (((n + 7) / 8) * 1)).toList = List.replicate ((n + 7) / 8) (.int .u8 0) from by rw [Nat.mul_one]; exact toList_madeCells_one _ _] at own7
 replace G := G.tr g5
 clear g5
 refine stp (r_assign_slice rfl ?_)
 refine WL_nil ?_
 refine W_ret ?_
 refine ret1 (res_tmp (v := .slice (some ⟨bm6, 0, none⟩) ((n + 7) / 8) ((n + 7) / 8)) rfl) ⟨bm6, rfl, (own_ge own7 _ rfl), by rw [List.map_replicate]; exact own7, G⟩

set_option maxRecDepth 100000 in
theorem bset_calls (w : World) {b : Addr} {c : Nat} {xs : List Int} (hc : xs.length ≤ c) (hc2 : c ≤ maxLen) (R : RowAt w 1 (some b) xs.length (xs.map (.int .u8))) (hx : isB xs) {i : Nat} (hi : i / 8 < xs.length) (hl : xs.length ≤ 100000) : Calls Tryz.prog 47 #[.slice (some b) xs.length c, .int .i64 (i : Int)] w (Ret fun v w' => ∃ h c', v = .slice (some ⟨h, 0, none⟩) xs.length c' ∧ w.heap.size ≤ h ∧ w'.ownsRow w.heap.size 5 1 (.slice (some ⟨h, 0, none⟩) xs.length c') xs.length ((setQ xs i).map (.int .u8)) ∧ Grow w w') := by
 have G := Grow.rfl' w
 refine calls_ret Tryz.func47 Tryz.ntmps47 Tryz.results47 rfl rfl ?_
 refine W_seq (W_region rfl ?_)
 refine stp (r_assign_slice rfl ?_)
 refine WL_nil ?_
 refine W_seq (W_region rfl ?_)
 refine stp (r_move_slice rfl ?_)
 refine WL_some (og rfl ?_)
 refine r_call rfl (cloneB_calls _ hc hc2 (R.grow G) (fun q_ hq_ => by obtain ⟨z_, -, rfl⟩ := List.mem_map.1 hq_; rfl) (by omega)) ?_
 rintro vb w1 ⟨oB_, g_⟩
 have oB := own_base oB_ G.size
 clear oB_
 replace G := G.tr g_
 clear g_
 obtain ⟨g5, c5, cur5, rfl, hg5b, hg5, hc51, hc52, hc53, hc54⟩ := own_pos oB (by omega)
 obtain ⟨_, _, hs9, -, -, R5⟩ := own_row oB (by omega)
 cases hs9
 refine stp (r_assign_slice rfl ?_)
 refine WL_nil ?_
 refine W_seq ?_
 refine W_seq (W_region rfl ?_)
 refine stp (r_move_int rfl ?_)
 refine stp (r_geq rfl rfl ?_)
 refine stp (r_move_bool rfl ?_)
 refine WL_some (og_if (s := .bool (decide ((i : Int) ≥ 0))) (b := true) (v := .int .i64 (i : Int)) rfl (wgb_t _) (fun hc2 => ?_) ?_)
 ·
  have hc2_ := of_decide_eq_true hc2
  refine r_move_int rfl ?_
  exact ⟨rfl, rfl⟩
 refine WL_some (og_if (s := .bool (decide ((i : Int) ≥ 0))) (b := true) (v := .int .i64 ((i / 8 : Nat) : Int)) rfl (wgb_t _) (fun hc3 => ?_) ?_)
 ·
  have hc3_ := of_decide_eq_true hc3
  refine r_quo (gvt hc3) rfl ?_ ?_ ?_ ?_; omega; omega; (constructor <;> omega)
  rw [show (i : Int) / 8 = ((i / 8 : Nat) : Int) from by omega]
  exact ⟨rfl, rfl⟩
 refine WL_some (og_if (s := .bool (decide ((i : Int) ≥ 0))) (b := true) (v := .slice (some ⟨g5, 0, none⟩) xs.length c5) rfl (wgb_t _) (fun hc4 => ?_) ?_)
 ·
  have hc4_ := of_decide_eq_true hc4
  refine r_move_slice rfl ?_
  exact ⟨rfl, rfl⟩
 refine WL_some (og_if (s := .bool (decide ((i : Int) ≥ 0))) (b := true) (v := .int .i64 (xs.length : Int)) rfl (wgb_t _) (fun hc5 => ?_) ?_)
 ·
  have hc5_ := of_decide_eq_true hc5
  refine r_len rfl rfl (gvt hc5) ?_
  exact ⟨rfl, rfl⟩
 refine WL_some (og_if (s := .bool (decide ((i : Int) ≥ 0))) (b := true) (v := .bool (decide (((i / 8 : Nat) : Int) < (xs.length : Int)))) rfl (wgb_t _) (fun hc6 => ?_) ?_)
 ·
  have hc6_ := of_decide_eq_true hc6
  refine r_lss (gvt hc6) (gvt hc6) ?_
  exact ⟨rfl, rfl⟩
 refine stp (r_and2 rfl rfl rfl ?_)
 refine WL_nil ?_
 refine W_true (show _ = Value.bool true from congrArg Value.bool (by rw [decide_eq_true (show (i : Int) ≥ 0 by omega), decide_eq_true (show ((i / 8 : Nat) : Int) < (xs.length : Int) by omega)]; rfl)) ?_
 refine W_any 9 [[], [], [0], [2, 1, 0], [3, 2, 1, 0], [], [0], [1, 0], [7, 6, 5, 4, 3, 2, 1, 0]] mixed (by kernel_rfl) (by kernel_rfl) (by kernel_rfl) ?_
 intro w7 g8
 replace oB := own_grow oB g8
 replace hg5 := g8.heap hg5
 replace R5 := R5.grow g8
 replace G := G.tr g8
 clear g8
 apply AO_ex
 ·intro w_ g_; refine og rfl ?_; refine r_move_slice rfl ?_; exact ⟨Grow.rfl' _, rfl⟩
 apply AO_ex
 ·intro w_ g_; refine og rfl ?_; refine r_move_int rfl ?_; exact ⟨Grow.rfl' _, rfl⟩
 apply AO_ex
 ·intro w_ g_; refine og rfl ?_; refine r_quo rfl rfl ?_ ?_ ?_ ?_; omega; omega; (constructor <;> omega); rw [show (i : Int) / 8 = ((i / 8 : Nat) : Int) from by omega]; exact ⟨Grow.rfl' _, rfl⟩
 apply AO_ex
 ·intro w_ g_; refine og rfl ?_; refine r_indexN (R5.grow g_) rfl rfl ?_ ?_; omega; exact ⟨Grow.rfl' _, rfl⟩
 apply AO_ex
 ·intro w_ g_; refine og rfl ?_; refine r_loadR (v := .int .u8 (xs.getD (i / 8) 0)) (m := 0) (R5.grow g_) rfl (map_get1 0 (by omega)) ?_; exact ⟨Grow.rfl' _, rfl⟩
 apply AO_ex
 ·intro w_ g_; refine og rfl ?_; refine r_move_int rfl ?_; exact ⟨Grow.rfl' _, rfl⟩
 apply AO_ex
 ·intro w_ g_; refine og rfl ?_; refine r_rem rfl rfl ?_ ?_ ?_; omega; omega; rw [show (i : Int) % 8 = ((i % 8 : Nat) : Int) from by omega]; exact ⟨Grow.rfl' _, rfl⟩
 apply AO_ex
 ·intro w_ g_; refine og rfl ?_; refine r_shl rfl rfl ?_ ?_; omega; rw [show min ((i % 8 : Nat) : Int).toNat (IntKind.bits .u8) = i % 8 from by simp only [IntKind.bits]; omega]; exact ⟨Grow.rfl' _, rfl⟩
 apply AO_ex
 ·intro w_ g_; refine og rfl ?_; refine r_or rfl rfl ?_; exact ⟨Grow.rfl' _, rfl⟩
 refine AO_nil ?_
 intro w9 g10
 replace oB := own_grow oB g10
 replace hg5 := g10.heap hg5
 replace R5 := R5.grow g10
 replace G := G.tr g10
 clear g10
 refine WL_some (og rfl ?_)
 refine r_indexAddr (b := g5) (o := 0) rfl rfl (by omega) (by omega) ?_
 rw [Int.toNat_natCast, Nat.zero_add, Nat.mul_one]
 refine stn (r_store1 (v := .int .u8 (orB (xs.getD (i / 8) 0) (i % 8))) rfl rfl rfl hg5 (Nat.ble_eq_true_of_le (by omega)) rfl ?_)
 intro w7 hs6 u7
 have o7 := own_setcell (i := i / 8) (x := .int .u8 (orB (xs.getD (i / 8) 0) (i % 8))) oB hg5 hs6 (by simp)
 replace G := G.upd u7 hg5b
 rw [← List.map_set] at o7
 refine WL_nil ?_
 refine W_seq (W_region rfl ?_)
 refine stp (r_move_slice rfl ?_)
 refine stp (r_assign_slice rfl ?_)
 refine WL_nil ?_
 refine W_ret ?_
 refine ret1 (res_tmp (v := .slice (some ⟨g5, 0, none⟩) xs.length c5) rfl) ⟨g5, c5, rfl, hg5b, o7, G⟩
end Go.Proofs.YtifhcfhdajkhlaaGreat.K

namespace Go.Proofs.YtifhcfhdajkhlaaGreat.K
open Go Go.RowKit
/-- A part: its box, the blocks of its words and of what is known. -/
structure PartR (TP TI TW TB : TypeId) (w : World) (base b g h : Nat) (ses sum : Int) (sz wl kb : List Int) : Prop where
  fit : fitsL sz = true
  lw : wl.length = wordsM sz
  lk : kb.length = (chunksM sz + 7) / 8
  ub : isB kb
  uw : ∀ x ∈ wl, inR .u64 x
  hb : base ≤ b
  mem : ∃ ads cs cw ck, w.heap[b]? = some (.cells #[.int .u64 ses, .slice ads sz.length cs, .int .u32 sum, .slice ads sz.length cs, .slice (some ⟨g, 0, none⟩) wl.length cw, .slice (some ⟨h, 0, none⟩) kb.length ck] TP (0, 0)) ∧
    w.ownsRow base TI 1 (.slice ads sz.length cs) sz.length (sz.map (.int .i64)) ∧ w.ownsRow base TW 1 (.slice (some ⟨g, 0, none⟩) wl.length cw) wl.length (wordsV wl) ∧ w.ownsRow base TB 1 (.slice (some ⟨h, 0, none⟩) kb.length ck) kb.length (kb.map (.int .u8))
section
variable {TP TI TW TB : TypeId} {w w' : World} {base b g h : Nat} {ses sum : Int} {sz wl kb : List Int}
theorem PartR.keep {F : List Nat} (H : PartR TP TI TW TB w base b g h ses sum sz wl kb) (k : Kp F w w') (hF : ∀ x ∈ F, x ≠ b ∧ x ≠ g ∧ x ≠ h ∧ ∃ cs T fr, w.heap[x]? = some (.cells cs T fr) ∧ TI ≠ T) : PartR TP TI TW TB w' base b g h ses sum sz wl kb := by
  obtain ⟨h1, h2, h3, h4, h5, h6, ads, cs, cw, ck, hB, oS, oW, oK⟩ := H
  refine ⟨h1, h2, h3, h4, h5, h6, ads, cs, cw, ck, k.heap hB (fun hm => (hF b hm).1 rfl), own_keepB oS k (fun q hq hm => ?_), own_keepB oW k (fun q hq hm => ?_), own_keepB oK k (fun q hq hm => ?_)⟩
  · obtain ⟨-, -, -, cs, T, fr, hc, hT⟩ := hF q hm
    exact own_ne oS hc hT hq
  · simp only [Value.ownBlock, Option.some.injEq] at hq; exact (hF q hm).2.1 hq.symm
  · simp only [Value.ownBlock, Option.some.injEq] at hq; exact (hF q hm).2.2.1 hq.symm
theorem PartR.grow (H : PartR TP TI TW TB w base b g h ses sum sz wl kb) (k : Grow w w') : PartR TP TI TW TB w' base b g h ses sum sz wl kb := H.keep (F := []) (Kp.of_grow k) (fun x hx => by simp at hx)
theorem PartR.words (H : PartR TP TI TW TB w base b g h ses sum sz wl kb) : ∃ cur, w.heap[g]? = some (.cells cur TW (0, 0)) := by
  obtain ⟨h1, h2, h3, h4, h5, h6, ads, cs, cw, ck, hB, oS, oW, oK⟩ := H
  obtain ⟨g5, c5, cur5, he, -, hg, -⟩ := own_pos oW (by have := (wordsM_fit h1).2; omega)
  simp only [Value.slice.injEq, Option.some.injEq, Addr.mk.injEq, and_true, true_and] at he
  obtain ⟨rfl, -⟩ := he
  exact ⟨_, hg⟩
theorem PartR.bases (H : PartR TP TI TW TB w base b g h ses sum sz wl kb) : base ≤ b ∧ base ≤ g ∧ base ≤ h := by
  obtain ⟨h1, h2, h3, h4, h5, h6, ads, cs, cw, ck, hB, oS, oW, oK⟩ := H
  exact ⟨h6, own_ge oW _ rfl, own_ge oK _ rfl⟩
end
theorem fits_rng {sz : List Int} (h : fitsL sz = true) : ∀ x ∈ sz, inR .i64 x := fun x hx => by
  obtain ⟨i, hi, rfl⟩ := List.getElem_of_mem hx
  have := fitsL_size h i
  rw [List.getD_eq_getElem?_getD, List.getElem?_eq_getElem hi] at this
  simp only [Option.getD_some] at this
  simp only [inR]; omega
/-! ### what a part answers -/
def ovl (wl : List Int) (a : Nat) (l : List Int) : List Int := wl.take a ++ l ++ wl.drop (a + l.length)
theorem ovl_len {wl l : List Int} {a : Nat} (h : a + l.length ≤ wl.length) : (ovl wl a l).length = wl.length := by
  unfold ovl
  simp only [List.length_append, List.length_take, List.length_drop]
  omega
theorem ovl_get {wl l : List Int} {a : Nat} (h : a + l.length ≤ wl.length) (j : Nat) : (ovl wl a l).getD j 0 = if a ≤ j ∧ j < a + l.length then l.getD (j - a) 0 else wl.getD j 0 := by
  unfold ovl
  simp only [List.getD_eq_getElem?_getD]
  by_cases h1 : j < a
  · rw [if_neg (by omega), List.append_assoc, List.getElem?_append_left (by rw [List.length_take]; omega), List.getElem?_take_of_lt h1]
  · rw [List.append_assoc, List.getElem?_append_right (by rw [List.length_take]; omega), List.length_take, show min a wl.length = a from by omega]
    by_cases h2 : j < a + l.length
    · rw [if_pos (by omega), List.getElem?_append_left (by omega)]
    · rw [if_neg (by omega), List.getElem?_append_right (by omega), List.getElem?_drop]
      congr 2; omega
theorem ovl_nil (wl : List Int) (a : Nat) : ovl wl a [] = wl := by unfold ovl; simp
theorem ovl_snoc {wl l : List Int} {a : Nat} {x : Int} (h : a + l.length < wl.length) : ovl wl a (l ++ [x]) = (ovl wl a l).set (a + l.length) x := by
  unfold ovl
  have hl : (wl.take a ++ l).length = a + l.length := by rw [List.length_append, List.length_take]; omega
  rw [List.set_append_right _ _ (by omega), hl, Nat.sub_self, List.length_append, List.length_singleton]
  have hd : wl.drop (a + l.length) = wl[a + l.length] :: wl.drop (a + l.length + 1) := List.drop_eq_getElem_cons h
  rw [hd, List.set_cons_zero, ← List.append_assoc, Nat.add_assoc]
  simp
theorem ovl_mem {wl l : List Int} {a : Nat} {Q : Int → Prop} (h1 : ∀ x ∈ wl, Q x) (h2 : ∀ x ∈ l, Q x) : ∀ x ∈ ovl wl a l, Q x := by
  intro x hx
  unfold ovl at hx
  rcases List.mem_append.1 hx with hx | hx
  · rcases List.mem_append.1 hx with hx | hx
    · exact h1 x (List.mem_of_mem_take hx)
    · exact h2 x hx
  · exact h1 x (List.mem_of_mem_drop hx)
def putOk (sz : List Int) (i : Int) (n : Nat) : Bool := decide (0 ≤ i ∧ i < (chunksM sz : Int) ∧ (n : Int) = sizeM sz i)
def putDo (sz kb : List Int) (i : Int) (n : Nat) : Bool := putOk sz i n && !bitQ kb i.toNat
def putW (sz wl kb : List Int) (i : Int) (xs : List Int) : List Int := if putDo sz kb i xs.length then ovl wl (8 * i.toNat) (chunksP xs) else wl
def putK (sz kb : List Int) (i : Int) (n : Nat) : List Int := if putDo sz kb i n then setQ kb i.toNat else kb
theorem chunksP_len (xs : List Int) : (chunksP xs).length = (xs.length + 7) / 8 := by simp [chunksP]
theorem put_fits {sz : List Int} {i : Nat} {n : Nat} (h : putOk sz i n = true) : i < chunksM sz ∧ (n : Int) = sizeM sz i ∧ 8 * i + (n + 7) / 8 ≤ wordsM sz ∧ 1 ≤ (n + 7) / 8 ∧ n ≤ 64 := by
  obtain ⟨h1, h2, h3⟩ := of_decide_eq_true h
  have hle := wordsM_le sz
  have hc : chunksM sz = (wordsM sz + 7) / 8 := rfl
  have hs : sizeM sz i = min 64 (8 * (wordsM sz : Int) - 64 * i) := by unfold sizeM; rw [if_neg (by omega)]
  rw [hs] at h3
  omega
theorem putDo_of {sz kb : List Int} {i : Int} {n : Nat} (h1 : putOk sz i n = true) (h2 : bitQ kb i.toNat = false) : putDo sz kb i n = true := by unfold putDo; rw [h1, h2]; rfl
theorem putDo_no {sz kb : List Int} {i : Int} {n : Nat} (h : putOk sz i n = false ∨ bitQ kb i.toNat = true) : putDo sz kb i n = false := by
  unfold putDo
  rcases h with h | h
  · rw [h]; rfl
  · rw [h]; simp
theorem chunksP_u64 {xs : List Int} (h : isB xs) : ∀ x ∈ chunksP xs, inR .u64 x := fun x hx => by
  obtain ⟨j, _, rfl⟩ := List.mem_map.1 hx
  have := getP_range ((xs.drop (8 * j)).take 8) (fun y hy => h y (List.mem_of_mem_drop (List.mem_of_mem_take hy)))
  have hl : ((xs.drop (8 * j)).take 8).length ≤ 8 := by rw [List.length_take]; omega
  have hp : ∀ n : Nat, n ≤ 8 → (256 : Int) ^ n ≤ 18446744073709551616 := fun n hn => by
    by_cases h7 : n ≤ 7
    · have := pow_le8 h7; omega
    · have e : n = 8 := by omega
      subst e; decide
  have := hp _ hl
  unfold chunkP
  simp only [inR]
  omega
theorem keepX {w w' : World} {g n : Nat} {ad : Option Addr} {xs : List Value} (R : RowAt w 1 ad n xs) (k : Kp [g] w w') (h : 0 < n → ∀ q o, ad = some ⟨q, o, none⟩ → q ≠ g) : RowAt w' 1 ad n xs :=
  ⟨R.len, R.lim, fun hn => by
    obtain ⟨b, o, cs, T, fr, rfl, hb, hx⟩ := R.at_ hn
    exact ⟨b, o, cs, T, fr, rfl, k.heap hb (by simpa using h hn b o rfl), hx⟩⟩
/-- The source of a part. -/
def srcW (sz wl kb : List Int) (seg a : Int) : Int × Int := if placeM sz seg a < 0 then (0, 20) else if bitQ kb ((placeM sz seg a).toNat / 8) then (wl.getD (placeM sz seg a).toNat 0, 0) else (0, 30)
def srcP (sz wl kb : List Int) : Src := ⟨sz, srcW sz wl kb⟩
theorem placeM_lt {sz : List Int} {seg a : Int} (h : 0 ≤ placeM sz seg a) : fitsL sz = true ∧ 0 ≤ seg ∧ seg < sz.length ∧ 0 ≤ a ∧ a < sz.getD seg.toNat 0 ∧ placeM sz seg a = a + sumL (sz.take seg.toNat) ∧ placeM sz seg a < (wordsM sz : Int) := by
  unfold placeM at h ⊢
  split at h
  · rename_i hc
    rw [if_pos hc]
    obtain ⟨h1, h2, h3, h4, h5⟩ := hc
    have hf := fitsL_of h1
    have h6 := sumL_take (sz := sz) (k := seg.toNat) (by omega)
    have h7 := (sumL_take_le hf.2.2.2.1 (seg.toNat + 1)).2
    have h8 := (wordsM_fit h1).1
    exact ⟨h1, h2, h3, h4, h5, rfl, by omega⟩
  · omega
theorem srcW_num {sz wl kb : List Int} (hu : ∀ x ∈ wl, inR .u64 x) (seg a : Int) : 0 ≤ (srcW sz wl kb seg a).1 ∧ (srcW sz wl kb seg a).1 ≤ 18446744073709551615 ∧ 0 ≤ (srcW sz wl kb seg a).2 ∧ (srcW sz wl kb seg a).2 ≤ 65535 := by
  unfold srcW
  split
  · simp
  · split
    · have : inR .u64 (wl.getD (placeM sz seg a).toNat 0) := by
        rw [List.getD_eq_getElem?_getD]
        cases hi : wl[(placeM sz seg a).toNat]? with
        | none => simp [inR]
        | some x => exact hu x (List.mem_of_getElem? hi)
      simp only [inR] at this
      exact ⟨this.1, this.2, by show (0 : Int) ≤ 0; decide, by show (0 : Int) ≤ 65535; decide⟩
    · simp
theorem part_src {P : Program} {w : World} {t : TypeId} {u : Value} {fw fs : FuncId} {sz wl kb : List Int} (hf : fitsL sz = true) (hu : ∀ x ∈ wl, inR .u64 x) (mw : MethI P t "Word" fw) (ms : MethI P t "Sizes" fs)
    (hw : ∀ w', Grow w w' → ∀ seg a : Int, Gives P fw #[u, .int .i64 seg, .int .i64 a] w' (.tuple #[.int .u64 (srcW sz wl kb seg a).1, .int .u16 (srcW sz wl kb seg a).2]))
    (hs : ∀ w', Grow w w' → Calls P fs #[u] w' (Ret fun r w2 => ∃ ad c, r = .slice ad sz.length c ∧ RowAt w2 1 ad sz.length (sz.map (.int .i64)) ∧ Grow w' w2)) : SrcOk P w (.iface t u) (srcP sz wl kb) := by
  refine ⟨⟨t, _, fw, rfl, mw, hw⟩, ⟨t, _, fs, rfl, ms, hs⟩, srcW_num hu, ?_, by have := (fitsL_of hf).2.1; show sz.length ≤ _; omega, fun i _ => by have := fitsL_size hf i; show 0 ≤ sz.getD i 0 ∧ sz.getD i 0 ≤ _; omega⟩
  intro seg a h
  show 0 ≤ seg ∧ seg < sz.length ∧ 0 ≤ a ∧ a ≤ 140737488355328
  have h2 : (srcW sz wl kb seg a).2 = 0 := h
  unfold srcW at h2
  split at h2
  · simp at h2
  · rename_i hp
    obtain ⟨-, g1, g2, g3, g4, -, -⟩ := placeM_lt (sz := sz) (seg := seg) (a := a) (by omega)
    have := fitsL_size hf seg.toNat
    omega
end Go.Proofs.YtifhcfhdajkhlaaGreat.K

namespace Go.Proofs.YtifhcfhdajkhlaaGreat.K
open Go Go.RowKit
theorem chunkP_range {c : List Int} (hx : isU8 c) (j : Nat) : 0 ≤ chunkP c j ∧ chunkP c j ≤ 18446744073709551615 := by
  have h := getP_range ((c.drop (8 * j)).take 8) (fun x hx2 => hx x (List.mem_of_mem_drop (List.mem_of_mem_take hx2)))
  have hl : ((c.drop (8 * j)).take 8).length ≤ 8 := by rw [List.length_take]; omega
  have h2 : (256 : Int) ^ ((c.drop (8 * j)).take 8).length ≤ 256 ^ 8 := by
    generalize ((c.drop (8 * j)).take 8).length = n at hl
    have : n = 0 ∨ n = 1 ∨ n = 2 ∨ n = 3 ∨ n = 4 ∨ n = 5 ∨ n = 6 ∨ n = 7 ∨ n = 8 := by omega
    rcases this with rfl | rfl | rfl | rfl | rfl | rfl | rfl | rfl | rfl <;> decide
  have h3 : (256 : Int) ^ 8 = 18446744073709551616 := by decide
  unfold chunkP
  omega
end Go.Proofs.YtifhcfhdajkhlaaGreat.K

namespace Go.Proofs.YtifhcfhdajkhlaaGreat.K
open Go Go.RowKit
/-! ### the three arenas -/
theorem encR_u64 (p : Pt) : inR .u64 (encR p) := by
  obtain ⟨h0, h1⟩ := encW_range p
  unfold encR
  split
  · exact ⟨h0, h1⟩
  · simp [inR]
end Go.Proofs.YtifhcfhdajkhlaaGreat.K

namespace Go.Proofs.YtifhcfhdajkhlaaGreat.K
open Go Go.RowKit
/-- What is found where something of its own kind lies. -/
inductive Own2 (k z : Int) (w b : List Int) (ks : List Nd) (q a : Int) : Prop where
  | st (h1 : k = 1) (h2 : z = 0) (h3 : b = []) (h4 : objP ((Nd.mk k z w b ks).ptr 0) q a = ⟨1, q, a, w.length, ks.length, 0, 0⟩) (h5 : (Nd.mk k z w b ks).need = (w.length : Int) + ks.length) (h6 : w.length ≤ 100 ∧ ks.length ≤ 100)
  | bt (h1 : k = 2) (h2 : z = 2) (h3 : w = []) (h4 : ks = []) (h5 : objP ((Nd.mk k z w b ks).ptr 0) q a = ⟨2, q, a, 0, 0, 2, b.length⟩) (h6 : (Nd.mk k z w b ks).need = ((b.length : Int) + 7) / 8) (h7 : b.length ≤ 4096)
  | wd (h1 : k = 2) (h2 : z = 5) (h3 : b = []) (h4 : ks = []) (h5 : objP ((Nd.mk k z w b ks).ptr 0) q a = ⟨2, q, a, 0, 0, 5, w.length⟩) (h6 : (Nd.mk k z w b ks).need = (w.length : Int)) (h7 : w.length ≤ 4096)
  | pt (h1 : k = 2) (h2 : z = 6) (h3 : w = []) (h4 : b = []) (h5 : objP ((Nd.mk k z w b ks).ptr 0) q a = ⟨2, q, a, 0, 0, 6, ks.length⟩) (h6 : (Nd.mk k z w b ks).need = (ks.length : Int)) (h7 : ks.length ≤ 4096)
theorem own2 {k z : Int} {w b : List Int} {ks : List Nd} (ho : (Nd.mk k z w b ks).own = true) (hk : ¬ k = 0) (q a : Int) : Own2 k z w b ks q a := by
  simp only [Nd.own, if_neg hk] at ho
  split at ho
  · rename_i h1
    simp only [Bool.and_eq_true, decide_eq_true_eq] at ho
    obtain ⟨h2, h3, h4⟩ := ho
    have hb : b = [] := List.eq_nil_of_length_eq_zero (by omega)
    have hm : w.length ≤ 100 ∧ ks.length ≤ 100 := by split at h4 <;> omega
    subst hb
    subst h1
    exact .st rfl h2 rfl (by simp [Nd.ptr, objP]) (by simp [Nd.need]) hm
  · split at ho
    · rename_i h1 h2
      subst h2
      split at ho
      · rename_i h3
        simp only [Bool.and_eq_true, decide_eq_true_eq] at ho
        have hw : w = [] := List.eq_nil_of_length_eq_zero (by omega)
        have hks : ks = [] := List.eq_nil_of_length_eq_zero (by omega)
        subst hw; subst hks; subst h3
        exact .bt rfl rfl rfl rfl (by simp [Nd.ptr, objP]) (by simp [Nd.need]) (by omega)
      · split at ho
        · rename_i h3
          simp only [Bool.and_eq_true, decide_eq_true_eq] at ho
          have hb : b = [] := List.eq_nil_of_length_eq_zero (by omega)
          have hks : ks = [] := List.eq_nil_of_length_eq_zero (by omega)
          subst hb; subst hks; subst h3
          exact .wd rfl rfl rfl rfl (by simp [Nd.ptr, objP]) (by simp [Nd.need]) (by omega)
        · split at ho
          · rename_i h3
            simp only [Bool.and_eq_true, decide_eq_true_eq] at ho
            have hb : b = [] := List.eq_nil_of_length_eq_zero (by omega)
            have hw : w = [] := List.eq_nil_of_length_eq_zero (by omega)
            subst hb; subst hw; subst h3
            exact .pt rfl rfl rfl rfl (by simp [Nd.ptr, objP]) (by simp [Nd.need]) (by omega)
          · cases ho
    · cases ho
end Go.Proofs.YtifhcfhdajkhlaaGreat.K

namespace Go.Proofs.YtifhcfhdajkhlaaGreat.K
open Go Go.RowKit
abbrev w2 (A : List (List Int)) (s i : Nat) : Int := (A.getD s []).getD i 0
def bodyN : Nd → List Int
  | .mk _ _ w b _ => w ++ chunksP b
/-! ### decoding it -/
mutual
def Nd.cst : Nd → Int
  | .mk k z w b ks => 1 + (Nd.mk k z w b ks).need + Nd.cstL ks
def Nd.cstL : List Nd → Int
  | [] => 0
  | t :: ts => t.cst + Nd.cstL ts
end
/-! ### words and bytes as they lie -/
mutual
def Nd.u8 : Nd → Prop
  | .mk _ _ _ b ks => (∀ x ∈ b, inR .u8 x) ∧ Nd.u8L ks
def Nd.u8L : List Nd → Prop
  | [] => True
  | t :: ts => t.u8 ∧ Nd.u8L ts
end
/-! ### what is built are words -/
def AllU (A : List (List Int)) : Prop := ∀ q ∈ A, ∀ x ∈ q, inR .u64 x
mutual
def Nd.u64 : Nd → Prop
  | .mk _ _ w _ ks => (∀ x ∈ w, inR .u64 x) ∧ Nd.u64L ks
def Nd.u64L : List Nd → Prop
  | [] => True
  | t :: ts => t.u64 ∧ Nd.u64L ts
end
theorem AllU.getD {A : List (List Int)} (h : AllU A) (s : Nat) : ∀ x ∈ A.getD s [], inR .u64 x := by
  by_cases hs : s < A.length
  · rw [getD_at hs]; exact h _ (List.getElem_mem hs)
  · rw [List.getD_eq_getElem?_getD, List.getElem?_eq_none (by omega)]; intro x hx; simp at hx
theorem AllU.set {A : List (List Int)} (h : AllU A) (s i : Nat) {x : Int} (hx : inR .u64 x) : AllU (setP A s i x) := by
  intro q hq y hy
  rcases List.mem_or_eq_of_mem_set hq with hq | rfl
  · exact h q hq y hy
  · rcases List.mem_or_eq_of_mem_set hy with hy | rfl
    · exact h.getD s y hy
    · exact hx
theorem AllU.growB {A : List (List Int)} (h : AllU A) (q : Nat) : AllU (growB A q) := by
  unfold K.growB
  split
  · intro p hp y hy
    rcases List.mem_append.1 hp with hp | hp
    · exact h p hp y hy
    · simp only [List.mem_singleton] at hp; subst hp; simp at hy
  · exact h
theorem AllU.grow {A : List (List Int)} (h : AllU A) (q : Nat) {l : List Int} (hl : ∀ x ∈ l, inR .u64 x) : AllU (growA A q l) := by
  intro p hp y hy
  unfold growA at hp
  rcases List.mem_or_eq_of_mem_set hp with hp | rfl
  · exact (h.growB q) p hp y hy
  · rcases List.mem_append.1 hy with hy | hy
    · exact (h.growB q).getD q y hy
    · exact hl y hy
theorem content_u64 {k z : Int} {w b : List Int} {ks : List Nd} (hw : ∀ x ∈ w, inR .u64 x) (hb : isU8 b) : ∀ x ∈ (Nd.mk k z w b ks).content, inR .u64 x := by
  intro x hx
  simp only [Nd.content, List.mem_append, chunksP, List.mem_map, List.mem_replicate] at hx
  rcases hx with (hx | ⟨j, -, rfl⟩) | ⟨-, rfl⟩
  · exact hw x hx
  · have := chunkP_range hb j
    simp only [inR]; omega
  · simp [inR]
theorem place_u64 (size : Int) (t : Nd) (S : Lay) (s i : Nat) (h : AllU S.A) : AllU (placeP size t S s i).S.A := by
  have h1 : ∀ x ∈ [t.near 0], inR .u64 x := fun x hx => by simp only [List.mem_singleton] at hx; subst hx; exact encR_u64 _
  unfold placeP
  split
  · exact h.set _ _ (encR_u64 _)
  · split
    · exact (h.set _ _ (encR_u64 _)).grow _ h1
    · exact (h.set _ _ (encR_u64 _)).grow _ h1
mutual
theorem lay_u64 (size : Int) : ∀ (t : Nd) (S : Lay) (s i : Nat), t.u64 → t.u8 → AllU S.A → AllU (t.lay size S s i).A
  | .mk k z w b ks, S, s, i, hw, hb, h => by
    rw [Nd.u64] at hw
    rw [Nd.u8] at hb
    simp only [Nd.lay]
    split
    · exact h
    · split
      · exact h.set _ _ (encR_u64 _)
      · exact lays_u64 size ks _ _ _ hw.2 hb.2 ((place_u64 size _ S s i h).grow _ (content_u64 hw.1 hb.1))
theorem lays_u64 (size : Int) : ∀ (ts : List Nd) (S : Lay) (s i : Nat), Nd.u64L ts → Nd.u8L ts → AllU S.A → AllU (Nd.lays size ts S s i).A
  | [], S, s, i, _, _, h => h
  | t :: ts, S, s, i, hw, hb, h => by
    rw [Nd.u64L] at hw
    rw [Nd.u8L] at hb
    simp only [Nd.lays]
    exact lays_u64 size ts _ _ _ hw.2 hb.2 (lay_u64 size t S s i hw.1 hb.1 h)
end
theorem build_u64 {t : Nd} (size : Int) (hw : t.u64) (hb : t.u8) : ∀ q ∈ (t.build size).1, ∀ x ∈ q, inR .u64 x := by
  unfold Nd.build
  split
  · intro q hq; simp at hq
  · split
    · intro q hq; simp at hq
    · refine lay_u64 size t _ 0 0 hw hb ?_
      intro q hq x hx
      simp only [List.mem_singleton] at hq
      subst hq
      simp only [List.mem_singleton] at hx
      subst hx
      simp [inR]
theorem build_right {t : Nd} {size : Int} (h : (t.build size).2 = 0) : rightB (t.build size).1 = true := by
  have hf := Nd.build_fit h
  have h0 : 1 ≤ len2 (t.build size).1 0 := by
    unfold Nd.build at h ⊢
    by_cases h1 : size < 1 ∨ size > 4096 ∨ t.right 32 = false
    · rw [if_pos h1] at h; exact absurd h (by decide)
    · rw [if_neg h1] at h ⊢
      by_cases h2 : (t.lay size ⟨[[0]], false⟩ 0 0).full = true
      · rw [if_pos h2] at h; exact absurd h (by decide)
      · rw [if_neg h2]
        exact Nat.le_trans (by decide : 1 ≤ len2 [[0]] 0) ((Nd.lay_ok size t ⟨[[0]], false⟩ 0 0 (by simp)).grew.seg 0)
  unfold rightB
  exact decide_eq_true ⟨hf.one, hf.most, h0, hf.all⟩
end Go.Proofs.YtifhcfhdajkhlaaGreat.K

namespace Go.Proofs.YtifhcfhdajkhlaaGreat.K
open Go Go.RowKit
def bentZ (k : Int) : Int := if k = 0 then 2 else if k = 1 then 5 else if k = 2 then 6 else 3
theorem bentZ_at (k : Int) (h0 : 0 ≤ k) (h1 : k < 4) : ([.int .i64 2, .int .i64 5, .int .i64 6, .int .i64 3] : List Value)[k.toNat * 1]? = some (.int .i64 (bentZ k)) := by
  have h : k = 0 ∨ k = 1 ∨ k = 2 ∨ k = 3 := by omega
  rcases h with rfl | rfl | rfl | rfl <;> rfl
/-- The pointer of two choices, in an arena of so many segments. -/
def bentP (x y n : Int) : Pt :=
  if x % 3 = 0 then ⟨1, y % 16 - 4, x % 4, x / 64, 0, 0, 0, false⟩
  else if x % 3 = 1 then ⟨2, y % 16 - 4, 0, 0, bentZ (x % 4), x / 16, 0, false⟩
  else ⟨3, y % 12, 0, 0, 0, 0, x / 3 % (n + 1), decide (x % 2 = 1)⟩
/-- An arena of which some words were put anew. -/
inductive BentA (B : List (List Int)) : List (List Int) → Prop
  | refl : BentA B B
  | put {A : List (List Int)} {s i : Nat} {x y : Int} : BentA B A → s < A.length → i < len2 A s → 0 ≤ x → x ≤ 255 → 0 ≤ y → y ≤ 255 → BentA B (setP A s i (encR (bentP x y A.length)))
def bentT (xs : List Int) : Nd := (treeP 6 xs).1
def bentB (xs : List Int) (k : Int) : List (List Int) := if ((bentT xs).build (3 + k % 30)).2 ≠ 0 then ((bentT xs).build 4096).1 else ((bentT xs).build (3 + k % 30)).1
/-- What law09.Bent may make of choices. -/
def Bent1 (xs : List Int) (k : Int) (A : List (List Int)) : Prop := BentA (bentB xs k) A
theorem bentT_right {xs : List Int} (h : isU8 xs) : (bentT xs).right 32 = true := treeP_right 6 xs 32 (by decide) h
theorem bentT_needs {xs : List Int} (h : isU8 xs) (hl : xs.length ≤ 200) : 0 ≤ (bentT xs).needs ∧ (bentT xs).needs ≤ 1400 := by
  have := treeP_needs 6 xs h
  have := Nd.needs_nn (bentT xs)
  unfold bentT at *
  omega
theorem bent_4096 {xs : List Int} (h : isU8 xs) (hl : xs.length ≤ 200) : ∃ s, (bentT xs).build 4096 = ([s], 0) ∧ (s.length : Int) = 1 + (bentT xs).needs :=
  Nd.build_one (bentT_right h) (by have := bentT_needs h hl; omega) (by decide)
theorem treeP_u64 : ∀ (d : Nat) (c : List Int), (treeP d c).1.u64 ∧ (treeP d c).1.u8
  | 0, c => ⟨⟨by simp, trivial⟩, ⟨by simp [isU8], trivial⟩⟩
  | d + 1, [] => ⟨⟨by simp, trivial⟩, ⟨by simp [isU8], trivial⟩⟩
  | d + 1, k :: c => by
    have hk : ∀ n, Nd.u64L (treesP (treeP d) n c).1 ∧ Nd.u8L (treesP (treeP d) n c).1 := fun n => by
      have h1 := treesP_all (f := treeP d) (Q := fun _ => True) (R := fun t => t.u64 ∧ t.u8) (fun c _ => ⟨trivial, treeP_u64 d c⟩) n c trivial
      have : ∀ (ts : List Nd), (∀ t ∈ ts, t.u64 ∧ t.u8) → Nd.u64L ts ∧ Nd.u8L ts := by
        intro ts
        induction ts with
        | nil => exact fun _ => ⟨trivial, trivial⟩
        | cons t ts ih => exact fun h => ⟨⟨(h t (by simp)).1, (ih fun u hu => h u (by simp [hu])).1⟩, ⟨(h t (by simp)).2, (ih fun u hu => h u (by simp [hu])).2⟩⟩
      exact this _ h1
    have hb : ∀ n, isU8 ((List.range n).map (bTree k)) := fun n x hx => by obtain ⟨i, _, rfl⟩ := List.mem_map.1 hx; exact wrap_u8R _
    have h3 : ∀ n, ∀ x ∈ (List.range n).map (w3Tree k), inR .u64 x := fun n x hx => by obtain ⟨i, _, rfl⟩ := List.mem_map.1 hx; exact wrap_u64R _
    have h4 : ∀ n, ∀ x ∈ (List.range n).map (w4Tree k), inR .u64 x := fun n x hx => by obtain ⟨i, _, rfl⟩ := List.mem_map.1 hx; exact wrap_u64R _
    simp only [treeP]
    split
    · exact ⟨⟨by simp, trivial⟩, ⟨by simp [isU8], trivial⟩⟩
    · split
      · exact ⟨⟨by simp, trivial⟩, ⟨hb _, trivial⟩⟩
      · split
        · exact ⟨⟨h3 _, trivial⟩, ⟨by simp [isU8], trivial⟩⟩
        · split
          · exact ⟨⟨by simp, (hk _).1⟩, ⟨by simp [isU8], (hk _).2⟩⟩
          · exact ⟨⟨h4 _, (hk _).1⟩, ⟨by simp [isU8], (hk _).2⟩⟩
theorem bentB_ok {xs : List Int} (h : isU8 xs) (hl : xs.length ≤ 200) (k : Int) : rightB (bentB xs k) = true ∧ AllU (bentB xs k) ∧ totalP (bentB xs k) ≤ 4096 ∧ (∀ i, len2 (bentB xs k) i ≤ 4096) := by
  obtain ⟨s, h4, -⟩ := bent_4096 h hl
  have key : ∀ n, ((bentT xs).build n).2 = 0 → rightB ((bentT xs).build n).1 = true ∧ AllU ((bentT xs).build n).1 ∧ totalP ((bentT xs).build n).1 ≤ 4096 ∧ (∀ i, len2 ((bentT xs).build n).1 i ≤ 4096) := fun n hn => by
    have hr := build_right hn
    refine ⟨hr, build_u64 n (treeP_u64 6 xs).1 (treeP_u64 6 xs).2, ?_⟩
    unfold rightB at hr
    have h1 := of_decide_eq_true hr
    exact ⟨h1.2.2.2, fun i => by have := seg_le_total ((bentT xs).build n).1 i; omega⟩
  unfold bentB
  split
  · exact key 4096 (by rw [h4])
  · exact key _ (by omega)
theorem BentA.len {B A : List (List Int)} (h : BentA B A) : A.length = B.length ∧ totalP A = totalP B ∧ ∀ i, len2 A i = len2 B i := by
  induction h with
  | refl => exact ⟨rfl, rfl, fun _ => rfl⟩
  | put _ hs hi _ _ _ _ ih => exact ⟨(setP_length _ _ _ _).trans ih.1, (totalP_setP _ _ _ _).trans ih.2.1, fun j => (setP_len2 _ _ _ j _).trans (ih.2.2 j)⟩
theorem BentA.allU {B A : List (List Int)} (h : BentA B A) (hB : AllU B) : AllU A := by
  induction h with
  | refl => exact hB
  | put _ hs hi _ _ _ _ ih => exact ih.set _ _ (encR_u64 _)
theorem BentA.right {B A : List (List Int)} (h : BentA B A) : rightB A = rightB B := by
  obtain ⟨h1, h2, h3⟩ := h.len
  unfold rightB
  rw [h1, h2, h3 0]
theorem Bent1.ok {xs : List Int} {k : Int} {A : List (List Int)} (hA : Bent1 xs k A) (h : isU8 xs) (hl : xs.length ≤ 200) : rightB A = true ∧ AllU A ∧ totalP A ≤ 4096 ∧ (∀ i, len2 A i ≤ 4096) ∧ 1 ≤ A.length ∧ A.length ≤ 16 ∧ ∀ s ∈ A, s.length ≤ 100000 := by
  obtain ⟨h1, h2, h3⟩ := BentA.len hA
  obtain ⟨g1, g2, g3, g4⟩ := bentB_ok h hl k
  have hr : rightB A = true := by rw [BentA.right hA]; exact g1
  have hr2 := hr
  unfold rightB at hr2
  obtain ⟨r1, r2, -, -⟩ := of_decide_eq_true hr2
  refine ⟨hr, BentA.allU hA g2, by rw [h2]; exact g3, fun i => by rw [h3]; exact g4 i, r1, r2, fun s hs => ?_⟩
  obtain ⟨i, hi, rfl⟩ := List.getElem_of_mem hs
  have := h3 i
  have := g4 i
  rw [← h3 i, len2, getD_at hi] at this
  omega
theorem bentB_len {xs : List Int} (h : isU8 xs) (hl : xs.length ≤ 200) (k : Int) : 1 ≤ (bentB xs k).length ∧ (bentB xs k).length ≤ 16 := by
  obtain ⟨-, -, -, -, h1, h2, -⟩ := Bent1.ok (BentA.refl (B := bentB xs k)) h hl
  exact ⟨h1, h2⟩
end Go.Proofs.YtifhcfhdajkhlaaGreat.K

namespace Go.Proofs.YtifhcfhdajkhlaaGreat.K
open Go Go.RowKit
theorem total_len {A : List (List Int)} {m : Nat} (h : ∀ j, len2 A j ≤ m) : totalP A ≤ (m : Int) * A.length := by
  have h1 : ∀ k, k ≤ A.length → totalP (A.take k) ≤ (m : Int) * k := fun k => by
    induction k with
    | zero => intro _; simp [totalP]
    | succ k ih =>
      intro hk
      have := ih (by omega)
      have h2 := totalP_take (A := A) (k := k) (by omega)
      have h3 := h k
      rw [len2, getD_at (show k < A.length by omega)] at h3
      have e : (m : Int) * ((k + 1 : Nat) : Int) = (m : Int) * k + m := by push_cast; rw [Int.mul_add, Int.mul_one]
      omega
  have := h1 A.length (Nat.le_refl _)
  rwa [List.take_length] at this
/-! ### chunks of an arena, as words -/
theorem getP_byt8 {x : Int} (h0 : 0 ≤ x) (h1 : x ≤ 18446744073709551615) : getP (byt8 x) = x := by
  have e : byt8 x = [x / 1 % 256, x / 256 % 256, x / 65536 % 256, x / 16777216 % 256, x / 4294967296 % 256, x / 1099511627776 % 256, x / 281474976710656 % 256, x / 72057594037927936 % 256] := by
    simp [byt8, byt1, List.range, List.range.loop]
  rw [e]
  simp only [getP]
  omega
theorem bytes_flat (A : List (List Int)) : bytesA A = A.flatten.flatMap byt8 := by
  unfold bytesA
  induction A with
  | nil => rfl
  | cons s A ih => rw [List.flatMap_cons, List.flatten_cons, List.flatMap_append, ih]
theorem flat8_drop : ∀ (l : List Int) (j : Nat), (l.flatMap byt8).drop (8 * j) = (l.drop j).flatMap byt8
  | l, 0 => by simp
  | [], j + 1 => by simp
  | x :: l, j + 1 => by
    rw [List.flatMap_cons, show 8 * (j + 1) = (byt8 x).length + 8 * j from by rw [byt8_len]; omega, ← List.drop_drop, List.drop_left, flat8_drop l j, List.drop_succ_cons]
theorem flat8_takes : ∀ (l : List Int) (j : Nat), (l.flatMap byt8).take (8 * j) = (l.take j).flatMap byt8
  | l, 0 => by simp
  | [], j + 1 => by simp
  | x :: l, j + 1 => by
    rw [List.flatMap_cons, show 8 * (j + 1) = (byt8 x).length + 8 * j from by rw [byt8_len]; omega, List.take_length_add_append, flat8_takes l j, List.take_succ_cons, List.flatMap_cons]
theorem chunksP_flat {l : List Int} (h : ∀ x ∈ l, inR .u64 x) : chunksP (l.flatMap byt8) = l := by
  refine List.ext_getElem (by rw [chunksP_len, flat8_len]; omega) fun j h1 h2 => ?_
  simp only [chunksP, List.getElem_map, List.getElem_range, chunkP]
  rw [flat8_drop, show 8 = 8 * 1 from rfl, flat8_takes, List.drop_eq_getElem_cons h2]
  simp only [List.take_succ_cons, List.take_zero, List.flatMap_cons, List.flatMap_nil, List.append_nil]
  have := h _ (List.getElem_mem h2)
  simp only [inR] at this
  exact getP_byt8 this.1 this.2
theorem flat_u64 {A : List (List Int)} (h : AllU A) : ∀ x ∈ A.flatten, inR .u64 x := fun x hx => by
  obtain ⟨s, hs, hx⟩ := List.mem_flatten.1 hx
  exact h s hs x hx
theorem flat_len : ∀ (A : List (List Int)), ((A.flatten.length : Nat) : Int) = totalP A
  | [] => rfl
  | s :: A => by have := flat_len A; rw [List.flatten_cons, List.length_append]; simp only [totalP]; omega
theorem chunk_words {A : List (List Int)} (h : AllU A) (i : Nat) : chunksP (chunkA A i) = (A.flatten.drop (8 * i)).take 8 := by
  unfold chunkA
  rw [bytes_flat, show 64 * i = 8 * (8 * i) from by omega, flat8_drop, show 64 = 8 * 8 from rfl, flat8_takes]
  exact chunksP_flat fun x hx => flat_u64 h x (List.mem_of_mem_drop (List.mem_of_mem_take hx))
theorem words_arena {A : List (List Int)} (h : rightB A = true) : wordsM (sizesP A) = A.flatten.length ∧ 1 ≤ chunksM (sizesP A) := by
  have hf : fitsL (sizesP A) = true := by rw [fits_right]; exact h
  have h1 := wordsM_fit hf
  rw [sumL_sizes] at h1
  have h2 := flat_len A
  have hc : chunksM (sizesP A) = (wordsM (sizesP A) + 7) / 8 := rfl
  omega
theorem size_chunk {A : List (List Int)} (h : rightB A = true) {i : Nat} (hi : i < chunksM (sizesP A)) : ((chunkA A i).length : Int) = sizeM (sizesP A) i ∧ putOk (sizesP A) i (chunkA A i).length = true := by
  have hw := (words_arena h).1
  have h1 := bytesA_len A
  have h2 := flat_len A
  have hc : chunksM (sizesP A) = (wordsM (sizesP A) + 7) / 8 := rfl
  have hs : sizeM (sizesP A) i = min 64 (8 * (wordsM (sizesP A) : Int) - 64 * i) := by unfold sizeM; rw [if_neg (by omega)]
  have hl : ((chunkA A i).length : Int) = sizeM (sizesP A) i := by rw [hs, chunkA_len, hw]; omega
  exact ⟨hl, decide_eq_true ⟨by omega, by omega, hl⟩⟩
/-- What a part holds that was filled out of an arena: the words of the chunks that are there. -/
structure InvA (A : List (List Int)) (wl kb : List Int) : Prop where
  len : wl.length = A.flatten.length
  lk : kb.length = (chunksM (sizesP A) + 7) / 8
  ub : isB kb
  low : ∀ c, bitQ kb c = true → c < chunksM (sizesP A)
  at_ : ∀ k, k < wl.length → wl.getD k 0 = if bitQ kb (k / 8) then A.flatten.getD k 0 else 0
theorem InvA.zero {A : List (List Int)} (h : rightB A = true) : InvA A (List.replicate (wordsM (sizesP A)) 0) (List.replicate ((chunksM (sizesP A) + 7) / 8) 0) := by
  have hb : ∀ c, bitQ (List.replicate ((chunksM (sizesP A) + 7) / 8) 0) c = false := fun c => by
    unfold bitQ
    have : (List.replicate ((chunksM (sizesP A) + 7) / 8) (0 : Int)).getD (c / 8) 0 = 0 := by
      rw [List.getD_eq_getElem?_getD, List.getElem?_replicate]; split <;> rfl
    rw [this]; simp
  refine ⟨by simp [(words_arena h).1], by simp, fun x hx => by rw [List.eq_of_mem_replicate hx]; simp [inR], fun c hc => (by rw [hb c] at hc; cases hc), fun k hk => ?_⟩
  rw [hb, if_neg (by simp), List.getD_eq_getElem?_getD, List.getElem?_replicate]
  split <;> rfl
theorem InvA.put {A : List (List Int)} {wl kb : List Int} (h : rightB A = true) (hu : AllU A) (H : InvA A wl kb) {i : Nat} (hi : i < chunksM (sizesP A)) : InvA A (putW (sizesP A) wl kb i (chunkA A i)) (putK (sizesP A) kb i (chunkA A i).length) ∧ ∀ c, bitQ (putK (sizesP A) kb i (chunkA A i).length) c = (decide (c = i) || bitQ kb c) := by
  obtain ⟨h1, h2⟩ := size_chunk h hi
  have hw := (words_arena h).1
  have hc : chunksM (sizesP A) = (wordsM (sizesP A) + 7) / 8 := rfl
  by_cases hb : bitQ kb i = true
  · have hd : putDo (sizesP A) kb i (chunkA A i).length = false := putDo_no (.inr hb)
    unfold putW putK
    rw [hd]
    refine ⟨H, fun c => ?_⟩
    by_cases hci : c = i
    · subst hci; simp [hb]
    · simp [hci]
  · have hb : bitQ kb i = false := by simpa using hb
    have hd : putDo (sizesP A) kb i (chunkA A i).length = true := putDo_of h2 hb
    unfold putW putK
    rw [hd, if_pos rfl, if_pos rfl, Int.toNat_natCast, chunk_words hu]
    have hi8 : i / 8 < kb.length := by rw [H.lk]; omega
    have hl8 : ((A.flatten.drop (8 * i)).take 8).length = min 8 (A.flatten.length - 8 * i) := by rw [List.length_take, List.length_drop]
    have hfit : 8 * i + ((A.flatten.drop (8 * i)).take 8).length ≤ wl.length := by rw [hl8, H.len]; omega
    have hbit := setQ_bit H.ub hi8
    refine ⟨⟨by rw [ovl_len hfit]; exact H.len, by rw [setQ_len]; exact H.lk, setQ_isB H.ub i, fun c hcb => ?_, fun k hk => ?_⟩, hbit⟩
    · rw [hbit] at hcb
      by_cases hci : c = i
      · omega
      · simp only [hci, decide_false, Bool.false_or] at hcb; exact H.low c hcb
    · rw [ovl_len hfit] at hk
      rw [ovl_get hfit, hbit]
      by_cases hki : k / 8 = i
      · rw [if_pos (by rw [hl8]; rw [H.len] at hk; omega), if_pos (by simp [hki])]
        simp only [List.getD_eq_getElem?_getD]
        rw [List.getElem?_take_of_lt (by omega), List.getElem?_drop, show 8 * i + (k - 8 * i) = k from by omega]
      · rw [if_neg (by rw [hl8]; omega), decide_eq_false hki, Bool.false_or]
        exact H.at_ k hk
/-- Two that know the same hold the same. -/
theorem InvA.same {A : List (List Int)} {wl kb wl' kb' : List Int} (H : InvA A wl kb) (H' : InvA A wl' kb') (h : ∀ c, bitQ kb c = bitQ kb' c) : wl = wl' ∧ kb = kb' := by
  refine ⟨?_, bits_ext H.ub H'.ub (by rw [H.lk, H'.lk]) h⟩
  have hl : wl.length = wl'.length := by rw [H.len, H'.len]
  refine lists_eq (d := 0) hl fun k hk => ?_
  rw [H.at_ k hk, H'.at_ k (by omega), h]
theorem bitQ_z (n c : Nat) : bitQ (List.replicate n 0) c = false := by
  unfold bitQ
  have : (List.replicate n (0 : Int)).getD (c / 8) 0 = 0 := by
    rw [List.getD_eq_getElem?_getD, List.getElem?_replicate]; split <;> rfl
  rw [this]; simp
theorem cntQ_z (n : Nat) : ∀ m, cntQ (List.replicate n 0) m = 0
  | 0 => rfl
  | m + 1 => by rw [cntQ, cntQ_z n m, bitQ_z]; rfl
/-- What a part knows into which chunks were put, as choices say. -/
structure FilA (A : List (List Int)) (xs wl kb : List Int) : Prop where
  inv : InvA A wl kb
  bits : ∀ c, bitQ kb c = true ↔ ∃ x ∈ xs, (c : Int) = x % (chunksM (sizesP A) : Int)
  cnt : cntQ kb (8 * kb.length) ≤ xs.length
theorem FilA.nil {A : List (List Int)} (h : rightB A = true) : FilA A [] (List.replicate (wordsM (sizesP A)) 0) (List.replicate ((chunksM (sizesP A) + 7) / 8) 0) :=
  ⟨.zero h, fun c => by rw [bitQ_z]; simp, by rw [cntQ_z]; simp⟩
theorem FilA.snoc {A : List (List Int)} {xs wl kb : List Int} (h : rightB A = true) (hu : AllU A) (F : FilA A xs wl kb) {x : Int} {q : Nat} (hq : (q : Int) = x % (chunksM (sizesP A) : Int)) (hl : q < chunksM (sizesP A)) :
    FilA A (xs ++ [x]) (putW (sizesP A) wl kb q (chunkA A q)) (putK (sizesP A) kb q (chunkA A q).length) := by
  obtain ⟨h1, h2⟩ := F.inv.put h hu hl
  refine ⟨h1, fun c => ?_, ?_⟩
  · rw [h2, Bool.or_eq_true, decide_eq_true_eq, F.bits]
    constructor
    · rintro (rfl | ⟨y, hy, he⟩)
      · exact ⟨x, by simp, hq⟩
      · exact ⟨y, by simp [hy], he⟩
    · rintro ⟨y, hy, he⟩
      rcases List.mem_append.1 hy with hy | hy
      · exact .inr ⟨y, hy, he⟩
      · simp only [List.mem_singleton] at hy
        subst hy
        exact .inl (by omega)
  · rw [List.length_append, List.length_singleton]
    have hc := F.cnt
    have hlk := F.inv.lk
    unfold putK
    split
    · rename_i hd
      have hb : bitQ kb q = false := by
        unfold putDo at hd
        simp only [Int.toNat_natCast, Bool.and_eq_true, Bool.not_eq_true'] at hd
        exact hd.2
      rw [Int.toNat_natCast, setQ_len, cntQ_set F.inv.ub (by omega) hb]
      split <;> omega
    · omega
theorem FilA.same {A : List (List Int)} {xs ys wl kb wl' kb' : List Int} (F : FilA A xs wl kb) (F' : FilA A ys wl' kb') (h : ∀ x, x ∈ xs ↔ x ∈ ys) : wl = wl' ∧ kb = kb' := by
  refine F.inv.same F'.inv fun c => ?_
  have h1 := F.bits c
  have h2 := F'.bits c
  have h3 : (∃ x ∈ xs, (c : Int) = x % (chunksM (sizesP A) : Int)) ↔ ∃ x ∈ ys, (c : Int) = x % (chunksM (sizesP A) : Int) := ⟨fun ⟨x, a, b⟩ => ⟨x, (h x).1 a, b⟩, fun ⟨x, a, b⟩ => ⟨x, (h x).2 a, b⟩⟩
  rw [← h1, ← h2] at h3
  cases ha : bitQ kb c <;> cases hb : bitQ kb' c <;> simp_all
theorem PartR.lower {TP TI TW TB : TypeId} {w : World} {base base' b g h : Nat} {ses sum : Int} {sz wl kb : List Int} (H : PartR TP TI TW TB w base b g h ses sum sz wl kb) (hl : base' ≤ base) : PartR TP TI TW TB w base' b g h ses sum sz wl kb := by
  obtain ⟨h1, h2, h3, h4, h5, h6, ads, cs, cw, ck, hB, oS, oW, oK⟩ := H
  exact ⟨h1, h2, h3, h4, h5, Nat.le_trans hl h6, ads, cs, cw, ck, hB, own_base oS hl, own_base oW hl, own_base oK hl⟩
/-! ### the chapter's example -/
def A16 : List (List Int) := [[0]]
theorem known16_a : walkS (srcP (sizesP A16) (List.replicate (wordsM (sizesP A16)) 0) (List.replicate ((chunksM (sizesP A16) + 7) / 8) 0)) [] 0 8192 = (Vl0, 30) := by decide +kernel
theorem known16_b : walkS (srcP (sizesP A16) (putW (sizesP A16) (List.replicate (wordsM (sizesP A16)) 0) (List.replicate ((chunksM (sizesP A16) + 7) / 8) 0) 0 (List.replicate 8 0)) (putK (sizesP A16) (List.replicate ((chunksM (sizesP A16) + 7) / 8) 0) 0 (List.replicate 8 (0 : Int)).length)) [] 0 8192 = (Vl0, 0) := by decide +kernel
theorem known16_c : putOk (sizesP A16) 0 (List.replicate 8 (0 : Int)).length = true := by decide +kernel
theorem known16_d : wordsM (sizesP A16) = 1 := by decide +kernel
theorem known16_e : rightB A16 = true := by decide +kernel
theorem known16_f : AllU A16 := fun q hq x hx => by simp only [A16, List.mem_singleton] at hq; subst hq; simp only [List.mem_singleton] at hx; subst hx; simp [inR]
/-! ### what law12.Arena makes of choices -/
end Go.Proofs.YtifhcfhdajkhlaaGreat.K

namespace Go.Proofs.YtifhcfhdajkhlaaGreat.K
open Go Go.RowKit Go.Proofs
attribute [local irreducible] Run1 OpG WL W AO Gives
theorem meth_srcWord : MethI Tryz.prog 82 "Word" 151 := ⟨fun v args w => by kernel_rfl⟩
theorem meth_srcSizes : MethI Tryz.prog 82 "Sizes" 150 := ⟨fun v args w => by kernel_rfl⟩
set_option maxRecDepth 100000 in
theorem srcSizes_calls (w : World) {base b g h : Nat} {ses sum : Int} {sz wl kb : List Int} (H : PartR 86 3 33 5 w base b g h ses sum sz wl kb) : Calls Tryz.prog 150 #[.pointer (some ⟨b, 3, none⟩)] w (Ret fun r w2 => ∃ ad c, r = .slice ad sz.length c ∧ RowAt w2 1 ad sz.length (sz.map (.int .i64)) ∧ Grow w w2) := by
 have H0 := H
 obtain ⟨hfit, hlw, hlk, hub, huw, hb0, ads, cs, cw, ck, hB, oS, oW, oK⟩ := H
 have hle := wordsM_le sz
 have hwf := wordsM_fit hfit
 have hch : chunksM sz = (wordsM sz + 7) / 8 := rfl
 have hf16 := fitsL_of hfit
 have hrz : ∀ x ∈ sz, inR .i64 x := fits_rng hfit
 have G := Grow.rfl' w
 refine calls_ret Tryz.func150 Tryz.ntmps150 Tryz.results150 rfl rfl ?_
 obtain ⟨_, _, hs9, hcs, hcs2, RS⟩ := own_row oS (by omega)
 cases hs9
 obtain ⟨_, _, hs9, hcw, hcw2, RW⟩ := own_row oW (by omega)
 cases hs9
 obtain ⟨_, _, hs9, hck, hck2, RK⟩ := own_row oK (by omega)
 cases hs9
 refine W_seq (W_region rfl ?_)
 refine stp (r_assign_slice rfl ?_)
 refine WL_nil ?_
 refine W_seq (W_region rfl ?_)
 refine stp (r_move_ptr rfl ?_)
 refine stp (r_nilCheck rfl ?_)
 refine stp (r_fieldAddr rfl ?_)
 refine stp (r_load (v := .slice ads sz.length cs) rfl hB rfl ?_)
 refine stp (r_assign_slice rfl ?_)
 refine WL_nil ?_
 refine W_ret ?_
 refine ret1 (res_tmp (v := .slice ads sz.length cs) rfl) ⟨_, _, rfl, RS.grow G, G⟩

set_option maxRecDepth 100000 in
theorem srcWord_calls (w : World) {base b g h : Nat} {ses sum : Int} {sz wl kb : List Int} (H : PartR 86 3 33 5 w base b g h ses sum sz wl kb) (seg a : Int) : Gives Tryz.prog 151 #[.pointer (some ⟨b, 3, none⟩), .int .i64 seg, .int .i64 a] w (.tuple #[.int .u64 ((srcW sz wl kb seg a).1), .int .u16 ((srcW sz wl kb seg a).2)]) := by
 have H0 := H
 obtain ⟨hfit, hlw, hlk, hub, huw, hb0, ads, cs, cw, ck, hB, oS, oW, oK⟩ := H
 have hle := wordsM_le sz
 have hwf := wordsM_fit hfit
 have hch : chunksM sz = (wordsM sz + 7) / 8 := rfl
 have hf16 := fitsL_of hfit
 have hrz : ∀ x ∈ sz, inR .i64 x := fits_rng hfit
 have G := Grow.rfl' w
 refine gives_of Tryz.func151 Tryz.ntmps151 Tryz.results151 rfl rfl ?_
 obtain ⟨_, _, hs9, hcs, hcs2, RS⟩ := own_row oS (by omega)
 cases hs9
 obtain ⟨_, _, hs9, hcw, hcw2, RW⟩ := own_row oW (by omega)
 cases hs9
 obtain ⟨_, _, hs9, hck, hck2, RK⟩ := own_row oK (by omega)
 cases hs9
 refine W_seq (W_region rfl ?_)
 refine stp (r_assign_int rfl ?_)
 refine stp (r_assign_int rfl ?_)
 refine WL_nil ?_
 refine W_seq (W_region rfl ?_)
 refine stp (r_move_ptr rfl ?_)
 refine stp (r_nilCheck rfl ?_)
 refine stp (r_fieldAddr rfl ?_)
 refine stp (r_load (v := .slice ads sz.length cs) rfl hB rfl ?_)
 refine stp (r_move_int rfl ?_)
 refine stp (r_move_int rfl ?_)
 refine stp (r_gives (v := .int .i64 (placeM sz seg a)) rfl (aplace_calls _ (RS.grow G) hrz hcs) ?_)
 intro w1 g2
 replace hB := g2.heap hB
 replace G := G.tr g2
 clear g2
 refine stp (r_assign_int rfl ?_)
 refine WL_nil ?_
 refine W_seq ?_
 refine W_block ?_
 refine W_seq (W_region rfl ?_)
 refine stp (r_move_int rfl ?_)
 refine stp (r_lss rfl rfl ?_)
 refine stp (r_assign_bool rfl ?_)
 refine WL_nil ?_
 refine W_cond2 (b := (decide ((placeM sz seg a) < 0))) rfl (fun h1 => ?_) (fun h1 => ?_)
 ·-- true
  replace h1 := of_decide_eq_true h1
  refine W_seq (W_region rfl ?_)
  refine stp (r_assign_int rfl ?_)
  refine stp (r_assign_int rfl ?_)
  refine WL_nil ?_
  refine W_ret ?_
  have h9 : srcW sz wl kb seg a = (0, 20) := by unfold srcW; rw [if_pos h1]
  refine ret2 (res_tmp (v := .int .u64 0) rfl) (res_tmp (v := .int .u16 20) rfl) ⟨?_, G⟩
  rw [h9]
 ·-- false
  replace h1 := of_decide_eq_false h1
  obtain ⟨k, hk⟩ : ∃ k : Nat, placeM sz seg a = (k : Int) := ⟨(placeM sz seg a).toNat, by omega⟩
  have hlt := (placeM_lt (sz := sz) (seg := seg) (a := a) (by omega)).2.2.2.2.2.2
  have hkn : (placeM sz seg a).toNat = k := by omega
  refine W_seq (W_region rfl ?_)
  refine stp (r_move_ptr rfl ?_)
  refine stp (r_nilCheck rfl ?_)
  refine stp (r_fieldAddr rfl ?_)
  refine stp (r_load (v := .slice (some ⟨h, 0, none⟩) kb.length ck) rfl hB rfl ?_)
  refine stp (r_move_int rfl ?_)
  refine WL_some (og rfl ?_)
  refine r_quo rfl rfl ?_ ?_ ?_ ?_; omega; omega; (constructor <;> omega)
  rw [show placeM sz seg a / 8 = ((k / 8 : Nat) : Int) from by omega]
  refine stp (r_gives (v := .bool (bitQ kb (k / 8))) rfl (bitget_calls _ (RK.grow G) hub (i := k / 8) (by omega)) ?_)
  intro w3 g4
  replace hB := g4.heap hB
  replace G := G.tr g4
  clear g4
  refine stp (r_not rfl ?_)
  refine stp (r_assign_bool rfl ?_)
  refine WL_nil ?_
  refine W_cond2 (b := (!(bitQ kb (k / 8)))) rfl (fun h2 => ?_) (fun h2 => ?_)
  ·-- true
   simp only [sb] at h2
   refine W_seq (W_region rfl ?_)
   refine stp (r_assign_int rfl ?_)
   refine stp (r_assign_int rfl ?_)
   refine WL_nil ?_
   refine W_ret ?_
   have h9 : srcW sz wl kb seg a = (0, 30) := by unfold srcW; rw [if_neg h1, hkn, if_neg (by simpa using h2)]
   refine ret2 (res_tmp (v := .int .u64 0) rfl) (res_tmp (v := .int .u16 30) rfl) ⟨?_, G⟩
   rw [h9]
  ·-- false
   simp only [sb] at h2
   refine W_skip ?_
   refine W_seq (W_region rfl ?_)
   refine stp (r_move_ptr rfl ?_)
   refine stp (r_nilCheck rfl ?_)
   refine stp (r_fieldAddr rfl ?_)
   refine stp (r_load (v := .slice (some ⟨g, 0, none⟩) wl.length cw) rfl hB rfl ?_)
   refine stp (r_move_int rfl ?_)
   refine stp (r_indexN (i := k) (RW.grow G) rfl (by rw [← hk]; rfl) ?_ ?_); omega
   refine stp (r_loadR (v := .int .u64 (wl.getD k 0)) (m := 0) (RW.grow G) rfl (map_get1 0 (by omega)) ?_)
   refine stp (r_assign_int rfl ?_)
   refine stp (r_assign_int rfl ?_)
   refine WL_nil ?_
   refine W_ret ?_
   have h9 : srcW sz wl kb seg a = (wl.getD k 0, 0) := by unfold srcW; rw [if_neg h1, hkn, if_pos (by simpa using h2)]
   refine ret2 (res_tmp (v := .int .u64 (wl.getD k 0)) rfl) (res_tmp (v := .int .u16 0) rfl) ⟨?_, G⟩
   rw [h9]

theorem part_srcOk {w : World} {base b g h : Nat} {ses sum : Int} {sz wl kb : List Int} (H : PartR 86 3 33 5 w base b g h ses sum sz wl kb) : SrcOk Tryz.prog w (.iface 82 (.pointer (some ⟨b, 3, none⟩))) (srcP sz wl kb) :=
  part_src H.fit H.uw meth_srcWord meth_srcSizes (fun w' g seg a => srcWord_calls w' (H.grow g) seg a) (fun w' g => srcSizes_calls w' (H.grow g))

set_option maxRecDepth 100000 in
theorem pread_calls (w : World) {base b g h : Nat} {ses sum : Int} {sz wl kb : List Int} (H : PartR 86 3 33 5 w base b g h ses sum sz wl kb) {ad : Option Addr} {c : Nat} {steps : List Int} {a : Int} (R : RowAt w 1 ad steps.length (steps.map (.int .i64))) (hR : ∀ x ∈ steps, inR .i64 x) (ha : inR .i64 a) : Gives Tryz.prog 10 #[.pointer (some ⟨b, 0, none⟩), .agg #[.slice ad steps.length c, .int .i64 a]] w (.tuple #[.agg #[.int .i64 ((walkS (srcP sz wl kb) steps a 8192).1.kind), .int .i64 ((walkS (srcP sz wl kb) steps a 8192).1.size), .int .i64 ((walkS (srcP sz wl kb) steps a 8192).1.words), .int .i64 ((walkS (srcP sz wl kb) steps a 8192).1.kids), .int .u64 ((walkS (srcP sz wl kb) steps a 8192).1.word)], .int .u16 ((walkS (srcP sz wl kb) steps a 8192).2)]) := by
 have H0 := H
 obtain ⟨hfit, hlw, hlk, hub, huw, hb0, ads, cs, cw, ck, hB, oS, oW, oK⟩ := H
 have hle := wordsM_le sz
 have hwf := wordsM_fit hfit
 have hch : chunksM sz = (wordsM sz + 7) / 8 := rfl
 have hf16 := fitsL_of hfit
 have hrz : ∀ x ∈ sz, inR .i64 x := fits_rng hfit
 have G := Grow.rfl' w
 refine gives_of Tryz.func10 Tryz.ntmps10 Tryz.results10 rfl rfl ?_
 refine W_seq (W_region rfl ?_)
 refine WL_some (og rfl ?_)
 (first | refine r_box_agg rfl ?_ | refine r_box_int rfl ?_ | refine r_box_slice rfl ?_ | refine r_box rfl rfl ?_)
 intro b1 w2 hb3 hc4 g5
 have hge6 := Nat.le_trans G.size hb3
 replace hB := g5.heap hB
 replace G := G.tr g5
 clear g5 hb3
 refine stp (r_alloc ?_)
 intro b7 w8 hb9 hc10 g11
 refine stp (r_assign_int rfl ?_)
 refine WL_nil ?_
 refine W_seq ?_
 refine W_seq (W_region rfl ?_)
 refine stp (r_move_ptr rfl ?_)
 refine stp (r_eqlP Tryz.underlying31 rfl rfl ?_)
 refine WL_nil ?_
 have hge12 := Nat.le_trans G.size hb9
 have ne13 := Nat.ne_of_lt (Nat.lt_of_lt_of_le (lt_of_heap hB) hb9)
 have ne14 := Nat.ne_of_lt (Nat.lt_of_lt_of_le (lt_of_heap hc4) hb9)
 replace hB := g11.heap hB
 replace hc4 := g11.heap hc4
 replace G := G.tr g11
 clear g11 hb9
 refine W_false rfl ?_
 refine W_skip ?_
 refine W_seq ?_
 refine W_any 8 [[], [0], [1, 0], [2, 1, 0], [], [4, 3, 2, 1, 0], [5, 4, 3, 2, 1, 0], [6, 5, 4, 3, 2, 1]] mixed (by kernel_rfl) (by kernel_rfl) (by kernel_rfl) ?_
 intro w15 g16
 replace hB := g16.heap hB
 replace hc4 := g16.heap hc4
 replace hc10 := g16.heap hc10
 replace G := G.tr g16
 clear g16
 apply AO_ex
 ·intro w_ g_; refine og rfl ?_; refine r_move_ptr rfl ?_; exact ⟨Grow.rfl' _, rfl⟩
 apply AO_ex
 ·intro w_ g_; refine og rfl ?_; refine r_nilCheck rfl ?_; exact ⟨Grow.rfl' _, rfl⟩
 apply AO_ex
 ·intro w_ g_; refine og rfl ?_; refine r_fieldAddr rfl ?_; exact ⟨Grow.rfl' _, rfl⟩
 apply AO_ex
 ·intro w_ g_; refine og rfl ?_; refine r_makeIface (v := .pointer (some ⟨b, 3, none⟩)) rfl ?_; exact ⟨Grow.rfl' _, rfl⟩
 apply AO_ex
 ·intro w_ g_; refine og rfl ?_; refine r_loadAll rfl (g_.heap hc4) (by rfl) ?_; exact ⟨Grow.rfl' _, rfl⟩
 apply AO_ex
 ·intro w_ g_; refine og rfl ?_; exact r_gives (v := .tuple #[.agg #[.int .i64 ((walkS (srcP sz wl kb) steps a 8192).1.kind), .int .i64 ((walkS (srcP sz wl kb) steps a 8192).1.size), .int .i64 ((walkS (srcP sz wl kb) steps a 8192).1.words), .int .i64 ((walkS (srcP sz wl kb) steps a 8192).1.kids), .int .u64 ((walkS (srcP sz wl kb) steps a 8192).1.word)], .int .u16 ((walkS (srcP sz wl kb) steps a 8192).2)]) rfl (walk_calls _ ((part_srcOk H0).grow (G.tr g_)) (R.grow (G.tr g_)) hR ha (by simp [inR])) (fun w2_ g2_ => ⟨g2_, rfl⟩)
 apply AO_ex
 ·intro w_ g_; refine og rfl ?_; refine r_extract (v := .agg #[.int .i64 ((walkS (srcP sz wl kb) steps a 8192).1.kind), .int .i64 ((walkS (srcP sz wl kb) steps a 8192).1.size), .int .i64 ((walkS (srcP sz wl kb) steps a 8192).1.words), .int .i64 ((walkS (srcP sz wl kb) steps a 8192).1.kids), .int .u64 ((walkS (srcP sz wl kb) steps a 8192).1.word)]) rfl rfl ?_; exact ⟨Grow.rfl' _, rfl⟩
 apply AO_ex
 ·intro w_ g_; refine og rfl ?_; refine r_extract (v := .int .u16 ((walkS (srcP sz wl kb) steps a 8192).2)) rfl rfl ?_; exact ⟨Grow.rfl' _, rfl⟩
 refine AO_nil ?_
 intro w17 g18
 replace hB := g18.heap hB
 replace hc4 := g18.heap hc4
 replace hc10 := g18.heap hc10
 replace G := G.tr g18
 clear g18
 refine stn (r_storeAll rfl rfl hc10 (by rfl) (by rfl) (by rfl) ?_)
 intro w19 hc20 u21
 replace hB := u21.heap hB ne13
 replace hc4 := u21.heap hc4 ne14
 replace G := G.upd u21 hge12
 clear u21 hc10
 refine stp (r_assign_int rfl ?_)
 refine WL_nil ?_
 refine W_ret ?_
 refine ret2 (res_all rfl hc20 (by rfl)) (res_tmp (v := .int .u16 ((walkS (srcP sz wl kb) steps a 8192).2)) rfl) ⟨?_, G⟩
 rfl

set_option maxRecDepth 100000 in
theorem pbytes_calls (w : World) {base b g h : Nat} {ses sum : Int} {sz wl kb : List Int} (H : PartR 86 3 33 5 w base b g h ses sum sz wl kb) : Gives Tryz.prog 20 #[.pointer (some ⟨b, 0, none⟩)] w (.int .i64 (8 * (wordsM sz : Int))) := by
 have H0 := H
 obtain ⟨hfit, hlw, hlk, hub, huw, hb0, ads, cs, cw, ck, hB, oS, oW, oK⟩ := H
 have hle := wordsM_le sz
 have hwf := wordsM_fit hfit
 have hch : chunksM sz = (wordsM sz + 7) / 8 := rfl
 have hf16 := fitsL_of hfit
 have hrz : ∀ x ∈ sz, inR .i64 x := fits_rng hfit
 have G := Grow.rfl' w
 refine gives_of Tryz.func20 Tryz.ntmps20 Tryz.results20 rfl rfl ?_
 obtain ⟨_, _, hs9, hcs, hcs2, RS⟩ := own_row oS (by omega)
 cases hs9
 obtain ⟨_, _, hs9, hcw, hcw2, RW⟩ := own_row oW (by omega)
 cases hs9
 obtain ⟨_, _, hs9, hck, hck2, RK⟩ := own_row oK (by omega)
 cases hs9
 refine W_seq (W_region rfl ?_)
 refine stp (r_assign_int rfl ?_)
 refine WL_nil ?_
 refine W_seq ?_
 refine W_seq (W_region rfl ?_)
 refine stp (r_move_ptr rfl ?_)
 refine stp (r_eqlP Tryz.underlying31 rfl rfl ?_)
 refine WL_nil ?_
 refine W_false rfl ?_
 refine W_skip ?_
 refine W_seq (W_region rfl ?_)
 refine stp (r_move_ptr rfl ?_)
 refine stp (r_nilCheck rfl ?_)
 refine stp (r_fieldAddr rfl ?_)
 refine stp (r_loadN rfl hB (by rfl) (by rfl) ?_)
 refine stp (r_gives (v := .int .i64 (wordsM sz : Int)) rfl (mwords_calls _ (RS.grow G) hrz) ?_)
 intro w1 g2
 replace hB := g2.heap hB
 replace G := G.tr g2
 clear g2
 refine stp (r_mul rfl rfl ?_ ?_); constructor <;> omega
 refine stp (r_assign_int rfl ?_)
 refine WL_nil ?_
 refine W_ret ?_
 refine ret1 (res_tmp (v := .int .i64 (8 * (wordsM sz : Int))) rfl) ⟨?_, G⟩
 rfl

set_option maxRecDepth 100000 in
theorem pnew_calls (w : World) {ses sum : Int} {ad : Option Addr} {c : Nat} {sz : List Int} (R : RowAt w 1 ad sz.length (sz.map (.int .i64))) (hc : sz.length ≤ c) (hc2 : c ≤ maxLen) (hf : fitsL sz = true) : Calls Tryz.prog 13 #[.agg #[.int .u64 ses, .slice ad sz.length c, .int .u32 sum]] w (Ret fun v w' => ∃ b g h, v = .tuple #[.pointer (some ⟨b, 0, none⟩), .int .u16 0] ∧ PartR 86 3 33 5 w' w.heap.size b g h ses sum sz (List.replicate (wordsM sz) 0) (List.replicate ((chunksM sz + 7) / 8) 0) ∧ Grow w w') := by
 have hrz : ∀ x ∈ sz, inR .i64 x := fits_rng hf
 have hf16 := fitsL_of hf
 have hle := wordsM_le sz
 have hwf := wordsM_fit hf
 have hch : chunksM sz = (wordsM sz + 7) / 8 := rfl
 obtain ⟨q0, o0, cs0, T0, fr0, rfl, -, -⟩ := R.at_ (by omega)
 have G := Grow.rfl' w
 refine calls_ret Tryz.func13 Tryz.ntmps13 Tryz.results13 rfl rfl ?_
 refine W_seq (W_region rfl ?_)
 refine WL_some (og rfl ?_)
 (first | refine r_box_agg rfl ?_ | refine r_box_int rfl ?_ | refine r_box_slice rfl ?_ | refine r_box rfl rfl ?_)
 intro b1 w2 hb3 hc4 g5
 have hge6 := Nat.le_trans G.size hb3
 replace G := G.tr g5
 clear g5 hb3
 refine stp (r_assign (v := .pointer none) rfl ?_)
 refine stp (r_assign_int rfl ?_)
 refine WL_nil ?_
 refine W_seq ?_
 refine W_seq (W_region rfl ?_)
 refine stp (r_loadAll rfl hc4 (by rfl) ?_)
 refine stp (r_gives (v := .bool true) rfl (gives_eq (mright_calls _ (R.grow G) hrz) (y := .bool true) (by rw [hf])) ?_)
 intro w7 g8
 replace hc4 := g8.heap hc4
 replace G := G.tr g8
 clear g8
 refine stp (r_not_f rfl rfl ?_)
 refine WL_nil ?_
 refine W_false rfl ?_
 refine W_skip ?_
 refine W_seq (W_region rfl ?_)
 refine stp (r_fieldAddr rfl ?_)
 refine stp (r_load (v := .slice (some ⟨q0, o0, none⟩) sz.length c) rfl hc4 rfl ?_)
 refine WL_some (og rfl ?_)
 have hG4 := G.size
 refine r_call rfl (cloneN_calls _ hc hc2 (R.grow G) (fun q_ hq_ => by obtain ⟨z_, -, rfl⟩ := List.mem_map.1 hq_; rfl) (by omega)) ?_
 rintro vb w9 ⟨oS_, g_⟩
 have oS := own_base oS_ hG4
 clear oS_
 replace hc4 := g_.heap hc4
 replace G := G.tr g_
 clear g_
 obtain ⟨ads, cs, rfl, hcs⟩ := own_shape oS
 refine stp (r_fieldAddr rfl ?_)
 refine stn (r_store1 (v := .slice ads sz.length cs) rfl rfl (by rfl) hc4 (by rfl) (by rfl) ?_)
 intro w10 hc11 u12
 replace oS := own_upd oS u12 (own_ne oS hc4 (by decide))
 replace G := G.upd u12 hge6
 clear u12 hc4
 refine WL_nil ?_
 have hM := G.size
 obtain ⟨M, hMe⟩ : ∃ M, M = w10.heap.size := ⟨_, rfl⟩
 have hMw : M ≤ w10.heap.size := by rw [hMe]; exact Nat.le_refl _
 have hwM : w.heap.size ≤ M := by rw [hMe]; exact hM
 obtain ⟨_, _, hs9, -, -, RS⟩ := own_row oS (by omega)
 cases hs9
 refine W_seq ?_
 refine W_any 12 [[], [], [0], [], [0], [1, 0], [], [3, 2, 0], [4, 3, 1, 0], [7, 6, 5, 4, 3, 2, 1, 0], [9, 8, 7, 6, 5, 4, 3, 2, 1, 0], [10, 9, 8, 7, 6, 5, 4, 3, 2, 1, 0]] mixed (by kernel_rfl) (by kernel_rfl) (by kernel_rfl) ?_
 intro w13 g14
 replace oS := own_grow oS g14
 replace hc11 := g14.heap hc11
 replace hMw := Nat.le_trans hMw g14.size
 replace RS := RS.grow g14
 replace G := G.tr g14
 clear g14
 apply AO_ex
 ·intro w_ g_; refine og rfl ?_; refine r_loadAll rfl (g_.heap hc11) (by rfl) ?_; exact ⟨Grow.rfl' _, rfl⟩
 apply AO_ex
 ·intro w_ g_; refine og rfl ?_; refine r_fieldAddr rfl ?_; exact ⟨Grow.rfl' _, rfl⟩
 apply AO_ex
 ·intro w_ g_; refine og rfl ?_; refine r_load (v := .slice ads sz.length cs) rfl (g_.heap hc11) rfl ?_; exact ⟨Grow.rfl' _, rfl⟩
 apply AO_ex
 ·intro w_ g_; refine og rfl ?_; refine r_loadAll rfl (g_.heap hc11) (by rfl) ?_; exact ⟨Grow.rfl' _, rfl⟩
 apply AO_ex
 ·intro w_ g_; refine og rfl ?_; exact r_gives (v := .int .i64 (wordsM sz : Int)) rfl (mwords_calls _ (RS.grow g_) hrz) (fun w2_ g2_ => ⟨g2_, rfl⟩)
 refine AO_so (fun w_ v_ => (∃ b c, v_ = .slice (some ⟨b, 0, none⟩) (wordsM sz) c ∧ M ≤ b ∧ w_.ownsRow M 33 1 (.slice (some ⟨b, 0, none⟩) (wordsM sz) c) (wordsM sz) ((List.replicate (wordsM sz) (0 : Int)).map (.int .u64)))) (fun _ _ _ g_ ⟨b, c, h1_, h2_, h3_⟩ => ⟨b, c, h1_, h2_, own_grow h3_ g_⟩) ?_ ?_
 ·intro w_ g_
  refine og rfl ?_
  refine r_make (n := wordsM sz) (base := M) rfl rfl (by first | omega | (simp only [maxLen]; omega)) (by first | omega | (simp only [maxLen]; omega)) (Nat.le_trans hMw g_.size) ?_
  intro b_ w2_ hb_ ho_ g2_
  rw [show (madeCells (Value.cells (.int .u64 0)) (wordsM sz * 1)).toList = List.replicate (wordsM sz) (.int .u64 0) from by rw [Nat.mul_one]; exact toList_madeCells_one _ _] at ho_
  exact ⟨g2_, b_, _, rfl, own_ge ho_ _ rfl, by rw [List.map_replicate]; exact ho_⟩
 apply AO_ex
 ·intro w_ g_; refine og rfl ?_; refine r_loadAll rfl (g_.heap hc11) (by rfl) ?_; exact ⟨Grow.rfl' _, rfl⟩
 apply AO_ex
 ·intro w_ g_; refine og rfl ?_; exact r_gives (v := .int .i64 (chunksM sz : Int)) rfl (mchunks_calls _ (RS.grow g_) hrz) (fun w2_ g2_ => ⟨g2_, rfl⟩)
 refine AO_so (fun w_ v_ => (∃ b c, v_ = .slice (some ⟨b, 0, none⟩) ((chunksM sz + 7) / 8) c ∧ M ≤ b ∧ w_.ownsRow M 5 1 (.slice (some ⟨b, 0, none⟩) ((chunksM sz + 7) / 8) c) ((chunksM sz + 7) / 8) ((List.replicate ((chunksM sz + 7) / 8) (0 : Int)).map (.int .u8)))) (fun _ _ _ g_ ⟨b, c, h1_, h2_, h3_⟩ => ⟨b, c, h1_, h2_, own_grow h3_ g_⟩) ?_ ?_
 ·intro w_ g_
  refine og rfl ?_
  refine r_call rfl (bmake_calls w_ (n := chunksM sz) (by omega)) ?_
  rintro v9_ w9_ ⟨b_, rfl, hb_, ho_, g9_⟩
  have hb2_ := Nat.le_trans hMw (Nat.le_trans g_.size hb_)
  exact ⟨g9_, b_, _, rfl, hb2_, own_base ho_ (Nat.le_trans hMw g_.size)⟩
 refine AO_so (fun w_ v_ => ∃ x5 x8, (∃ b c, x5 = .slice (some ⟨b, 0, none⟩) (wordsM sz) c ∧ M ≤ b ∧ w_.ownsRow M 33 1 (.slice (some ⟨b, 0, none⟩) (wordsM sz) c) (wordsM sz) ((List.replicate (wordsM sz) (0 : Int)).map (.int .u64))) ∧ (∃ b c, x8 = .slice (some ⟨b, 0, none⟩) ((chunksM sz + 7) / 8) c ∧ M ≤ b ∧ w_.ownsRow M 5 1 (.slice (some ⟨b, 0, none⟩) ((chunksM sz + 7) / 8) c) ((chunksM sz + 7) / 8) ((List.replicate ((chunksM sz + 7) / 8) (0 : Int)).map (.int .u8))) ∧ v_ = .agg #[.slice ads sz.length cs, x5, x8]) (fun _ _ _ g_ h_ => by obtain ⟨x5, x8, ⟨b, c, h1_, h2_, h3_⟩, ⟨b', c', h4_, h5_, h6_⟩, h7_⟩ := h_; exact ⟨x5, x8, ⟨b, c, h1_, h2_, own_grow h3_ g_⟩, ⟨b', c', h4_, h5_, own_grow h6_ g_⟩, h7_⟩) ?_ ?_
 ·intro w_ g_
  intro v5_ hv5_; intro v8_ hv8_; show OpG _ _ _ _ _ _
  refine og rfl ?_
  obtain ⟨b5, c5, rfl, h51, h52⟩ := hv5_
  obtain ⟨b8, c8, rfl, h81, h82⟩ := hv8_
  refine r_build (v := .agg #[.slice ads sz.length cs, .slice (some ⟨b5, 0, none⟩) (wordsM sz) c5, .slice (some ⟨b8, 0, none⟩) ((chunksM sz + 7) / 8) c8]) (fun w => by kernel_rfl) ?_
  exact ⟨Grow.rfl' _, _, _, ⟨b5, c5, rfl, h51, h52⟩, ⟨b8, c8, rfl, h81, h82⟩, rfl⟩
 refine AO_so (fun w_ v_ => ∃ x5 x8, (∃ b c, x5 = .slice (some ⟨b, 0, none⟩) (wordsM sz) c ∧ M ≤ b ∧ w_.ownsRow M 33 1 (.slice (some ⟨b, 0, none⟩) (wordsM sz) c) (wordsM sz) ((List.replicate (wordsM sz) (0 : Int)).map (.int .u64))) ∧ (∃ b c, x8 = .slice (some ⟨b, 0, none⟩) ((chunksM sz + 7) / 8) c ∧ M ≤ b ∧ w_.ownsRow M 5 1 (.slice (some ⟨b, 0, none⟩) ((chunksM sz + 7) / 8) c) ((chunksM sz + 7) / 8) ((List.replicate ((chunksM sz + 7) / 8) (0 : Int)).map (.int .u8))) ∧ v_ = .agg #[.int .u64 ses, .slice ads sz.length cs, .int .u32 sum, .slice ads sz.length cs, x5, x8]) (fun _ _ _ g_ h_ => by obtain ⟨x5, x8, ⟨b, c, h1_, h2_, h3_⟩, ⟨b', c', h4_, h5_, h6_⟩, h7_⟩ := h_; exact ⟨x5, x8, ⟨b, c, h1_, h2_, own_grow h3_ g_⟩, ⟨b', c', h4_, h5_, own_grow h6_ g_⟩, h7_⟩) ?_ ?_
 ·intro w_ g_
  intro v5_ hv5_; intro v8_ hv8_; intro v9_ hv9_; show OpG _ _ _ _ _ _
  refine og rfl ?_
  obtain ⟨x5, x8, ⟨b5, c5, rfl, h51, h52⟩, ⟨b8, c8, rfl, h81, h82⟩, rfl⟩ := hv9_
  refine r_build (v := .agg #[.int .u64 ses, .slice ads sz.length cs, .int .u32 sum, .slice ads sz.length cs, .slice (some ⟨b5, 0, none⟩) (wordsM sz) c5, .slice (some ⟨b8, 0, none⟩) ((chunksM sz + 7) / 8) c8]) (fun w => by kernel_rfl) ?_
  exact ⟨Grow.rfl' _, _, _, ⟨b5, c5, rfl, h51, h52⟩, ⟨b8, c8, rfl, h81, h82⟩, rfl⟩
 refine AO_so (fun w_ v_ => ∃ x5 x8, (∃ b c, x5 = .slice (some ⟨b, 0, none⟩) (wordsM sz) c ∧ M ≤ b ∧ w_.ownsRow M 33 1 (.slice (some ⟨b, 0, none⟩) (wordsM sz) c) (wordsM sz) ((List.replicate (wordsM sz) (0 : Int)).map (.int .u64))) ∧ (∃ b c, x8 = .slice (some ⟨b, 0, none⟩) ((chunksM sz + 7) / 8) c ∧ M ≤ b ∧ w_.ownsRow M 5 1 (.slice (some ⟨b, 0, none⟩) ((chunksM sz + 7) / 8) c) ((chunksM sz + 7) / 8) ((List.replicate ((chunksM sz + 7) / 8) (0 : Int)).map (.int .u8))) ∧ ∃ b, v_ = .pointer (some ⟨b, 0, none⟩) ∧ M ≤ b ∧ w_.heap[b]? = some (.cells #[.int .u64 ses, .slice ads sz.length cs, .int .u32 sum, .slice ads sz.length cs, x5, x8] 86 (0, 0))) (fun _ _ _ g_ h_ => by obtain ⟨x5, x8, ⟨b, c, h1_, h2_, h3_⟩, ⟨b', c', h4_, h5_, h6_⟩, ⟨b9, h7_, h8_, h9_⟩⟩ := h_; exact ⟨x5, x8, ⟨b, c, h1_, h2_, own_grow h3_ g_⟩, ⟨b', c', h4_, h5_, own_grow h6_ g_⟩, ⟨b9, h7_, h8_, g_.heap h9_⟩⟩) ?_ ?_
 ·intro w_ g_
  intro v5_ hv5_; intro v8_ hv8_; intro v9_ hv9_; intro v10_ hv10_; show OpG _ _ _ _ _ _
  refine og rfl ?_
  obtain ⟨x5, x8, ⟨b5, c5, rfl, h51, h52⟩, ⟨b8, c8, rfl, h81, h82⟩, rfl⟩ := hv10_
  refine r_box_agg rfl ?_
  intro b_ w2_ hb_ hc_ g2_
  exact ⟨g2_, _, _, ⟨b5, c5, rfl, h51, own_grow h52 g2_⟩, ⟨b8, c8, rfl, h81, own_grow h82 g2_⟩, b_, rfl, Nat.le_trans hMw (Nat.le_trans g_.size hb_), hc_⟩
 refine AO_nil ?_
 intro w15 g16
 replace oS := own_grow oS g16
 replace hc11 := g16.heap hc11
 replace hMw := Nat.le_trans hMw g16.size
 replace RS := RS.grow g16
 replace G := G.tr g16
 clear g16
 intro v_w hv_w
 intro v_k hv_k
 intro v_s hv_s
 intro v_p hv_p
 intro v_b hv_b
 obtain ⟨x5, x8, ⟨g, cw, rfl, hgM, oW⟩, ⟨h, ck, rfl, hhM, oK⟩, b, rfl, hbM, hcb⟩ := hv_b
 refine stp (r_assign (v := .pointer (some ⟨b, 0, none⟩)) rfl ?_)
 refine stp (r_assign_int rfl ?_)
 refine WL_nil ?_
 refine W_ret ?_
 refine ret2 (res_tmp (v := .pointer (some ⟨b, 0, none⟩)) rfl) (res_tmp (v := .int .u16 0) rfl) ⟨b, g, h, rfl, ⟨hf, by simp, by simp, fun x hx_ => by rw [List.eq_of_mem_replicate hx_]; simp [inR], fun x hx_ => by rw [List.eq_of_mem_replicate hx_]; simp [inR], Nat.le_trans hwM hbM, ads, cs, cw, ck, by simpa using hcb, oS, by simpa [wordsV] using own_base oW hwM, by simpa using own_base oK hwM⟩, G⟩
end Go.Proofs.YtifhcfhdajkhlaaGreat.K

namespace Go.Proofs.YtifhcfhdajkhlaaGreat.K
open Go Go.RowKit Go.Proofs
attribute [local irreducible] Run1 OpG WL W AO Gives
set_option maxRecDepth 100000 in
theorem pput_calls (w : World) {base b g h : Nat} {ses sum : Int} {sz wl kb : List Int} (H : PartR 86 3 33 5 w base b g h ses sum sz wl kb) {adb : Option Addr} {cb : Nat} {xs : List Int} (RX : RowAt w 1 adb xs.length (xs.map (.int .u8))) (hxx : isB xs) (hcb : xs.length ≤ cb) (hdis : 0 < xs.length → ∀ q o, adb = some ⟨q, o, none⟩ → q ≠ g) {i : Int} (gi : inR .i64 i) : Calls Tryz.prog 17 #[.pointer (some ⟨b, 0, none⟩), .int .i64 i, .slice adb xs.length cb] w (Ret fun v w' => ∃ h', v = .bool (putOk sz i xs.length) ∧ PartR 86 3 33 5 w' base b g h' ses sum sz (putW sz wl kb i xs) (putK sz kb i xs.length) ∧ Kp [b, g] w w' ∧ (h' = h ∨ w.heap.size ≤ h')) := by
 have H0 := H
 obtain ⟨hfit, hlw, hlk, hub, huw, hb0, ads, cs, cw, ck, hB, oS, oW, oK⟩ := H
 have hle := wordsM_le sz
 have hwf := wordsM_fit hfit
 have hch : chunksM sz = (wordsM sz + 7) / 8 := rfl
 have hf16 := fitsL_of hfit
 have hrz : ∀ x ∈ sz, inR .i64 x := fits_rng hfit
 have hB0 := hB
 have lX := RX.lim
 obtain ⟨curg, hg0⟩ := H0.words
 have hltg := lt_of_heap hg0
 have hltb := lt_of_heap hB
 have hbg : b ≠ g := fun he => by rw [he, hg0] at hB; simp at hB
 have G := Grow.rfl' w
 refine calls_ret Tryz.func17 Tryz.ntmps17 Tryz.results17 rfl rfl ?_
 obtain ⟨_, _, hs9, hcs, hcs2, RS⟩ := own_row oS (by omega)
 cases hs9
 obtain ⟨_, _, hs9, hcw, hcw2, RW⟩ := own_row oW (by omega)
 cases hs9
 obtain ⟨_, _, hs9, hck, hck2, RK⟩ := own_row oK (by omega)
 cases hs9
 refine W_seq (W_region rfl ?_)
 refine stp (r_assign (v := .bool false) rfl ?_)
 refine WL_nil ?_
 refine W_seq ?_
 refine W_seq (W_region rfl ?_)
 refine stp (r_move_ptr rfl ?_)
 refine stp (r_eqlP Tryz.underlying31 rfl rfl ?_)
 refine stp (r_move (v := .bool false) rfl ?_)
 refine stp (r_move_int rfl ?_)
 refine stp (r_lss rfl rfl ?_)
 refine stp (r_pick_f (v := .bool (decide (i < 0))) rfl rfl rfl ?_)
 refine stp (r_move_bool rfl ?_)
 refine WL_some (og_if (s := .bool (decide (i < 0))) (b := false) (v := .int .i64 i) rfl (wgb_f _) (fun hc1 => ?_) ?_)
 ·
  have hc1_ := hc1
  try simp only [sb] at hc1_
  refine r_move_int rfl ?_
  exact ⟨rfl, rfl⟩
 refine WL_some (og_if (s := .bool (decide (i < 0))) (b := false) (v := .pointer (some ⟨b, 0, none⟩)) rfl (wgb_f _) (fun hc2 => ?_) ?_)
 ·
  have hc2_ := hc2
  try simp only [sb] at hc2_
  refine r_move_ptr rfl ?_
  exact ⟨rfl, rfl⟩
 refine WL_some (og_if (s := .bool (decide (i < 0))) (b := false) (v := .pointer (some ⟨b, 0, none⟩)) rfl (wgb_f _) (fun hc3 => ?_) ?_)
 ·
  have hc3_ := hc3
  try simp only [sb] at hc3_
  refine r_nilCheck (gvt hc3) ?_
  exact ⟨rfl, rfl⟩
 refine WL_some (og_if (s := .bool (decide (i < 0))) (b := false) (v := .pointer (some ⟨b, 0, none⟩)) rfl (wgb_f _) (fun hc4 => ?_) ?_)
 ·
  have hc4_ := hc4
  try simp only [sb] at hc4_
  refine r_fieldAddr (gvt hc4) ?_
  exact ⟨rfl, rfl⟩
 refine WL_some (og_if (s := .bool (decide (i < 0))) (b := false) (v := .agg #[.int .u64 ses, .slice ads sz.length cs, .int .u32 sum]) rfl (wgb_f _) (fun hc5 => ?_) ?_)
 ·
  have hc5_ := hc5
  try simp only [sb] at hc5_
  refine r_loadN (gvt hc5) hB (by rfl) (by rfl) ?_
  exact ⟨rfl, rfl⟩
 refine WL_some (og_ifg (s := .bool (decide (i < 0))) (b := false) (v := .int .i64 (chunksM sz : Int)) rfl (wgb_f _) (fun hc6 => ?_) ?_)
 ·
  have hc6_ := hc6
  try simp only [sb] at hc6_
  exact r_givesA (l := ([.agg #[.int .u64 ses, .slice ads sz.length cs, .int .u32 sum]] : List Value)) rfl (by show ([gv (!(decide (i < 0))) (.agg #[.int .u64 ses, .slice ads sz.length cs, .int .u32 sum])] : List Value) = _; rw [gvt hc6]) (mchunks_calls _ (RS.grow G) hrz) (fun w2_ g2_ => ⟨rfl, g2_⟩)
 intro w7 g8
 replace hB := g8.heap hB
 replace G := G.tr g8
 clear g8
 refine WL_some (og_if (s := .bool (decide (i < 0))) (b := false) (v := .bool (decide (i ≥ (chunksM sz : Int)))) rfl (wgb_f _) (fun hc9 => ?_) ?_)
 ·
  have hc9_ := hc9
  try simp only [sb] at hc9_
  refine r_geq (gvt hc9) (gvt hc9) ?_
  exact ⟨rfl, rfl⟩
 refine stp (r_or2 rfl rfl rfl ?_)
 refine stp (r_move_bool rfl ?_)
 refine WL_some (og_if (s := .bool ((decide (i < 0)) || (decide (i ≥ (chunksM sz : Int))))) (b := false) (v := .slice adb xs.length cb) rfl (wgb_f _) (fun hc10 => ?_) ?_)
 ·
  have hc10_ := hc10
  try simp only [sb] at hc10_
  refine r_move_slice rfl ?_
  exact ⟨rfl, rfl⟩
 refine WL_some (og_if (s := .bool ((decide (i < 0)) || (decide (i ≥ (chunksM sz : Int))))) (b := false) (v := .int .i64 (xs.length : Int)) rfl (wgb_f _) (fun hc11 => ?_) ?_)
 ·
  have hc11_ := hc11
  try simp only [sb] at hc11_
  refine r_len rfl rfl (gvt hc11) ?_
  exact ⟨rfl, rfl⟩
 refine WL_some (og_if (s := .bool ((decide (i < 0)) || (decide (i ≥ (chunksM sz : Int))))) (b := false) (v := .pointer (some ⟨b, 0, none⟩)) rfl (wgb_f _) (fun hc12 => ?_) ?_)
 ·
  have hc12_ := hc12
  try simp only [sb] at hc12_
  refine r_move_ptr rfl ?_
  exact ⟨rfl, rfl⟩
 refine WL_some (og_if (s := .bool ((decide (i < 0)) || (decide (i ≥ (chunksM sz : Int))))) (b := false) (v := .pointer (some ⟨b, 0, none⟩)) rfl (wgb_f _) (fun hc13 => ?_) ?_)
 ·
  have hc13_ := hc13
  try simp only [sb] at hc13_
  refine r_nilCheck (gvt hc13) ?_
  exact ⟨rfl, rfl⟩
 refine WL_some (og_if (s := .bool ((decide (i < 0)) || (decide (i ≥ (chunksM sz : Int))))) (b := false) (v := .pointer (some ⟨b, 0, none⟩)) rfl (wgb_f _) (fun hc14 => ?_) ?_)
 ·
  have hc14_ := hc14
  try simp only [sb] at hc14_
  refine r_fieldAddr (gvt hc14) ?_
  exact ⟨rfl, rfl⟩
 refine WL_some (og_if (s := .bool ((decide (i < 0)) || (decide (i ≥ (chunksM sz : Int))))) (b := false) (v := .agg #[.int .u64 ses, .slice ads sz.length cs, .int .u32 sum]) rfl (wgb_f _) (fun hc15 => ?_) ?_)
 ·
  have hc15_ := hc15
  try simp only [sb] at hc15_
  refine r_loadN (gvt hc15) hB (by rfl) (by rfl) ?_
  exact ⟨rfl, rfl⟩
 refine WL_some (og_if (s := .bool ((decide (i < 0)) || (decide (i ≥ (chunksM sz : Int))))) (b := false) (v := .int .i64 i) rfl (wgb_f _) (fun hc16 => ?_) ?_)
 ·
  have hc16_ := hc16
  try simp only [sb] at hc16_
  refine r_move_int rfl ?_
  exact ⟨rfl, rfl⟩
 refine WL_some (og_ifg (s := .bool ((decide (i < 0)) || (decide (i ≥ (chunksM sz : Int))))) (b := false) (v := .int .i64 (sizeM sz i)) rfl (wgb_f _) (fun hc17 => ?_) ?_)
 ·
  have hc17_ := hc17
  try simp only [sb] at hc17_
  exact r_givesA (l := ([.agg #[.int .u64 ses, .slice ads sz.length cs, .int .u32 sum], .int .i64 i] : List Value)) rfl (by show ([gv (!((decide (i < 0)) || (decide (i ≥ (chunksM sz : Int))))) (.agg #[.int .u64 ses, .slice ads sz.length cs, .int .u32 sum]), gv (!((decide (i < 0)) || (decide (i ≥ (chunksM sz : Int))))) (.int .i64 i)] : List Value) = _; rw [gvt hc17, gvt hc17]) (msize_calls _ (RS.grow G) hrz gi) (fun w2_ g2_ => ⟨rfl, g2_⟩)
 intro w18 g19
 replace hB := g19.heap hB
 replace G := G.tr g19
 clear g19
 refine WL_some (og_if (s := .bool ((decide (i < 0)) || (decide (i ≥ (chunksM sz : Int))))) (b := false) (v := .bool (decide ((xs.length : Int) ≠ (sizeM sz i)))) rfl (wgb_f _) (fun hc20 => ?_) ?_)
 ·
  have hc20_ := hc20
  try simp only [sb] at hc20_
  refine r_neq (gvt hc20) (gvt hc20) ?_
  exact ⟨rfl, rfl⟩
 refine stp (r_or2 rfl rfl rfl ?_)
 refine WL_nil ?_
 refine W_cond2 (b := (((decide (i < 0)) || (decide (i ≥ (chunksM sz : Int)))) || (decide ((xs.length : Int) ≠ (sizeM sz i))))) rfl (fun h1 => ?_) (fun h1 => ?_)
 ·-- true
  simp only [sb] at h1
  have hno : putOk sz i xs.length = false := by unfold putOk; exact decide_eq_false (by omega)
  have hd : putDo sz kb i xs.length = false := putDo_no (.inl hno)
  refine W_seq (W_region rfl ?_)
  refine stp (r_assign (v := .bool false) rfl ?_)
  refine WL_nil ?_
  refine W_ret ?_
  refine ret1 (res_tmp (v := .bool false) rfl) ⟨h, by rw [hno], by unfold putW putK; rw [hd]; exact H0.grow G, Kp.of_grow G, .inl rfl⟩
 ·-- false
  simp only [sb] at h1
  have hyes : putOk sz i xs.length = true := by unfold putOk; exact decide_eq_true (by omega)
  obtain ⟨m, rfl⟩ : ∃ m : Nat, i = (m : Int) := ⟨i.toNat, by omega⟩
  obtain ⟨hm1, hm2, hm3, hm4, hm5⟩ := put_fits hyes
  refine W_skip ?_
  refine W_seq ?_
  refine W_seq (W_region rfl ?_)
  refine stp (r_move_ptr rfl ?_)
  refine stp (r_nilCheck rfl ?_)
  refine stp (r_fieldAddr rfl ?_)
  refine stp (r_fieldAddr rfl ?_)
  refine stp (r_load (v := .slice (some ⟨h, 0, none⟩) kb.length ck) rfl hB rfl ?_)
  refine stp (r_move_int rfl ?_)
  refine stp (r_gives (v := .bool (bitQ kb m)) rfl (bitget_calls _ (RK.grow G) hub (i := m) (by omega)) ?_)
  intro w21 g22
  replace hB := g22.heap hB
  replace G := G.tr g22
  clear g22
  refine WL_nil ?_
  refine W_cond2 (b := (bitQ kb m)) rfl (fun h2 => ?_) (fun h2 => ?_)
  ·-- true
   have hd : putDo sz kb m xs.length = false := putDo_no (.inr h2)
   refine W_seq (W_region rfl ?_)
   refine stp (r_assign (v := .bool true) rfl ?_)
   refine WL_nil ?_
   refine W_ret ?_
   refine ret1 (res_tmp (v := .bool true) rfl) ⟨h, by rw [hyes], by unfold putW putK; rw [hd]; exact H0.grow G, Kp.of_grow G, .inl rfl⟩
  ·-- false
   have hd : putDo sz kb m xs.length = true := putDo_of hyes h2
   refine W_skip ?_
   refine W_seq (W_region rfl ?_)
   refine stp (r_move_ptr rfl ?_)
   refine stp (r_nilCheck rfl ?_)
   refine stp (r_fieldAddr rfl ?_)
   refine stp (r_fieldAddr rfl ?_)
   refine stp (r_load (v := .slice (some ⟨g, 0, none⟩) wl.length cw) rfl hB rfl ?_)
   refine stp (r_move_int rfl ?_)
   refine stp (r_mul rfl rfl ?_ ?_); constructor <;> omega
   refine WL_some (og rfl ?_)
   refine r_sliceL rfl rfl (by omega) (by omega) ?_
   rw [show ((m : Int) * 8).toNat = 8 * m from by omega, if_neg (by omega), show (Option.map (fun x => x.add (8 * m * 1)) (some (⟨g, 0, none⟩ : Addr))) = some ⟨g, 8 * m, none⟩ from by rw [Option.map_some, add_lit, Nat.zero_add, Nat.mul_one]]
   refine stp (r_alloc ?_)
   intro b23 w24 hb25 hc26 g27
   refine stn (r_store1 (v := .slice (some ⟨g, 8 * m, none⟩) (wl.length - 8 * m) (cw - 8 * m)) rfl rfl (by rfl) hc26 (by rfl) (by rfl) ?_)
   intro w28 hc29 u30
   have g31 := g27.upd u30 hb25
   have hge32 := Nat.le_trans G.size hb25
   have ne33 := Nat.ne_of_lt (Nat.lt_of_lt_of_le (lt_of_heap hB) hb25)
   replace hB := g31.heap hB
   replace G := G.tr g31
   clear u30 g27 hb25 hc26
   refine WL_nil ?_
   refine W_seq (W_region rfl ?_)
   refine stp (r_alloc ?_)
   intro b34 w35 hb36 hc37 g38
   refine stn (r_store1 (v := .int .i64 0) rfl rfl (by rfl) hc37 (by rfl) (by rfl) ?_)
   intro w39 hc40 u41
   have g42 := g38.upd u41 hb36
   have hge43 := Nat.le_trans G.size hb36
   have ne44 := Nat.ne_of_lt (Nat.lt_of_lt_of_le (lt_of_heap hB) hb36)
   have ne45 := Nat.ne_of_lt (Nat.lt_of_lt_of_le (lt_of_heap hc29) hb36)
   replace hB := g42.heap hB
   replace hc29 := g42.heap hc29
   replace G := G.tr g42
   clear u41 g38 hb36 hc37
   refine WL_nil ?_
   refine W_seq ?_
   refine W_seq (W_region rfl ?_)
   refine stp (r_move_slice rfl ?_)
   refine WL_some (og rfl ?_)
   refine r_call rfl (chunk_calls _) ?_
   rintro v_ w46 ⟨q1, q2, rfl, hq1, hq2, hc1, hc2, g_⟩
   have hq1b := Nat.lt_of_lt_of_le (lt_of_heap hc40) hq1
   have hq2b := Nat.lt_of_lt_of_le (lt_of_heap hc40) hq2
   have hq1w := Nat.le_trans G.size hq1
   have hq2w := Nat.le_trans G.size hq2
   replace hB := g_.heap hB
   replace hc29 := g_.heap hc29
   replace hc40 := g_.heap hc40
   replace G := G.tr g_
   clear g_
   refine WL_nil ?_
   refine W_block ?_
   refine W_rangeC rfl rfl ?_
   intro rc hst hpd hps has hbd hsz hge l w6 hl hlp hmk g6 hw6
   have lt_hc29 := lt_of_heap hc29
   have lt_hc40 := lt_of_heap hc40
   have lt_hc1 := lt_of_heap hc1
   have lt_hc2 := lt_of_heap hc2
   replace hB := g6.heap hB
   replace hc29 := g6.heap hc29
   replace hc40 := g6.heap hc40
   replace hc1 := g6.heap hc1
   replace hc2 := g6.heap hc2
   have hGs := G.size
   have hg7 := hge32
   have hg8 := hge43
   have hn78 := ne45
   replace G := G.tr g6
   generalize hmm : w46.heap.size = mk at *
   obtain ⟨N, hN⟩ : ∃ N, N = (xs.length + 7) / 8 := ⟨_, rfl⟩
   refine Calls.mono (chunk1_calls w6 (l := l) hcb lX (fun j W => W.ownsRow base 33 1 (.slice (some ⟨g, 0, none⟩) wl.length cw) wl.length (wordsV (ovl wl (8 * m) ((List.range j).map (chunkP xs)))) ∧ W.heap[b23]? = some (.cells #[.slice (some ⟨g, 8 * m, none⟩) (wl.length - 8 * m) (cw - 8 * m)] 67 (0, 0)) ∧ W.heap[b34]? = some (.cells #[.int .i64 (j : Int)] 3 (0, 0)) ∧ W.heap[q1]? = some (.cells #[.slice adb xs.length cb] 22 (0, 0)) ∧ W.heap[q2]? = some (.cells #[.int .i64 8] 3 (0, 0)) ∧ W.heap[l]? = some (.loop rc) ∧ W.heap[mk]? = some (.deferred (some [])) ∧ Kp [g] w W) (fun i w' h => ⟨h.2.2.2.1, h.2.2.2.2.1⟩) (fun i w' w'' g ⟨o1, o2, o3, o4, o5, o6, o7, o8⟩ => ⟨own_grow o1 g, g.heap o2, g.heap o3, g.heap o4, g.heap o5, g.heap o6, g.heap o7, o8.tr g.kp⟩) ?_ ⟨by rw [List.range_zero, List.map_nil, ovl_nil]; exact own_grow oW G, hc29, hc40, hc1, hc2, hlp, hmk, Kp.of_grow G⟩) ?_
   ·rintro j w7 hj ⟨own2, h1, h3, h4, h5, h6, h7, K7⟩
    refine yields_of_W (ps := [54]) (vs := [_]) (n := 75) h6 hps rfl hsz (by rfl) hge ?_
    rw [has, hbd]
    refine W_region rfl ?_
    refine stp (r_assign_slice rfl ?_)
    refine WL_nil ?_
    refine ⟨rc, h6, hst, ?_⟩
    have u1 := upd_put (o' := .loop { rc with state := .busy }) h6
    have k6 := put_same (o' := .loop { rc with state := .busy }) h6
    have k2 := own_upd own2 u1 (own_ne_loop own2 h6)
    have k1 := u1.heap h1 (fun he_ => by rw [he_, h6] at h1; cases h1)
    have k3 := u1.heap h3 (fun he_ => by rw [he_, h6] at h3; cases h3)
    have k4 := u1.heap h4 (fun he_ => by rw [he_, h6] at h4; cases h4)
    have k5 := u1.heap h5 (fun he_ => by rw [he_, h6] at h5; cases h5)
    have k7 := u1.heap h7 (by omega)
    have K8 := K7.upd_new u1 (by omega)
    generalize w7.putObj l (.loop { rc with state := .busy }) = w8 at *
    clear u1 h1 own2 h3 h4 h5 h7 K7
    have hcn : chunkN xs.length j ≤ 8 := by unfold chunkN; omega
    have Rj : RowAt w8 1 (if 8 * j + chunkN xs.length j = 8 * j then adb else adb.map (·.add (8 * j * 1))) (chunkN xs.length j) (((xs.drop (8 * j)).take 8).map (.int .u8)) := by
     have h_ := (keepX RX K8 hdis).chunk (l := 8 * j) (m := chunkN xs.length j) (by unfold chunkN; omega)
     rwa [← List.map_drop, ← List.map_take, drop_chunk] at h_
    have hlenj : chunkN xs.length j = ((xs.drop (8 * j)).take 8).length := by rw [List.length_take, List.length_drop, chunkN]
    have hxj : ∀ x ∈ (xs.drop (8 * j)).take 8, inR .u8 x := fun x hx_ => hxx x (List.mem_of_mem_drop (List.mem_of_mem_take hx_))
    have hjn : j < (xs.length + 7) / 8 := by omega
    refine W_block ?_
    refine W_seq (W_region rfl ?_)
    refine stp (r_load (v := .slice (some ⟨g, 8 * m, none⟩) (wl.length - 8 * m) (cw - 8 * m)) rfl k1 rfl ?_)
    refine stp (r_load (v := .int .i64 (j : Int)) rfl k3 rfl ?_)
    refine WL_some (og rfl ?_)
    refine r_indexAddr (b := g) (o := 8 * m) rfl rfl (by omega) (by omega) ?_
    rw [show 8 * m + ((j : Int)).toNat * 1 = 8 * m + j from by omega]
    refine stp (r_assign_ptr rfl ?_)
    refine WL_nil ?_
    refine W_seq (W_region rfl ?_)
    refine stp (r_move_ptr rfl ?_)
    refine stp (r_move_slice rfl ?_)
    refine stp (r_gives (v := .int .u64 (chunkP xs j)) rfl (gives_eq (get8_calls _ hlenj (Nat.le_refl _) Rj hxj) (y := .int .u64 (chunkP xs j)) (by rw [List.take_take]; rfl)) ?_)
    intro w47 g48
    replace k1 := g48.heap k1
    replace k3 := g48.heap k3
    replace k4 := g48.heap k4
    replace k5 := g48.heap k5
    replace k6 := g48.heap k6
    replace k7 := g48.heap k7
    replace k2 := own_grow k2 g48
    replace K8 := K8.tr g48.kp
    replace Rj := Rj.grow g48
    clear g48
    refine stp (r_nilCheck rfl ?_)
    refine WL_none (og rfl ?_)
    obtain ⟨g5, c5, cur5, he5, hg5b, hg5, hc51, hc52, hc53, hc54⟩ := own_pos k2 (by omega)
    simp only [Value.slice.injEq, Option.some.injEq, Addr.mk.injEq, and_true, true_and] at he5
    obtain ⟨he5, he6⟩ := he5
    subst he5
    subst he6
    refine r_store1 (v := .int .u64 (chunkP xs j)) rfl rfl rfl hg5 (Nat.ble_eq_true_of_le (by omega)) rfl ?_
    intro w9 hs9 u9
    have m2 := own_setcell (i := 8 * m + j) (x := .int .u64 (chunkP xs j)) k2 hg5 hs9 (by simp)
    have hgl := lt_of_heap hg0
    have m1 := u9.heap k1 (by omega)
    have m3 := u9.heap k3 (by omega)
    have m4 := u9.heap k4 (by omega)
    have m5 := u9.heap k5 (by omega)
    have m6 := u9.heap k6 (by omega)
    have m7 := u9.heap k7 (by omega)
    have K9 := K8.tr (Kp.of_upd u9 (by simp))
    clear k1 k3 k4 k5 k6 k7 k2 K8 Rj u9 hs9 hg5
    refine WL_nil ?_
    refine W_region rfl ?_
    refine stp (r_load (v := .int .i64 (j : Int)) rfl m3 rfl ?_)
    refine stp (r_add rfl rfl ?_ ?_); constructor <;> omega
    refine stn (r_store1 (v := .int .i64 ((j : Int) + 1)) rfl rfl (by rfl) m3 (by rfl) (by rfl) ?_)
    intro w10 n3 u10
    have n6 := u10.heap m6 (fun he_ => by rw [he_, m3] at m6; cases m6)
    have n1 := u10.heap m1 (by omega)
    have n4 := u10.heap m4 (by omega)
    have n5 := u10.heap m5 (by omega)
    have n7 := u10.heap m7 (by omega)
    have n2 := own_upd m2 u10 (own_ne m2 m3 (by decide))
    have K10 := K9.upd_new u10 (by omega)
    clear m1 m3 m4 m5 m6 m7 m2 K9 u10
    refine WL_nil ?_
    have u2 := upd_put (o' := .loop rc) n6
    refine ⟨_, n6, ?_⟩
    rw [loop_again hst hpd]
    have hov : ovl wl (8 * m) ((List.range (j + 1)).map (chunkP xs)) = (ovl wl (8 * m) ((List.range j).map (chunkP xs))).set (8 * m + j) (chunkP xs j) := by rw [List.range_succ, List.map_append]; have h_ := ovl_snoc (wl := wl) (l := ((List.range j).map (chunkP xs))) (a := 8 * m) (x := chunkP xs j) (by simp; omega); rw [List.length_map, List.length_range] at h_; exact h_
    refine ⟨rfl, by rw [hov, wordsV, List.map_set]; exact own_upd n2 u2 (own_ne_loop n2 n6), u2.heap n1 (fun he_ => by rw [he_, n6] at n1; cases n1), ?_, u2.heap n4 (fun he_ => by rw [he_, n6] at n4; cases n4), u2.heap n5 (fun he_ => by rw [he_, n6] at n5; cases n5), put_same n6, u2.heap n7 (by omega), K10.upd_new u2 (by omega)⟩
    have n3' := u2.heap n3 (fun he_ => by rw [he_, n6] at n3; cases n3)
    exact n3'
   ·rintro r_ w7 ⟨v_, rfl, own2, h1, h3, h4, h5, h6, h7, K7⟩
    refine ⟨_, rc, rfl, h6, by rw [hst]; simp, ?_⟩
    simp only [hpd]
    have u1 := upd_put (o' := .loop { rc with state := .exhausted, pending := none }) h6
    have k7 := u1.heap h7 (by omega)
    have k2 := own_upd own2 u1 (own_ne_loop own2 h6)
    have K8 := K7.upd_new u1 (by omega)
    generalize w7.putObj l _ = w8 at *
    clear u1 h1 h3 h4 h5 own2 K7
    have kB := K8.heap hB0 (by simpa using hbg)
    have oK8 := own_keepB oK K8 (fun q hq hm_ => by simp only [List.mem_singleton] at hm_; simp only [Value.ownBlock, Option.some.injEq] at hq; exact own_ne oK hg0 (by decide) (by rw [hm_] at hq; simp [Value.ownBlock, hq]))
    obtain ⟨_, _, hs9, -, -, RK8⟩ := own_row oK8 (by omega)
    cases hs9
    refine W_seq (W_region rfl ?_)
    refine stp (r_move_ptr rfl ?_)
    refine stp (r_move_ptr rfl ?_)
    refine stp (r_nilCheck rfl ?_)
    refine stp (r_fieldAddr rfl ?_)
    refine stp (r_fieldAddr rfl ?_)
    refine stp (r_load (v := .slice (some ⟨h, 0, none⟩) kb.length ck) rfl kB rfl ?_)
    refine stp (r_move_int rfl ?_)
    refine WL_some (og rfl ?_)
    have hsz8 := K8.size
    refine r_call rfl (bset_calls _ hck hck2 RK8 hub (i := m) (by omega) (by omega)) ?_
    rintro vb w9 ⟨h9, c9, rfl, hh9, oK9, g_⟩
    replace k7 := g_.heap k7
    replace k2 := own_grow k2 g_
    replace K8 := K8.tr g_.kp
    replace kB := g_.heap kB
    replace RK8 := RK8.grow g_
    clear g_
    refine stp (r_nilCheck rfl ?_)
    refine stp (r_fieldAddr rfl ?_)
    refine stp (r_fieldAddr rfl ?_)
    refine stn (r_store1 (v := .slice (some ⟨h9, 0, none⟩) kb.length c9) rfl rfl (by rfl) kB (by rfl) (by rfl) ?_)
    intro w10 n1 u10
    have n7 := u10.heap k7 (by omega)
    have n2 := own_upd k2 u10 (own_ne k2 kB (by decide))
    have n3 := own_upd oK9 u10 (own_ne oK9 kB (by decide))
    have K10 : Kp [b, g] w w10 := (K8.mono (F' := [b, g]) (fun x hx => by simp only [List.mem_singleton] at hx; subst hx; simp)).tr (Kp.of_upd u10 (by simp))
    refine WL_nil ?_
    refine W_seq (W_region rfl ?_)
    refine stp (r_assign (v := .bool true) rfl ?_)
    refine WL_nil ?_
    refine W_ret ?_
    have u2 := upd_put (o' := .deferred none) n7
    have K11 := K10.upd_new u2 (by omega)
    have p1 := u2.heap n1 (by omega)
    have p2 := own_upd n2 u2 (own_ne_def n2 n7)
    have p3 := own_upd n3 u2 (own_ne_def n3 n7)
    have p4 := own_keepB oS K11 (fun q hq hm_ => by simp only [List.mem_cons, List.not_mem_nil, or_false] at hm_; rcases hm_ with rfl | rfl; exact own_ne oS hB0 (by decide) hq; exact own_ne oS hg0 (by decide) hq)
    have hol : (ovl wl (8 * m) (chunksP xs)).length = wl.length := ovl_len (by rw [chunksP_len]; omega)
    have hsl := setQ_len kb m
    refine retM (vs := [_]) ⟨mk, _, rfl, run_takeDeferred n7, rfl⟩ ⟨rfl, trivial⟩ ⟨h9, by rw [hyes]; rfl, ?_, K11, .inr (Nat.le_trans hsz8 hh9)⟩
    unfold putW putK; rw [hd, if_pos rfl, if_pos rfl, Int.toNat_natCast]
    refine ⟨hfit, by rw [hol]; exact hlw, by rw [hsl]; exact hlk, setQ_isB hub m, ovl_mem huw (chunksP_u64 hxx), hb0, ads, cs, cw, c9, ?_, p4, ?_, ?_⟩
    ·rw [hol, hsl]; exact p1
    ·rw [hol]; exact p2
    ·rw [hsl]; exact own_base p3 (Nat.le_trans (Nat.le_trans hb0 (Nat.le_of_lt hltb)) hsz8)
end Go.Proofs.YtifhcfhdajkhlaaGreat.K

namespace Go.Proofs.YtifhcfhdajkhlaaGreat.K
open Go Go.RowKit Go.Proofs
attribute [local irreducible] Run1 OpG WL W AO Gives
set_option maxRecDepth 100000 in
theorem filled_calls (w : World) {u : Value} {A : List (List Int)} (hA : ArenaR w u A) (hr : rightB A = true) (hx : AllU A) {ad : Option Addr} {c : Nat} {xs : List Int} (R : RowAt w 1 ad xs.length (xs.map (.int .u8))) (hxx : isU8 xs) : Calls Tryz.prog 9 #[u, .slice ad xs.length c] w (Ret fun v w' => ∃ b g h wl kb, v = .pointer (some ⟨b, 0, none⟩) ∧ PartR 86 3 33 5 w' w.heap.size b g h 9 (sumA 9 A) (sizesP A) wl kb ∧ FilA A xs wl kb ∧ Grow w w') := by
 have hA0 := hA
 have lR := R.lim
 obtain ⟨r1, r2, r3, r4⟩ := of_decide_eq_true hr
 obtain ⟨hw1, hch1⟩ := words_arena hr
 have hfit : fitsL (sizesP A) = true := by rw [fits_right]; exact hr
 have hrz : ∀ x ∈ sizesP A, inR .i64 x := fits_rng hfit
 have hle := wordsM_le (sizesP A)
 have hch : chunksM (sizesP A) = (wordsM (sizesP A) + 7) / 8 := rfl
 have G := Grow.rfl' w
 refine calls_ret Tryz.func9 Tryz.ntmps9 Tryz.results9 rfl rfl ?_
 refine W_seq (W_region rfl ?_)
 refine stp (r_assign (v := .pointer none) rfl ?_)
 refine WL_nil ?_
 refine W_seq (W_region rfl ?_)
 refine stp (r_move (v := u) rfl ?_)
 refine WL_some (og rfl ?_)
 have hGo := G.size
 have hszl := (sizesP_len A).symm
 refine r_call rfl (rof_calls _ (hA0.grow G) hr hx (ses := 9) (by decide) (by decide)) ?_
 rintro v_ w1 ⟨adz, cz, hv_, hcz, oS_, g_⟩
 have oS := own_base oS_ hGo
 clear oS_
 replace G := G.tr g_
 clear g_
 rw [hszl] at oS hcz
 rw [hszl] at hv_
 subst hv_
 refine stp (r_move (v := .tuple #[.agg #[.int .u64 9, .slice adz ((sizesP A).length) cz, .int .u32 (sumA 9 A)], .int .i64 0]) rfl ?_)
 refine stp (r_extract (v := .agg #[.int .u64 9, .slice adz ((sizesP A).length) cz, .int .u32 (sumA 9 A)]) rfl rfl ?_)
 refine stp (r_extract (v := .int .i64 0) rfl rfl ?_)
 refine stp (r_alloc ?_)
 intro b2 w3 hb4 hc5 g6
 refine stn (r_storeAll rfl rfl hc5 (by rfl) (by rfl) (by rfl) ?_)
 intro w7 hc8 u9
 have g10 := g6.upd u9 hb4
 have hge11 := Nat.le_trans G.size hb4
 replace oS := own_grow oS g10
 replace G := G.tr g10
 clear u9 g6 hb4 hc5
 refine stp (r_assign_int rfl ?_)
 refine WL_nil ?_
 refine W_seq (W_region rfl ?_)
 refine stp (r_loadAll rfl hc8 (by rfl) ?_)
 refine WL_some (og rfl ?_)
 obtain ⟨_, _, hs9, hcs, hcs2, RS⟩ := own_row oS (by rw [sizesP_len]; omega)
 cases hs9
 have hM := G.size
 refine r_call rfl (pnew_calls _ RS hcs hcs2 hfit (ses := 9) (sum := sumA 9 A)) ?_
 rintro v_ w12 ⟨b, g, h, rfl, HP, g_⟩
 have GM := g_
 have hB0 := hc8
 have RS0 := RS
 replace oS := own_grow oS g_
 replace G := G.tr g_
 clear g_
 refine stp (r_move (v := .tuple #[.pointer (some ⟨b, 0, none⟩), .int .u16 0]) rfl ?_)
 refine stp (r_extract (v := .pointer (some ⟨b, 0, none⟩)) rfl rfl ?_)
 refine stp (r_extract (v := .int .u16 0) rfl rfl ?_)
 refine stp (r_assign (v := .pointer (some ⟨b, 0, none⟩)) rfl ?_)
 refine stp (r_assign_int rfl ?_)
 refine WL_nil ?_
 refine W_seq ?_
 refine W_seq (W_region rfl ?_)
 refine stp (r_assign_int rfl ?_)
 refine WL_nil ?_
 refine W_block ?_
 refine W_loop (fun m_ e_ w_ => ∃ (j : Nat) (h : Nat) (wl : List Int) (kb : List Int), m_ = xs.length - j ∧ Fr [(0, u), (1, .slice ad xs.length c), (4, .pointer none), (5, .pointer (some ⟨b2, 0, none⟩)), (7, .pointer (some ⟨b, 0, none⟩)), (9, .int .i64 (j : Int))] e_ ∧ (j ≤ xs.length) ∧ (FilA A (xs.take j) wl kb) ∧ (Grow w7 w_) ∧ (PartR 86 3 33 5 w_ w7.heap.size b g h 9 (sumA 9 A) (sizesP A) wl kb) ∧ Grow w w_) _ ⟨0, h, _, _, rfl, fr_of ⟨rfl, rfl, rfl, rfl, rfl, rfl, trivial⟩, by omega, by rw [List.take_zero]; exact FilA.nil hr, GM, HP, G⟩ ?_
 clear oS GM HP
 clear G
 rintro m_ e_ w13 ⟨j, h, wl, kb, rfl, ⟨e14, rfl⟩, hj, hF, GM, HP, G⟩
 refine W_seq ?_
 refine W_seq (W_region rfl ?_)
 refine stp (r_move_int rfl ?_)
 refine stp (r_move_slice rfl ?_)
 refine stp (r_len rfl rfl rfl ?_)
 refine stp (r_lss rfl rfl ?_)
 refine WL_nil ?_
 refine W_cond2 (b := (decide ((j : Int) < (xs.length : Int)))) rfl (fun hlt => ?_) (fun hlt => ?_)
 ·-- true
  replace hlt := of_decide_eq_true hlt
  have hi : j < xs.length := by omega
  have hu := getD_u8 hxx j
  obtain ⟨q, hq⟩ : ∃ q : Nat, (q : Int) = xs.getD j 0 % (chunksM (sizesP A) : Int) := ⟨(xs.getD j 0 % (chunksM (sizesP A) : Int)).toNat, by have := Int.emod_nonneg (xs.getD j 0) (show (chunksM (sizesP A) : Int) ≠ 0 by omega); omega⟩
  have hql : q < chunksM (sizesP A) := by have := Int.emod_lt_of_pos (xs.getD j 0) (show 0 < (chunksM (sizesP A) : Int) by omega); omega
  obtain ⟨hcl, hok⟩ := size_chunk hr hql
  have hcp : 0 < (chunkA A q).length := by have := (put_fits hok).2.2.2.1; omega
  refine W_skip ?_
  refine W_seq ?_
  refine W_block ?_
  refine W_seq ?_
  refine W_any 10 [[], [], [1, 0], [2, 1, 0], [3, 2, 1, 0], [], [0], [1, 0], [7, 6, 5, 4, 3, 2, 1, 0], [8, 7, 6, 5, 4, 3, 2, 1, 0]] mixed (by kernel_rfl) (by kernel_rfl) (by kernel_rfl) ?_
  intro w15 g16
  replace GM := GM.tr g16
  replace HP := HP.grow g16
  replace G := G.tr g16
  clear g16
  apply AO_ex
  ·intro w_ g_; refine og rfl ?_; refine r_move_slice rfl ?_; exact ⟨Grow.rfl' _, rfl⟩
  apply AO_ex
  ·intro w_ g_; refine og rfl ?_; refine r_move_int rfl ?_; exact ⟨Grow.rfl' _, rfl⟩
  apply AO_ex
  ·intro w_ g_; refine og rfl ?_; refine r_indexN (R.grow (G.tr g_)) rfl rfl ?_ ?_; omega; exact ⟨Grow.rfl' _, rfl⟩
  apply AO_ex
  ·intro w_ g_; refine og rfl ?_; refine r_loadR (v := .int .u8 (xs.getD j 0)) (m := 0) (R.grow (G.tr g_)) rfl (map_get1 0 (by omega)) ?_; exact ⟨Grow.rfl' _, rfl⟩
  apply AO_ex
  ·intro w_ g_; refine og rfl ?_; refine r_conv rfl ?_ ?_; constructor <;> omega; exact ⟨Grow.rfl' _, rfl⟩
  apply AO_ex
  ·intro w_ g_; refine og rfl ?_; refine r_loadAll rfl (g_.heap (GM.heap hB0)) (by rfl) ?_; exact ⟨Grow.rfl' _, rfl⟩
  apply AO_ex
  ·intro w_ g_; refine og rfl ?_; exact r_gives (v := .int .i64 (chunksM (sizesP A) : Int)) rfl (rmchunks_calls _ (RS0.grow (GM.tr g_)) hrz) (fun w2_ g2_ => ⟨g2_, rfl⟩)
  apply AO_ex
  ·intro w_ g_; refine og rfl ?_; refine r_max rfl rfl rfl ?_; rw [if_neg (by omega)]; exact ⟨Grow.rfl' _, rfl⟩
  apply AO_ex
  ·intro w_ g_; refine og rfl ?_; refine r_rem rfl rfl ?_ ?_ ?_; omega; omega; rw [← hq]; exact ⟨Grow.rfl' _, rfl⟩
  apply AO_ex
  ·intro w_ g_; refine og rfl ?_; refine r_assign_int rfl ?_; exact ⟨Grow.rfl' _, rfl⟩
  refine AO_nil ?_
  intro w17 g18
  replace GM := GM.tr g18
  replace HP := HP.grow g18
  replace G := G.tr g18
  clear g18
  refine WL_nil ?_
  refine W_region rfl ?_
  refine stp (r_move (v := .pointer (some ⟨b, 0, none⟩)) rfl ?_)
  refine stp (r_move_int rfl ?_)
  refine stp (r_move (v := u) rfl ?_)
  refine stp (r_move_int rfl ?_)
  refine WL_some (og rfl ?_)
  obtain ⟨_, hgw_HP⟩ := HP.words
  have hgl_HP := lt_of_heap hgw_HP
  clear hgw_HP
  refine r_call rfl (rchunk_calls _ (hA0.grow G) hr hx (i := q) (by omega)) ?_
  rintro v_ w19 ⟨ad9, c9, rfl, hc9, hcm9, R9, hfr9, g_⟩
  replace GM := GM.tr g_
  replace HP := HP.grow g_
  replace G := G.tr g_
  clear g_
  refine WL_some (og rfl ?_)
  have hdis : 0 < (chunkA A q).length → ∀ q_ o_, ad9 = some ⟨q_, o_, none⟩ → q_ ≠ g := fun _ q_ o_ he_ => by obtain ⟨g_, q2_, cs_, he2_, hge_, -, -⟩ := hfr9 (by omega); rw [he2_] at he_; simp only [Option.some.injEq, Addr.mk.injEq] at he_; omega
  have hbs := HP.bases
  refine r_call rfl (pput_calls _ HP (xs := chunkA A q) R9 (chunkA_isB A q) hc9 hdis (i := (q : Int)) (by simp only [inR]; omega)) ?_
  rintro v_ w21 ⟨h2, rfl, HP2, K2, hh2⟩
  have hbg2 := HP.bases
  replace G := G.trK K2 (fun x_ hx_ => by simp only [List.mem_cons, List.not_mem_nil, or_false] at hx_; omega)
  replace GM := GM.trK K2 (fun x_ hx_ => by simp only [List.mem_cons, List.not_mem_nil, or_false] at hx_; omega)
  clear K2
  refine WL_nil ?_
  refine W_region rfl ?_
  refine stp (r_move_int rfl ?_)
  refine stp (r_add rfl rfl ?_ ?_); constructor <;> omega
  refine stp (r_assign_int rfl ?_)
  refine WL_nil ?_
  refine ⟨_, ?_, j + 1, h2, _, _, rfl, fr_of ⟨rfl, rfl, rfl, rfl, rfl, congrArg (Value.int .i64) (by omega), trivial⟩, by omega, by rw [List.take_add_one, List.getElem?_eq_getElem hi, Option.toList_some, ← getD_at hi]; exact hF.snoc hr hx hq hql, GM, HP2, G⟩
  omega
 ·-- false
  replace hlt := of_decide_eq_false hlt
  have hj9 : j = xs.length := by omega
  rw [hj9, List.take_length] at hF
  refine W_exit ?_
  refine W_seq (W_region rfl ?_)
  refine stp (r_move (v := .pointer (some ⟨b, 0, none⟩)) rfl ?_)
  refine stp (r_assign (v := .pointer (some ⟨b, 0, none⟩)) rfl ?_)
  refine WL_nil ?_
  refine W_ret ?_
  refine ret1 (res_tmp (v := .pointer (some ⟨b, 0, none⟩)) rfl) ⟨b, g, h, wl, kb, rfl, HP.lower hM, hF, G⟩
end Go.Proofs.YtifhcfhdajkhlaaGreat.K

namespace Go.Proofs.YtifhcfhdajkhlaaGreat.K
open Go Go.RowKit Go.Proofs
attribute [local irreducible] Run1 OpG WL W AO Gives
set_option maxRecDepth 100000 in
theorem known16_calls (w : World)  : Gives Tryz.prog 6 #[] w (.bool true) := by
 have hr : rightB A16 = true := known16_e
 have hx : AllU A16 := known16_f
 have hfit : fitsL (sizesP A16) = true := by rw [fits_right]; exact hr
 have hrz : ∀ x ∈ sizesP A16, inR .i64 x := fits_rng hfit
 have hch : chunksM (sizesP A16) = 1 := by unfold chunksM; rw [known16_d]
 have hal : A16.length = 1 := rfl
 have G := Grow.rfl' w
 refine gives_of Tryz.func6 Tryz.ntmps6 Tryz.results6 rfl rfl ?_
 refine W_seq (W_region rfl ?_)
 refine stp (r_assign (v := .bool false) rfl ?_)
 refine WL_nil ?_
 refine W_seq (W_region rfl ?_)
 refine stp (r_buildSlice (cs := #[.int .u64 0]) (el := 33) (fun w => by kernel_rfl) ?_)
 intro bs1 w2 hb3 hc4 g5
 have hge6 := Nat.le_trans G.size hb3
 replace G := G.tr g5
 clear g5
 refine stp (r_buildSlice (cs := #[.slice (some ⟨bs1, 0, none⟩) 1 1]) (el := 67) (fun w => by kernel_rfl) ?_)
 intro bs7 w8 hb9 hc10 g11
 have hge12 := Nat.le_trans G.size hb9
 replace hc4 := g11.heap hc4
 replace G := G.tr g11
 clear g11
 refine WL_some (og rfl ?_)
 have hA0 : ArenaR w8 (.slice (some ⟨bs7, 0, none⟩) 1 1) A16 := arena_one hc10 (q := [0]) (Row.of_block (n := 1) hc4 rfl rfl (by decide))
 have hGo := G.size
 have hszl := (sizesP_len A16).symm
 refine r_call rfl (rof_calls _ hA0 hr hx (ses := 1) (by decide) (by decide)) ?_
 rintro v_ w13 ⟨adz, cz, hv_, hcz, oS_, g_⟩
 have oS := own_base oS_ hGo
 clear oS_
 replace hc4 := g_.heap hc4
 replace hc10 := g_.heap hc10
 replace G := G.tr g_
 clear g_
 rw [hszl] at oS hcz
 rw [hszl] at hv_
 subst hv_
 refine stp (r_move (v := .tuple #[.agg #[.int .u64 1, .slice adz ((sizesP A16).length) cz, .int .u32 (sumA 1 A16)], .int .i64 0]) rfl ?_)
 refine stp (r_extract (v := .agg #[.int .u64 1, .slice adz ((sizesP A16).length) cz, .int .u32 (sumA 1 A16)]) rfl rfl ?_)
 refine stp (r_extract (v := .int .i64 0) rfl rfl ?_)
 refine stp (r_alloc ?_)
 intro b14 w15 hb16 hc17 g18
 refine stn (r_storeAll rfl rfl hc17 (by rfl) (by rfl) (by rfl) ?_)
 intro w19 hc20 u21
 have g22 := g18.upd u21 hb16
 have hge23 := Nat.le_trans G.size hb16
 have ne24 := Nat.ne_of_lt (Nat.lt_of_lt_of_le (lt_of_heap hc4) hb16)
 have ne25 := Nat.ne_of_lt (Nat.lt_of_lt_of_le (lt_of_heap hc10) hb16)
 replace hc4 := g22.heap hc4
 replace hc10 := g22.heap hc10
 replace oS := own_grow oS g22
 replace G := G.tr g22
 clear u21 g18 hb16 hc17
 refine stp (r_assign_int rfl ?_)
 refine WL_nil ?_
 refine W_seq (W_region rfl ?_)
 refine stp (r_loadAll rfl hc20 (by rfl) ?_)
 refine WL_some (og rfl ?_)
 obtain ⟨_, _, hs9, hcs, hcs2, RS⟩ := own_row oS (by rw [sizesP_len]; omega)
 cases hs9
 have hM := G.size
 refine r_call rfl (pnew_calls _ RS hcs hcs2 hfit (ses := 1) (sum := sumA 1 A16)) ?_
 rintro v_ w26 ⟨b, g, h, rfl, HP, g_⟩
 have GM := g_
 have hB0 := hc20
 have RS0 := RS
 replace hc4 := g_.heap hc4
 replace hc10 := g_.heap hc10
 replace oS := own_grow oS g_
 replace G := G.tr g_
 clear g_
 refine stp (r_move (v := .tuple #[.pointer (some ⟨b, 0, none⟩), .int .u16 0]) rfl ?_)
 refine stp (r_extract (v := .pointer (some ⟨b, 0, none⟩)) rfl rfl ?_)
 refine stp (r_extract (v := .int .u16 0) rfl rfl ?_)
 refine stp (r_assign (v := .pointer (some ⟨b, 0, none⟩)) rfl ?_)
 refine stp (r_assign_int rfl ?_)
 refine WL_nil ?_
 refine W_seq (W_region rfl ?_)
 refine stp (r_move (v := .pointer (some ⟨b, 0, none⟩)) rfl ?_)
 refine stp (r_build (v := .agg #[.slice none 0 0, .int .i64 0]) (fun w => by kernel_rfl) ?_)
 refine stp (r_gives (v := .tuple #[.agg #[.int .i64 0, .int .i64 0, .int .i64 0, .int .i64 0, .int .u64 0], .int .u16 30]) rfl (gives_eq (pread_calls _ (HP) (rowat_nil _ 1) (steps := []) (a := 0) (c := 0) (by simp) (by simp [inR])) (y := .tuple #[.agg #[.int .i64 0, .int .i64 0, .int .i64 0, .int .i64 0, .int .u64 0], .int .u16 30]) (by rw [known16_a]; rfl)) ?_)
 intro w27 g28
 replace hc4 := g28.heap hc4
 replace hc10 := g28.heap hc10
 replace oS := own_grow oS g28
 replace GM := GM.tr g28
 replace HP := HP.grow g28
 replace G := G.tr g28
 clear g28
 refine stp (r_move (v := .tuple #[.agg #[.int .i64 0, .int .i64 0, .int .i64 0, .int .i64 0, .int .u64 0], .int .u16 30]) rfl ?_)
 refine stp (r_extract (v := .agg #[.int .i64 0, .int .i64 0, .int .i64 0, .int .i64 0, .int .u64 0]) rfl rfl ?_)
 refine stp (r_extract (v := .int .u16 30) rfl rfl ?_)
 refine stp (r_alloc ?_)
 intro b29 w30 hb31 hc32 g33
 refine stn (r_storeAll rfl rfl hc32 (by rfl) (by rfl) (by rfl) ?_)
 intro w34 hc35 u36
 have g37 := g33.upd u36 hb31
 have hge38 := Nat.le_trans G.size hb31
 have ne39 := Nat.ne_of_lt (Nat.lt_of_lt_of_le (lt_of_heap hc4) hb31)
 have ne40 := Nat.ne_of_lt (Nat.lt_of_lt_of_le (lt_of_heap hc10) hb31)
 replace hc4 := g37.heap hc4
 replace hc10 := g37.heap hc10
 replace oS := own_grow oS g37
 replace GM := GM.tr g37
 replace HP := HP.grow g37
 replace G := G.tr g37
 clear u36 g33 hb31 hc32
 refine stp (r_assign_int rfl ?_)
 refine WL_nil ?_
 obtain ⟨_, hgw⟩ := HP.words
 have hgl := lt_of_heap hgw
 have hgl2 := hgl
 refine W_seq (W_region rfl ?_)
 refine stp (r_move (v := .pointer (some ⟨b, 0, none⟩)) rfl ?_)
 refine stp (r_make (n := 8) (base := w.heap.size) rfl rfl (by first | omega | (simp only [maxLen]; omega)) (by first | omega | (simp only [maxLen]; omega)) G.size ?_)
 intro bm44 w41 hb42 own45 g43
 rw [show (madeCells (Value.cells (.int .u8 0 : Value)) (8 * 1)).toList = List.replicate 8 (.int .u8 0) from by rw [Nat.mul_one]; exact toList_madeCells_one _ _] at own45
 replace hc4 := g43.heap hc4
 replace hc10 := g43.heap hc10
 replace oS := own_grow oS g43
 replace GM := GM.tr g43
 replace HP := HP.grow g43
 replace hc35 := g43.heap hc35
 replace G := G.tr g43
 clear g43
 refine WL_some (og rfl ?_)
 obtain ⟨_, _, hs9, -, -, R9⟩ := own_row own45 (by decide)
 cases hs9
 rw [show List.replicate 8 (Value.int .u8 0) = (List.replicate 8 (0 : Int)).map (.int .u8) from rfl] at R9
 have hbs := HP.bases
 have hdis : 0 < (List.replicate 8 (0 : Int)).length → ∀ q_ o_, some (Addr.mk bm44 0 none) = some ⟨q_, o_, none⟩ → q_ ≠ g := fun _ q_ o_ he_ => by simp only [Option.some.injEq, Addr.mk.injEq] at he_; omega
 refine r_call rfl (pput_calls _ HP (xs := List.replicate 8 0) R9 (fun x_ hx_ => by rw [List.eq_of_mem_replicate hx_]; simp [inR]) (by decide) hdis (i := (0 : Int)) (by simp only [inR]; omega)) ?_
 rintro v_ w46 ⟨h2, rfl, HP2, K2, hh2⟩
 have hbg2 := HP.bases
 replace G := G.trK K2 (fun x_ hx_ => by simp only [List.mem_cons, List.not_mem_nil, or_false] at hx_; omega)
 clear K2
 rw [known16_c]
 refine stp (r_assign (v := .bool true) rfl ?_)
 refine WL_nil ?_
 refine W_seq (W_region rfl ?_)
 refine stp (r_move (v := .pointer (some ⟨b, 0, none⟩)) rfl ?_)
 refine stp (r_build (v := .agg #[.slice none 0 0, .int .i64 0]) (fun w => by kernel_rfl) ?_)
 refine stp (r_gives (v := .tuple #[.agg #[.int .i64 0, .int .i64 0, .int .i64 0, .int .i64 0, .int .u64 0], .int .u16 0]) rfl (gives_eq (pread_calls _ (HP2) (rowat_nil _ 1) (steps := []) (a := 0) (c := 0) (by simp) (by simp [inR])) (y := .tuple #[.agg #[.int .i64 0, .int .i64 0, .int .i64 0, .int .i64 0, .int .u64 0], .int .u16 0]) (by rw [known16_b]; rfl)) ?_)
 intro w47 g48
 replace HP2 := HP2.grow g48
 replace G := G.tr g48
 clear g48
 refine stp (r_move (v := .tuple #[.agg #[.int .i64 0, .int .i64 0, .int .i64 0, .int .i64 0, .int .u64 0], .int .u16 0]) rfl ?_)
 refine stp (r_extract (v := .agg #[.int .i64 0, .int .i64 0, .int .i64 0, .int .i64 0, .int .u64 0]) rfl rfl ?_)
 refine stp (r_extract (v := .int .u16 0) rfl rfl ?_)
 refine stp (r_alloc ?_)
 intro b49 w50 hb51 hc52 g53
 refine stn (r_storeAll rfl rfl hc52 (by rfl) (by rfl) (by rfl) ?_)
 intro w54 hc55 u56
 have g57 := g53.upd u56 hb51
 have hge58 := Nat.le_trans G.size hb51
 replace HP2 := HP2.grow g57
 replace G := G.tr g57
 clear u56 g53 hb51 hc52
 refine stp (r_assign_int rfl ?_)
 refine WL_nil ?_
 refine W_seq (W_region rfl ?_)
 refine stp (r_move_int rfl ?_)
 refine stp (r_eql_t rfl rfl (by decide) ?_)
 refine stp (r_move (v := .bool true) rfl ?_)
 refine stp (r_move_int rfl ?_)
 refine stp (r_eql_t rfl rfl (by decide) ?_)
 refine stp (r_pick_t (v := .bool true) rfl rfl rfl ?_)
 refine stp (r_move (v := .bool true) rfl ?_)
 refine stp (r_move (v := .bool true) rfl ?_)
 refine stp (r_pick_t (v := .bool true) rfl rfl rfl ?_)
 refine stp (r_move (v := .bool true) rfl ?_)
 refine stp (r_move_int rfl ?_)
 refine stp (r_eql_t rfl rfl (by decide) ?_)
 refine stp (r_pick_t (v := .bool true) rfl rfl rfl ?_)
 refine stp (r_move (v := .bool true) rfl ?_)
 refine stp (r_move (v := .pointer (some ⟨b, 0, none⟩)) rfl ?_)
 refine stp (r_gives (v := .int .i64 8) rfl (gives_eq (pbytes_calls _ (HP2)) (y := .int .i64 8) (by rw [known16_d]; rfl)) ?_)
 intro w59 g60
 replace HP2 := HP2.grow g60
 replace hc55 := g60.heap hc55
 replace G := G.tr g60
 clear g60
 refine stp (r_eql_t rfl rfl (by decide) ?_)
 refine stp (r_pick_t (v := .bool true) rfl rfl rfl ?_)
 refine stp (r_assign (v := .bool true) rfl ?_)
 refine WL_nil ?_
 refine W_ret ?_
 refine ret1 (res_tmp (v := .bool true) rfl) ⟨?_, G⟩
 rfl
end Go.Proofs.YtifhcfhdajkhlaaGreat.K

namespace Go.Proofs.YtifhcfhdajkhlaaGreat.K
open Go Go.RowKit

section
variable {P : Program} {ops : Array Oper} {Q : Ex → Env → World → Prop} {e : Env} {w : World} {K : Value → World → Prop} {r : List Oper}
variable {d : Option Nat} {ty : TypeId} {pos : String} {af : Array Edge} {g : Option (Nat × Bool)}
variable {t u : TypeId} {x y z : Operand}
end
end Go.Proofs.YtifhcfhdajkhlaaGreat.K

namespace Go.Proofs.YtifhcfhdajkhlaaGreat.K
open Go Go.RowKit Go.Proofs
attribute [local irreducible] Run1 OpG WL W AO Gives
set_option maxRecDepth 100000 in
theorem tree_calls : ∀ (n_ : Nat) (w : World) {w0 : World} {d n cp : Nat} {ad : Option Addr} {xs : List Int} (R : RowAt w0 1 ad n (xs.map (.int .u8))) (g0 : Grow w0 w) (hn : n = xs.length) (hx : ∀ x ∈ xs, inR .u8 x) (hcp : n ≤ cp) (hcp2 : cp ≤ maxLen) (hd : d ≤ 100), d + 1 ≤ n_ → Calls Tryz.prog 21 #[.slice ad n cp, .int .i64 (d : Int)] w (Ret fun v w' => ∃ cells ad' n' c', v = .tuple #[.agg cells.toArray, .slice ad' n' c'] ∧ NodeR (hide w.heap.size w') cells (treeP d xs).1 ∧ n' = (treeP d xs).2.length ∧ n' ≤ c' ∧ c' ≤ maxLen ∧ RowAt w0 1 ad' n' ((treeP d xs).2.map (.int .u8)) ∧ Grow w w') := by
 intro n_
 induction n_ with
 | zero => intro w w0 d n cp ad xs R g0 hn hx hcp hcp2 hd hm_; exact absurd hm_ (by have := Nat.succ_pos d; omega)
 | succ n_ ih_ =>
 intro w w0 d n cp ad xs R g0 hn hx hcp hcp2 hd hm_
 have G := Grow.rfl' w
 refine calls_ret Tryz.func21 Tryz.ntmps21 Tryz.results21 rfl rfl ?_
 refine W_seq (W_region rfl ?_)
 refine stp (r_alloc ?_)
 intro b1 w2 hb3 hc4 g5
 refine stp (r_assign_slice rfl ?_)
 refine WL_nil ?_
 refine W_seq ?_
 refine W_seq (W_region rfl ?_)
 refine stp (r_move_slice rfl ?_)
 refine stp (r_len rfl rfl rfl ?_)
 refine stp (r_eql rfl rfl ?_)
 refine stp (r_move_bool rfl ?_)
 refine WL_some (og_if (s := .bool (decide ((n : Int) = 0))) (b := false) (v := .int .i64 (d : Int)) rfl (wgb_f _) (fun hc6 => ?_) ?_)
 ·
  have hc6_ := hc6
  try simp only [sb] at hc6_
  refine r_move_int rfl ?_
  exact ⟨rfl, rfl⟩
 refine WL_some (og_if (s := .bool (decide ((n : Int) = 0))) (b := false) (v := .bool (decide ((d : Int) = 0))) rfl (wgb_f _) (fun hc7 => ?_) ?_)
 ·
  have hc7_ := hc7
  try simp only [sb] at hc7_
  refine r_eql (gvt hc7) rfl ?_
  exact ⟨rfl, rfl⟩
 refine stp (r_or2 rfl rfl rfl ?_)
 refine WL_nil ?_
 have hge8 := Nat.le_trans G.size hb3
 replace G := G.tr g5
 clear g5 hb3
 refine W_cond2 (b := ((decide ((n : Int) = 0)) || (decide ((d : Int) = 0)))) rfl (fun h1 => ?_) (fun h1 => ?_)
 ·-- true
  simp only [sb] at h1
  have hst : treeP d xs = (.nil, xs) := treeP_stop (by rcases h1 with h | h; exact .inl (List.eq_nil_of_length_eq_zero (by omega)); exact .inr (by omega))
  refine W_seq (W_region rfl ?_)
  refine stp (r_build (v := .agg #[.int .i64 0, .int .i64 0, .slice none 0 0, .slice none 0 0, .slice none 0 0]) (fun w => by kernel_rfl) ?_)
  refine stp (r_move_slice rfl ?_)
  refine stn (r_storeAll rfl rfl hc4 (by rfl) (by rfl) (by rfl) ?_)
  intro w9 hc10 u11
  replace G := G.upd u11 hge8
  clear u11 hc4
  refine stp (r_assign_slice rfl ?_)
  refine WL_nil ?_
  refine W_ret ?_
  rw [hst]
  refine ret2 (res_all rfl hc10 (by rfl)) (res_tmp (v := .slice ad n cp) rfl) ⟨[_, _, _, _, _], _, _, _, rfl, NodeR.zero _, hn, hcp, hcp2, R, G⟩
 ·-- false
  simp only [sb] at h1
  obtain ⟨h1a, h1b⟩ := h1
  obtain ⟨d, rfl⟩ : ∃ e, d = e + 1 := ⟨d - 1, by omega⟩
  obtain ⟨k, c, rfl⟩ : ∃ k c, xs = k :: c := by cases xs with | nil => simp at hn; omega | cons k c => exact ⟨_, _, rfl⟩
  have hk := hx k (by simp)
  simp only [inR] at hk
  simp only [List.length_cons] at hn
  have hxc : ∀ x ∈ c, inR .u8 x := fun x h_ => hx x (by simp [h_])
  have hlim := R.lim
  have hnc : n - 1 = c.length := by omega
  refine W_skip ?_
  refine W_seq (W_region rfl ?_)
  refine stp (r_move_slice rfl ?_)
  refine stp (r_indexR ((R.grow g0).grow G) rfl rfl ?_ ?_ ?_); omega; omega
  refine stp (r_loadR (v := .int .u8 k) (m := 0) ((R.grow g0).grow G) rfl rfl ?_)
  refine stp (r_assign_int rfl ?_)
  refine WL_nil ?_
  refine W_seq (W_region rfl ?_)
  refine stp (r_move_slice rfl ?_)
  refine stp (r_sliceL rfl rfl (by omega) (by omega) ?_)
  have R1 := R.sliceLH (l := 1) (m := n - 1) hcp (by omega) (by omega)
  rw [show ((1 : Int).toNat) = 1 from rfl]
  generalize (if cp = 1 then ad else ad.map (·.add (1 * 1))) = ad1 at R1 ⊢
  have R2 : RowAt w0 1 ad1 (n - 1) (c.map (.int .u8)) := by
   have e_ : (List.take ((n - 1) * 1) (List.drop (1 * 1) (List.map (Value.int .u8) (k :: c)))) = c.map (.int .u8) := by simp only [Nat.mul_one, List.map_cons, List.drop_succ_cons, List.drop_zero]; rw [List.take_of_length_le (by rw [List.length_map]; omega)]
   rw [e_] at R1; exact R1
  clear R1
  refine stp (r_assign_slice rfl ?_)
  refine WL_nil ?_
  refine W_seq (W_region rfl ?_)
  refine stp (r_build (v := .agg #[.int .i64 0, .int .i64 0, .slice none 0 0, .slice none 0 0, .slice none 0 0]) (fun w => by kernel_rfl) ?_)
  refine stp (r_alloc ?_)
  intro b12 w13 hb14 hc15 g16
  refine stn (r_storeAll rfl rfl hc15 (by rfl) (by rfl) (by rfl) ?_)
  intro w17 hc18 u19
  have g20 := g16.upd u19 hb14
  have hge21 := Nat.le_trans G.size hb14
  have ne22 := Nat.ne_of_lt (Nat.lt_of_lt_of_le (lt_of_heap hc4) hb14)
  replace hc4 := g20.heap hc4
  replace G := G.tr g20
  clear u19 g16 hb14 hc15
  refine WL_nil ?_
  refine W_seq (W_region rfl ?_)
  refine stp (r_move_int rfl ?_)
  refine stp (r_quo rfl rfl ?_ ?_ ?_ ?_); omega; omega; (constructor <;> omega)
  refine stp (r_rem rfl rfl ?_ ?_ ?_); omega; omega
  refine stp (r_conv rfl ?_ ?_); constructor <;> omega
  refine stp (r_assign_int rfl ?_)
  refine WL_nil ?_
  refine W_seq ?_
  refine W_seq (W_region rfl ?_)
  refine stp (r_move_int rfl ?_)
  refine stp (r_rem rfl rfl ?_ ?_ ?_); omega; omega
  refine WL_nil ?_
  refine W_block ?_
  refine W_seq (W_region rfl ?_)
  refine stp (r_eql rfl rfl ?_)
  refine stp (r_assign_bool rfl ?_)
  refine WL_nil ?_
  refine W_cond2 (b := (decide ((k % 8) = 0))) rfl (fun h2 => ?_) (fun h2 => ?_)
  ·-- true
   replace h2 := of_decide_eq_true h2
   have ht : treeP (d + 1) (k :: c) = (.nil, c) := by simp only [treeP]; rw [if_pos h2]
   refine W_seq (W_region rfl ?_)
   refine stp (r_loadAll rfl hc18 (by rfl) ?_)
   refine stp (r_move_slice rfl ?_)
   refine stn (r_storeAll rfl rfl hc4 (by rfl) (by rfl) (by rfl) ?_)
   intro w23 hc24 u25
   replace hc18 := u25.heap hc18 ne22.symm
   replace G := G.upd u25 hge8
   clear u25 hc4
   refine stp (r_assign_slice rfl ?_)
   refine WL_nil ?_
   refine W_ret ?_
   rw [ht]
   refine ret2 (res_all rfl hc24 (by rfl)) (res_tmp (v := .slice ad1 (n - 1) (cp - 1)) rfl) ⟨[_, _, _, _, _], _, _, _, rfl, NodeR.zero _, hnc, by omega, by omega, R2, G⟩
  ·-- false
   replace h2 := of_decide_eq_false h2
   refine W_seq ?_
   refine W_seq (W_region rfl ?_)
   refine stp (r_eql rfl rfl ?_)
   refine stp (r_assign_bool rfl ?_)
   refine WL_nil ?_
   refine W_cond2 (b := (decide ((k % 8) = 1))) rfl (fun h3 => ?_) (fun h3 => ?_)
   ·-- true
    replace h3 := of_decide_eq_true h3
    refine W_skip ?_
    refine W_true (show _ = Value.bool true from congrArg Value.bool (decide_eq_true h3)) ?_
    refine W_seq (W_region rfl ?_)
    refine stp (r_fieldAddr rfl ?_)
    refine stn (r_store1 (v := .int .i64 2) rfl rfl (by rfl) hc18 (by rfl) (by rfl) ?_)
    intro w26 hc27 u28
    replace hc4 := u28.heap hc4 ne22
    replace G := G.upd u28 hge21
    clear u28 hc18
    refine WL_nil ?_
    refine W_seq (W_region rfl ?_)
    refine stp (r_fieldAddr rfl ?_)
    refine stn (r_store1 (v := .int .i64 2) rfl rfl (by rfl) hc27 (by rfl) (by rfl) ?_)
    intro w29 hc30 u31
    replace hc4 := u31.heap hc4 ne22
    replace G := G.upd u31 hge21
    clear u31 hc27
    refine WL_nil ?_
    refine W_seq (W_region rfl ?_)
    refine stp (r_assign_int rfl ?_)
    refine WL_nil ?_
    refine W_block ?_
    refine W_loop (fun m_ e_ w_ => ∃ (m : Nat) (ad3 : Option Addr) (n3 : Nat) (c3 : Nat), m_ = ((3 * (k / 8 % 5) + k % 2)).toNat - m ∧ Fr [(0, .slice ad1 (n - 1) (cp - 1)), (4, .pointer (some ⟨b1, 0, none⟩)), (5, .slice none 0 0), (6, .int .u8 k), (7, .pointer (some ⟨b12, 0, none⟩)), (8, .int .i64 ((k / 8) % 5)), (9, .int .i64 (m : Int))] e_ ∧ ((m : Int) ≤ (3 * (k / 8 % 5) + k % 2)) ∧ (w_.heap[b1]? = some (.cells #[.int .i64 0, .int .i64 0, .slice none 0 0, .slice none 0 0, .slice none 0 0] 71 (0, 0))) ∧ (w_.heap[b12]? = some (.cells #[.int .i64 2, .int .i64 2, .slice none 0 0, .slice ad3 n3 c3, .slice none 0 0] 71 (0, 0))) ∧ (w_.ownsRow w.heap.size 5 1 (.slice ad3 n3 c3) m ((List.range m).map fun i => .int .u8 (bTree k i))) ∧ Grow w w_) _ ⟨0, none, 0, 0, rfl, fr_of ⟨rfl, rfl, rfl, rfl, rfl, rfl, rfl, trivial⟩, by omega, hc4, hc30, World.ownsRow_nil _ _ _ _, G⟩ ?_
    clear hc4 hc30
    clear G
    rintro m_ e_ w32 ⟨m, ad3, n3, c3, rfl, ⟨e33, rfl⟩, hm, hc4, hc30, own, G⟩
    refine W_seq ?_
    refine W_seq (W_region rfl ?_)
    refine stp (r_move_int rfl ?_)
    refine stp (r_move_int rfl ?_)
    refine stp (r_mul rfl rfl ?_ ?_); constructor <;> omega
    refine stp (r_move_int rfl ?_)
    refine stp (r_rem rfl rfl ?_ ?_ ?_); omega; omega
    refine stp (r_conv rfl ?_ ?_); constructor <;> omega
    refine stp (r_add rfl rfl ?_ ?_); constructor <;> omega
    refine stp (r_lss rfl rfl ?_)
    refine WL_nil ?_
    refine W_cond2 (b := (decide ((m : Int) < ((3 * ((k / 8) % 5)) + (k % 2))))) rfl (fun hlt => ?_) (fun hlt => ?_)
    ·-- true
     replace hlt := of_decide_eq_true hlt
     refine W_skip ?_
     refine W_seq ?_
     refine W_block ?_
     refine W_region rfl ?_
     refine stp (r_fieldAddr rfl ?_)
     refine stp (r_load (v := .slice ad3 n3 c3) rfl hc30 rfl ?_)
     refine stp (r_move_int rfl ?_)
     refine stp (r_move_int rfl ?_)
     refine stp (r_conv rfl ?_ ?_); constructor <;> omega
     refine stp (r_addw rfl rfl ?_)
     refine stp (r_buildSlice (cs := #[.int .u8 (bTree k m)]) (el := 5) (fun w => by kernel_rfl) ?_)
     intro bs34 w35 hb36 hc37 g38
     have hge39 := Nat.le_trans G.size hb36
     have ne40 := Nat.ne_of_lt (Nat.lt_of_lt_of_le (lt_of_heap hc4) hb36)
     have ne41 := Nat.ne_of_lt (Nat.lt_of_lt_of_le (lt_of_heap hc30) hb36)
     replace hc4 := g38.heap hc4
     replace hc30 := g38.heap hc30
     replace own := own_grow own g38
     replace G := G.tr g38
     clear g38
     refine stp (r_append rfl rfl rfl rfl own (Row.of_block (n := 1) hc37 rfl rfl (by omega)) (fun q_ hq_ => by simp at hq_; subst hq_; rfl) (by simp only [maxLen]; omega) (by omega) G.size ?_)
     intro v42 w43 own6 gr6
     replace G := G.grown gr6 (own_ge own)
     replace hc4 := gr_heap gr6 hc4 (own_ne own hc4 (by decide))
     replace hc30 := gr_heap gr6 hc30 (own_ne own hc30 (by decide))
     clear own gr6
     obtain ⟨ad4, n4, c4, rfl⟩ := own_slice own6
     refine stp (r_fieldAddr rfl ?_)
     refine stn (r_store1 (v := .slice ad4 n4 c4) rfl rfl (by rfl) hc30 (by rfl) (by rfl) ?_)
     intro w44 hc45 u46
     replace hc4 := u46.heap hc4 ne22
     replace own6 := own_upd own6 u46 (own_ne own6 hc30 (by decide))
     replace G := G.upd u46 hge21
     clear u46 hc30
     refine WL_nil ?_
     refine W_region rfl ?_
     refine stp (r_move_int rfl ?_)
     refine stp (r_add rfl rfl ?_ ?_); constructor <;> omega
     refine stp (r_assign_int rfl ?_)
     refine WL_nil ?_
     refine ⟨_, ?_, m + 1, ad4, n4, c4, rfl, fr_of ⟨rfl, rfl, rfl, rfl, rfl, rfl, congrArg (Value.int .i64) (by omega), trivial⟩, by omega, hc4, hc45, (by rw [List.range_succ, List.map_append]; exact own6), G⟩
     omega
    ·-- false
     replace hlt := of_decide_eq_false hlt
     have hm2 : m = (3 * (k / 8 % 5) + k % 2).toNat := by omega
     have ht : treeP (d + 1) (k :: c) = (.mk 2 2 [] ((List.range (3 * (k / 8 % 5) + k % 2).toNat).map (bTree k)) [], c) := by simp only [treeP]; rw [if_neg h2, if_pos (by omega)]
     refine W_exit ?_
     refine W_seq (W_region rfl ?_)
     refine stp (r_loadAll rfl hc30 (by rfl) ?_)
     refine stp (r_move_slice rfl ?_)
     refine stn (r_storeAll rfl rfl hc4 (by rfl) (by rfl) (by rfl) ?_)
     intro w47 hc48 u49
     replace hc30 := u49.heap hc30 ne22.symm
     replace own := own_upd own u49 (own_ne own hc4 (by decide))
     replace G := G.upd u49 hge8
     clear u49 hc4
     refine stp (r_assign_slice rfl ?_)
     refine WL_nil ?_
     refine W_ret ?_
     rw [ht]
     refine ret2 (res_all rfl hc48 (by rfl)) (res_tmp (v := .slice ad1 (n - 1) (cp - 1)) rfl) ⟨[_, _, _, _, _], _, _, _, rfl, .mk (by simp [inR]) (by simp [inR]) (Row.nil _ _) (by simp) (own_hide_ints own hm2 (by omega)) (fun x hx_ => by obtain ⟨i, _, rfl⟩ := List.mem_map.1 hx_; exact wrap_u8R _) (Row.nil _ _) .nil, hnc, (by omega), (by omega), R2, G⟩
   ·-- false
    replace h3 := of_decide_eq_false h3
    refine W_region rfl ?_
    refine stp (r_eql rfl rfl ?_)
    refine stp (r_assign_bool rfl ?_)
    refine WL_nil ?_
    refine W_cond2 (b := (decide ((k % 8) = 2))) rfl (fun h4 => ?_) (fun h4 => ?_)
    ·-- true
     replace h4 := of_decide_eq_true h4
     refine W_seq (W_region rfl ?_)
     refine stp (r_fieldAddr rfl ?_)
     refine stn (r_store1 (v := .int .i64 2) rfl rfl (by rfl) hc18 (by rfl) (by rfl) ?_)
     intro w50 hc51 u52
     replace hc4 := u52.heap hc4 ne22
     replace G := G.upd u52 hge21
     clear u52 hc18
     refine WL_nil ?_
     refine W_seq (W_region rfl ?_)
     refine stp (r_fieldAddr rfl ?_)
     refine stn (r_store1 (v := .int .i64 2) rfl rfl (by rfl) hc51 (by rfl) (by rfl) ?_)
     intro w53 hc54 u55
     replace hc4 := u55.heap hc4 ne22
     replace G := G.upd u55 hge21
     clear u55 hc51
     refine WL_nil ?_
     refine W_seq (W_region rfl ?_)
     refine stp (r_assign_int rfl ?_)
     refine WL_nil ?_
     refine W_block ?_
     refine W_loop (fun m_ e_ w_ => ∃ (m : Nat) (ad3 : Option Addr) (n3 : Nat) (c3 : Nat), m_ = ((3 * (k / 8 % 5) + k % 2)).toNat - m ∧ Fr [(0, .slice ad1 (n - 1) (cp - 1)), (4, .pointer (some ⟨b1, 0, none⟩)), (5, .slice none 0 0), (6, .int .u8 k), (7, .pointer (some ⟨b12, 0, none⟩)), (8, .int .i64 ((k / 8) % 5)), (9, .int .i64 (m : Int))] e_ ∧ ((m : Int) ≤ (3 * (k / 8 % 5) + k % 2)) ∧ (w_.heap[b1]? = some (.cells #[.int .i64 0, .int .i64 0, .slice none 0 0, .slice none 0 0, .slice none 0 0] 71 (0, 0))) ∧ (w_.heap[b12]? = some (.cells #[.int .i64 2, .int .i64 2, .slice none 0 0, .slice ad3 n3 c3, .slice none 0 0] 71 (0, 0))) ∧ (w_.ownsRow w.heap.size 5 1 (.slice ad3 n3 c3) m ((List.range m).map fun i => .int .u8 (bTree k i))) ∧ Grow w w_) _ ⟨0, none, 0, 0, rfl, fr_of ⟨rfl, rfl, rfl, rfl, rfl, rfl, rfl, trivial⟩, by omega, hc4, hc54, World.ownsRow_nil _ _ _ _, G⟩ ?_
     clear hc4 hc54
     clear G
     rintro m_ e_ w56 ⟨m, ad3, n3, c3, rfl, ⟨e57, rfl⟩, hm, hc4, hc54, own, G⟩
     refine W_seq ?_
     refine W_seq (W_region rfl ?_)
     refine stp (r_move_int rfl ?_)
     refine stp (r_move_int rfl ?_)
     refine stp (r_mul rfl rfl ?_ ?_); constructor <;> omega
     refine stp (r_move_int rfl ?_)
     refine stp (r_rem rfl rfl ?_ ?_ ?_); omega; omega
     refine stp (r_conv rfl ?_ ?_); constructor <;> omega
     refine stp (r_add rfl rfl ?_ ?_); constructor <;> omega
     refine stp (r_lss rfl rfl ?_)
     refine WL_nil ?_
     refine W_cond2 (b := (decide ((m : Int) < ((3 * ((k / 8) % 5)) + (k % 2))))) rfl (fun hlt => ?_) (fun hlt => ?_)
     ·-- true
      replace hlt := of_decide_eq_true hlt
      refine W_skip ?_
      refine W_seq ?_
      refine W_block ?_
      refine W_region rfl ?_
      refine stp (r_fieldAddr rfl ?_)
      refine stp (r_load (v := .slice ad3 n3 c3) rfl hc54 rfl ?_)
      refine stp (r_move_int rfl ?_)
      refine stp (r_move_int rfl ?_)
      refine stp (r_conv rfl ?_ ?_); constructor <;> omega
      refine stp (r_addw rfl rfl ?_)
      refine stp (r_buildSlice (cs := #[.int .u8 (bTree k m)]) (el := 5) (fun w => by kernel_rfl) ?_)
      intro bs58 w59 hb60 hc61 g62
      have hge63 := Nat.le_trans G.size hb60
      have ne64 := Nat.ne_of_lt (Nat.lt_of_lt_of_le (lt_of_heap hc4) hb60)
      have ne65 := Nat.ne_of_lt (Nat.lt_of_lt_of_le (lt_of_heap hc54) hb60)
      replace hc4 := g62.heap hc4
      replace hc54 := g62.heap hc54
      replace own := own_grow own g62
      replace G := G.tr g62
      clear g62
      refine stp (r_append rfl rfl rfl rfl own (Row.of_block (n := 1) hc61 rfl rfl (by omega)) (fun q_ hq_ => by simp at hq_; subst hq_; rfl) (by simp only [maxLen]; omega) (by omega) G.size ?_)
      intro v66 w67 own6 gr6
      replace G := G.grown gr6 (own_ge own)
      replace hc4 := gr_heap gr6 hc4 (own_ne own hc4 (by decide))
      replace hc54 := gr_heap gr6 hc54 (own_ne own hc54 (by decide))
      clear own gr6
      obtain ⟨ad4, n4, c4, rfl⟩ := own_slice own6
      refine stp (r_fieldAddr rfl ?_)
      refine stn (r_store1 (v := .slice ad4 n4 c4) rfl rfl (by rfl) hc54 (by rfl) (by rfl) ?_)
      intro w68 hc69 u70
      replace hc4 := u70.heap hc4 ne22
      replace own6 := own_upd own6 u70 (own_ne own6 hc54 (by decide))
      replace G := G.upd u70 hge21
      clear u70 hc54
      refine WL_nil ?_
      refine W_region rfl ?_
      refine stp (r_move_int rfl ?_)
      refine stp (r_add rfl rfl ?_ ?_); constructor <;> omega
      refine stp (r_assign_int rfl ?_)
      refine WL_nil ?_
      refine ⟨_, ?_, m + 1, ad4, n4, c4, rfl, fr_of ⟨rfl, rfl, rfl, rfl, rfl, rfl, congrArg (Value.int .i64) (by omega), trivial⟩, by omega, hc4, hc69, (by rw [List.range_succ, List.map_append]; exact own6), G⟩
      omega
     ·-- false
      replace hlt := of_decide_eq_false hlt
      have hm2 : m = (3 * (k / 8 % 5) + k % 2).toNat := by omega
      have ht : treeP (d + 1) (k :: c) = (.mk 2 2 [] ((List.range (3 * (k / 8 % 5) + k % 2).toNat).map (bTree k)) [], c) := by simp only [treeP]; rw [if_neg h2, if_pos (by omega)]
      refine W_exit ?_
      refine W_seq (W_region rfl ?_)
      refine stp (r_loadAll rfl hc54 (by rfl) ?_)
      refine stp (r_move_slice rfl ?_)
      refine stn (r_storeAll rfl rfl hc4 (by rfl) (by rfl) (by rfl) ?_)
      intro w71 hc72 u73
      replace hc54 := u73.heap hc54 ne22.symm
      replace own := own_upd own u73 (own_ne own hc4 (by decide))
      replace G := G.upd u73 hge8
      clear u73 hc4
      refine stp (r_assign_slice rfl ?_)
      refine WL_nil ?_
      refine W_ret ?_
      rw [ht]
      refine ret2 (res_all rfl hc72 (by rfl)) (res_tmp (v := .slice ad1 (n - 1) (cp - 1)) rfl) ⟨[_, _, _, _, _], _, _, _, rfl, .mk (by simp [inR]) (by simp [inR]) (Row.nil _ _) (by simp) (own_hide_ints own hm2 (by omega)) (fun x hx_ => by obtain ⟨i, _, rfl⟩ := List.mem_map.1 hx_; exact wrap_u8R _) (Row.nil _ _) .nil, hnc, (by omega), (by omega), R2, G⟩
    ·-- false
     replace h4 := of_decide_eq_false h4
     refine W_seq (W_region rfl ?_)
     refine stp (r_eql rfl rfl ?_)
     refine stp (r_assign_bool rfl ?_)
     refine WL_nil ?_
     refine W_cond2 (b := (decide ((k % 8) = 3))) rfl (fun h5 => ?_) (fun h5 => ?_)
     ·-- true
      replace h5 := of_decide_eq_true h5
      refine W_seq (W_region rfl ?_)
      refine stp (r_fieldAddr rfl ?_)
      refine stn (r_store1 (v := .int .i64 2) rfl rfl (by rfl) hc18 (by rfl) (by rfl) ?_)
      intro w74 hc75 u76
      replace hc4 := u76.heap hc4 ne22
      replace G := G.upd u76 hge21
      clear u76 hc18
      refine WL_nil ?_
      refine W_seq (W_region rfl ?_)
      refine stp (r_fieldAddr rfl ?_)
      refine stn (r_store1 (v := .int .i64 5) rfl rfl (by rfl) hc75 (by rfl) (by rfl) ?_)
      intro w77 hc78 u79
      replace hc4 := u79.heap hc4 ne22
      replace G := G.upd u79 hge21
      clear u79 hc75
      refine WL_nil ?_
      refine W_seq (W_region rfl ?_)
      refine stp (r_assign_int rfl ?_)
      refine WL_nil ?_
      refine W_block ?_
      refine W_loop (fun m_ e_ w_ => ∃ (m : Nat) (ad3 : Option Addr) (n3 : Nat) (c3 : Nat), m_ = ((k / 8 % 5)).toNat - m ∧ Fr [(0, .slice ad1 (n - 1) (cp - 1)), (4, .pointer (some ⟨b1, 0, none⟩)), (5, .slice none 0 0), (6, .int .u8 k), (7, .pointer (some ⟨b12, 0, none⟩)), (8, .int .i64 ((k / 8) % 5)), (10, .int .i64 (m : Int))] e_ ∧ ((m : Int) ≤ (k / 8 % 5)) ∧ (w_.heap[b1]? = some (.cells #[.int .i64 0, .int .i64 0, .slice none 0 0, .slice none 0 0, .slice none 0 0] 71 (0, 0))) ∧ (w_.heap[b12]? = some (.cells #[.int .i64 2, .int .i64 5, .slice ad3 n3 c3, .slice none 0 0, .slice none 0 0] 71 (0, 0))) ∧ (w_.ownsRow w.heap.size 33 1 (.slice ad3 n3 c3) m ((List.range m).map fun i => .int .u64 (w3Tree k i))) ∧ Grow w w_) _ ⟨0, none, 0, 0, rfl, fr_of ⟨rfl, rfl, rfl, rfl, rfl, rfl, rfl, trivial⟩, by omega, hc4, hc78, World.ownsRow_nil _ _ _ _, G⟩ ?_
      clear hc4 hc78
      clear G
      rintro m_ e_ w80 ⟨m, ad3, n3, c3, rfl, ⟨e81, rfl⟩, hm, hc4, hc78, own, G⟩
      refine W_seq ?_
      refine W_seq (W_region rfl ?_)
      refine stp (r_move_int rfl ?_)
      refine stp (r_move_int rfl ?_)
      refine stp (r_lss rfl rfl ?_)
      refine WL_nil ?_
      refine W_cond2 (b := (decide ((m : Int) < ((k / 8) % 5)))) rfl (fun hlt => ?_) (fun hlt => ?_)
      ·-- true
       replace hlt := of_decide_eq_true hlt
       refine W_skip ?_
       refine W_seq ?_
       refine W_block ?_
       refine W_region rfl ?_
       refine stp (r_fieldAddr rfl ?_)
       refine stp (r_load (v := .slice ad3 n3 c3) rfl hc78 rfl ?_)
       refine stp (r_move_int rfl ?_)
       refine stp (r_conv rfl ?_ ?_); constructor <;> omega
       refine stp (r_mulw rfl rfl ?_)
       refine stp (r_move_int rfl ?_)
       refine stp (r_conv rfl ?_ ?_); constructor <;> omega
       refine stp (r_addw rfl rfl ?_)
       refine stp (r_buildSlice (cs := #[.int .u64 (w3Tree k m)]) (el := 33) (fun w => by kernel_rfl) ?_)
       intro bs82 w83 hb84 hc85 g86
       have hge87 := Nat.le_trans G.size hb84
       have ne88 := Nat.ne_of_lt (Nat.lt_of_lt_of_le (lt_of_heap hc4) hb84)
       have ne89 := Nat.ne_of_lt (Nat.lt_of_lt_of_le (lt_of_heap hc78) hb84)
       replace hc4 := g86.heap hc4
       replace hc78 := g86.heap hc78
       replace own := own_grow own g86
       replace G := G.tr g86
       clear g86
       refine stp (r_append rfl rfl rfl rfl own (Row.of_block (n := 1) hc85 rfl rfl (by omega)) (fun q_ hq_ => by simp at hq_; subst hq_; rfl) (by simp only [maxLen]; omega) (by omega) G.size ?_)
       intro v90 w91 own6 gr6
       replace G := G.grown gr6 (own_ge own)
       replace hc4 := gr_heap gr6 hc4 (own_ne own hc4 (by decide))
       replace hc78 := gr_heap gr6 hc78 (own_ne own hc78 (by decide))
       clear own gr6
       obtain ⟨ad4, n4, c4, rfl⟩ := own_slice own6
       refine stp (r_fieldAddr rfl ?_)
       refine stn (r_store1 (v := .slice ad4 n4 c4) rfl rfl (by rfl) hc78 (by rfl) (by rfl) ?_)
       intro w92 hc93 u94
       replace hc4 := u94.heap hc4 ne22
       replace own6 := own_upd own6 u94 (own_ne own6 hc78 (by decide))
       replace G := G.upd u94 hge21
       clear u94 hc78
       refine WL_nil ?_
       refine W_region rfl ?_
       refine stp (r_move_int rfl ?_)
       refine stp (r_add rfl rfl ?_ ?_); constructor <;> omega
       refine stp (r_assign_int rfl ?_)
       refine WL_nil ?_
       refine ⟨_, ?_, m + 1, ad4, n4, c4, rfl, fr_of ⟨rfl, rfl, rfl, rfl, rfl, rfl, congrArg (Value.int .i64) (by omega), trivial⟩, by omega, hc4, hc93, (by rw [List.range_succ, List.map_append]; exact own6), G⟩
       omega
      ·-- false
       replace hlt := of_decide_eq_false hlt
       have hm2 : m = (k / 8 % 5).toNat := by omega
       have ht : treeP (d + 1) (k :: c) = (.mk 2 5 ((List.range (k / 8 % 5).toNat).map (w3Tree k)) [] [], c) := by simp only [treeP]; rw [if_neg h2, if_neg (by omega), if_pos h5]
       refine W_exit ?_
       refine W_seq (W_region rfl ?_)
       refine stp (r_loadAll rfl hc78 (by rfl) ?_)
       refine stp (r_move_slice rfl ?_)
       refine stn (r_storeAll rfl rfl hc4 (by rfl) (by rfl) (by rfl) ?_)
       intro w95 hc96 u97
       replace hc78 := u97.heap hc78 ne22.symm
       replace own := own_upd own u97 (own_ne own hc4 (by decide))
       replace G := G.upd u97 hge8
       clear u97 hc4
       refine stp (r_assign_slice rfl ?_)
       refine WL_nil ?_
       refine W_ret ?_
       rw [ht]
       refine ret2 (res_all rfl hc96 (by rfl)) (res_tmp (v := .slice ad1 (n - 1) (cp - 1)) rfl) ⟨[_, _, _, _, _], _, _, _, rfl, .mk (by simp [inR]) (by simp [inR]) (own_hide_ints own hm2 (by omega)) (fun x hx_ => by obtain ⟨i, _, rfl⟩ := List.mem_map.1 hx_; exact wrap_u64R _) (Row.nil _ _) (by simp) (Row.nil _ _) .nil, hnc, (by omega), (by omega), R2, G⟩
     ·-- false
      replace h5 := of_decide_eq_false h5
      refine W_seq (W_region rfl ?_)
      refine stp (r_fieldAddr rfl ?_)
      refine stn (r_store1 (v := .int .i64 1) rfl rfl (by rfl) hc18 (by rfl) (by rfl) ?_)
      intro w98 hc99 u100
      replace hc4 := u100.heap hc4 ne22
      replace G := G.upd u100 hge21
      clear u100 hc18
      refine WL_nil ?_
      refine W_seq ?_
      refine W_seq (W_region rfl ?_)
      refine stp (r_move_int rfl ?_)
      refine stp (r_rem rfl rfl ?_ ?_ ?_); omega; omega
      refine stp (r_gtr rfl rfl ?_)
      refine WL_nil ?_
      refine W_cond2 (b := (decide ((k % 8) > 6))) rfl (fun h6 => ?_) (fun h6 => ?_)
      ·-- true
       replace h6 := of_decide_eq_true h6
       refine W_seq (W_region rfl ?_)
       refine stp (r_fieldAddr rfl ?_)
       refine stn (r_store1 (v := .int .i64 2) rfl rfl (by rfl) hc99 (by rfl) (by rfl) ?_)
       intro w101 hc102 u103
       replace hc4 := u103.heap hc4 ne22
       replace G := G.upd u103 hge21
       clear u103 hc99
       refine WL_nil ?_
       refine W_region rfl ?_
       refine stp (r_fieldAddr rfl ?_)
       refine stn (r_store1 (v := .int .i64 6) rfl rfl (by rfl) hc102 (by rfl) (by rfl) ?_)
       intro w104 hc105 u106
       replace hc4 := u106.heap hc4 ne22
       replace G := G.upd u106 hge21
       clear u106 hc102
       refine WL_nil ?_
       refine W_seq ?_
       refine W_seq (W_region rfl ?_)
       refine stp (r_assign_int rfl ?_)
       refine WL_nil ?_
       refine W_block ?_
       refine W_loop (fun m_ e_ w_ => m_ = 0 ∧ Fr [(0, .slice ad1 (n - 1) (cp - 1)), (1, .int .i64 ((d + 1 : Nat) : Int)), (4, .pointer (some ⟨b1, 0, none⟩)), (5, .slice none 0 0), (6, .int .u8 k), (7, .pointer (some ⟨b12, 0, none⟩)), (8, .int .i64 ((k / 8) % 5)), (11, .int .i64 0)] e_ ∧ (w_.heap[b1]? = some (.cells #[.int .i64 0, .int .i64 0, .slice none 0 0, .slice none 0 0, .slice none 0 0] 71 (0, 0))) ∧ (w_.heap[b12]? = some (.cells #[.int .i64 2, .int .i64 6, .slice none 0 0, .slice none 0 0, .slice none 0 0] 71 (0, 0))) ∧ Grow w w_) _ ⟨rfl, fr_of ⟨rfl, rfl, rfl, rfl, rfl, rfl, rfl, rfl, trivial⟩, hc4, hc105, G⟩ ?_
       clear hc4 hc105
       clear G
       rintro m_ e_ w107 ⟨rfl, ⟨e108, rfl⟩, hc4, hc105, G⟩
       refine W_seq ?_
       refine W_seq (W_region rfl ?_)
       refine stp (r_move_int rfl ?_)
       refine stp (r_move_int rfl ?_)
       refine stp (r_quo rfl rfl ?_ ?_ ?_ ?_); omega; omega; (constructor <;> omega)
       refine stp (r_conv rfl ?_ ?_); constructor <;> omega
       refine stp (r_lss rfl rfl ?_)
       refine stp (r_move_bool rfl ?_)
       refine WL_some (og_if (s := .bool (decide (0 < (k / 64)))) (b := true) (v := .pointer (some ⟨b12, 0, none⟩)) rfl (wgb_t _) (fun hc109 => ?_) ?_)
       ·
        have hc109_ := of_decide_eq_true hc109
        refine r_fieldAddr rfl ?_
        exact ⟨rfl, rfl⟩
       refine WL_some (og_if (s := .bool (decide (0 < (k / 64)))) (b := true) (v := .int .i64 2) rfl (wgb_t _) (fun hc110 => ?_) ?_)
       ·
        have hc110_ := of_decide_eq_true hc110
        refine r_load (v := .int .i64 2) (gvt hc110) hc105 rfl ?_
        exact ⟨rfl, rfl⟩
       refine WL_some (og_if (s := .bool (decide (0 < (k / 64)))) (b := true) (v := .bool false) rfl (wgb_t _) (fun hc111 => ?_) ?_)
       ·
        have hc111_ := of_decide_eq_true hc111
        refine r_eql_f (gvt hc111) rfl (by decide) ?_
        exact ⟨rfl, rfl⟩
       refine stp (r_and2 rfl rfl rfl ?_)
       refine WL_nil ?_
       refine W_false (show _ = Value.bool false from congrArg Value.bool (by simp)) ?_
       refine W_exit ?_
       refine W_seq (W_region rfl ?_)
       refine stp (r_assign_int rfl ?_)
       refine WL_nil ?_
       refine W_block ?_
       obtain ⟨B, hB⟩ : ∃ B, B = w107.heap.size := ⟨_, rfl⟩
       have hB7 : b12 < B := by rw [hB]; exact lt_of_heap hc105
       have hwB : w.heap.size ≤ B := by rw [hB]; exact G.size
       have hBw : B ≤ w107.heap.size := by rw [hB]; exact Nat.le_refl _
       have hB4 : b1 < B := by rw [hB]; exact lt_of_heap hc4
       clear hB
       have hc1 : (treesP (treeP d) 0 c).2 = c := rfl
       refine W_loop (fun m_ e_ w_ => ∃ (j : Nat) (ad5 : Option Addr) (n5 : Nat) (c5 : Nat) (ad6 : Option Addr) (n6 : Nat) (c6 : Nat) (kc : List Value) (V : Nat → Prop), m_ = (k / 8 % 5).toNat - j ∧ Fr [(1, .int .i64 ((d + 1 : Nat) : Int)), (4, .pointer (some ⟨b1, 0, none⟩)), (5, .slice none 0 0), (7, .pointer (some ⟨b12, 0, none⟩)), (8, .int .i64 ((k / 8) % 5)), (12, .int .i64 (j : Int)), (0, .slice ad5 n5 c5)] e_ ∧ ((j : Int) ≤ (k / 8 % 5)) ∧ (n5 = (treesP (treeP d) j c).2.length) ∧ (n5 ≤ c5) ∧ (c5 ≤ maxLen) ∧ (RowAt w0 1 ad5 n5 ((treesP (treeP d) j c).2.map (.int .u8))) ∧ (∀ x, (Value.slice ad6 n6 c6).ownBlock = some x → ¬ V x) ∧ (w_.heap[b1]? = some (.cells #[.int .i64 0, .int .i64 0, .slice none 0 0, .slice none 0 0, .slice none 0 0] 71 (0, 0))) ∧ (w_.heap[b12]? = some (.cells #[.int .i64 2, .int .i64 6, .slice none 0 0, .slice none 0 0, .slice ad6 n6 c6] 71 (0, 0))) ∧ (B ≤ w_.heap.size) ∧ (w_.ownsRow B 71 5 (.slice ad6 n6 c6) j kc) ∧ (∀ x, V x → B ≤ x ∧ x < w_.heap.size) ∧ (KidsR (see V w_) kc (treesP (treeP d) j c).1) ∧ Grow w w_) _ ⟨0, ad1, n - 1, cp - 1, none, 0, 0, [], fun _ => False, rfl, fr_of ⟨rfl, rfl, rfl, rfl, rfl, rfl, rfl, trivial⟩, by omega, hnc, by omega, by omega, R2, fun x _ h_ => h_, hc4, hc105, hBw, World.ownsRow_nil _ _ _ _, fun x h_ => h_.elim, .nil, G⟩ ?_
       clear hc4 hc105
       clear G
       rintro m_ e_ w112 ⟨j, ad5, n5, c5, ad6, n6, c6, kc, V, rfl, ⟨e113, rfl⟩, hj, hn5, hc5, hc52, hR5, hVo, hc4, hc105, hBw, ownk, hV, hK, G⟩
       refine W_seq ?_
       refine W_seq (W_region rfl ?_)
       refine stp (r_move_int rfl ?_)
       refine stp (r_move_int rfl ?_)
       refine stp (r_lss rfl rfl ?_)
       refine WL_nil ?_
       refine W_cond2 (b := (decide ((j : Int) < ((k / 8) % 5)))) rfl (fun hlt => ?_) (fun hlt => ?_)
       ·-- true
        replace hlt := of_decide_eq_true hlt
        refine W_skip ?_
        refine W_seq ?_
        refine W_block ?_
        refine W_seq (W_region rfl ?_)
        refine stp (r_move_slice rfl ?_)
        refine stp (r_move_int rfl ?_)
        refine stp (r_sub rfl rfl ?_ ?_); constructor <;> omega
        refine WL_some (og rfl ?_)
        have hBw0 := hBw
        have hol := fun x hx_ => (ownk.lt x hx_).2
        have hcal := ih_ _ (d := d) hR5 (g0.tr G) hn5 (treesP_rest d j c hxc) hc5 hc52 (by omega) (by omega)
        rw [show ((d : Nat) : Int) = ((d + 1 : Nat) : Int) - 1 from by omega] at hcal
        refine r_call rfl hcal ?_
        rintro v_ w114 ⟨cells, ad9, n9, c9, rfl, hT9, hn9, hc9, hc92, hR9, g_⟩
        have hsz9 := lt_of_heap hc105
        replace hc4 := g_.heap hc4
        replace hc105 := g_.heap hc105
        replace hBw := Nat.le_trans hBw g_.size
        replace ownk := own_grow ownk g_
        replace hV := vlt hV g_.size
        replace hK := hK.sees (Sees.grow g_)
        replace G := G.tr g_
        clear g_
        obtain ⟨y0, y1, ya, yn, yc, za, zn, zc, ua, un, uc, rfl⟩ := hT9.cells
        have hT8 := hT9.sees (Sees.more (V' := fun x => V x ∨ (w112.heap.size ≤ x ∧ x < w114.heap.size)) w114 (fun x h1_ h2_ => .inr ⟨h2_, h1_⟩))
        clear hT9
        replace hK := hK.sees (Sees.more (V' := fun x => V x ∨ (w112.heap.size ≤ x ∧ x < w114.heap.size)) w114 (fun x _ h2_ => .inl h2_))
        have hV9 : ∀ x, (V x ∨ (w112.heap.size ≤ x ∧ x < w114.heap.size)) → B ≤ x ∧ x < w114.heap.size := fun x hx_ => hx_.elim (fun h_ => hV x h_) (fun h_ => ⟨Nat.le_trans hBw0 h_.1, h_.2⟩)
        have hVo9 : ∀ x, (Value.slice ad6 n6 c6).ownBlock = some x → ¬ (V x ∨ (w112.heap.size ≤ x ∧ x < w114.heap.size)) := fun x hx_ hv_ => hv_.elim (hVo x hx_) (fun h_ => by have := (hol x hx_); omega)
        clear hV hVo
        obtain ⟨V9, hV9e⟩ : ∃ V9 : Nat → Prop, V9 = fun x => V x ∨ (w112.heap.size ≤ x ∧ x < w114.heap.size) := ⟨_, rfl⟩
        rw [← hV9e] at hT8 hK
        have hV : ∀ x, V9 x → B ≤ x ∧ x < w114.heap.size := by rw [hV9e]; exact hV9
        have hVo : ∀ x, (Value.slice ad6 n6 c6).ownBlock = some x → ¬ V9 x := by rw [hV9e]; exact hVo9
        clear hV9 hVo9 hV9e hBw0 hol
        refine stp (r_move (v := .tuple #[.agg #[.int .i64 y0, .int .i64 y1, .slice ya yn yc, .slice za zn zc, .slice ua un uc], .slice ad9 n9 c9]) rfl ?_)
        refine stp (r_extract (v := .agg #[.int .i64 y0, .int .i64 y1, .slice ya yn yc, .slice za zn zc, .slice ua un uc]) rfl rfl ?_)
        refine stp (r_extract (v := .slice ad9 n9 c9) rfl rfl ?_)
        refine stp (r_alloc ?_)
        intro b115 w116 hb117 hc118 g119
        refine stn (r_storeAll rfl rfl hc118 (by rfl) (by rfl) (by rfl) ?_)
        intro w120 hc121 u122
        have g123 := g119.upd u122 hb117
        have hge124 := Nat.le_trans G.size hb117
        have ne125 := Nat.ne_of_lt (Nat.lt_of_lt_of_le (lt_of_heap hc4) hb117)
        have ne126 := Nat.ne_of_lt (Nat.lt_of_lt_of_le (lt_of_heap hc105) hb117)
        replace hc4 := g123.heap hc4
        replace hc105 := g123.heap hc105
        replace hBw := Nat.le_trans hBw g123.size
        replace ownk := own_grow ownk g123
        replace hK := hK.sees (Sees.grow g123)
        replace hT8 := hT8.sees (Sees.grow g123)
        replace hV := vlt hV g123.size
        replace G := G.tr g123
        clear u122 g119 hb117 hc118
        refine stp (r_assign_slice rfl ?_)
        refine WL_nil ?_
        refine W_seq (W_region rfl ?_)
        refine stp (r_move_slice rfl ?_)
        refine stp (r_assign_slice rfl ?_)
        refine WL_nil ?_
        refine W_region rfl ?_
        refine stp (r_fieldAddr rfl ?_)
        refine stp (r_load (v := .slice ad6 n6 c6) rfl hc105 rfl ?_)
        refine stp (r_loadAll rfl hc121 (by rfl) ?_)
        refine stp (r_buildSlice (cs := #[.int .i64 y0, .int .i64 y1, .slice ya yn yc, .slice za zn zc, .slice ua un uc]) (el := 71) (fun w => by kernel_rfl) ?_)
        intro bs127 w128 hb129 hc130 g131
        have hge132 := Nat.le_trans G.size hb129
        have ne133 := Nat.ne_of_lt (Nat.lt_of_lt_of_le (lt_of_heap hc4) hb129)
        have ne134 := Nat.ne_of_lt (Nat.lt_of_lt_of_le (lt_of_heap hc105) hb129)
        have ne135 := Nat.ne_of_lt (Nat.lt_of_lt_of_le (lt_of_heap hc121) hb129)
        replace hc4 := g131.heap hc4
        replace hc105 := g131.heap hc105
        replace hBw := Nat.le_trans hBw g131.size
        replace ownk := own_grow ownk g131
        replace hK := hK.sees (Sees.grow g131)
        replace hT8 := hT8.sees (Sees.grow g131)
        replace hV := vlt hV g131.size
        replace hc121 := g131.heap hc121
        replace G := G.tr g131
        clear g131
        refine stp (r_appendB rfl rfl rfl rfl ownk (Row.of_block (n := 1) hc130 rfl rfl (by omega)) (fun q_ hq_ => by simp at hq_; rcases hq_ with rfl | rfl | rfl | rfl | rfl <;> rfl) (by simp only [maxLen]; omega) (by omega) hBw ?_)
        intro v136 w137 own6 gr6 hbk6
        have k6_ : Kp (Value.slice ad6 n6 c6).ownBlock.toList w128 w137 := Kp.of_grownBy gr6 (fun k_ hk_ => by rw [Option.mem_toList]; exact hk_)
        have hF6 : ∀ x ∈ (Value.slice ad6 n6 c6).ownBlock.toList, B ≤ x := fun x hx_ => own_ge ownk x (Option.mem_toList.1 hx_)
        have hF7 : ∀ x ∈ (Value.slice ad6 n6 c6).ownBlock.toList, ¬ V9 x := fun x hx_ => hVo x (Option.mem_toList.1 hx_)
        replace hT8 := hT8.sees (Sees.kp k6_ hF7)
        replace hK := hK.sees (Sees.kp k6_ hF7)
        have hVo6 : ∀ x, v136.ownBlock = some x → ¬ V9 x := fun x hx_ hv_ => hbk6.elim (fun h_ => hVo x (h_ ▸ hx_) hv_) (fun h_ => by rw [h_] at hx_; simp only [Option.some.injEq] at hx_; have := (hV x hv_).2; omega)
        replace hV := fun x hx_ => (⟨(hV x hx_).1, Nat.lt_of_lt_of_le (hV x hx_).2 k6_.size⟩ : B ≤ x ∧ x < w137.heap.size)
        replace G := G.trK k6_ (fun x hx_ => Nat.le_trans hwB (hF6 x hx_))
        clear hc121
        replace hc4 := k6_.heap hc4 (fun hm_ => by have h1_ := hF6 _ hm_; have := hB4; omega)
        replace hc105 := k6_.heap hc105 (fun hm_ => by have h1_ := hF6 _ hm_; omega)
        replace hBw := Nat.le_trans hBw k6_.size
        clear ownk gr6 hVo k6_ hF6 hF7 hbk6
        obtain ⟨ad7, n7, c7, rfl⟩ := own_slice own6
        refine stp (r_fieldAddr rfl ?_)
        refine stn (r_store1 (v := .slice ad7 n7 c7) rfl rfl (by rfl) hc105 (by rfl) (by rfl) ?_)
        intro w138 hc139 u140
        replace hc4 := u140.heap hc4 ne22
        replace own6 := own_upd own6 u140 (fun he_ => by have := own_ge own6 _ he_; omega)
        replace hT8 := hT8.sees (Sees.upd u140 (fun h_ => by have := (hV _ h_).1; omega))
        replace hK := hK.sees (Sees.upd u140 (fun h_ => by have := (hV _ h_).1; omega))
        replace hV := fun x hx_ => (⟨(hV x hx_).1, Nat.lt_of_lt_of_le (hV x hx_).2 (Nat.le_of_eq u140.size.symm)⟩ : B ≤ x ∧ x < w138.heap.size)
        replace hBw : B ≤ w138.heap.size := by rw [u140.size]; exact hBw
        replace G := G.upd u140 hge21
        clear hc105
        refine WL_nil ?_
        refine W_region rfl ?_
        refine stp (r_move_int rfl ?_)
        refine stp (r_add rfl rfl ?_ ?_); constructor <;> omega
        refine stp (r_assign_int rfl ?_)
        refine WL_nil ?_
        refine ⟨_, ?_, j + 1, ad9, n9, c9, ad7, n7, c7, _, V9, rfl, fr_of ⟨rfl, rfl, rfl, rfl, rfl, congrArg (Value.int .i64) (by omega), rfl, trivial⟩, by omega, hn9, hc9, hc92, hR9, hVo6, hc4, hc139, hBw, own6, hV, (KidsR.append hK (by have := KidsR.cons hT8 .nil; simpa using this)), G⟩
        omega
       ·-- false
        replace hlt := of_decide_eq_false hlt
        have hj2 : j = (k / 8 % 5).toNat := by omega
        have hlk := treesP_count (treeP d) j c
        have hrk : Row (hide B w112) 5 (.slice ad6 n6 c6) (treesP (treeP d) j c).1.length kc := by rw [hlk]; exact own_hide ownk (by omega)
        have hK9 := hK.sees (Sees.more (V' := fun x => B ≤ x) _ (fun x _ hx_ => (hV x hx_).1))
        clear hK hV
        have ht : treeP (d + 1) (k :: c) = (.mk 2 6 [] [] (treesP (treeP d) j c).1, (treesP (treeP d) j c).2) := by simp only [treeP]; rw [if_neg h2, if_neg (by omega), if_neg h5, if_pos h6, ← hj2]
        refine W_exit ?_
        refine W_seq (W_region rfl ?_)
        refine stp (r_loadAll rfl hc105 (by rfl) ?_)
        refine stp (r_move_slice rfl ?_)
        refine stn (r_storeAll rfl rfl hc4 (by rfl) (by rfl) (by rfl) ?_)
        intro w141 hc142 u143
        replace hc105 := u143.heap hc105 ne22.symm
        replace hrk := hrk.sees (Sees.upd u143 (fun h_ => by omega))
        replace hK9 := hK9.sees (Sees.upd u143 (fun h_ => by omega))
        replace G := G.upd u143 hge8
        clear u143 hc4
        refine stp (r_assign_slice rfl ?_)
        refine WL_nil ?_
        refine W_ret ?_
        rw [ht]
        refine ret2 (res_all rfl hc142 (by rfl)) (res_tmp (v := .slice ad5 n5 c5) rfl) ⟨[_, _, _, _, _], _, _, _, rfl, .mk (by simp [inR]) (by simp [inR]) (Row.nil _ _) (by simp) (Row.nil _ _) (by simp) (hrk.sees (Sees.low hwB _)) (hK9.sees (Sees.low hwB _)), hn5, hc5, hc52, hR5, G⟩
      ·-- false
       replace h6 := of_decide_eq_false h6
       have hkd6 : ¬ k % 8 > 6 := h6
       refine W_skip ?_
       refine W_seq ?_
       refine W_seq (W_region rfl ?_)
       refine stp (r_assign_int rfl ?_)
       refine WL_nil ?_
       refine W_block ?_
       refine W_loop (fun m_ e_ w_ => ∃ (m : Nat) (ad3 : Option Addr) (n3 : Nat) (c3 : Nat), m_ = ((k / 64)).toNat - m ∧ Fr [(0, .slice ad1 (n - 1) (cp - 1)), (1, .int .i64 ((d + 1 : Nat) : Int)), (4, .pointer (some ⟨b1, 0, none⟩)), (5, .slice none 0 0), (6, .int .u8 k), (7, .pointer (some ⟨b12, 0, none⟩)), (8, .int .i64 ((k / 8) % 5)), (11, .int .i64 (m : Int))] e_ ∧ ((m : Int) ≤ (k / 64)) ∧ (w_.heap[b1]? = some (.cells #[.int .i64 0, .int .i64 0, .slice none 0 0, .slice none 0 0, .slice none 0 0] 71 (0, 0))) ∧ (w_.heap[b12]? = some (.cells #[.int .i64 1, .int .i64 0, .slice ad3 n3 c3, .slice none 0 0, .slice none 0 0] 71 (0, 0))) ∧ (w_.ownsRow w.heap.size 33 1 (.slice ad3 n3 c3) m ((List.range m).map fun i => .int .u64 (w4Tree k i))) ∧ Grow w w_) _ ⟨0, none, 0, 0, rfl, fr_of ⟨rfl, rfl, rfl, rfl, rfl, rfl, rfl, rfl, trivial⟩, by omega, hc4, hc99, World.ownsRow_nil _ _ _ _, G⟩ ?_
       clear hc4 hc99
       clear G
       rintro m_ e_ w144 ⟨m, ad3, n3, c3, rfl, ⟨e145, rfl⟩, hm, hc4, hc99, own, G⟩
       refine W_seq ?_
       refine W_seq (W_region rfl ?_)
       refine stp (r_move_int rfl ?_)
       refine stp (r_move_int rfl ?_)
       refine stp (r_quo rfl rfl ?_ ?_ ?_ ?_); omega; omega; (constructor <;> omega)
       refine stp (r_conv rfl ?_ ?_); constructor <;> omega
       refine stp (r_lss rfl rfl ?_)
       refine stp (r_move_bool rfl ?_)
       refine WL_some (og_if (s := .bool (decide ((m : Int) < (k / 64)))) (b := true) (v := .pointer (some ⟨b12, 0, none⟩)) rfl (wgb_t _) (fun hc146 => ?_) ?_)
       ·
        have hc146_ := of_decide_eq_true hc146
        refine r_fieldAddr rfl ?_
        exact ⟨rfl, rfl⟩
       refine WL_some (og_if (s := .bool (decide ((m : Int) < (k / 64)))) (b := true) (v := .int .i64 1) rfl (wgb_t _) (fun hc147 => ?_) ?_)
       ·
        have hc147_ := of_decide_eq_true hc147
        refine r_load (v := .int .i64 1) (gvt hc147) hc99 rfl ?_
        exact ⟨rfl, rfl⟩
       refine WL_some (og_if (s := .bool (decide ((m : Int) < (k / 64)))) (b := true) (v := .bool true) rfl (wgb_t _) (fun hc148 => ?_) ?_)
       ·
        have hc148_ := of_decide_eq_true hc148
        refine r_eql_t (gvt hc148) rfl (by decide) ?_
        exact ⟨rfl, rfl⟩
       refine stp (r_and2 rfl rfl rfl ?_)
       refine WL_nil ?_
       refine W_cond2 (b := ((decide ((m : Int) < (k / 64))) && true)) rfl (fun hlt => ?_) (fun hlt => ?_)
       ·-- true
        simp only [sb] at hlt
        refine W_skip ?_
        refine W_seq ?_
        refine W_block ?_
        refine W_region rfl ?_
        refine stp (r_fieldAddr rfl ?_)
        refine stp (r_load (v := .slice ad3 n3 c3) rfl hc99 rfl ?_)
        refine stp (r_move_int rfl ?_)
        refine stp (r_conv rfl ?_ ?_); constructor <;> omega
        refine stp (r_move_int rfl ?_)
        refine stp (r_mul rfl rfl ?_ ?_); constructor <;> omega
        refine stp (r_conv rfl ?_ ?_); constructor <;> omega
        refine stp (r_shl rfl rfl ?_ ?_); omega
        refine stp (r_move_int rfl ?_)
        refine stp (r_conv rfl ?_ ?_); constructor <;> omega
        refine stp (r_addw rfl rfl ?_)
        refine stp (r_buildSlice (cs := #[.int .u64 (w4Tree k m)]) (el := 33) (fun w => by kernel_rfl) ?_)
        intro bs149 w150 hb151 hc152 g153
        have hge154 := Nat.le_trans G.size hb151
        have ne155 := Nat.ne_of_lt (Nat.lt_of_lt_of_le (lt_of_heap hc4) hb151)
        have ne156 := Nat.ne_of_lt (Nat.lt_of_lt_of_le (lt_of_heap hc99) hb151)
        replace hc4 := g153.heap hc4
        replace hc99 := g153.heap hc99
        replace own := own_grow own g153
        replace G := G.tr g153
        clear g153
        refine stp (r_append rfl rfl rfl rfl own (Row.of_block (n := 1) hc152 rfl rfl (by omega)) (fun q_ hq_ => by simp at hq_; subst hq_; rfl) (by simp only [maxLen]; omega) (by omega) G.size ?_)
        intro v157 w158 own6 gr6
        replace G := G.grown gr6 (own_ge own)
        replace hc4 := gr_heap gr6 hc4 (own_ne own hc4 (by decide))
        replace hc99 := gr_heap gr6 hc99 (own_ne own hc99 (by decide))
        clear own gr6
        obtain ⟨ad4, n4, c4, rfl⟩ := own_slice own6
        refine stp (r_fieldAddr rfl ?_)
        refine stn (r_store1 (v := .slice ad4 n4 c4) rfl rfl (by rfl) hc99 (by rfl) (by rfl) ?_)
        intro w159 hc160 u161
        replace hc4 := u161.heap hc4 ne22
        replace own6 := own_upd own6 u161 (own_ne own6 hc99 (by decide))
        replace G := G.upd u161 hge21
        clear u161 hc99
        refine WL_nil ?_
        refine W_region rfl ?_
        refine stp (r_move_int rfl ?_)
        refine stp (r_add rfl rfl ?_ ?_); constructor <;> omega
        refine stp (r_assign_int rfl ?_)
        refine WL_nil ?_
        refine ⟨_, ?_, m + 1, ad4, n4, c4, rfl, fr_of ⟨rfl, rfl, rfl, rfl, rfl, rfl, rfl, congrArg (Value.int .i64) (by omega), trivial⟩, by omega, hc4, hc160, (by rw [List.range_succ, List.map_append]; exact own6), G⟩
        omega
       ·-- false
        simp only [sb] at hlt
        have hm2 : m = (k / 64).toNat := by omega
        refine W_exit ?_
        refine W_seq (W_region rfl ?_)
        refine stp (r_assign_int rfl ?_)
        refine WL_nil ?_
        refine W_block ?_
        obtain ⟨B, hB⟩ : ∃ B, B = w144.heap.size := ⟨_, rfl⟩
        have hB7 : b12 < B := by rw [hB]; exact lt_of_heap hc99
        have hwB : w.heap.size ≤ B := by rw [hB]; exact G.size
        have hBw : B ≤ w144.heap.size := by rw [hB]; exact Nat.le_refl _
        have hB4 : b1 < B := by rw [hB]; exact lt_of_heap hc4
        clear hB
        have hc1 : (treesP (treeP d) 0 c).2 = c := rfl
        refine W_loop (fun m_ e_ w_ => ∃ (j : Nat) (ad5 : Option Addr) (n5 : Nat) (c5 : Nat) (ad6 : Option Addr) (n6 : Nat) (c6 : Nat) (kc : List Value) (V : Nat → Prop), m_ = (k / 8 % 5).toNat - j ∧ Fr [(1, .int .i64 ((d + 1 : Nat) : Int)), (4, .pointer (some ⟨b1, 0, none⟩)), (5, .slice none 0 0), (7, .pointer (some ⟨b12, 0, none⟩)), (8, .int .i64 ((k / 8) % 5)), (12, .int .i64 (j : Int)), (0, .slice ad5 n5 c5)] e_ ∧ ((j : Int) ≤ (k / 8 % 5)) ∧ (n5 = (treesP (treeP d) j c).2.length) ∧ (n5 ≤ c5) ∧ (c5 ≤ maxLen) ∧ (RowAt w0 1 ad5 n5 ((treesP (treeP d) j c).2.map (.int .u8))) ∧ (∀ x, (Value.slice ad6 n6 c6).ownBlock = some x → ¬ V x) ∧ (w_.heap[b1]? = some (.cells #[.int .i64 0, .int .i64 0, .slice none 0 0, .slice none 0 0, .slice none 0 0] 71 (0, 0))) ∧ (w_.ownsRow w.heap.size 33 1 (.slice ad3 n3 c3) m ((List.range m).map fun i => .int .u64 (w4Tree k i))) ∧ (w_.heap[b12]? = some (.cells #[.int .i64 1, .int .i64 0, .slice ad3 n3 c3, .slice none 0 0, .slice ad6 n6 c6] 71 (0, 0))) ∧ (B ≤ w_.heap.size) ∧ (w_.ownsRow B 71 5 (.slice ad6 n6 c6) j kc) ∧ (∀ x, V x → B ≤ x ∧ x < w_.heap.size) ∧ (KidsR (see V w_) kc (treesP (treeP d) j c).1) ∧ Grow w w_) _ ⟨0, ad1, n - 1, cp - 1, none, 0, 0, [], fun _ => False, rfl, fr_of ⟨rfl, rfl, rfl, rfl, rfl, rfl, rfl, trivial⟩, by omega, hnc, by omega, by omega, R2, fun x _ h_ => h_, hc4, own, hc99, hBw, World.ownsRow_nil _ _ _ _, fun x h_ => h_.elim, .nil, G⟩ ?_
        clear hc4 hc99 own
        clear G
        rintro m_ e_ w162 ⟨j, ad5, n5, c5, ad6, n6, c6, kc, V, rfl, ⟨e163, rfl⟩, hj, hn5, hc5, hc52, hR5, hVo, hc4, own, hc99, hBw, ownk, hV, hK, G⟩
        refine W_seq ?_
        refine W_seq (W_region rfl ?_)
        refine stp (r_move_int rfl ?_)
        refine stp (r_move_int rfl ?_)
        refine stp (r_lss rfl rfl ?_)
        refine WL_nil ?_
        refine W_cond2 (b := (decide ((j : Int) < ((k / 8) % 5)))) rfl (fun hlt => ?_) (fun hlt => ?_)
        ·-- true
         replace hlt := of_decide_eq_true hlt
         refine W_skip ?_
         refine W_seq ?_
         refine W_block ?_
         refine W_seq (W_region rfl ?_)
         refine stp (r_move_slice rfl ?_)
         refine stp (r_move_int rfl ?_)
         refine stp (r_sub rfl rfl ?_ ?_); constructor <;> omega
         refine WL_some (og rfl ?_)
         have hBw0 := hBw
         have hol := fun x hx_ => (ownk.lt x hx_).2
         have hcal := ih_ _ (d := d) hR5 (g0.tr G) hn5 (treesP_rest d j c hxc) hc5 hc52 (by omega) (by omega)
         rw [show ((d : Nat) : Int) = ((d + 1 : Nat) : Int) - 1 from by omega] at hcal
         refine r_call rfl hcal ?_
         rintro v_ w164 ⟨cells, ad9, n9, c9, rfl, hT9, hn9, hc9, hc92, hR9, g_⟩
         have hsz9 := lt_of_heap hc99
         replace hc4 := g_.heap hc4
         replace own := own_grow own g_
         replace hc99 := g_.heap hc99
         replace hBw := Nat.le_trans hBw g_.size
         replace ownk := own_grow ownk g_
         replace hV := vlt hV g_.size
         replace hK := hK.sees (Sees.grow g_)
         replace G := G.tr g_
         clear g_
         obtain ⟨y0, y1, ya, yn, yc, za, zn, zc, ua, un, uc, rfl⟩ := hT9.cells
         have hT8 := hT9.sees (Sees.more (V' := fun x => V x ∨ (w162.heap.size ≤ x ∧ x < w164.heap.size)) w164 (fun x h1_ h2_ => .inr ⟨h2_, h1_⟩))
         clear hT9
         replace hK := hK.sees (Sees.more (V' := fun x => V x ∨ (w162.heap.size ≤ x ∧ x < w164.heap.size)) w164 (fun x _ h2_ => .inl h2_))
         have hV9 : ∀ x, (V x ∨ (w162.heap.size ≤ x ∧ x < w164.heap.size)) → B ≤ x ∧ x < w164.heap.size := fun x hx_ => hx_.elim (fun h_ => hV x h_) (fun h_ => ⟨Nat.le_trans hBw0 h_.1, h_.2⟩)
         have hVo9 : ∀ x, (Value.slice ad6 n6 c6).ownBlock = some x → ¬ (V x ∨ (w162.heap.size ≤ x ∧ x < w164.heap.size)) := fun x hx_ hv_ => hv_.elim (hVo x hx_) (fun h_ => by have := (hol x hx_); omega)
         clear hV hVo
         obtain ⟨V9, hV9e⟩ : ∃ V9 : Nat → Prop, V9 = fun x => V x ∨ (w162.heap.size ≤ x ∧ x < w164.heap.size) := ⟨_, rfl⟩
         rw [← hV9e] at hT8 hK
         have hV : ∀ x, V9 x → B ≤ x ∧ x < w164.heap.size := by rw [hV9e]; exact hV9
         have hVo : ∀ x, (Value.slice ad6 n6 c6).ownBlock = some x → ¬ V9 x := by rw [hV9e]; exact hVo9
         clear hV9 hVo9 hV9e hBw0 hol
         refine stp (r_move (v := .tuple #[.agg #[.int .i64 y0, .int .i64 y1, .slice ya yn yc, .slice za zn zc, .slice ua un uc], .slice ad9 n9 c9]) rfl ?_)
         refine stp (r_extract (v := .agg #[.int .i64 y0, .int .i64 y1, .slice ya yn yc, .slice za zn zc, .slice ua un uc]) rfl rfl ?_)
         refine stp (r_extract (v := .slice ad9 n9 c9) rfl rfl ?_)
         refine stp (r_alloc ?_)
         intro b165 w166 hb167 hc168 g169
         refine stn (r_storeAll rfl rfl hc168 (by rfl) (by rfl) (by rfl) ?_)
         intro w170 hc171 u172
         have g173 := g169.upd u172 hb167
         have hge174 := Nat.le_trans G.size hb167
         have ne175 := Nat.ne_of_lt (Nat.lt_of_lt_of_le (lt_of_heap hc4) hb167)
         have ne176 := Nat.ne_of_lt (Nat.lt_of_lt_of_le (lt_of_heap hc99) hb167)
         replace hc4 := g173.heap hc4
         replace own := own_grow own g173
         replace hc99 := g173.heap hc99
         replace hBw := Nat.le_trans hBw g173.size
         replace ownk := own_grow ownk g173
         replace hK := hK.sees (Sees.grow g173)
         replace hT8 := hT8.sees (Sees.grow g173)
         replace hV := vlt hV g173.size
         replace G := G.tr g173
         clear u172 g169 hb167 hc168
         refine stp (r_assign_slice rfl ?_)
         refine WL_nil ?_
         refine W_seq (W_region rfl ?_)
         refine stp (r_move_slice rfl ?_)
         refine stp (r_assign_slice rfl ?_)
         refine WL_nil ?_
         refine W_region rfl ?_
         refine stp (r_fieldAddr rfl ?_)
         refine stp (r_load (v := .slice ad6 n6 c6) rfl hc99 rfl ?_)
         refine stp (r_loadAll rfl hc171 (by rfl) ?_)
         refine stp (r_buildSlice (cs := #[.int .i64 y0, .int .i64 y1, .slice ya yn yc, .slice za zn zc, .slice ua un uc]) (el := 71) (fun w => by kernel_rfl) ?_)
         intro bs177 w178 hb179 hc180 g181
         have hge182 := Nat.le_trans G.size hb179
         have ne183 := Nat.ne_of_lt (Nat.lt_of_lt_of_le (lt_of_heap hc4) hb179)
         have ne184 := Nat.ne_of_lt (Nat.lt_of_lt_of_le (lt_of_heap hc99) hb179)
         have ne185 := Nat.ne_of_lt (Nat.lt_of_lt_of_le (lt_of_heap hc171) hb179)
         replace hc4 := g181.heap hc4
         replace own := own_grow own g181
         replace hc99 := g181.heap hc99
         replace hBw := Nat.le_trans hBw g181.size
         replace ownk := own_grow ownk g181
         replace hK := hK.sees (Sees.grow g181)
         replace hT8 := hT8.sees (Sees.grow g181)
         replace hV := vlt hV g181.size
         replace hc171 := g181.heap hc171
         replace G := G.tr g181
         clear g181
         refine stp (r_appendB rfl rfl rfl rfl ownk (Row.of_block (n := 1) hc180 rfl rfl (by omega)) (fun q_ hq_ => by simp at hq_; rcases hq_ with rfl | rfl | rfl | rfl | rfl <;> rfl) (by simp only [maxLen]; omega) (by omega) hBw ?_)
         intro v186 w187 own6 gr6 hbk6
         have k6_ : Kp (Value.slice ad6 n6 c6).ownBlock.toList w178 w187 := Kp.of_grownBy gr6 (fun k_ hk_ => by rw [Option.mem_toList]; exact hk_)
         have hF6 : ∀ x ∈ (Value.slice ad6 n6 c6).ownBlock.toList, B ≤ x := fun x hx_ => own_ge ownk x (Option.mem_toList.1 hx_)
         have hF7 : ∀ x ∈ (Value.slice ad6 n6 c6).ownBlock.toList, ¬ V9 x := fun x hx_ => hVo x (Option.mem_toList.1 hx_)
         replace hT8 := hT8.sees (Sees.kp k6_ hF7)
         replace hK := hK.sees (Sees.kp k6_ hF7)
         have hVo6 : ∀ x, v186.ownBlock = some x → ¬ V9 x := fun x hx_ hv_ => hbk6.elim (fun h_ => hVo x (h_ ▸ hx_) hv_) (fun h_ => by rw [h_] at hx_; simp only [Option.some.injEq] at hx_; have := (hV x hv_).2; omega)
         replace hV := fun x hx_ => (⟨(hV x hx_).1, Nat.lt_of_lt_of_le (hV x hx_).2 k6_.size⟩ : B ≤ x ∧ x < w187.heap.size)
         replace G := G.trK k6_ (fun x hx_ => Nat.le_trans hwB (hF6 x hx_))
         replace own := own_gr own ownk (by decide) gr6
         clear hc171
         replace hc4 := k6_.heap hc4 (fun hm_ => by have h1_ := hF6 _ hm_; have := hB4; omega)
         replace hc99 := k6_.heap hc99 (fun hm_ => by have h1_ := hF6 _ hm_; omega)
         replace hBw := Nat.le_trans hBw k6_.size
         clear ownk gr6 hVo k6_ hF6 hF7 hbk6
         obtain ⟨ad7, n7, c7, rfl⟩ := own_slice own6
         refine stp (r_fieldAddr rfl ?_)
         refine stn (r_store1 (v := .slice ad7 n7 c7) rfl rfl (by rfl) hc99 (by rfl) (by rfl) ?_)
         intro w188 hc189 u190
         replace hc4 := u190.heap hc4 ne22
         replace own := own_upd own u190 (own_ne own hc99 (by decide))
         replace own6 := own_upd own6 u190 (fun he_ => by have := own_ge own6 _ he_; omega)
         replace hT8 := hT8.sees (Sees.upd u190 (fun h_ => by have := (hV _ h_).1; omega))
         replace hK := hK.sees (Sees.upd u190 (fun h_ => by have := (hV _ h_).1; omega))
         replace hV := fun x hx_ => (⟨(hV x hx_).1, Nat.lt_of_lt_of_le (hV x hx_).2 (Nat.le_of_eq u190.size.symm)⟩ : B ≤ x ∧ x < w188.heap.size)
         replace hBw : B ≤ w188.heap.size := by rw [u190.size]; exact hBw
         replace G := G.upd u190 hge21
         clear hc99
         refine WL_nil ?_
         refine W_region rfl ?_
         refine stp (r_move_int rfl ?_)
         refine stp (r_add rfl rfl ?_ ?_); constructor <;> omega
         refine stp (r_assign_int rfl ?_)
         refine WL_nil ?_
         refine ⟨_, ?_, j + 1, ad9, n9, c9, ad7, n7, c7, _, V9, rfl, fr_of ⟨rfl, rfl, rfl, rfl, rfl, congrArg (Value.int .i64) (by omega), rfl, trivial⟩, by omega, hn9, hc9, hc92, hR9, hVo6, hc4, own, hc189, hBw, own6, hV, (KidsR.append hK (by have := KidsR.cons hT8 .nil; simpa using this)), G⟩
         omega
        ·-- false
         replace hlt := of_decide_eq_false hlt
         have hj2 : j = (k / 8 % 5).toNat := by omega
         have hlk := treesP_count (treeP d) j c
         have hrk : Row (hide B w162) 5 (.slice ad6 n6 c6) (treesP (treeP d) j c).1.length kc := by rw [hlk]; exact own_hide ownk (by omega)
         have hK9 := hK.sees (Sees.more (V' := fun x => B ≤ x) _ (fun x _ hx_ => (hV x hx_).1))
         clear hK hV
         have ht : treeP (d + 1) (k :: c) = (.mk 1 0 ((List.range (k / 64).toNat).map (w4Tree k)) [] (treesP (treeP d) j c).1, (treesP (treeP d) j c).2) := by simp only [treeP]; rw [if_neg h2, if_neg (by omega), if_neg h5, if_neg h6, ← hj2]
         refine W_exit ?_
         refine W_seq (W_region rfl ?_)
         refine stp (r_loadAll rfl hc99 (by rfl) ?_)
         refine stp (r_move_slice rfl ?_)
         refine stn (r_storeAll rfl rfl hc4 (by rfl) (by rfl) (by rfl) ?_)
         intro w191 hc192 u193
         replace own := own_upd own u193 (own_ne own hc4 (by decide))
         replace hc99 := u193.heap hc99 ne22.symm
         replace hrk := hrk.sees (Sees.upd u193 (fun h_ => by omega))
         replace hK9 := hK9.sees (Sees.upd u193 (fun h_ => by omega))
         replace G := G.upd u193 hge8
         clear u193 hc4
         refine stp (r_assign_slice rfl ?_)
         refine WL_nil ?_
         refine W_ret ?_
         rw [ht]
         refine ret2 (res_all rfl hc192 (by rfl)) (res_tmp (v := .slice ad5 n5 c5) rfl) ⟨[_, _, _, _, _], _, _, _, rfl, .mk (by simp [inR]) (by simp [inR]) (own_hide_ints own hm2 (by omega)) (fun x hx_ => by obtain ⟨i, _, rfl⟩ := List.mem_map.1 hx_; exact wrap_u64R _) (Row.nil _ _) (by simp) (hrk.sees (Sees.low hwB _)) (hK9.sees (Sees.low hwB _)), hn5, hc5, hc52, hR5, G⟩
end Go.Proofs.YtifhcfhdajkhlaaGreat.K

