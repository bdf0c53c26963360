/- Laid together: BF, MB, P16, V09, W09, V11, V10, N09, N07, S16, T16, O09, V16, YA, RV, YB, YC. Each part is plain law, a rule, or a walk of the functions that its names tell. -/
import Derived.Test.YtifhcfhdajkhlaaGreatX4
set_option linter.unusedVariables false
set_option linter.unusedSimpArgs false
namespace Go.Proofs.YtifhcfhdajkhlaaGreat.K
open Go Go.RowKit Go.Proofs
attribute [local irreducible] Run1 OpG WL W AO Gives
set_option maxRecDepth 100000 in
theorem zQ3 (w : World) {base q i : Nat} {so : Value} {segs : List Value} {A : List (List Int)} {lim x : Int} {full : Bool} (h : OwnA 67 33 w base so segs A) (hbw : base ≤ w.heap.size) (hS : Sml A) (hq : q < A.length) (hi : i < len2 A q) : Calls Tryz.prog 93 #[.agg #[so, .int .i64 lim, .bool full], .int .i64 (q : Int), .int .i64 (i : Int), .int .u64 x] w (Ret fun v w' => LayV 67 33 w' base lim v ⟨setP A q i x, full⟩ ∧ Grow w w') := by
 have hA := hS.len
 have hAs := hS.all
 have hAq := hS.seg q
 have hsl := h.len
 obtain ⟨ado, co, sa, sc, rfl, hco, hco2, RO, hsf⟩ := h.fn (by omega)
 obtain ⟨hu, owu⟩ := hsf q hq
 have G := Grow.rfl' w
 refine zE3 Tryz.func93 Tryz.ntmps93 Tryz.results93 rfl rfl ?_
 refine zA6 (zA1 rfl ?_)
 refine zA3 (og rfl ?_)
 (first | refine zD0 rfl ?_ | refine zD2 rfl ?_ | refine zC5 rfl ?_ | refine zH0 rfl rfl ?_)
 intro b1 w2 hb3 hc4 g5
 have hge6 := Nat.le_trans G.size hb3
 replace G := G.tr g5
 clear g5 hb3
 refine stp (zD3 ?_)
 intro b7 w8 hb9 hc10 g11
 refine zA4 ?_
 refine zA6 (zA1 rfl ?_)
 refine stp (zB0 rfl ?_)
 refine zA4 ?_
 refine zA6 (zA1 rfl ?_)
 refine stp (zA7 rfl ?_)
 refine stp (zA5 rfl ?_)
 have hge12 := Nat.le_trans G.size hb9
 have ne13 := Nat.ne_of_lt (Nat.lt_of_lt_of_le (zA9 hc4) hb9)
 replace hc4 := g11.heap hc4
 replace G := G.tr g11
 clear g11 hb9
 refine stp (zB5 (v := .slice ado A.length co) rfl hc4 rfl ?_)
 refine zA3 (og rfl ?_)
 have own00 := World.ownsRow_nil w8 w.heap.size 67 1
 refine zG4 rfl rfl rfl rfl own00 ⟨_, co, rfl, hco, hco2, RO.grow G⟩ h.one (by simp only [maxLen]; omega) (by omega) G.size ?_
 intro v14 w15 own5 gr6
 have g6 := qH5 gr6
 replace hc4 := g6.heap hc4
 replace hc10 := g6.heap hc10
 replace G := G.tr g6
 clear g6 gr6 own00
 rw [Nat.zero_add, List.nil_append] at own5
 obtain ⟨g5, c5, cur5, rfl, hg5b, hg5, hc51, hc52, hc53, hc54⟩ := zK1 own5 (by omega)
 have R5 := zE2 own5 (by omega)
 obtain ⟨_, _, h5_, _, _, R5⟩ := R5
 cases h5_
 refine stp (zB0 rfl ?_)
 refine zA4 ?_
 refine zA6 (zA1 rfl ?_)
 refine stp (zB0 rfl ?_)
 refine zA4 ?_
 refine zA6 (zA1 rfl ?_)
 refine stp (zA7 rfl ?_)
 refine stp (zA7 rfl ?_)
 refine stp (zA2 rfl ?_)
 refine stp (zD9 R5 rfl rfl ?_ ?_); omega
 refine stp (zD7 (v := .slice (sa q) (len2 A q) (sc q)) (m := 0) R5 rfl (by rw [Nat.mul_one]; exact hu) ?_)
 refine zA3 (og rfl ?_)
 have own00 := World.ownsRow_nil w15 w.heap.size 33 1
 refine zG4 rfl rfl rfl rfl own00 (zE2 (zC8 owu G) (by omega)) (fun q_ hq_ => by obtain ⟨z, _, rfl⟩ := List.mem_map.1 hq_; rfl) (by simp only [maxLen]; omega) (by omega) G.size ?_
 intro v16 w17 own6 gr6
 have g6 := qH5 gr6
 replace hc4 := g6.heap hc4
 replace hc10 := g6.heap hc10
 replace own5 := zC8 own5 g6
 replace hg5 := g6.heap hg5
 replace R5 := R5.grow g6
 replace G := G.tr g6
 clear g6 gr6 own00
 rw [Nat.zero_add, List.nil_append] at own6
 obtain ⟨g6, c6, cur6, rfl, hg6b, hg6, hc61, hc62, hc63, hc64⟩ := zK1 own6 (by omega)
 refine stp (zB0 rfl ?_)
 refine zA4 ?_
 have n56 : g5 ≠ g6 := fun he => by rw [he, hg6] at hg5; simp at hg5
 have m4 : g6 ≠ b1 := fun he => by rw [he, hc4] at hg6; simp at hg6
 have p4 : g5 ≠ b1 := fun he => by rw [he, hc4] at hg5; simp at hg5
 have m8 : g6 ≠ b7 := fun he => by rw [he, hc10] at hg6; simp at hg6
 have p8 : g5 ≠ b7 := fun he => by rw [he, hc10] at hg5; simp at hg5
 refine zA6 (zA1 rfl ?_)
 refine stp (zA7 rfl ?_)
 refine stp (zA2 rfl ?_)
 refine stp (zA2 rfl ?_)
 refine zA3 (og rfl ?_)
 refine zH9 (b := g6) (o := 0) rfl rfl (by omega) (by omega) ?_
 rw [Int.toNat_natCast, Nat.zero_add, Nat.mul_one]
 refine stn (zE0 (v := .int .u64 x) rfl rfl rfl hg6 (Nat.ble_eq_true_of_le (by omega)) rfl ?_)
 intro w7 hs6 u7
 replace own6 := zJ6 (i := i) (x := .int .u64 x) own6 hg6 hs6 (by simp)
 replace own5 := zF0 own5 u7 (zE7 own5 hg6 (by decide))
 replace hg5 := u7.heap hg5 n56
 replace hc4 := u7.heap hc4 m4.symm
 replace hc10 := u7.heap hc10 m8.symm
 replace G := G.upd u7 hg6b
 clear hg6
 have hg6 := hs6
 clear hs6 R5
 refine zA4 ?_
 refine zA6 (zA1 rfl ?_)
 refine stp (zA7 rfl ?_)
 refine stp (zA2 rfl ?_)
 refine stp (zA7 rfl ?_)
 refine zA3 (og rfl ?_)
 refine zH9 (b := g5) (o := 0) rfl rfl (by omega) (by omega) ?_
 rw [Int.toNat_natCast, Nat.zero_add, Nat.mul_one]
 refine stn (zE0 (v := .slice (some ⟨g6, 0, none⟩) (len2 A q) c6) rfl rfl rfl hg5 (Nat.ble_eq_true_of_le (by omega)) rfl ?_)
 intro w8 hs5 u8
 replace own5 := zJ6 (i := q) (x := .slice (some ⟨g6, 0, none⟩) (len2 A q) c6) own5 hg5 hs5 (by simp)
 replace own6 := zF0 own6 u8 (zE7 own6 hg5 (by decide))
 replace hg6 := u8.heap hg6 n56.symm
 replace hc4 := u8.heap hc4 p4.symm
 replace hc10 := u8.heap hc10 p8.symm
 replace G := G.upd u8 hg5b
 clear hg5
 have hg5 := hs5
 clear hs5
 refine zA4 ?_
 refine zA6 (zA1 rfl ?_)
 refine stp (zA7 rfl ?_)
 refine stp (zA5 rfl ?_)
 refine stn (zE0 (v := .slice (some ⟨g5, 0, none⟩) A.length c5) rfl rfl (by rfl) hc4 (by rfl) (by rfl) ?_)
 intro w18 hc19 u20
 replace own5 := zF0 own5 u20 (zE7 own5 hc4 (by decide))
 replace own6 := zF0 own6 u20 (zE7 own6 hc4 (by decide))
 replace hc10 := u20.heap hc10 (by omega)
 replace G := G.upd u20 hge6
 clear u20 hc4
 refine zA4 ?_
 refine zA6 (zA1 rfl ?_)
 refine stp (zB4 rfl hc19 (by rfl) ?_)
 refine stn (zB1 rfl rfl hc10 (by rfl) (by rfl) (by rfl) ?_)
 intro w21 hc22 u23
 replace own5 := zF0 own5 u23 (zE7 own5 hc10 (by decide))
 replace own6 := zF0 own6 u23 (zE7 own6 hc10 (by decide))
 replace hc19 := u23.heap hc19 (by omega)
 replace G := G.upd u23 hge12
 clear u23 hc10
 refine zA4 ?_
 refine zC4 ?_
 have hcp := OwnA.copy (q := q) (u := .slice (some ⟨g6, 0, none⟩) (len2 A q) c6) (ws := (A.getD q []).set i x) (so' := .slice (some ⟨g5, 0, none⟩) A.length c5) h hbw G (Nat.le_of_lt hq) (by rw [List.length_set, wordsV, List.map_set]; exact own6) (by have e1 : growB A q = A := (by unfold growB; rw [if_neg (by omega)]); have e2 : growV segs q = segs := (by unfold growV; rw [if_neg (by omega)]); rw [e1, e2]; exact zI0 own5 hbw)
 rw [show growB A q = A from by unfold growB; rw [if_neg (by omega)]] at hcp
 refine ret1 (zC9 rfl hc22 (by rfl)) ⟨⟨_, _, rfl, hcp⟩, G⟩

set_option maxRecDepth 100000 in
theorem zU8 (w : World) {base q : Nat} {so lv : Value} {segs : List Value} {A : List (List Int)} {l : List Int} {lim : Int} {full : Bool} (h : OwnA 67 33 w base so segs A) (hbw : base ≤ w.heap.size) (hS : Sml A) (hq : q ≤ A.length) (lR : Row w 1 lv l.length (wordsV l)) (hl : l.length ≤ 10000) : Calls Tryz.prog 95 #[.agg #[so, .int .i64 lim, .bool full], .int .i64 (q : Int), lv] w (Ret fun v w' => LayV 67 33 w' base lim v (moreP lim ⟨A, full⟩ q l) ∧ Grow w w') := by
 have hA := hS.len
 have hAs := hS.all
 have hAq := hS.seg q
 have hsl := h.len
 obtain ⟨ado, co, sa, sc, rfl, hco, hco2, RO, hsf⟩ := h.fn (by omega)
 obtain ⟨adu, cu, hu, owu⟩ := h.growV hq
 obtain ⟨adl, cl, rfl, hcl, hcl2, RL⟩ := lR
 have hgl := qL0 (q := q) hsl
 have hgb := zO3 A q
 have G := Grow.rfl' w
 refine zE3 Tryz.func95 Tryz.ntmps95 Tryz.results95 rfl rfl ?_
 refine zA6 (zA1 rfl ?_)
 refine zA3 (og rfl ?_)
 (first | refine zD0 rfl ?_ | refine zD2 rfl ?_ | refine zC5 rfl ?_ | refine zH0 rfl rfl ?_)
 intro b1 w2 hb3 hc4 g5
 have hge6 := Nat.le_trans G.size hb3
 replace G := G.tr g5
 clear g5 hb3
 refine stp (zD3 ?_)
 intro b7 w8 hb9 hc10 g11
 refine zA4 ?_
 refine zA6 (zA1 rfl ?_)
 refine stp (zB0 rfl ?_)
 refine zA4 ?_
 refine zA6 (zA1 rfl ?_)
 refine stp (zA7 rfl ?_)
 refine stp (zA5 rfl ?_)
 have hge12 := Nat.le_trans G.size hb9
 have ne13 := Nat.ne_of_lt (Nat.lt_of_lt_of_le (zA9 hc4) hb9)
 replace hc4 := g11.heap hc4
 replace G := G.tr g11
 clear g11 hb9
 refine stp (zB5 (v := .slice ado A.length co) rfl hc4 rfl ?_)
 refine zA3 (og rfl ?_)
 have own00 := World.ownsRow_nil w8 w.heap.size 67 1
 refine zG4 rfl rfl rfl rfl own00 ⟨_, co, rfl, hco, hco2, RO.grow G⟩ h.one (by simp only [maxLen]; omega) (by omega) G.size ?_
 intro v14 w15 own5 gr6
 have g6 := qH5 gr6
 replace hc4 := g6.heap hc4
 replace hc10 := g6.heap hc10
 replace G := G.tr g6
 clear g6 gr6 own00
 rw [Nat.zero_add, List.nil_append] at own5
 obtain ⟨ad5, c5, rfl, hc5⟩ := zL1 own5
 refine stp (zB0 rfl ?_)
 refine zA4 ?_
 refine qT5 (fun e_ w_ => ∃ (v5 : Value), Fr [(1, .int .i64 (q : Int)), (2, .slice adl l.length cl), (3, .pointer (some ⟨b1, 0, none⟩)), (6, .pointer (some ⟨b7, 0, none⟩)), (7, v5)] e_ ∧ (w_.heap[b1]? = some (.cells #[.slice ado A.length co, .int .i64 lim, .bool full] 125 (0, 0))) ∧ (w_.heap[b7]? = some (.cells #[.slice none 0 0, .int .i64 0, .bool false] 125 (0, 0))) ∧ (w_.ownsRow w.heap.size 67 1 v5 (growB A q).length (growV segs q)) ∧ Grow w w_) ?_ ?_
 ·-- the parts
  refine zA6 (zA1 rfl ?_)
  refine stp (zA2 rfl ?_)
  refine stp (zA7 rfl ?_)
  refine stp (zE8 rfl rfl rfl ?_)
  refine stp (zE9 rfl rfl ?_)
  refine zA4 ?_
  refine zB8 (b := (decide ((q : Int) = (A.length : Int)))) rfl (fun hq0 => ?_) (fun hq0 => ?_)
  ·-- true
   replace hq0 := of_decide_eq_true hq0
   have hqA : q = A.length := by omega
   refine zA1 rfl ?_
   refine stp (zA7 rfl ?_)
   refine stp (zE5 (cs := #[.slice none 0 0]) (el := 67) (fun w => by kernel_rfl) ?_)
   intro bs16 w17 hb18 hc19 g20
   have hge21 := Nat.le_trans G.size hb18
   have ne22 := Nat.ne_of_lt (Nat.lt_of_lt_of_le (zA9 hc4) hb18)
   have ne23 := Nat.ne_of_lt (Nat.lt_of_lt_of_le (zA9 hc10) hb18)
   replace hc4 := g20.heap hc4
   replace hc10 := g20.heap hc10
   replace own5 := zC8 own5 g20
   replace G := G.tr g20
   clear g20
   refine stp (zG4 rfl rfl rfl rfl own5 (Row.of_block (n := 1) hc19 rfl rfl (by omega)) (fun q_ hq_ => by simp at hq_; subst hq_; rfl) (by simp only [maxLen]; omega) (by omega) G.size ?_)
   intro v24 w25 own6 gr6
   replace G := G.grown gr6 (zI2 own5)
   replace hc4 := zI3 gr6 hc4 (zE7 own5 hc4 (by decide))
   replace hc10 := zI3 gr6 hc10 (zE7 own5 hc10 (by decide))
   refine stp (zA8 (v := v24) rfl ?_)
   refine zA4 ?_
   have e1 : (growB A q).length = A.length + 1 := by rw [hgb, if_pos hqA]
   have e2 : growV segs q = segs ++ [.slice none 0 0] := by unfold growV; rw [if_pos (by omega)]
   have own6' : w25.ownsRow w.heap.size 67 1 v24 (growB A q).length (growV segs q) := by rw [e1, e2]; exact own6
   exact ⟨v24, zE6 ⟨rfl, rfl, rfl, rfl, rfl, trivial⟩, hc4, hc10, own6', G⟩
  ·-- false
   replace hq0 := of_decide_eq_false hq0
   have hqA : ¬ q = A.length := by omega
   refine zC3 ?_
   have e1 : (growB A q).length = A.length := by rw [hgb, if_neg hqA]
   have e2 : growV segs q = segs := by unfold growV; rw [if_neg (by omega)]
   have own5' : w15.ownsRow w.heap.size 67 1 (.slice ad5 A.length c5) (growB A q).length (growV segs q) := by rw [e1, e2]; exact own5
   exact ⟨_, zE6 ⟨rfl, rfl, rfl, rfl, rfl, trivial⟩, hc4, hc10, own5', G⟩
 ·-- behind them
  clear hc4 hc10 own5
  clear G
  rintro e_ w26 ⟨v5, ⟨e27, rfl⟩, hc4, hc10, own5, G⟩
  have hqB := (zW2 hq).1
  have hgb2 := (zW2 hq).2
  obtain ⟨g5, c5, cur5, rfl, hg5b, hg5, hc51, hc52, hc53, hc54⟩ := zK1 own5 (by omega)
  have R5 := zE2 own5 (by omega)
  obtain ⟨_, _, h5_, _, _, R5⟩ := R5
  cases h5_
  refine zA6 (zA1 rfl ?_)
  refine stp (zB0 rfl ?_)
  refine zA4 ?_
  refine zA6 (zA1 rfl ?_)
  refine stp (zA7 rfl ?_)
  refine stp (zA7 rfl ?_)
  refine stp (zA2 rfl ?_)
  refine stp (zD9 R5 rfl rfl ?_ ?_); omega
  refine stp (zD7 (v := .slice adu (len2 A q) cu) (m := 0) R5 rfl (by rw [Nat.mul_one]; exact hu) ?_)
  refine zA3 (og rfl ?_)
  have own00 := World.ownsRow_nil w26 w.heap.size 33 1
  refine zG4 rfl rfl rfl rfl own00 (zE2 (zC8 owu G) (by omega)) (fun q_ hq_ => by obtain ⟨z, _, rfl⟩ := List.mem_map.1 hq_; rfl) (by simp only [maxLen]; omega) (by omega) G.size ?_
  intro v28 w29 own6 gr6
  have g6 := qH5 gr6
  replace hc4 := g6.heap hc4
  replace hc10 := g6.heap hc10
  replace own5 := zC8 own5 g6
  replace hg5 := g6.heap hg5
  replace R5 := R5.grow g6
  replace G := G.tr g6
  clear g6 gr6 own00
  rw [Nat.zero_add, List.nil_append] at own6
  refine stp (zA8 (v := v28) rfl ?_)
  refine zA4 ?_
  refine zA6 (zA1 rfl ?_)
  refine stp (zB6 (v := v28) rfl ?_)
  refine stp (zA7 rfl ?_)
  refine zA3 (og rfl ?_)
  clear R5
  refine zG4 rfl rfl rfl rfl own6 ⟨_, cl, rfl, hcl, hcl2, RL.grow G⟩ (fun q_ hq_ => by obtain ⟨z, _, rfl⟩ := List.mem_map.1 hq_; rfl) (by simp only [maxLen]; omega) (by omega) G.size ?_
  intro v30 w31 own7 gr6
  replace G := G.grown gr6 (zI2 own6)
  replace hc4 := zI3 gr6 hc4 (zE7 own6 hc4 (by decide))
  replace hc10 := zI3 gr6 hc10 (zE7 own6 hc10 (by decide))
  replace own5 := qF0 own5 own6 (by decide) gr6
  replace hg5 := zI3 gr6 hg5 (zE7 own6 hg5 (by decide))
  clear own6 gr6
  have own7' : w31.ownsRow w.heap.size 33 1 v30 (A.getD q [] ++ l).length (wordsV (A.getD q [] ++ l)) := by rw [List.length_append, wordsV, List.map_append]; exact own7
  clear own7
  obtain ⟨ad7, c7, rfl, hc7⟩ := zL1 own7'
  refine stp (zB0 rfl ?_)
  refine zA4 ?_
  refine zA6 (zA1 rfl ?_)
  refine stp (zA7 rfl ?_)
  refine stp (zA2 rfl ?_)
  refine stp (zA7 rfl ?_)
  refine zA3 (og rfl ?_)
  refine zH9 (b := g5) (o := 0) rfl rfl (by omega) (by omega) ?_
  rw [Int.toNat_natCast, Nat.zero_add, Nat.mul_one]
  refine stn (zE0 (v := .slice ad7 (A.getD q [] ++ l).length c7) rfl rfl rfl hg5 (Nat.ble_eq_true_of_le (by omega)) rfl ?_)
  intro w8 hs5 u8
  replace own5 := zJ6 (i := q) (x := .slice ad7 (A.getD q [] ++ l).length c7) own5 hg5 hs5 (by simp)
  replace own7' := zF0 own7' u8 (zE7 own7' hg5 (by decide))
  replace hc4 := u8.heap hc4 (fun he_ => by rw [he_, hg5] at hc4; simp at hc4)
  replace hc10 := u8.heap hc10 (fun he_ => by rw [he_, hg5] at hc10; simp at hc10)
  replace G := G.upd u8 hg5b
  clear hg5 hs5
  have hcp := OwnA.copy (q := q) (u := .slice ad7 (A.getD q [] ++ l).length c7) (ws := A.getD q [] ++ l) (so' := .slice (some ⟨g5, 0, none⟩) (growB A q).length c5) h hbw G hq own7' (zI0 own5 hbw)
  have hgA : (growB A q).set q (A.getD q [] ++ l) = growA A q l := by unfold growA; rw [zX7]
  rw [hgA] at hcp
  have hnr := Near.more A q l hq
  have hS9 : ∀ s ∈ growA A q l, s.length ≤ 100000 := by
   intro s hm
   obtain ⟨j, hj, rfl⟩ := List.getElem_of_mem hm
   have h1_ := hnr.seg j
   have h2_ := hS.seg j
   rw [len2, zG0 hj] at h1_
   omega
  have hlen9 : (growB A q).length = (growA A q l).length := by rw [zK5, zO3]
  clear own5 own7'
  refine zA4 ?_
  refine zA6 (zA1 rfl ?_)
  refine stp (zA7 rfl ?_)
  refine stp (zA5 rfl ?_)
  refine stn (zE0 (v := .slice (some ⟨g5, 0, none⟩) ((growB A q).length) c5) rfl rfl (by rfl) hc4 (by rfl) (by rfl) ?_)
  intro w32 hc33 u34
  replace hc10 := u34.heap hc10 ne13.symm
  replace hcp := hcp.upd u34 hc4 (by decide) (by decide)
  replace G := G.upd u34 hge6
  clear u34 hc4
  refine zA4 ?_
  refine zA6 (zA1 rfl ?_)
  refine stp (zA5 rfl ?_)
  refine stp (zB5 (v := .bool full) rfl hc33 rfl ?_)
  refine stp (zB9 rfl ?_)
  refine zA3 (zC2 (s := .bool full) (b := false) (v := .slice ad7 ((A.getD q [] ++ l).length) c7) rfl (zD1 _) (fun hc35 => ?_) ?_)
  ·
   have hc35_ := hc35
   try simp only [sb] at hc35_
   refine zA7 rfl ?_
   exact ⟨rfl, rfl⟩
  refine zA3 (zC2 (s := .bool full) (b := false) (v := .int .i64 ((A.getD q [] ++ l).length : Int)) rfl (zD1 _) (fun hc36 => ?_) ?_)
  ·
   have hc36_ := hc36
   try simp only [sb] at hc36_
   refine zE8 rfl rfl (gvt hc36) ?_
   exact ⟨rfl, rfl⟩
  refine zA3 (zC2 (s := .bool full) (b := false) (v := .pointer (some ⟨b1, 1, none⟩)) rfl (zD1 _) (fun hc37 => ?_) ?_)
  ·
   have hc37_ := hc37
   try simp only [sb] at hc37_
   refine zA5 rfl ?_
   exact ⟨rfl, rfl⟩
  refine zA3 (zC2 (s := .bool full) (b := false) (v := .int .i64 lim) rfl (zD1 _) (fun hc38 => ?_) ?_)
  ·
   have hc38_ := hc38
   try simp only [sb] at hc38_
   refine zB5 (v := .int .i64 lim) (gvt hc38) hc33 rfl ?_
   exact ⟨rfl, rfl⟩
  refine zA3 (zC2 (s := .bool full) (b := false) (v := .bool (decide (((A.getD q [] ++ l).length : Int) > lim))) rfl (zD1 _) (fun hc39 => ?_) ?_)
  ·
   have hc39_ := hc39
   try simp only [sb] at hc39_
   refine zM7 (gvt hc39) (gvt hc39) ?_
   exact ⟨rfl, rfl⟩
  refine stp (zI6 rfl rfl rfl ?_)
  refine stp (zB9 rfl ?_)
  refine zA3 (zC2 (s := .bool (full || (decide (((A.getD q [] ++ l).length : Int) > lim)))) (b := false) (v := .slice (some ⟨g5, 0, none⟩) ((growB A q).length) c5) rfl (zD1 _) (fun hc40 => ?_) ?_)
  ·
   have hc40_ := hc40
   try simp only [sb] at hc40_
   refine zA7 rfl ?_
   exact ⟨rfl, rfl⟩
  refine zA3 (zC2 (s := .bool (full || (decide (((A.getD q [] ++ l).length : Int) > lim)))) (b := false) (v := .int .i64 ((growB A q).length : Int)) rfl (zD1 _) (fun hc41 => ?_) ?_)
  ·
   have hc41_ := hc41
   try simp only [sb] at hc41_
   refine zE8 rfl rfl (gvt hc41) ?_
   exact ⟨rfl, rfl⟩
  refine zA3 (zC2 (s := .bool (full || (decide (((A.getD q [] ++ l).length : Int) > lim)))) (b := false) (v := .bool (decide (((growB A q).length : Int) > 16))) rfl (zD1 _) (fun hc42 => ?_) ?_)
  ·
   have hc42_ := hc42
   try simp only [sb] at hc42_
   refine zM7 (gvt hc42) rfl ?_
   exact ⟨rfl, rfl⟩
  refine stp (zI6 rfl rfl rfl ?_)
  refine stp (zB9 rfl ?_)
  refine zA3 (zC2 (s := .bool ((full || (decide (((A.getD q [] ++ l).length : Int) > lim))) || (decide (((growB A q).length : Int) > 16)))) (b := false) (v := .slice (some ⟨g5, 0, none⟩) ((growB A q).length) c5) rfl (zD1 _) (fun hc43 => ?_) ?_)
  ·
   have hc43_ := hc43
   try simp only [sb] at hc43_
   refine zA7 rfl ?_
   exact ⟨rfl, rfl⟩
  refine zA3 (zR6 (s := .bool ((full || (decide (((A.getD q [] ++ l).length : Int) > lim))) || (decide (((growB A q).length : Int) > 16)))) (b := false) (v := .int .i64 (totalP (growA A q l))) rfl (zD1 _) (fun hc44 => ?_) ?_)
  ·
   have hc44_ := hc44
   try simp only [sb] at hc44_
   exact zL0 (l := ([.slice (some ⟨g5, 0, none⟩) ((growB A q).length) c5] : List Value)) rfl (by show ([gv (!((full || (decide (((A.getD q [] ++ l).length : Int) > lim))) || (decide (((growB A q).length : Int) > 16)))) (.slice (some ⟨g5, 0, none⟩) ((growB A q).length) c5)] : List Value) = _; rw [gvt hc44]) (qL4 _ (hcp.rowat (by omega)).2 hlen9.symm (hcp.rows hS9) (by omega) hS9) (fun w2_ g2_ => ⟨rfl, g2_⟩)
  intro w45 g46
  replace hc10 := g46.heap hc10
  replace hcp := hcp.grow g46
  replace hc33 := g46.heap hc33
  replace G := G.tr g46
  clear g46
  refine zA3 (zC2 (s := .bool ((full || (decide (((A.getD q [] ++ l).length : Int) > lim))) || (decide (((growB A q).length : Int) > 16)))) (b := false) (v := .bool (decide ((totalP (growA A q l)) > 4096))) rfl (zD1 _) (fun hc47 => ?_) ?_)
  ·
   have hc47_ := hc47
   try simp only [sb] at hc47_
   refine zM7 (gvt hc47) rfl ?_
   exact ⟨rfl, rfl⟩
  refine stp (zI6 rfl rfl rfl ?_)
  refine stp (zA5 rfl ?_)
  refine stn (zE0 (v := .bool (((full || (decide (((A.getD q [] ++ l).length : Int) > lim))) || (decide (((growB A q).length : Int) > 16))) || (decide ((totalP (growA A q l)) > 4096)))) rfl rfl (by rfl) hc33 (by rfl) (by rfl) ?_)
  intro w48 hc49 u50
  replace hc10 := u50.heap hc10 ne13.symm
  replace hcp := hcp.upd u50 hc33 (by decide) (by decide)
  replace G := G.upd u50 hge6
  clear u50 hc33
  refine zA4 ?_
  refine zA6 (zA1 rfl ?_)
  refine stp (zB4 rfl hc49 (by rfl) ?_)
  refine stn (zB1 rfl rfl hc10 (by rfl) (by rfl) (by rfl) ?_)
  intro w51 hc52 u53
  replace hcp := hcp.upd u53 hc10 (by decide) (by decide)
  replace hc49 := u53.heap hc49 ne13
  replace G := G.upd u53 hge12
  clear u53 hc10
  refine zA4 ?_
  refine zC4 ?_
  have hfo := yM1 full ((A.getD q [] ++ l).length : Int) ((growB A q).length : Int) (totalP (growA A q l)) lim
  refine ret1 (zC9 rfl hc52 (by rfl)) ⟨⟨_, _, ?_, hcp⟩, G⟩
  rw [hfo]
  simp only [moreP, fullP, hlen9]
  rw [show len2 (growA A q l) q = (A.getD q [] ++ l).length from by simp only [len2]; rw [zL9 A q q l hq, if_pos rfl]]
  rfl

set_option maxRecDepth 100000 in
theorem qY9 : ∀ (n_ : Nat) (w : World) {base s i : Nat} {so : Value} {segs : List Value} {S : Lay} {lim : Int} {c : List Value} {t : Nd} (h : OwnA 67 33 w base so segs S.A) (hbw : base ≤ w.heap.size) (T : NodeR w c t) (hR : t.fine) (hone : 1 ≤ S.A.length) (hl1 : 1 ≤ lim) (hl2 : lim ≤ 4096) (hF : S.full = false → Fit lim S.A ∧ s < S.A.length ∧ i < len2 S.A s), t.sz ≤ n_ → Calls Tryz.prog 58 #[.agg #[so, .int .i64 lim, .bool S.full], .agg c.toArray, .int .i64 (s : Int), .int .i64 (i : Int)] w (Ret fun v w' => LayV 67 33 w' base lim v (t.lay lim S s i) ∧ Grow w w') := by
 intro n_
 induction n_ with
 | zero => intro w base s i so segs S lim c t h hbw T hR hone hl1 hl2 hF hm_; exact absurd hm_ (by have := t.sz_pos; omega)
 | succ n_ ih_ =>
 intro w base s i so segs S lim c t h hbw T hR hone hl1 hl2 hF hm_
 obtain ⟨ads, ns, cs, rfl⟩ := zF3 h.out
 have Tk := T
 obtain @⟨kind, size, words, bytes, kids, ws, bs, ks, kc, hk, hs, hW, hwr, hB, hbr, hK, hKs⟩ := T
 obtain ⟨aw, cw, rfl, hcw, hcw2, RW⟩ := hW
 obtain ⟨ab, cb, rfl, hcb, hcb2, RB⟩ := hB
 obtain ⟨ak, ck, rfl, hck, hck2, RK⟩ := hK
 have lw := RW.lim
 have lb := RB.lim
 have lk := RK.lim
 simp only [inR] at hk hs
 have T0 := Tk
 obtain ⟨hkd, hlw, hlb, hlk, hnn, hnm, hkn, hb1⟩ := Nd.own_b (Nd.fine_own hR)
 have G := Grow.rfl' w
 refine zE3 Tryz.func58 Tryz.ntmps58 Tryz.results58 rfl rfl ?_
 refine zA6 (zA1 rfl ?_)
 refine zA3 (og rfl ?_)
 (first | refine zD0 rfl ?_ | refine zD2 rfl ?_ | refine zC5 rfl ?_ | refine zH0 rfl rfl ?_)
 intro b1 w2 hb3 hc4 g5
 have hge6 := Nat.le_trans G.size hb3
 replace h := h.grow g5
 replace G := G.tr g5
 clear g5 hb3
 refine zA3 (og rfl ?_)
 (first | refine zD0 rfl ?_ | refine zD2 rfl ?_ | refine zC5 rfl ?_ | refine zH0 rfl rfl ?_)
 intro b7 w8 hb9 hc10 g11
 have hge12 := Nat.le_trans G.size hb9
 have ne13 := Nat.ne_of_lt (Nat.lt_of_lt_of_le (zA9 hc4) hb9)
 replace h := h.grow g11
 replace hc4 := g11.heap hc4
 replace G := G.tr g11
 clear g11 hb9
 refine stp (zD3 ?_)
 intro b14 w15 hb16 hc17 g18
 refine zA4 ?_
 refine zA6 ?_
 refine zA6 (zA1 rfl ?_)
 refine stp (zA5 rfl ?_)
 have hge19 := Nat.le_trans G.size hb16
 have ne20 := Nat.ne_of_lt (Nat.lt_of_lt_of_le (zA9 hc4) hb16)
 have ne21 := Nat.ne_of_lt (Nat.lt_of_lt_of_le (zA9 hc10) hb16)
 replace h := h.grow g18
 replace hc4 := g18.heap hc4
 replace hc10 := g18.heap hc10
 replace G := G.tr g18
 clear g18 hb16
 refine stp (zB5 (v := .int .i64 kind) rfl hc10 rfl ?_)
 refine stp (zE9 rfl rfl ?_)
 refine stp (zB9 rfl ?_)
 refine zA3 (zC2 (s := .bool (decide (kind = 0))) (b := false) (v := .pointer (some ⟨b1, 2, none⟩)) rfl (zD1 _) (fun hc22 => ?_) ?_)
 ·
  have hc22_ := hc22
  try simp only [sb] at hc22_
  refine zA5 rfl ?_
  exact ⟨rfl, rfl⟩
 refine zA3 (zC2 (s := .bool (decide (kind = 0))) (b := false) (v := .bool S.full) rfl (zD1 _) (fun hc23 => ?_) ?_)
 ·
  have hc23_ := hc23
  try simp only [sb] at hc23_
  refine zB5 (v := .bool S.full) (gvt hc23) hc4 rfl ?_
  exact ⟨rfl, rfl⟩
 refine stp (zI6 rfl rfl rfl ?_)
 refine zA4 ?_
 refine zB8 (b := ((decide (kind = 0)) || S.full)) rfl (fun h1 => ?_) (fun h1 => ?_)
 ·-- true
  simp only [sb] at h1
  have hl : (Nd.mk kind size words bytes kids).lay lim S s i = S := by simp only [Nd.lay]; rw [if_pos h1]
  refine zA6 (zA1 rfl ?_)
  refine stp (zB4 rfl hc4 (by rfl) ?_)
  refine stn (zB1 rfl rfl hc17 (by rfl) (by rfl) (by rfl) ?_)
  intro w24 hc25 u26
  replace h := h.upd u26 hc17 (by decide) (by decide)
  replace hc4 := u26.heap hc4 ne20
  replace hc10 := u26.heap hc10 ne21
  replace G := G.upd u26 hge19
  clear u26 hc17
  refine zA4 ?_
  refine zC4 ?_
  rw [hl]
  refine ret1 (zC9 rfl hc25 (by rfl)) ⟨⟨_, _, rfl, h⟩, G⟩
 ·-- false
  simp only [sb] at h1
  obtain ⟨h1k, h1f⟩ := h1
  obtain ⟨F, hsA, hiA⟩ := hF h1f
  have FS := F.sml hl2
  have hA16 := F.most
  have htn := zS0 S.A
  refine zC3 ?_
  refine zA6 (zA1 rfl ?_)
  refine stp (zB4 rfl hc10 (by rfl) ?_)
  refine stp (zC0 (v := .int .i64 ((Nd.mk kind size words bytes kids).need)) rfl (qQ8 _ (T0.grow G)) ?_)
  intro w27 g28
  replace h := h.grow g28
  replace hc4 := g28.heap hc4
  replace hc10 := g28.heap hc10
  replace hc17 := g28.heap hc17
  replace G := G.tr g28
  clear g28
  refine stp (zA0 rfl ?_)
  refine zA4 ?_
  refine zA6 ?_
  refine zA6 (zA1 rfl ?_)
  refine stp (zA2 rfl ?_)
  refine stp (zE9 rfl rfl ?_)
  refine zA4 ?_
  refine zB8 (b := (decide (((Nd.mk kind size words bytes kids).need) = 0))) rfl (fun h2 => ?_) (fun h2 => ?_)
  ·-- true
   replace h2 := of_decide_eq_true h2
   refine zA6 (zA1 rfl ?_)
   refine stp (zA0 rfl ?_)
   refine zA4 ?_
   refine zA6 ?_
   refine zA6 (zA1 rfl ?_)
   refine stp (zA5 rfl ?_)
   refine stp (zB5 (v := .int .i64 kind) rfl hc10 rfl ?_)
   refine stp (zE9 rfl rfl ?_)
   refine zA4 ?_
   refine zB8 (b := (decide (kind = 1))) rfl (fun h3 => ?_) (fun h3 => ?_)
   ·-- true
    replace h3 := of_decide_eq_true h3
    have hl : (Nd.mk kind size words bytes kids).lay lim S s i = ⟨setP S.A s i ((Nd.mk kind size words bytes kids).near (-1)), S.full⟩ := by simp only [Nd.lay]; rw [if_neg (by simp [h1k, h1f]), if_pos h2, if_pos h3]
    refine zA1 rfl ?_
    refine stp (zA0 rfl ?_)
    refine zA4 ?_
    refine zA6 ?_
    refine zJ4 7 [[], [], [], [], [], [1, 0], [5, 4, 3, 2, 1, 0]] mixed (by kernel_rfl) (by kernel_rfl) (by kernel_rfl) ?_
    intro w29 g30
    replace h := h.grow g30
    replace hc4 := g30.heap hc4
    replace hc10 := g30.heap hc10
    replace hc17 := g30.heap hc17
    replace G := G.tr g30
    clear g30
    apply zB7
    ·intro w_ g_; refine og rfl ?_; refine zB4 rfl (g_.heap hc4) (by rfl) ?_; exact ⟨Grow.rfl' _, rfl⟩
    apply zB7
    ·intro w_ g_; refine og rfl ?_; refine zA2 rfl ?_; exact ⟨Grow.rfl' _, rfl⟩
    apply zB7
    ·intro w_ g_; refine og rfl ?_; refine zA2 rfl ?_; exact ⟨Grow.rfl' _, rfl⟩
    apply zB7
    ·intro w_ g_; refine og rfl ?_; refine zB4 rfl (g_.heap hc10) (by rfl) ?_; exact ⟨Grow.rfl' _, rfl⟩
    apply zB7
    ·intro w_ g_; refine og rfl ?_; refine zA2 rfl ?_; exact ⟨Grow.rfl' _, rfl⟩
    apply zB7
    ·intro w_ g_; refine og rfl ?_; exact zC0 (v := .int .u64 ((Nd.mk kind size words bytes kids).near (-1))) rfl (zN8 _ (T0.grow (G.tr g_)) (-1) (by simp only [Nd.kind]; omega)) (fun w2_ g2_ => ⟨g2_, rfl⟩)
    refine zK2 (fun w_ v_ => LayV 67 33 w_ base lim v_ (⟨setP (S.A) s i ((Nd.mk kind size words bytes kids).near (-1)), S.full⟩)) (fun _ _ _ g_ h_ => h_.grow g_) ?_ ?_
    ·intro w_ g_
     refine og rfl ?_
     refine zF1 rfl (zQ3 _ (h.grow g_) (Nat.le_trans hbw (G.tr g_).size) FS hsA hiA) ?_
     rintro v2_ w2_ ⟨hl_, g2_⟩
     exact ⟨g2_, hl_⟩
    refine zI5 ?_
    intro w31 g32
    replace h := h.grow g32
    replace hc4 := g32.heap hc4
    replace hc10 := g32.heap hc10
    replace hc17 := g32.heap hc17
    replace G := G.tr g32
    clear g32
    intro v_p hv_p
    obtain ⟨so_p, segs_p, rfl, h_p⟩ := hv_p
    obtain ⟨ad_p, n_p, c_p, rfl⟩ := zF3 h_p.out
    refine stn (zB1 rfl rfl hc17 (by rfl) (by rfl) (by rfl) ?_)
    intro w33 hc34 u35
    replace h := h.upd u35 hc17 (by decide) (by decide)
    replace hc4 := u35.heap hc4 ne20
    replace hc10 := u35.heap hc10 ne21
    replace h_p := h_p.upd u35 hc17 (by decide) (by decide)
    replace G := G.upd u35 hge19
    clear u35 hc17
    refine zA4 ?_
    refine zC4 ?_
    rw [hl]
    refine ret1 (zC9 rfl hc34 (by rfl)) ⟨⟨_, _, rfl, h_p⟩, G⟩
   ·-- false
    replace h3 := of_decide_eq_false h3
    have hl : (Nd.mk kind size words bytes kids).lay lim S s i = ⟨setP S.A s i ((Nd.mk kind size words bytes kids).near (0)), S.full⟩ := by simp only [Nd.lay]; rw [if_neg (by simp [h1k, h1f]), if_pos h2, if_neg h3]
    refine zC3 ?_
    refine zA6 ?_
    refine zJ4 7 [[], [], [], [], [], [1, 0], [5, 4, 3, 2, 1, 0]] mixed (by kernel_rfl) (by kernel_rfl) (by kernel_rfl) ?_
    intro w36 g37
    replace h := h.grow g37
    replace hc4 := g37.heap hc4
    replace hc10 := g37.heap hc10
    replace hc17 := g37.heap hc17
    replace G := G.tr g37
    clear g37
    apply zB7
    ·intro w_ g_; refine og rfl ?_; refine zB4 rfl (g_.heap hc4) (by rfl) ?_; exact ⟨Grow.rfl' _, rfl⟩
    apply zB7
    ·intro w_ g_; refine og rfl ?_; refine zA2 rfl ?_; exact ⟨Grow.rfl' _, rfl⟩
    apply zB7
    ·intro w_ g_; refine og rfl ?_; refine zA2 rfl ?_; exact ⟨Grow.rfl' _, rfl⟩
    apply zB7
    ·intro w_ g_; refine og rfl ?_; refine zB4 rfl (g_.heap hc10) (by rfl) ?_; exact ⟨Grow.rfl' _, rfl⟩
    apply zB7
    ·intro w_ g_; refine og rfl ?_; refine zA2 rfl ?_; exact ⟨Grow.rfl' _, rfl⟩
    apply zB7
    ·intro w_ g_; refine og rfl ?_; exact zC0 (v := .int .u64 ((Nd.mk kind size words bytes kids).near 0)) rfl (zN8 _ (T0.grow (G.tr g_)) (0) (by simp only [Nd.kind]; omega)) (fun w2_ g2_ => ⟨g2_, rfl⟩)
    refine zK2 (fun w_ v_ => LayV 67 33 w_ base lim v_ (⟨setP (S.A) s i ((Nd.mk kind size words bytes kids).near (0)), S.full⟩)) (fun _ _ _ g_ h_ => h_.grow g_) ?_ ?_
    ·intro w_ g_
     refine og rfl ?_
     refine zF1 rfl (zQ3 _ (h.grow g_) (Nat.le_trans hbw (G.tr g_).size) FS hsA hiA) ?_
     rintro v2_ w2_ ⟨hl_, g2_⟩
     exact ⟨g2_, hl_⟩
    refine zI5 ?_
    intro w38 g39
    replace h := h.grow g39
    replace hc4 := g39.heap hc4
    replace hc10 := g39.heap hc10
    replace hc17 := g39.heap hc17
    replace G := G.tr g39
    clear g39
    intro v_p hv_p
    obtain ⟨so_p, segs_p, rfl, h_p⟩ := hv_p
    obtain ⟨ad_p, n_p, c_p, rfl⟩ := zF3 h_p.out
    refine stn (zB1 rfl rfl hc17 (by rfl) (by rfl) (by rfl) ?_)
    intro w40 hc41 u42
    replace h := h.upd u42 hc17 (by decide) (by decide)
    replace hc4 := u42.heap hc4 ne20
    replace hc10 := u42.heap hc10 ne21
    replace h_p := h_p.upd u42 hc17 (by decide) (by decide)
    replace G := G.upd u42 hge19
    clear u42 hc17
    refine zA4 ?_
    refine zC4 ?_
    rw [hl]
    refine ret1 (zC9 rfl hc41 (by rfl)) ⟨⟨_, _, rfl, h_p⟩, G⟩
  ·-- false
   replace h2 := of_decide_eq_false h2
   have hp0 := qK8 lim (Nd.mk kind size words bytes kids) S s i F.one
   have hpn := qQ5 lim (Nd.mk kind size words bytes kids) S s i F.one
   obtain ⟨hlast, hlastE⟩ := yH3 F.one
   have hlseg := F.seg (lastP S.A)
   have hl : (Nd.mk kind size words bytes kids).lay lim S s i = Nd.lays lim kids (moreP lim (placeP lim (Nd.mk kind size words bytes kids) S s i).S (placeP lim (Nd.mk kind size words bytes kids) S s i).seg (Nd.mk kind size words bytes kids).content) (placeP lim (Nd.mk kind size words bytes kids) S s i).seg ((placeP lim (Nd.mk kind size words bytes kids) S s i).at_ + ((Nd.mk kind size words bytes kids).need.toNat - kids.length)) := by simp only [Nd.lay]; rw [if_neg (by simp [h1k, h1f]), if_neg h2]
   rw [hl]
   clear hl
   obtain ⟨ado, co, sa, sc, hso_, hco, hco2, RO, hsf⟩ := h.fn (by omega)
   cases hso_
   refine zC3 ?_
   refine zA6 (zA1 rfl ?_)
   refine stp (zA5 rfl ?_)
   refine stp (zB5 (v := .slice ads S.A.length cs) rfl hc4 rfl ?_)
   refine stp (zE8 rfl rfl rfl ?_)
   refine zA3 (og rfl ?_)
   refine zM0 rfl rfl ?_ ?_; constructor <;> omega
   rw [hlastE]
   refine stp (zA0 rfl ?_)
   refine zA4 ?_
   refine zA6 (zA1 rfl ?_)
   refine stp (zA2 rfl ?_)
   refine stp (zA0 rfl ?_)
   refine zA4 ?_
   refine zA6 (zA1 rfl ?_)
   refine stp (zA5 rfl ?_)
   refine stp (zB5 (v := .slice ads S.A.length cs) rfl hc4 rfl ?_)
   refine stp (zA2 rfl ?_)
   refine stp (zD9 RO rfl rfl ?_ ?_); omega
   refine stp (zD7 (v := .slice (sa (lastP S.A)) (len2 S.A (lastP S.A)) (sc (lastP S.A))) (m := 0) RO rfl (by rw [Nat.mul_one]; exact (hsf _ (by assumption)).1) ?_)
   refine stp (zE8 rfl rfl rfl ?_)
   refine stp (zA0 rfl ?_)
   refine zA4 ?_
   refine qT5 (fun e_ w_ => ∃ (ad4 : Option Addr) (n4 : Nat) (c4 : Nat) (segs4 : List Value), Fr [(4, .pointer (some ⟨b1, 0, none⟩)), (5, .pointer (some ⟨b7, 0, none⟩)), (8, .pointer (some ⟨b14, 0, none⟩)), (9, .int .i64 ((Nd.mk kind size words bytes kids).need)), (12, .int .i64 ((placeP lim (Nd.mk kind size words bytes kids) S s i).seg : Int)), (13, .int .i64 ((placeP lim (Nd.mk kind size words bytes kids) S s i).at_ : Int))] e_ ∧ (w_.heap[b7]? = some (.cells #[.int .i64 kind, .int .i64 size, .slice aw words.length cw, .slice ab bytes.length cb, .slice ak kids.length ck] 71 (0, 0))) ∧ (w_.heap[b14]? = some (.cells #[.slice none 0 0, .int .i64 0, .bool false] 125 (0, 0))) ∧ (w_.heap[b1]? = some (.cells #[.slice ad4 n4 c4, .int .i64 lim, .bool (placeP lim (Nd.mk kind size words bytes kids) S s i).S.full] 125 (0, 0))) ∧ (OwnA 67 33 w_ base (.slice ad4 n4 c4) segs4 ((placeP lim (Nd.mk kind size words bytes kids) S s i).S.A)) ∧ Grow w w_) ?_ ?_
   ·-- the parts
    refine zA6 (zA1 rfl ?_)
    refine stp (zA2 rfl ?_)
    refine stp (zA2 rfl ?_)
    refine stp (zE9 rfl rfl ?_)
    refine stp (zB9 rfl ?_)
    refine zA3 (zC2 (s := .bool (decide ((s : Int) = (lastP S.A : Int)))) (b := true) (v := .int .i64 ((len2 S.A (lastP S.A)) : Int)) rfl (zF2 _) (fun hc43 => ?_) ?_)
    ·
     have hc43_ := of_decide_eq_true hc43
     refine zA2 rfl ?_
     exact ⟨rfl, rfl⟩
    refine zA3 (zC2 (s := .bool (decide ((s : Int) = (lastP S.A : Int)))) (b := true) (v := .int .i64 ((Nd.mk kind size words bytes kids).need)) rfl (zF2 _) (fun hc44 => ?_) ?_)
    ·
     have hc44_ := of_decide_eq_true hc44
     refine zA2 rfl ?_
     exact ⟨rfl, rfl⟩
    refine zA3 (zC2 (s := .bool (decide ((s : Int) = (lastP S.A : Int)))) (b := true) (v := .int .i64 (((len2 S.A (lastP S.A)) : Int) + ((Nd.mk kind size words bytes kids).need))) rfl (zF2 _) (fun hc45 => ?_) ?_)
    ·
     have hc45_ := of_decide_eq_true hc45
     refine zD8 (gvt hc45) (gvt hc45) ?_ ?_; constructor <;> omega
     exact ⟨rfl, rfl⟩
    refine zA3 (zC2 (s := .bool (decide ((s : Int) = (lastP S.A : Int)))) (b := true) (v := .pointer (some ⟨b1, 1, none⟩)) rfl (zF2 _) (fun hc46 => ?_) ?_)
    ·
     have hc46_ := of_decide_eq_true hc46
     refine zA5 rfl ?_
     exact ⟨rfl, rfl⟩
    refine zA3 (zC2 (s := .bool (decide ((s : Int) = (lastP S.A : Int)))) (b := true) (v := .int .i64 lim) rfl (zF2 _) (fun hc47 => ?_) ?_)
    ·
     have hc47_ := of_decide_eq_true hc47
     refine zB5 (v := .int .i64 lim) (gvt hc47) hc4 rfl ?_
     exact ⟨rfl, rfl⟩
    refine zA3 (zC2 (s := .bool (decide ((s : Int) = (lastP S.A : Int)))) (b := true) (v := .bool (decide ((((len2 S.A (lastP S.A)) : Int) + ((Nd.mk kind size words bytes kids).need)) ≤ lim))) rfl (zF2 _) (fun hc48 => ?_) ?_)
    ·
     have hc48_ := of_decide_eq_true hc48
     refine qG9 (gvt hc48) (gvt hc48) ?_
     exact ⟨rfl, rfl⟩
    refine stp (zJ2 rfl rfl rfl ?_)
    refine zA4 ?_
    refine zB8 (b := ((decide ((s : Int) = (lastP S.A : Int))) && (decide ((((len2 S.A (lastP S.A)) : Int) + ((Nd.mk kind size words bytes kids).need)) ≤ lim)))) rfl (fun h3 => ?_) (fun h3 => ?_)
    ·-- true
     simp only [sb] at h3
     have hsl : s = lastP S.A := by omega
     have hi2 := hiA
     rw [hsl] at hi2
     have hp : (placeP lim (Nd.mk kind size words bytes kids) S s i) = ⟨⟨setP S.A s i ((Nd.mk kind size words bytes kids).near ((len2 S.A (lastP S.A) : Int) - i - 1)), S.full⟩, lastP S.A, len2 S.A (lastP S.A)⟩ := by unfold placeP; rw [if_pos ⟨by omega, h3.2⟩]
     refine zJ4 10 [[], [], [], [], [], [], [1, 0], [2, 1, 0], [4, 3, 2, 1, 0], [8, 7, 6, 5, 4, 3, 2, 1, 0]] mixed (by kernel_rfl) (by kernel_rfl) (by kernel_rfl) ?_
     intro w49 g50
     replace hc10 := g50.heap hc10
     replace hc17 := g50.heap hc17
     replace hc4 := g50.heap hc4
     replace h := h.grow g50
     replace RO := RO.grow g50
     replace G := G.tr g50
     clear g50
     apply zB7
     ·intro w_ g_; refine og rfl ?_; refine zB4 rfl (g_.heap hc4) (by rfl) ?_; exact ⟨Grow.rfl' _, rfl⟩
     apply zB7
     ·intro w_ g_; refine og rfl ?_; refine zA2 rfl ?_; exact ⟨Grow.rfl' _, rfl⟩
     apply zB7
     ·intro w_ g_; refine og rfl ?_; refine zA2 rfl ?_; exact ⟨Grow.rfl' _, rfl⟩
     apply zB7
     ·intro w_ g_; refine og rfl ?_; refine zB4 rfl (g_.heap hc10) (by rfl) ?_; exact ⟨Grow.rfl' _, rfl⟩
     apply zB7
     ·intro w_ g_; refine og rfl ?_; refine zA2 rfl ?_; exact ⟨Grow.rfl' _, rfl⟩
     apply zB7
     ·intro w_ g_; refine og rfl ?_; refine zA2 rfl ?_; exact ⟨Grow.rfl' _, rfl⟩
     apply zB7
     ·intro w_ g_; refine og rfl ?_; refine zM0 rfl rfl ?_ ?_; constructor <;> omega; exact ⟨Grow.rfl' _, rfl⟩
     apply zB7
     ·intro w_ g_; refine og rfl ?_; refine zM0 rfl rfl ?_ ?_; constructor <;> omega; exact ⟨Grow.rfl' _, rfl⟩
     apply zB7
     ·intro w_ g_; refine og rfl ?_; exact zC0 (v := .int .u64 ((Nd.mk kind size words bytes kids).near ((((len2 S.A (lastP S.A)) : Int) - (i : Int)) - 1))) rfl (zN8 _ (T0.grow (G.tr g_)) ((((len2 S.A (lastP S.A)) : Int) - (i : Int)) - 1) (by simp only [Nd.kind]; omega)) (fun w2_ g2_ => ⟨g2_, rfl⟩)
     refine zK2 (fun w_ v_ => LayV 67 33 w_ base lim v_ (⟨setP (S.A) s i ((Nd.mk kind size words bytes kids).near ((len2 S.A (lastP S.A) : Int) - i - 1)), S.full⟩)) (fun _ _ _ g_ h_ => h_.grow g_) ?_ ?_
     ·intro w_ g_
      refine og rfl ?_
      refine zF1 rfl (zQ3 _ (h.grow g_) (Nat.le_trans hbw (G.tr g_).size) FS hsA hiA) ?_
      rintro v2_ w2_ ⟨hl_, g2_⟩
      exact ⟨g2_, hl_⟩
     refine zI5 ?_
     intro w51 g52
     replace hc10 := g52.heap hc10
     replace hc17 := g52.heap hc17
     replace hc4 := g52.heap hc4
     replace h := h.grow g52
     replace RO := RO.grow g52
     replace G := G.tr g52
     clear g52
     intro v_p hv_p
     obtain ⟨so_p, segs_p, rfl, h_p⟩ := hv_p
     obtain ⟨ad_p, n_p, c_p, rfl⟩ := zF3 h_p.out
     refine stn (zB1 rfl rfl hc4 (by rfl) (by rfl) (by rfl) ?_)
     intro w53 hc54 u55
     replace hc10 := u55.heap hc10 ne13.symm
     replace hc17 := u55.heap hc17 ne20.symm
     replace h := h.upd u55 hc4 (by decide) (by decide)
     replace h_p := h_p.upd u55 hc4 (by decide) (by decide)
     replace G := G.upd u55 hge6
     clear u55 hc4
     refine zA4 ?_
     rw [hp]
     exact ⟨_, _, _, _, zE6 ⟨rfl, rfl, rfl, rfl, rfl, rfl, trivial⟩, hc10, hc17, hc54, h_p, G⟩
    ·-- false
     simp only [sb] at h3
     refine zA6 ?_
     refine zA6 (zA1 rfl ?_)
     refine stp (zA2 rfl ?_)
     refine stp (zA2 rfl ?_)
     refine stp (zE9 rfl rfl ?_)
     refine stp (zB9 rfl ?_)
     refine zA3 (zC2 (s := .bool (decide ((s : Int) = (lastP S.A : Int)))) (b := false) (v := .int .i64 ((len2 S.A (lastP S.A)) : Int)) rfl (zD1 _) (fun hc56 => ?_) ?_)
     ·
      have hc56_ := hc56
      try simp only [sb] at hc56_
      refine zA2 rfl ?_
      exact ⟨rfl, rfl⟩
     refine zA3 (zC2 (s := .bool (decide ((s : Int) = (lastP S.A : Int)))) (b := false) (v := .int .i64 ((Nd.mk kind size words bytes kids).need)) rfl (zD1 _) (fun hc57 => ?_) ?_)
     ·
      have hc57_ := hc57
      try simp only [sb] at hc57_
      refine zA2 rfl ?_
      exact ⟨rfl, rfl⟩
     refine zA3 (zC2 (s := .bool (decide ((s : Int) = (lastP S.A : Int)))) (b := false) (v := .int .i64 (((len2 S.A (lastP S.A)) : Int) + ((Nd.mk kind size words bytes kids).need))) rfl (zD1 _) (fun hc58 => ?_) ?_)
     ·
      have hc58_ := hc58
      try simp only [sb] at hc58_
      refine zD8 (gvt hc58) (gvt hc58) ?_ ?_; constructor <;> omega
      exact ⟨rfl, rfl⟩
     refine zA3 (zC2 (s := .bool (decide ((s : Int) = (lastP S.A : Int)))) (b := false) (v := .int .i64 ((((len2 S.A (lastP S.A)) : Int) + ((Nd.mk kind size words bytes kids).need)) + 1)) rfl (zD1 _) (fun hc59 => ?_) ?_)
     ·
      have hc59_ := hc59
      try simp only [sb] at hc59_
      refine zD8 (gvt hc59) rfl ?_ ?_; constructor <;> omega
      exact ⟨rfl, rfl⟩
     refine zA3 (zC2 (s := .bool (decide ((s : Int) = (lastP S.A : Int)))) (b := false) (v := .pointer (some ⟨b1, 1, none⟩)) rfl (zD1 _) (fun hc60 => ?_) ?_)
     ·
      have hc60_ := hc60
      try simp only [sb] at hc60_
      refine zA5 rfl ?_
      exact ⟨rfl, rfl⟩
     refine zA3 (zC2 (s := .bool (decide ((s : Int) = (lastP S.A : Int)))) (b := false) (v := .int .i64 lim) rfl (zD1 _) (fun hc61 => ?_) ?_)
     ·
      have hc61_ := hc61
      try simp only [sb] at hc61_
      refine zB5 (v := .int .i64 lim) (gvt hc61) hc4 rfl ?_
      exact ⟨rfl, rfl⟩
     refine zA3 (zC2 (s := .bool (decide ((s : Int) = (lastP S.A : Int)))) (b := false) (v := .bool (decide (((((len2 S.A (lastP S.A)) : Int) + ((Nd.mk kind size words bytes kids).need)) + 1) > lim))) rfl (zD1 _) (fun hc62 => ?_) ?_)
     ·
      have hc62_ := hc62
      try simp only [sb] at hc62_
      refine zM7 (gvt hc62) (gvt hc62) ?_
      exact ⟨rfl, rfl⟩
     refine stp (zI6 rfl rfl rfl ?_)
     refine zA4 ?_
     refine zB8 (b := ((decide ((s : Int) = (lastP S.A : Int))) || (decide (((((len2 S.A (lastP S.A)) : Int) + ((Nd.mk kind size words bytes kids).need)) + 1) > lim)))) rfl (fun h4 => ?_) (fun h4 => ?_)
     ·-- true
      simp only [sb] at h4
      have hp : (placeP lim (Nd.mk kind size words bytes kids) S s i) = ⟨moreP lim ⟨setP S.A s i (farP ((lastP S.A : Int) + 1) 0), S.full⟩ (lastP S.A + 1) [(Nd.mk kind size words bytes kids).near 0], lastP S.A + 1, 1⟩ := by unfold placeP; rw [if_neg (by omega), if_pos (by simp only [newSeg, Bool.or_eq_true, decide_eq_true_eq]; omega)]
      have hqc0 : ((lastP S.A + 1 : Nat) : Int) = ((lastP S.A : Int) + 1) := by omega
      refine zA6 (zA1 rfl ?_)
      refine stp (zA2 rfl ?_)
      refine stp (zD8 rfl rfl ?_ ?_); constructor <;> omega
      refine stp (zA0 rfl ?_)
      refine zA4 ?_
      refine zA1 rfl ?_
      refine stp (zA0 rfl ?_)
      refine zA4 ?_
      refine zA6 ?_
      refine zJ4 12 [[], [], [], [], [], [1, 0], [5, 4, 3, 2, 1, 0], [], [], [8, 7, 6, 5, 4, 3, 2, 0], [9, 8, 7, 6, 5, 4, 3, 1, 0], [10, 9, 8, 7, 6, 5, 4, 3, 2, 1, 0]] mixed (by kernel_rfl) (by kernel_rfl) (by kernel_rfl) ?_
      intro w63 g64
      replace hc10 := g64.heap hc10
      replace hc17 := g64.heap hc17
      replace hc4 := g64.heap hc4
      replace h := h.grow g64
      replace RO := RO.grow g64
      replace G := G.tr g64
      clear g64
      apply zB7
      ·intro w_ g_; refine og rfl ?_; refine zB4 rfl (g_.heap hc4) (by rfl) ?_; exact ⟨Grow.rfl' _, rfl⟩
      apply zB7
      ·intro w_ g_; refine og rfl ?_; refine zA2 rfl ?_; exact ⟨Grow.rfl' _, rfl⟩
      apply zB7
      ·intro w_ g_; refine og rfl ?_; refine zA2 rfl ?_; exact ⟨Grow.rfl' _, rfl⟩
      apply zB7
      ·intro w_ g_; refine og rfl ?_; refine zA2 rfl ?_; exact ⟨Grow.rfl' _, rfl⟩
      apply zB7
      ·intro w_ g_; refine og rfl ?_; refine zA2 rfl ?_; exact ⟨Grow.rfl' _, rfl⟩
      apply zB7
      ·intro w_ g_; refine og rfl ?_; exact zC0 (v := .int .u64 (farP ((lastP S.A : Int) + 1) 0)) rfl (qG2 _ ((lastP S.A : Int) + 1) 0) (fun w2_ g2_ => ⟨g2_, rfl⟩)
      refine zK2 (fun w_ v_ => LayV 67 33 w_ base lim v_ (⟨setP (S.A) s i (farP ((lastP S.A : Int) + 1) 0), S.full⟩)) (fun _ _ _ g_ h_ => h_.grow g_) ?_ ?_
      ·intro w_ g_
       refine og rfl ?_
       refine zF1 rfl (zQ3 _ (h.grow g_) (Nat.le_trans hbw (G.tr g_).size) FS hsA hiA) ?_
       rintro v2_ w2_ ⟨hl_, g2_⟩
       exact ⟨g2_, hl_⟩
      apply zB7
      ·intro w_ g_; refine og rfl ?_; refine zA2 rfl ?_; exact ⟨Grow.rfl' _, rfl⟩
      apply zB7
      ·intro w_ g_; refine og rfl ?_; refine zB4 rfl (g_.heap hc10) (by rfl) ?_; exact ⟨Grow.rfl' _, rfl⟩
      apply zB7
      ·intro w_ g_; intro v6_ hv6_; show OpG _ _ _ _ _ _; refine og rfl ?_; exact zC0 (v := .int .u64 ((Nd.mk kind size words bytes kids).near 0)) rfl (zN8 _ (T0.grow (G.tr g_)) (0) (by simp only [Nd.kind]; omega)) (fun w2_ g2_ => ⟨g2_, rfl⟩)
      refine zK2 (fun w_ v_ => Row w_ 1 v_ 1 (wordsV [(Nd.mk kind size words bytes kids).near 0])) (fun _ _ _ g_ h_ => h_.grow g_) ?_ ?_
      ·intro w_ g_
       intro v6_ hv6_; show OpG _ _ _ _ _ _
       refine og rfl ?_
       refine zE5 (cs := #[.int .u64 ((Nd.mk kind size words bytes kids).near 0)]) (el := 33) (fun w => by kernel_rfl) ?_
       intro bs_ w2_ hb_ hc_ g2_
       exact ⟨g2_, Row.of_block (n := 1) hc_ rfl rfl (by omega)⟩
      refine zK2 (fun w_ v_ => LayV 67 33 w_ base lim v_ (moreP lim ⟨setP S.A s i (farP ((lastP S.A : Int) + 1) 0), S.full⟩ (lastP S.A + 1) [(Nd.mk kind size words bytes kids).near 0])) (fun _ _ _ g_ h_ => h_.grow g_) ?_ ?_
      ·intro w_ g_
       intro v6_ hv6_; intro v10_ hv10_; show OpG _ _ _ _ _ _
       refine og rfl ?_
       obtain ⟨so_p, segs_p, rfl, h_p⟩ := hv6_
       have hqc : ((lastP S.A + 1 : Nat) : Int) = ((lastP S.A : Int) + 1) := by omega
       have hcal := zU8 _ (q := lastP S.A + 1) (lim := lim) (full := S.full) (l := [(Nd.mk kind size words bytes kids).near 0]) h_p (Nat.le_trans hbw (G.tr g_).size) (FS.set s i (farP ((lastP S.A : Int) + 1) 0)) (by rw [zG1]; omega) hv10_ (by simp)
       rw [hqc] at hcal
       refine zF1 rfl hcal ?_
       rintro v2_ w2_ ⟨hl_, g2_⟩
       exact ⟨g2_, hl_⟩
      refine zI5 ?_
      intro w65 g66
      replace hc10 := g66.heap hc10
      replace hc17 := g66.heap hc17
      replace hc4 := g66.heap hc4
      replace h := h.grow g66
      replace RO := RO.grow g66
      replace G := G.tr g66
      clear g66
      intro v_p hv_p
      intro v_l hv_l
      intro v_m hv_m
      obtain ⟨so_m, segs_m, rfl, h_m⟩ := hv_m
      obtain ⟨ad_m, n_m, c_m, rfl⟩ := zF3 h_m.out
      refine stn (zB1 rfl rfl hc4 (by rfl) (by rfl) (by rfl) ?_)
      intro w67 hc68 u69
      replace hc10 := u69.heap hc10 ne13.symm
      replace hc17 := u69.heap hc17 ne20.symm
      replace h := h.upd u69 hc4 (by decide) (by decide)
      replace h_m := h_m.upd u69 hc4 (by decide) (by decide)
      replace G := G.upd u69 hge6
      clear u69 hc4
      refine zA4 ?_
      refine zA1 rfl ?_
      refine stp (zA2 rfl ?_)
      refine stp (zD8 rfl rfl ?_ ?_); constructor <;> omega
      refine stp (zA0 rfl ?_)
      refine zA4 ?_
      rw [hp]
      exact ⟨_, _, _, _, zE6 ⟨rfl, rfl, rfl, rfl, rfl, rfl, trivial⟩, hc10, hc17, hc68, h_m, G⟩
     ·-- false
      simp only [sb] at h4
      have hp : (placeP lim (Nd.mk kind size words bytes kids) S s i) = ⟨moreP lim ⟨setP S.A s i (farP (lastP S.A) (len2 S.A (lastP S.A))), S.full⟩ (lastP S.A) [(Nd.mk kind size words bytes kids).near 0], lastP S.A, len2 S.A (lastP S.A) + 1⟩ := by unfold placeP; rw [if_neg (by omega), if_neg (by simp only [newSeg, Bool.or_eq_true, decide_eq_true_eq]; omega)]
      refine zC3 ?_
      refine zA6 ?_
      refine zJ4 12 [[], [], [], [], [], [1, 0], [5, 4, 3, 2, 1, 0], [], [], [8, 7, 6, 5, 4, 3, 2, 0], [9, 8, 7, 6, 5, 4, 3, 1, 0], [10, 9, 8, 7, 6, 5, 4, 3, 2, 1, 0]] mixed (by kernel_rfl) (by kernel_rfl) (by kernel_rfl) ?_
      intro w70 g71
      replace hc10 := g71.heap hc10
      replace hc17 := g71.heap hc17
      replace hc4 := g71.heap hc4
      replace h := h.grow g71
      replace RO := RO.grow g71
      replace G := G.tr g71
      clear g71
      apply zB7
      ·intro w_ g_; refine og rfl ?_; refine zB4 rfl (g_.heap hc4) (by rfl) ?_; exact ⟨Grow.rfl' _, rfl⟩
      apply zB7
      ·intro w_ g_; refine og rfl ?_; refine zA2 rfl ?_; exact ⟨Grow.rfl' _, rfl⟩
      apply zB7
      ·intro w_ g_; refine og rfl ?_; refine zA2 rfl ?_; exact ⟨Grow.rfl' _, rfl⟩
      apply zB7
      ·intro w_ g_; refine og rfl ?_; refine zA2 rfl ?_; exact ⟨Grow.rfl' _, rfl⟩
      apply zB7
      ·intro w_ g_; refine og rfl ?_; refine zA2 rfl ?_; exact ⟨Grow.rfl' _, rfl⟩
      apply zB7
      ·intro w_ g_; refine og rfl ?_; exact zC0 (v := .int .u64 (farP (lastP S.A : Int) (len2 S.A (lastP S.A) : Int))) rfl (qG2 _ (lastP S.A : Int) (len2 S.A (lastP S.A) : Int)) (fun w2_ g2_ => ⟨g2_, rfl⟩)
      refine zK2 (fun w_ v_ => LayV 67 33 w_ base lim v_ (⟨setP (S.A) s i (farP (lastP S.A : Int) (len2 S.A (lastP S.A) : Int)), S.full⟩)) (fun _ _ _ g_ h_ => h_.grow g_) ?_ ?_
      ·intro w_ g_
       refine og rfl ?_
       refine zF1 rfl (zQ3 _ (h.grow g_) (Nat.le_trans hbw (G.tr g_).size) FS hsA hiA) ?_
       rintro v2_ w2_ ⟨hl_, g2_⟩
       exact ⟨g2_, hl_⟩
      apply zB7
      ·intro w_ g_; refine og rfl ?_; refine zA2 rfl ?_; exact ⟨Grow.rfl' _, rfl⟩
      apply zB7
      ·intro w_ g_; refine og rfl ?_; refine zB4 rfl (g_.heap hc10) (by rfl) ?_; exact ⟨Grow.rfl' _, rfl⟩
      apply zB7
      ·intro w_ g_; intro v6_ hv6_; show OpG _ _ _ _ _ _; refine og rfl ?_; exact zC0 (v := .int .u64 ((Nd.mk kind size words bytes kids).near 0)) rfl (zN8 _ (T0.grow (G.tr g_)) (0) (by simp only [Nd.kind]; omega)) (fun w2_ g2_ => ⟨g2_, rfl⟩)
      refine zK2 (fun w_ v_ => Row w_ 1 v_ 1 (wordsV [(Nd.mk kind size words bytes kids).near 0])) (fun _ _ _ g_ h_ => h_.grow g_) ?_ ?_
      ·intro w_ g_
       intro v6_ hv6_; show OpG _ _ _ _ _ _
       refine og rfl ?_
       refine zE5 (cs := #[.int .u64 ((Nd.mk kind size words bytes kids).near 0)]) (el := 33) (fun w => by kernel_rfl) ?_
       intro bs_ w2_ hb_ hc_ g2_
       exact ⟨g2_, Row.of_block (n := 1) hc_ rfl rfl (by omega)⟩
      refine zK2 (fun w_ v_ => LayV 67 33 w_ base lim v_ (moreP lim ⟨setP S.A s i (farP (lastP S.A : Int) (len2 S.A (lastP S.A) : Int)), S.full⟩ (lastP S.A) [(Nd.mk kind size words bytes kids).near 0])) (fun _ _ _ g_ h_ => h_.grow g_) ?_ ?_
      ·intro w_ g_
       intro v6_ hv6_; intro v10_ hv10_; show OpG _ _ _ _ _ _
       refine og rfl ?_
       obtain ⟨so_p, segs_p, rfl, h_p⟩ := hv6_
       have hqc : ((lastP S.A : Nat) : Int) = (lastP S.A : Int) := by omega
       have hcal := zU8 _ (q := lastP S.A) (lim := lim) (full := S.full) (l := [(Nd.mk kind size words bytes kids).near 0]) h_p (Nat.le_trans hbw (G.tr g_).size) (FS.set s i (farP (lastP S.A : Int) (len2 S.A (lastP S.A) : Int))) (by rw [zG1]; omega) hv10_ (by simp)
       rw [hqc] at hcal
       refine zF1 rfl hcal ?_
       rintro v2_ w2_ ⟨hl_, g2_⟩
       exact ⟨g2_, hl_⟩
      refine zI5 ?_
      intro w72 g73
      replace hc10 := g73.heap hc10
      replace hc17 := g73.heap hc17
      replace hc4 := g73.heap hc4
      replace h := h.grow g73
      replace RO := RO.grow g73
      replace G := G.tr g73
      clear g73
      intro v_p hv_p
      intro v_l hv_l
      intro v_m hv_m
      obtain ⟨so_m, segs_m, rfl, h_m⟩ := hv_m
      obtain ⟨ad_m, n_m, c_m, rfl⟩ := zF3 h_m.out
      refine stn (zB1 rfl rfl hc4 (by rfl) (by rfl) (by rfl) ?_)
      intro w74 hc75 u76
      replace hc10 := u76.heap hc10 ne13.symm
      replace hc17 := u76.heap hc17 ne20.symm
      replace h := h.upd u76 hc4 (by decide) (by decide)
      replace h_m := h_m.upd u76 hc4 (by decide) (by decide)
      replace G := G.upd u76 hge6
      clear u76 hc4
      refine zA4 ?_
      refine zA1 rfl ?_
      refine stp (zA2 rfl ?_)
      refine stp (zD8 rfl rfl ?_ ?_); constructor <;> omega
      refine stp (zA0 rfl ?_)
      refine zA4 ?_
      rw [hp]
      exact ⟨_, _, _, _, zE6 ⟨rfl, rfl, rfl, rfl, rfl, rfl, trivial⟩, hc10, hc17, hc75, h_m, G⟩
   ·-- behind them
    clear hc10 hc17 hc4 h RO
    clear G
    rintro e_ w77 ⟨ad4, n4, c4, segs4, ⟨e78, rfl⟩, hc10, hc17, hc4, h, G⟩
    obtain ⟨hpG, hpS, hpA, hpF, hpU⟩ := hp0
    generalize (placeP lim (Nd.mk kind size words bytes kids) S s i) = p at *
    have hpl := FS.len
    have hSp : Sml p.S.A := ⟨by have := hpn.len; omega, fun j => by have := hpn.seg j; have := F.seg j; omega⟩
    have hpb := hSp.seg p.seg
    rw [← hpA] at hpb
    have hco : ((Nd.mk kind size words bytes kids).content.length : Int) = (Nd.mk kind size words bytes kids).need := Nd.content_length _ (by simp only [Nd.kind]; omega) (by simpa only [Nd.kind, Nd.bytes] using hb1)
    have hok := LayOk.more lim p.S p.seg (Nd.mk kind size words bytes kids).content (Nat.le_of_lt hpS)
    have hge2 : p.at_ + (Nd.mk kind size words bytes kids).content.length ≤ len2 (moreP lim p.S p.seg (Nd.mk kind size words bytes kids).content).A p.seg := by rw [hpA, show (moreP lim p.S p.seg (Nd.mk kind size words bytes kids).content).A = growA p.S.A p.seg (Nd.mk kind size words bytes kids).content from rfl]; simp only [len2]; rw [zL9 _ _ _ _ (Nat.le_of_lt hpS), if_pos rfl, List.length_append]; exact Nat.le_refl _
    have hQ0 : (moreP lim p.S p.seg (Nd.mk kind size words bytes kids).content).full = false → p.S.full = false := fun hx => by cases hy : p.S.full with | false => rfl | true => rw [hok.full hy] at hx; exact absurd hx (by simp)
    refine zA6 ?_
    refine zJ4 5 [[], [], [], [0], [3, 2, 1, 0]] mixed (by kernel_rfl) (by kernel_rfl) (by kernel_rfl) ?_
    intro w79 g80
    replace hc10 := g80.heap hc10
    replace hc17 := g80.heap hc17
    replace h := h.grow g80
    replace hc4 := g80.heap hc4
    replace G := G.tr g80
    clear g80
    apply zB7
    ·intro w_ g_; refine og rfl ?_; refine zB4 rfl (g_.heap hc4) (by rfl) ?_; exact ⟨Grow.rfl' _, rfl⟩
    apply zB7
    ·intro w_ g_; refine og rfl ?_; refine zA2 rfl ?_; exact ⟨Grow.rfl' _, rfl⟩
    apply zB7
    ·intro w_ g_; refine og rfl ?_; refine zB4 rfl (g_.heap hc10) (by rfl) ?_; exact ⟨Grow.rfl' _, rfl⟩
    refine zK2 (fun w_ v_ => Row w_ 1 v_ (Nd.mk kind size words bytes kids).content.length (wordsV (Nd.mk kind size words bytes kids).content)) (fun _ _ _ g_ h_ => h_.grow g_) ?_ ?_
    ·intro w_ g_
     refine og rfl ?_
     refine zF1 rfl (qE1 _ (T0.grow (G.tr g_)) hlw hlb hlk) ?_
     rintro v2_ w2_ ⟨ho_, g2_⟩
     exact ⟨g2_, zE2 ho_ (by omega)⟩
    refine zK2 (fun w_ v_ => LayV 67 33 w_ base lim v_ (moreP lim p.S p.seg (Nd.mk kind size words bytes kids).content)) (fun _ _ _ g_ h_ => h_.grow g_) ?_ ?_
    ·intro w_ g_
     intro v3_ hv3_; show OpG _ _ _ _ _ _
     refine og rfl ?_
     refine zF1 rfl (zU8 _ (q := p.seg) (lim := lim) (full := p.S.full) (l := (Nd.mk kind size words bytes kids).content) (h.grow g_) (Nat.le_trans hbw (G.tr g_).size) hSp (Nat.le_of_lt hpS) hv3_ (by omega)) ?_
     rintro v2_ w2_ ⟨hl_, g2_⟩
     exact ⟨g2_, hl_⟩
    refine zI5 ?_
    intro w81 g82
    replace hc10 := g82.heap hc10
    replace hc17 := g82.heap hc17
    replace h := h.grow g82
    replace hc4 := g82.heap hc4
    replace G := G.tr g82
    clear g82
    intro v_c hv_c
    intro v_m hv_m
    obtain ⟨so_m, segs_m, rfl, h_m⟩ := hv_m
    obtain ⟨ad_m, n_m, c_m, rfl⟩ := zF3 h_m.out
    refine stn (zB1 rfl rfl hc4 (by rfl) (by rfl) (by rfl) ?_)
    intro w83 hc84 u85
    replace hc10 := u85.heap hc10 ne13.symm
    replace hc17 := u85.heap hc17 ne20.symm
    replace h := h.upd u85 hc4 (by decide) (by decide)
    replace h_m := h_m.upd u85 hc4 (by decide) (by decide)
    replace G := G.upd u85 hge6
    clear u85 hc4
    refine zA4 ?_
    obtain ⟨Q, hQ⟩ : ∃ Q, Q = moreP lim p.S p.seg (Nd.mk kind size words bytes kids).content := ⟨_, rfl⟩
    rw [← hQ] at hge2 hQ0 hok ⊢
    have hok_A : (moreP lim p.S p.seg (Nd.mk kind size words bytes kids).content).A = Q.A := by rw [hQ]
    rw [hok_A] at h_m
    have hc84' : w83.heap[b1]? = some (.cells #[.slice ad_m n_m c_m, .int .i64 lim, .bool (Q.full)] 125 (0, 0)) := by rw [hQ]; exact hc84
    clear hok_A hQ hc84
    have hc84 := hc84'
    clear hc84'
    have hQs : p.seg < Q.A.length := Nat.lt_of_lt_of_le hpS hok.grew.len
    have hQ1 : 1 ≤ Q.A.length := by omega
    refine zA6 ?_
    refine zA6 (zA1 rfl ?_)
    refine stp (zA0 rfl ?_)
    refine zA4 ?_
    refine zC6 ?_
    refine zG6 (fun m_ e_ w_ => ∃ (k : Nat) (ad5 : Option Addr) (n5 : Nat) (c5 : Nat) (segs5 : List Value), m_ = kids.length - k ∧ Fr [(4, .pointer (some ⟨b1, 0, none⟩)), (5, .pointer (some ⟨b7, 0, none⟩)), (8, .pointer (some ⟨b14, 0, none⟩)), (9, .int .i64 ((Nd.mk kind size words bytes kids).need)), (12, .int .i64 (p.seg : Int)), (13, .int .i64 (p.at_ : Int)), (14, .int .i64 (k : Int))] e_ ∧ (k ≤ kids.length) ∧ (w_.heap[b7]? = some (.cells #[.int .i64 kind, .int .i64 size, .slice aw words.length cw, .slice ab bytes.length cb, .slice ak kids.length ck] 71 (0, 0))) ∧ (w_.heap[b14]? = some (.cells #[.slice none 0 0, .int .i64 0, .bool false] 125 (0, 0))) ∧ (w_.heap[b1]? = some (.cells #[.slice ad5 n5 c5, .int .i64 lim, .bool ((Nd.lays lim (kids.take k) Q p.seg (p.at_ + ((Nd.mk kind size words bytes kids).need.toNat - kids.length))).full)] 125 (0, 0))) ∧ (OwnA 67 33 w_ base (.slice ad5 n5 c5) segs5 ((Nd.lays lim (kids.take k) Q p.seg (p.at_ + ((Nd.mk kind size words bytes kids).need.toNat - kids.length))).A)) ∧ Grow w w_) _ ⟨0, ad_m, n_m, c_m, segs_m, rfl, zE6 ⟨rfl, rfl, rfl, rfl, rfl, rfl, rfl, trivial⟩, by omega, hc10, hc17, hc84, h_m, G⟩ ?_
    clear hc10 hc17 hc84 h_m
    clear G
    rintro m_ e_ w86 ⟨k, ad5, n5, c5, segs5, rfl, ⟨e87, rfl⟩, hk2, hc10, hc17, hc84, h5, G⟩
    refine zA6 ?_
    refine zA6 (zA1 rfl ?_)
    refine stp (zA2 rfl ?_)
    refine stp (zA5 rfl ?_)
    refine stp (zB5 (v := .slice ak kids.length ck) rfl hc10 rfl ?_)
    refine stp (zE8 rfl rfl rfl ?_)
    refine stp (zF9 rfl rfl ?_)
    refine zA4 ?_
    refine zB8 (b := (decide ((k : Int) < (kids.length : Int)))) rfl (fun hlt => ?_) (fun hlt => ?_)
    ·-- true
     replace hlt := of_decide_eq_true hlt
     have hk3 : k < kids.length := by omega
     have hat := KidsR.at_ k kids[k] hKs (by simp [hk3])
     obtain ⟨y0, y1, ya, yn, yc, za, zn, zc, ua, un, uc, hy⟩ := hat.cells
     rw [hy] at hat
     have hsz := Nd.szs_at kids k kids[k] (by simp [hk3])
     have hfk := Nd.fine_kid hR hk3
     have hkn2 := hkn h1k
     have hlk_ := Nd.lays_ok lim (kids.take k) Q p.seg (p.at_ + ((Nd.mk kind size words bytes kids).need.toNat - kids.length)) hQ1
     have hss : p.seg < (Nd.lays lim (kids.take k) Q p.seg (p.at_ + ((Nd.mk kind size words bytes kids).need.toNat - kids.length))).A.length := Nat.lt_of_lt_of_le hQs hlk_.grew.len
     have hii : p.at_ + ((Nd.mk kind size words bytes kids).need.toNat - kids.length) + k < len2 (Nd.lays lim (kids.take k) Q p.seg (p.at_ + ((Nd.mk kind size words bytes kids).need.toNat - kids.length))).A p.seg := by have := hlk_.grew.seg p.seg; omega
     have hFk : (Nd.lays lim (kids.take k) Q p.seg (p.at_ + ((Nd.mk kind size words bytes kids).need.toNat - kids.length))).full = false → Fit lim (Nd.lays lim (kids.take k) Q p.seg (p.at_ + ((Nd.mk kind size words bytes kids).need.toNat - kids.length))).A ∧ p.seg < (Nd.lays lim (kids.take k) Q p.seg (p.at_ + ((Nd.mk kind size words bytes kids).need.toNat - kids.length))).A.length ∧ p.at_ + ((Nd.mk kind size words bytes kids).need.toNat - kids.length) + k < len2 (Nd.lays lim (kids.take k) Q p.seg (p.at_ + ((Nd.mk kind size words bytes kids).need.toNat - kids.length))).A p.seg := fun hx => ⟨hlk_.fit (hok.fit (hpF F (hQ0 (by cases hy_ : Q.full with | false => rfl | true => rw [hlk_.full hy_] at hx; exact absurd hx (by simp)))) (by cases hy_ : Q.full with | false => rfl | true => rw [hlk_.full hy_] at hx; exact absurd hx (by simp))) hx, hss, hii⟩
     refine zC3 ?_
     refine zA6 ?_
     refine zC6 ?_
     refine zJ4 17 [[], [], [0], [], [2, 1, 0], [3, 2, 1, 0], [], [], [], [1, 0], [], [0], [1, 0], [5, 4, 3, 2, 1, 0], [], [7, 6, 5, 4, 3, 2, 1, 0], [15, 14, 13, 12, 11, 10, 9, 8, 7, 6, 5, 4, 3, 2, 1, 0]] mixed (by kernel_rfl) (by kernel_rfl) (by kernel_rfl) ?_
     intro w88 g89
     replace hc10 := g89.heap hc10
     replace hc17 := g89.heap hc17
     replace hc84 := g89.heap hc84
     replace h5 := h5.grow g89
     replace G := G.tr g89
     clear g89
     apply zB7
     ·intro w_ g_; refine og rfl ?_; refine zB4 rfl (g_.heap hc84) (by rfl) ?_; exact ⟨Grow.rfl' _, rfl⟩
     apply zB7
     ·intro w_ g_; refine og rfl ?_; refine zA5 rfl ?_; exact ⟨Grow.rfl' _, rfl⟩
     apply zB7
     ·intro w_ g_; refine og rfl ?_; refine zB5 (v := .slice ak kids.length ck) rfl (g_.heap hc10) rfl ?_; exact ⟨Grow.rfl' _, rfl⟩
     apply zB7
     ·intro w_ g_; refine og rfl ?_; refine zA2 rfl ?_; exact ⟨Grow.rfl' _, rfl⟩
     apply zB7
     ·intro w_ g_; refine og rfl ?_; refine zD9 (RK.grow (G.tr g_)) rfl rfl ?_ ?_; omega; exact ⟨Grow.rfl' _, rfl⟩
     apply zB7
     ·intro w_ g_; refine og rfl ?_; refine qU0 (RK.grow (G.tr g_)) rfl (by decide) (by rw [RK.len]; omega) hy ?_; exact ⟨Grow.rfl' _, rfl⟩
     apply zB7
     ·intro w_ g_; refine og rfl ?_; refine zA2 rfl ?_; exact ⟨Grow.rfl' _, rfl⟩
     apply zB7
     ·intro w_ g_; refine og rfl ?_; refine zA2 rfl ?_; exact ⟨Grow.rfl' _, rfl⟩
     apply zB7
     ·intro w_ g_; refine og rfl ?_; refine zA2 rfl ?_; exact ⟨Grow.rfl' _, rfl⟩
     apply zB7
     ·intro w_ g_; refine og rfl ?_; refine zD8 rfl rfl ?_ ?_; constructor <;> omega; exact ⟨Grow.rfl' _, rfl⟩
     apply zB7
     ·intro w_ g_; refine og rfl ?_; refine zA5 rfl ?_; exact ⟨Grow.rfl' _, rfl⟩
     apply zB7
     ·intro w_ g_; refine og rfl ?_; refine zB5 (v := .slice ak kids.length ck) rfl (g_.heap hc10) rfl ?_; exact ⟨Grow.rfl' _, rfl⟩
     apply zB7
     ·intro w_ g_; refine og rfl ?_; refine zE8 rfl rfl rfl ?_; exact ⟨Grow.rfl' _, rfl⟩
     apply zB7
     ·intro w_ g_; refine og rfl ?_; refine zM0 rfl rfl ?_ ?_; constructor <;> omega; exact ⟨Grow.rfl' _, rfl⟩
     apply zB7
     ·intro w_ g_; refine og rfl ?_; refine zA2 rfl ?_; exact ⟨Grow.rfl' _, rfl⟩
     apply zB7
     ·intro w_ g_; refine og rfl ?_; refine zD8 rfl rfl ?_ ?_; constructor <;> omega; exact ⟨Grow.rfl' _, rfl⟩
     refine zK2 (fun w_ v_ => LayV 67 33 w_ base lim v_ ((Nd.lays lim (kids.take (k + 1)) Q p.seg (p.at_ + ((Nd.mk kind size words bytes kids).need.toNat - kids.length))))) (fun _ _ _ g_ h_ => h_.grow g_) ?_ ?_
     ·intro w_ g_
      refine og rfl ?_
      have hcal := ih_ _ (h5.grow g_) (Nat.le_trans hbw (G.tr g_).size) (hat.grow (G.tr g_)) hfk (by omega) hl1 hl2 hFk (by simp only [Nd.sz] at hm_; omega)
      rw [show ((p.at_ + ((Nd.mk kind size words bytes kids).need.toNat - kids.length) + k : Nat) : Int) = (p.at_ : Int) + (Nd.mk kind size words bytes kids).need - kids.length + k from by omega, ← Nd.lays_take hk3] at hcal
      refine zF1 rfl hcal ?_
      rintro v2_ w2_ ⟨hl_, g2_⟩
      exact ⟨g2_, hl_⟩
     refine zI5 ?_
     intro w90 g91
     replace hc10 := g91.heap hc10
     replace hc17 := g91.heap hc17
     replace hc84 := g91.heap hc84
     replace h5 := h5.grow g91
     replace G := G.tr g91
     clear g91
     intro v_k hv_k
     obtain ⟨so_k, segs_k, rfl, h_k⟩ := hv_k
     obtain ⟨ad_k, n_k, c_k, rfl⟩ := zF3 h_k.out
     refine stn (zB1 rfl rfl hc84 (by rfl) (by rfl) (by rfl) ?_)
     intro w92 hc93 u94
     replace hc10 := u94.heap hc10 ne13.symm
     replace hc17 := u94.heap hc17 ne20.symm
     replace h5 := h5.upd u94 hc84 (by decide) (by decide)
     replace h_k := h_k.upd u94 hc84 (by decide) (by decide)
     replace G := G.upd u94 hge6
     clear u94 hc84
     refine zA4 ?_
     refine zA1 rfl ?_
     refine stp (zA2 rfl ?_)
     refine stp (zD8 rfl rfl ?_ ?_); constructor <;> omega
     refine stp (zA0 rfl ?_)
     refine zA4 ?_
     refine ⟨_, ?_, k + 1, ad_k, n_k, c_k, segs_k, rfl, zE6 ⟨rfl, rfl, rfl, rfl, rfl, rfl, congrArg (Value.int .i64) (by omega), trivial⟩, by omega, hc10, hc17, hc93, h_k, G⟩
     omega
    ·-- false
     replace hlt := of_decide_eq_false hlt
     have hk3 : k = kids.length := by omega
     have hSK : (Nd.lays lim (kids.take k) Q p.seg (p.at_ + ((Nd.mk kind size words bytes kids).need.toNat - kids.length))) = Nd.lays lim kids Q p.seg (p.at_ + ((Nd.mk kind size words bytes kids).need.toNat - kids.length)) := by rw [hk3, List.take_length]
     refine zF6 ?_
     refine zA6 (zA1 rfl ?_)
     refine stp (zB4 rfl hc84 (by rfl) ?_)
     refine stn (zB1 rfl rfl hc17 (by rfl) (by rfl) (by rfl) ?_)
     intro w95 hc96 u97
     replace hc10 := u97.heap hc10 ne21
     replace hc84 := u97.heap hc84 ne20
     replace h5 := h5.upd u97 hc17 (by decide) (by decide)
     replace G := G.upd u97 hge19
     clear u97 hc17
     refine zA4 ?_
     refine zC4 ?_
     rw [← hSK]
     refine ret1 (zC9 rfl hc96 (by rfl)) ⟨⟨_, _, rfl, h5⟩, G⟩

set_option maxRecDepth 100000 in
theorem zZ8 (w : World) {c : List Value} {t : Nd} (T : NodeR w c t) (n : Int) : Calls Tryz.prog 22 #[.agg c.toArray, .int .i64 n] w (Ret fun v w' => ∃ so segs, v = .tuple #[so, .int .i64 (t.build n).2] ∧ OwnA 67 33 w' w.heap.size so segs (t.build n).1 ∧ Grow w w') := by
 obtain ⟨y0, y1, ya, yn, yc, za, zn, zc, ua, un, uc, rfl⟩ := T.cells
 have G := Grow.rfl' w
 refine zE3 Tryz.func22 Tryz.ntmps22 Tryz.results22 rfl rfl ?_
 refine zA6 (zA1 rfl ?_)
 refine zA3 (og rfl ?_)
 (first | refine zD0 rfl ?_ | refine zD2 rfl ?_ | refine zC5 rfl ?_ | refine zH0 rfl rfl ?_)
 intro b1 w2 hb3 hc4 g5
 have hge6 := Nat.le_trans G.size hb3
 replace G := G.tr g5
 clear g5 hb3
 refine stp (zB0 rfl ?_)
 refine stp (zA0 rfl ?_)
 refine zA4 ?_
 refine zA6 ?_
 refine zA6 (zA1 rfl ?_)
 refine stp (zA2 rfl ?_)
 refine stp (zF9 rfl rfl ?_)
 refine stp (zB9 rfl ?_)
 refine zA3 (zC2 (s := .bool (decide (n < 1))) (b := false) (v := .int .i64 n) rfl (zD1 _) (fun hc7 => ?_) ?_)
 ·
  have hc7_ := hc7
  try simp only [sb] at hc7_
  refine zA2 rfl ?_
  exact ⟨rfl, rfl⟩
 refine zA3 (zC2 (s := .bool (decide (n < 1))) (b := false) (v := .bool (decide (n > 4096))) rfl (zD1 _) (fun hc8 => ?_) ?_)
 ·
  have hc8_ := hc8
  try simp only [sb] at hc8_
  refine zM7 (gvt hc8) rfl ?_
  exact ⟨rfl, rfl⟩
 refine stp (zI6 rfl rfl rfl ?_)
 refine stp (zB9 rfl ?_)
 refine zA3 (zC2 (s := .bool ((decide (n < 1)) || (decide (n > 4096)))) (b := false) (v := .agg #[.int .i64 y0, .int .i64 y1, .slice ya yn yc, .slice za zn zc, .slice ua un uc]) rfl (zD1 _) (fun hc9 => ?_) ?_)
 ·
  have hc9_ := hc9
  try simp only [sb] at hc9_
  refine zB4 rfl hc4 (by rfl) ?_
  exact ⟨rfl, rfl⟩
 refine zA3 (zR6 (s := .bool ((decide (n < 1)) || (decide (n > 4096)))) (b := false) (v := .bool (t.right 32)) rfl (zD1 _) (fun hc10 => ?_) ?_)
 ·
  have hc10_ := hc10
  try simp only [sb] at hc10_
  exact zL0 (l := ([.agg #[.int .i64 y0, .int .i64 y1, .slice ya yn yc, .slice za zn zc, .slice ua un uc]] : List Value)) rfl (by show ([gv (!((decide (n < 1)) || (decide (n > 4096)))) (.agg #[.int .i64 y0, .int .i64 y1, .slice ya yn yc, .slice za zn zc, .slice ua un uc])] : List Value) = _; rw [gvt hc10]) (qL2 _ (T.grow G)) (fun w2_ g2_ => ⟨rfl, g2_⟩)
 intro w11 g12
 replace hc4 := g12.heap hc4
 replace G := G.tr g12
 clear g12
 refine zA3 (zC2 (s := .bool ((decide (n < 1)) || (decide (n > 4096)))) (b := false) (v := .bool (!(t.right 32))) rfl (zD1 _) (fun hc13 => ?_) ?_)
 ·
  have hc13_ := hc13
  try simp only [sb] at hc13_
  refine zN6 (gvt hc13) ?_
  exact ⟨rfl, rfl⟩
 refine stp (zI6 rfl rfl rfl ?_)
 refine zA4 ?_
 refine zB8 (b := (((decide (n < 1)) || (decide (n > 4096))) || (!(t.right 32)))) rfl (fun h1 => ?_) (fun h1 => ?_)
 ·-- true
  simp only [sb] at h1
  have hb : t.build n = ([], 1) := by unfold Nd.build; rw [if_pos]; rcases h1 with (h | h) | h; exact .inl h; exact .inr (.inl h); exact .inr (.inr h)
  refine zA6 (zA1 rfl ?_)
  refine stp (zB0 rfl ?_)
  refine stp (zA0 rfl ?_)
  refine zA4 ?_
  refine zC4 ?_
  rw [hb]
  refine ret2 (zB3 (v := .slice none 0 0) rfl) (zB3 (v := .int .i64 1) rfl) ⟨_, _, rfl, OwnA.nil _ _ _ _, G⟩
 ·-- false
  simp only [sb] at h1
  obtain ⟨⟨h1a, h1b⟩, h1c⟩ := h1
  have hlb1 : 1 ≤ n := by omega
  have hlb2 : n ≤ 4096 := by omega
  have hnb : ¬ (n < 1 ∨ n > 4096 ∨ t.right 32 = false) := by rw [h1c]; simp; omega
  refine zC3 ?_
  refine zA6 (zA1 rfl ?_)
  refine stp (zE5 (cs := #[.int .u64 0]) (el := 33) (fun w => by kernel_rfl) ?_)
  intro bs14 w15 hb16 hc17 g18
  have hge19 := Nat.le_trans G.size hb16
  replace hc4 := g18.heap hc4
  replace G := G.tr g18
  clear g18
  refine stp (zE5 (cs := #[.slice (some ⟨bs14, 0, none⟩) 1 1]) (el := 67) (fun w => by kernel_rfl) ?_)
  intro bs20 w21 hb22 hc23 g24
  have hge25 := Nat.le_trans G.size hb22
  replace hc4 := g24.heap hc4
  replace hc17 := g24.heap hc17
  replace G := G.tr g24
  clear g24
  refine stp (zA2 rfl ?_)
  refine stp (zD4 (v := .agg #[.slice (some ⟨bs20, 0, none⟩) 1 1, .int .i64 n, .bool false]) (fun w => by kernel_rfl) ?_)
  refine stp (zB4 rfl hc4 (by rfl) ?_)
  refine zA3 (og rfl ?_)
  have h0 := OwnA.init (TO := 67) (TW := 33) (base := w.heap.size) hc23 hc17 hge25 hge19
  refine zF1 rfl (qY9 _ _ (s := 0) (i := 0) (S := ⟨[[0]], false⟩) (lim := n) h0 G.size (T.grow G) ⟨32, h1c⟩ (by simp) hlb1 hlb2 (fun _ => ⟨Fit.init hlb1, by simp, by simp [len2]⟩) (Nat.le_refl _)) ?_
  rintro v_ w26 ⟨⟨so_p, segs_p, rfl, h_p⟩, g_⟩
  replace hc4 := g_.heap hc4
  replace hc17 := g_.heap hc17
  replace hc23 := g_.heap hc23
  replace G := G.tr g_
  clear g_
  obtain ⟨ad_p, n_p, c_p, rfl⟩ := zF3 h_p.out
  clear h0
  refine stp (zD3 ?_)
  intro b27 w28 hb29 hc30 g31
  refine stn (zB1 rfl rfl hc30 (by rfl) (by rfl) (by rfl) ?_)
  intro w32 hc33 u34
  have g35 := g31.upd u34 hb29
  have hge36 := Nat.le_trans G.size hb29
  have ne37 := Nat.ne_of_lt (Nat.lt_of_lt_of_le (zA9 hc4) hb29)
  have ne38 := Nat.ne_of_lt (Nat.lt_of_lt_of_le (zA9 hc17) hb29)
  have ne39 := Nat.ne_of_lt (Nat.lt_of_lt_of_le (zA9 hc23) hb29)
  replace hc4 := g35.heap hc4
  replace hc17 := g35.heap hc17
  replace hc23 := g35.heap hc23
  replace h_p := h_p.grow g35
  replace G := G.tr g35
  clear u34 g31 hb29 hc30
  refine zA4 ?_
  refine zA6 ?_
  refine zA6 (zA1 rfl ?_)
  refine stp (zA5 rfl ?_)
  refine stp (zB5 (v := .bool ((t.lay n ⟨[[0]], false⟩ 0 0).full)) rfl hc33 rfl ?_)
  refine zA4 ?_
  refine zB8 (b := ((t.lay n ⟨[[0]], false⟩ 0 0).full)) rfl (fun h2 => ?_) (fun h2 => ?_)
  ·-- true
   have hb : t.build n = ([], 24) := by unfold Nd.build; rw [if_neg hnb, if_pos h2]
   refine zA6 (zA1 rfl ?_)
   refine stp (zB0 rfl ?_)
   refine stp (zA0 rfl ?_)
   refine zA4 ?_
   refine zC4 ?_
   rw [hb]
   refine ret2 (zB3 (v := .slice none 0 0) rfl) (zB3 (v := .int .i64 24) rfl) ⟨_, _, rfl, OwnA.nil _ _ _ _, G⟩
  ·-- false
   have hb : t.build n = ((t.lay n ⟨[[0]], false⟩ 0 0).A, 0) := by unfold Nd.build; rw [if_neg hnb, if_neg (by rw [h2]; simp)]
   refine zC3 ?_
   refine zA6 (zA1 rfl ?_)
   refine stp (zA5 rfl ?_)
   refine stp (zB5 (v := .slice ad_p n_p c_p) rfl hc33 rfl ?_)
   refine stp (zB0 rfl ?_)
   refine stp (zA0 rfl ?_)
   refine zA4 ?_
   refine zC4 ?_
   rw [hb]
   refine ret2 (zB3 (v := .slice ad_p n_p c_p) rfl) (zB3 (v := .int .i64 0) rfl) ⟨_, _, rfl, h_p, G⟩
end Go.Proofs.YtifhcfhdajkhlaaGreat.K

namespace Go.Proofs.YtifhcfhdajkhlaaGreat.K
open Go Go.RowKit Go.Proofs
attribute [local irreducible] Run1 OpG WL W AO Gives
set_option maxRecDepth 100000 in
theorem zZ9 (w : World) {b : Addr} {n c : Nat} {xs : List Value} (hc : n ≤ c) (hc2 : c ≤ maxLen) (R : RowAt w 1 (some b) n xs) (h1 : ∀ q ∈ xs, q.oneCell' = true) (hb : n ≤ 17592186044416) : Calls Tryz.prog 83 #[.slice (some b) n c] w (Ret fun v w' => w'.ownsRow w.heap.size 5 1 v n xs ∧ Grow w w') := by
 have G := Grow.rfl' w
 refine zE3 Tryz.func83 Tryz.ntmps83 Tryz.results83 rfl rfl ?_
 refine zA6 (zA1 rfl ?_)
 refine stp (zB0 rfl ?_)
 refine zA4 ?_
 refine zA6 ?_
 refine zA6 (zA1 rfl ?_)
 refine stp (zA7 rfl ?_)
 refine stp (qH2 rfl rfl ?_)
 refine zA4 ?_
 refine zI8 rfl ?_
 refine zC3 ?_
 refine zA6 (zA1 rfl ?_)
 refine stp (zE5 (cs := #[]) (el := 5) (fun w => by kernel_rfl) ?_)
 intro bs_ w5_ hbs_ hcs_ g5_
 replace G := G.tr g5_
 clear g5_
 have own0 := qH3 (base := w.heap.size) (sz := 1) hcs_ (by have := G.size; omega)
 refine stp (zA7 rfl ?_)
 refine stp (zG4 rfl rfl rfl rfl own0 ⟨_, c, rfl, hc, hc2, R.grow G⟩ h1 (by simp only [maxLen]; omega) (by omega) G.size ?_)
 intro v6 w6 own6 gr6
 have G6 := G.grown gr6 (zI2 own0)
 rw [Nat.zero_add, List.nil_append] at own6
 refine stp (zA8 (v := v6) rfl ?_)
 refine zA4 ?_
 refine zC4 ?_
 exact ret1 (zB3 rfl) ⟨own6, G6⟩

set_option maxRecDepth 100000 in
theorem qN2 (w : World) {b : Addr} {n c : Nat} {xs : List Value} (hc : n ≤ c) (hc2 : c ≤ maxLen) (R : RowAt w 1 (some b) n xs) (h1 : ∀ q ∈ xs, q.oneCell' = true) (hb : n ≤ 17592186044416) : Calls Tryz.prog 86 #[.slice (some b) n c] w (Ret fun v w' => w'.ownsRow w.heap.size 33 1 v n xs ∧ Grow w w') := by
 have G := Grow.rfl' w
 refine zE3 Tryz.func86 Tryz.ntmps86 Tryz.results86 rfl rfl ?_
 refine zA6 (zA1 rfl ?_)
 refine stp (zB0 rfl ?_)
 refine zA4 ?_
 refine zA6 ?_
 refine zA6 (zA1 rfl ?_)
 refine stp (zA7 rfl ?_)
 refine stp (qH2 rfl rfl ?_)
 refine zA4 ?_
 refine zI8 rfl ?_
 refine zC3 ?_
 refine zA6 (zA1 rfl ?_)
 refine stp (zE5 (cs := #[]) (el := 33) (fun w => by kernel_rfl) ?_)
 intro bs_ w5_ hbs_ hcs_ g5_
 replace G := G.tr g5_
 clear g5_
 have own0 := qH3 (base := w.heap.size) (sz := 1) hcs_ (by have := G.size; omega)
 refine stp (zA7 rfl ?_)
 refine stp (zG4 rfl rfl rfl rfl own0 ⟨_, c, rfl, hc, hc2, R.grow G⟩ h1 (by simp only [maxLen]; omega) (by omega) G.size ?_)
 intro v6 w6 own6 gr6
 have G6 := G.grown gr6 (zI2 own0)
 rw [Nat.zero_add, List.nil_append] at own6
 refine stp (zA8 (v := v6) rfl ?_)
 refine zA4 ?_
 refine zC4 ?_
 exact ret1 (zB3 rfl) ⟨own6, G6⟩

set_option maxRecDepth 100000 in
theorem qA0 (w : World) {b : Addr} {n c : Nat} {xs : List Value} (hc : n ≤ c) (hc2 : c ≤ maxLen) (R : RowAt w 1 (some b) n xs) (h1 : ∀ q ∈ xs, q.oneCell' = true) (hb : n ≤ 17592186044416) : Calls Tryz.prog 33 #[.slice (some b) n c] w (Ret fun v w' => w'.ownsRow w.heap.size 3 1 v n xs ∧ Grow w w') := by
 have G := Grow.rfl' w
 refine zE3 Tryz.func33 Tryz.ntmps33 Tryz.results33 rfl rfl ?_
 refine zA6 (zA1 rfl ?_)
 refine stp (zB0 rfl ?_)
 refine zA4 ?_
 refine zA6 ?_
 refine zA6 (zA1 rfl ?_)
 refine stp (zA7 rfl ?_)
 refine stp (qH2 rfl rfl ?_)
 refine zA4 ?_
 refine zI8 rfl ?_
 refine zC3 ?_
 refine zA6 (zA1 rfl ?_)
 refine stp (zE5 (cs := #[]) (el := 3) (fun w => by kernel_rfl) ?_)
 intro bs_ w5_ hbs_ hcs_ g5_
 replace G := G.tr g5_
 clear g5_
 have own0 := qH3 (base := w.heap.size) (sz := 1) hcs_ (by have := G.size; omega)
 refine stp (zA7 rfl ?_)
 refine stp (zG4 rfl rfl rfl rfl own0 ⟨_, c, rfl, hc, hc2, R.grow G⟩ h1 (by simp only [maxLen]; omega) (by omega) G.size ?_)
 intro v6 w6 own6 gr6
 have G6 := G.grown gr6 (zI2 own0)
 rw [Nat.zero_add, List.nil_append] at own6
 refine stp (zA8 (v := v6) rfl ?_)
 refine zA4 ?_
 refine zC4 ?_
 exact ret1 (zB3 rfl) ⟨own6, G6⟩

set_option maxRecDepth 100000 in
theorem zY4 (w : World) {x : Int} (h0 : 0 ≤ x) (h1 : x ≤ 18446744073709551615) {k : Nat} (hk : k ≤ 8) : Calls Tryz.prog 40 #[.int .u64 x, .int .i64 (k : Int)] w (Ret fun v w' => w'.ownsRow w.heap.size 5 1 v k (((List.range k).map (byt1 x)).map (.int .u8)) ∧ Grow w w') := by
 have G := Grow.rfl' w
 refine zE3 Tryz.func40 Tryz.ntmps40 Tryz.results40 rfl rfl ?_
 refine zA6 (zA1 rfl ?_)
 refine stp (zB0 rfl ?_)
 refine zA4 ?_
 refine zA6 (zA1 rfl ?_)
 refine stp (zB0 rfl ?_)
 refine zA4 ?_
 refine zA6 ?_
 refine zA6 (zA1 rfl ?_)
 refine stp (zA0 rfl ?_)
 refine zA4 ?_
 refine zC6 ?_
 refine zG6 (fun m_ e_ w_ => ∃ (m : Nat) (ad3 : Option Addr) (n3 : Nat) (c3 : Nat), m_ = k - m ∧ Fr [(1, .int .i64 (k : Int)), (4, .slice none 0 0), (0, .int .u64 (x / 2 ^ (8 * m))), (5, .slice ad3 n3 c3), (6, .int .i64 (m : Int))] e_ ∧ (m ≤ k) ∧ (w_.ownsRow w.heap.size 5 1 (.slice ad3 n3 c3) m (((List.range m).map (byt1 x)).map (.int .u8))) ∧ Grow w w_) _ ⟨0, none, 0, 0, rfl, zE6 ⟨rfl, rfl, congrArg (Value.int .u64) (by simp), rfl, rfl, trivial⟩, by omega, World.ownsRow_nil _ _ _ _, G⟩ ?_
 clear G
 rintro m_ e_ w1 ⟨m, ad3, n3, c3, rfl, ⟨e2, rfl⟩, hm, own, G⟩
 have hxq := qM8 x m h0 h1
 refine zA6 ?_
 refine zA6 (zA1 rfl ?_)
 refine stp (zA2 rfl ?_)
 refine stp (zA2 rfl ?_)
 refine stp (zF9 rfl rfl ?_)
 refine stp (zB9 rfl ?_)
 refine zA3 (zC2 (s := .bool (decide ((m : Int) < (k : Int)))) (b := true) (v := .int .i64 (m : Int)) rfl (zF2 _) (fun hc3 => ?_) ?_)
 ·
  have hc3_ := of_decide_eq_true hc3
  refine zA2 rfl ?_
  exact ⟨rfl, rfl⟩
 refine zA3 (zC2 (s := .bool (decide ((m : Int) < (k : Int)))) (b := true) (v := .bool (decide ((m : Int) < 8))) rfl (zF2 _) (fun hc4 => ?_) ?_)
 ·
  have hc4_ := of_decide_eq_true hc4
  refine zF9 (gvt hc4) rfl ?_
  exact ⟨rfl, rfl⟩
 refine stp (zJ2 rfl rfl rfl ?_)
 refine zA4 ?_
 refine zB8 (b := ((decide ((m : Int) < (k : Int))) && (decide ((m : Int) < 8)))) rfl (fun hlt => ?_) (fun hlt => ?_)
 ·-- true
  simp only [sb] at hlt
  refine zC3 ?_
  refine zA6 ?_
  refine zC6 ?_
  refine zA6 (zA1 rfl ?_)
  refine stp (zA7 rfl ?_)
  refine stp (zA2 rfl ?_)
  refine stp (zJ5 rfl rfl ?_ ?_ ?_); omega; omega
  refine stp (zF8 rfl ?_ ?_); constructor <;> omega
  refine stp (zE5 (cs := #[.int .u8 ((x / 2 ^ (8 * m)) % 256)]) (el := 5) (fun w => by kernel_rfl) ?_)
  intro bs5 w6 hb7 hc8 g9
  have hge10 := Nat.le_trans G.size hb7
  replace own := zC8 own g9
  replace G := G.tr g9
  clear g9
  refine stp (zG4 rfl rfl rfl rfl own (Row.of_block (n := 1) hc8 rfl rfl (by omega)) (fun q_ hq_ => by simp at hq_; subst hq_; rfl) (by simp only [maxLen]; omega) (by omega) G.size ?_)
  intro v11 w12 own6 gr6
  replace G := G.grown gr6 (zI2 own)
  clear own gr6
  obtain ⟨ad4, n4, c4, rfl⟩ := zF3 own6
  refine stp (zB0 rfl ?_)
  refine zA4 ?_
  refine zA1 rfl ?_
  refine stp (zA2 rfl ?_)
  refine stp (zK3 rfl rfl ?_ ?_ ?_ ?_); omega; omega; (constructor <;> omega)
  refine stp (zA0 rfl ?_)
  refine zA4 ?_
  refine zA1 rfl ?_
  refine stp (zA2 rfl ?_)
  refine stp (zD8 rfl rfl ?_ ?_); constructor <;> omega
  refine stp (zA0 rfl ?_)
  refine zA4 ?_
  refine ⟨_, ?_, m + 1, ad4, n4, c4, rfl, zE6 ⟨rfl, rfl, congrArg (Value.int .u64) (qV1 x m), rfl, congrArg (Value.int .i64) (by omega), trivial⟩, by omega, (by rw [List.range_succ, List.map_append, List.map_append]; exact own6), G⟩
  omega
 ·-- false
  simp only [sb] at hlt
  have hm9 : m = k := by omega
  rw [hm9] at own
  refine zF6 ?_
  refine zA6 (zA1 rfl ?_)
  refine stp (zA7 rfl ?_)
  refine stp (zB0 rfl ?_)
  refine zA4 ?_
  refine zC4 ?_
  refine ret1 (zB3 (v := .slice ad3 n3 c3) rfl) ⟨own, G⟩

set_option maxRecDepth 100000 in
theorem qA1 (w : World) {u : Value} {A : List (List Int)} (hA : ArenaR w u A) (hx : ∀ q ∈ A, ∀ x ∈ q, inR .u64 x) (hn : A.length ≤ 1000) (hl : ∀ i, len2 A i ≤ 100000) : Calls Tryz.prog 41 #[u] w (Ret fun v w' => w'.ownsRow w.heap.size 5 1 v (bytesA A).length ((bytesA A).map (.int .u8)) ∧ Grow w w') := by
 obtain ⟨ada, ca, segs, sa, sc, rfl, hca, hca2, RA, hsf, hrf⟩ := hA.fn
 have G := Grow.rfl' w
 refine zE3 Tryz.func41 Tryz.ntmps41 Tryz.results41 rfl rfl ?_
 refine zA6 (zA1 rfl ?_)
 refine stp (zB0 rfl ?_)
 refine zA4 ?_
 refine zA6 (zA1 rfl ?_)
 refine stp (zB0 rfl ?_)
 refine zA4 ?_
 refine zA6 ?_
 refine zA6 (zA1 rfl ?_)
 refine stp (zA0 rfl ?_)
 refine zA4 ?_
 refine zC6 ?_
 refine zG6 (fun m_ e_ w_ => ∃ (i : Nat) (ad3 : Option Addr) (n3 : Nat) (c3 : Nat), m_ = A.length - i ∧ Fr [(0, .slice ada A.length ca), (2, .slice none 0 0), (3, .slice ad3 n3 c3), (4, .int .i64 (i : Int))] e_ ∧ (i ≤ A.length) ∧ (w_.ownsRow w.heap.size 5 1 (.slice ad3 n3 c3) (bytesA (A.take i)).length ((bytesA (A.take i)).map (.int .u8))) ∧ Grow w w_) _ ⟨0, none, 0, 0, rfl, zE6 ⟨rfl, rfl, rfl, rfl, trivial⟩, by omega, World.ownsRow_nil _ _ _ _, G⟩ ?_
 clear G
 rintro m_ e_ w1 ⟨i, ad3, n3, c3, rfl, ⟨e2, rfl⟩, hi0, own, G⟩
 refine zA6 ?_
 refine zA6 (zA1 rfl ?_)
 refine stp (zA2 rfl ?_)
 refine stp (zA7 rfl ?_)
 refine stp (zE8 rfl rfl rfl ?_)
 refine stp (zF9 rfl rfl ?_)
 refine zA4 ?_
 refine zB8 (b := (decide ((i : Int) < (A.length : Int)))) rfl (fun hlt => ?_) (fun hlt => ?_)
 ·-- true
  replace hlt := of_decide_eq_true hlt
  have hi : i < A.length := by omega
  have hli := hl i
  obtain ⟨-, -, Rk⟩ := hrf i hi
  have lk := Rk.lim
  refine zC3 ?_
  refine zA6 ?_
  refine zC6 ?_
  refine zA6 (zA1 rfl ?_)
  refine stp (zA0 rfl ?_)
  refine zA4 ?_
  refine zC6 ?_
  have hbl := zT4 (A.take i)
  have htl := qN0 (A := A) hn hl i
  refine zG6 (fun m_ e_ w_ => ∃ (k : Nat) (ad3 : Option Addr) (n3 : Nat) (c3 : Nat), m_ = len2 A i - k ∧ Fr [(0, .slice ada A.length ca), (2, .slice none 0 0), (4, .int .i64 (i : Int)), (3, .slice ad3 n3 c3), (5, .int .i64 (k : Int))] e_ ∧ (k ≤ len2 A i) ∧ (w_.ownsRow w.heap.size 5 1 (.slice ad3 n3 c3) (bytesA (A.take i) ++ ((A.getD i []).take k).flatMap byt8).length ((bytesA (A.take i) ++ ((A.getD i []).take k).flatMap byt8).map (.int .u8))) ∧ Grow w w_) _ ⟨0, ad3, n3, c3, rfl, zE6 ⟨rfl, rfl, rfl, rfl, rfl, trivial⟩, by omega, (by simpa using own), G⟩ ?_
  clear own
  clear G
  rintro m_ e_ w3 ⟨k, ad3, n3, c3, rfl, ⟨e4, rfl⟩, hk2, own, G⟩
  refine zA6 ?_
  refine zA6 (zA1 rfl ?_)
  refine stp (zA2 rfl ?_)
  refine stp (zA7 rfl ?_)
  refine stp (zA2 rfl ?_)
  refine stp (zD9 (RA.grow G) rfl rfl ?_ ?_); omega
  refine stp (zD7 (v := .slice (sa i) (len2 A i) (sc i)) (m := 0) (RA.grow G) rfl (by rw [Nat.mul_one]; exact hsf _ (by omega)) ?_)
  refine stp (zE8 rfl rfl rfl ?_)
  refine stp (zF9 rfl rfl ?_)
  refine zA4 ?_
  refine zB8 (b := (decide ((k : Int) < ((len2 A i) : Int)))) rfl (fun hlk => ?_) (fun hlk => ?_)
  ·-- true
   replace hlk := of_decide_eq_true hlk
   have hk : k < (A.getD i []).length := by have e_ : len2 A i = (A.getD i []).length := rfl; omega
   have hxk := yD2 hx i hk
   have hLn : (bytesA (A.take i) ++ ((A.getD i []).take k).flatMap byt8).length ≤ 900000000 := by rw [List.length_append, zL3, List.length_take]; omega
   refine zC3 ?_
   refine zA6 ?_
   refine zC6 ?_
   refine zA6 (zA1 rfl ?_)
   refine stp (zA7 rfl ?_)
   refine stp (zA2 rfl ?_)
   refine stp (zD9 (RA.grow G) rfl rfl ?_ ?_); omega
   refine stp (zD7 (v := .slice (sa i) (len2 A i) (sc i)) (m := 0) (RA.grow G) rfl (by rw [Nat.mul_one]; exact hsf _ (by omega)) ?_)
   refine stp (zA2 rfl ?_)
   refine stp (zD9 (Rk.grow G) rfl rfl ?_ ?_); omega
   refine stp (zD7 (v := .int .u64 ((A.getD i []).getD k 0)) (m := 0) (Rk.grow G) rfl (zE4 0 (by simp only [len2] at *; omega)) ?_)
   refine zA3 (og rfl ?_)
   refine zF1 rfl (zY4 _ hxk.1 hxk.2 (k := 8) (by decide)) ?_
   rintro v8 w5 ⟨o8, g_⟩
   replace own := zC8 own g_
   replace G := G.tr g_
   clear g_
   have R8 := zE2 o8 (by decide)
   clear o8
   refine stp (zA8 (v := v8) rfl ?_)
   refine zA4 ?_
   refine zA1 rfl ?_
   refine stp (zA7 rfl ?_)
   refine stp (zB6 (v := v8) rfl ?_)
   refine stp (zG4 rfl rfl rfl rfl own R8 (fun q_ hq_ => by obtain ⟨z_, -, rfl⟩ := List.mem_map.1 hq_; rfl) (by simp only [maxLen]; omega) (by omega) G.size ?_)
   intro v6 w7 own6 gr6
   replace G := G.grown gr6 (zI2 own)
   clear own gr6
   obtain ⟨ad4, n4, c4, rfl⟩ := zF3 own6
   refine stp (zB0 rfl ?_)
   refine zA4 ?_
   refine zA1 rfl ?_
   refine stp (zA2 rfl ?_)
   refine stp (zD8 rfl rfl ?_ ?_); constructor <;> omega
   refine stp (zA0 rfl ?_)
   refine zA4 ?_
   refine ⟨_, ?_, k + 1, ad4, n4, c4, rfl, zE6 ⟨rfl, rfl, rfl, rfl, congrArg (Value.int .i64) (by omega), trivial⟩, by omega, (by rw [show bytesA (A.take i) ++ ((A.getD i []).take (k + 1)).flatMap byt8 = (bytesA (A.take i) ++ ((A.getD i []).take k).flatMap byt8) ++ byt8 ((A.getD i []).getD k 0) from by rw [qY6 hk, List.append_assoc], List.length_append, List.map_append, zO4]; exact own6), G⟩
   omega
  ·-- false
   replace hlk := of_decide_eq_false hlk
   have hk9 : k = (A.getD i []).length := by have e_ : len2 A i = (A.getD i []).length := rfl; omega
   rw [hk9, List.take_length, ← qR5 hi] at own
   refine zF6 ?_
   refine zA1 rfl ?_
   refine stp (zA2 rfl ?_)
   refine stp (zD8 rfl rfl ?_ ?_); constructor <;> omega
   refine stp (zA0 rfl ?_)
   refine zA4 ?_
   refine ⟨_, ?_, i + 1, ad3, n3, c3, rfl, zE6 ⟨rfl, rfl, rfl, congrArg (Value.int .i64) (by omega), trivial⟩, by omega, own, G⟩
   omega
 ·-- false
  replace hlt := of_decide_eq_false hlt
  have hi9 : i = A.length := by omega
  rw [hi9, List.take_length] at own
  refine zF6 ?_
  refine zA6 (zA1 rfl ?_)
  refine stp (zA7 rfl ?_)
  refine stp (zB0 rfl ?_)
  refine zA4 ?_
  refine zC4 ?_
  refine ret1 (zB3 (v := .slice ad3 n3 c3) rfl) ⟨own, G⟩

set_option maxRecDepth 100000 in
theorem zR2 (w : World) {u : Value} {A : List (List Int)} (hA : ArenaR w u A) (hn : A.length ≤ 8796093022208) : Calls Tryz.prog 39 #[u] w (Ret fun v w' => ∃ ad c, v = .slice ad A.length c ∧ A.length ≤ c ∧ w'.ownsRow w.heap.size 3 1 (.slice ad A.length c) A.length ((sizesP A).map (.int .i64)) ∧ Grow w w') := by
 obtain ⟨ada, ca, segs, sa, sc, rfl, hca, hca2, RA, hsf, hrf⟩ := hA.fn
 have G := Grow.rfl' w
 refine zE3 Tryz.func39 Tryz.ntmps39 Tryz.results39 rfl rfl ?_
 refine zA6 (zA1 rfl ?_)
 refine stp (zB0 rfl ?_)
 refine zA4 ?_
 refine zA6 (zA1 rfl ?_)
 refine stp (zB0 rfl ?_)
 refine zA4 ?_
 refine zA6 ?_
 refine zA6 (zA1 rfl ?_)
 refine stp (zA0 rfl ?_)
 refine zA4 ?_
 refine zC6 ?_
 refine zG6 (fun m_ e_ w_ => ∃ (k : Nat) (ad3 : Option Addr) (n3 : Nat) (c3 : Nat), m_ = A.length - k ∧ Fr [(0, .slice ada A.length ca), (2, .slice none 0 0), (3, .slice ad3 n3 c3), (4, .int .i64 (k : Int))] e_ ∧ (k ≤ A.length) ∧ (w_.ownsRow w.heap.size 3 1 (.slice ad3 n3 c3) k ((sizesP (A.take k)).map (.int .i64))) ∧ Grow w w_) _ ⟨0, none, 0, 0, rfl, zE6 ⟨rfl, rfl, rfl, rfl, trivial⟩, by omega, World.ownsRow_nil _ _ _ _, G⟩ ?_
 clear G
 rintro m_ e_ w1 ⟨k, ad3, n3, c3, rfl, ⟨e2, rfl⟩, hk, own, G⟩
 refine zA6 ?_
 refine zA6 (zA1 rfl ?_)
 refine stp (zA2 rfl ?_)
 refine stp (zA7 rfl ?_)
 refine stp (zE8 rfl rfl rfl ?_)
 refine stp (zF9 rfl rfl ?_)
 refine zA4 ?_
 refine zB8 (b := (decide ((k : Int) < (A.length : Int)))) rfl (fun hlt => ?_) (fun hlt => ?_)
 ·-- true
  replace hlt := of_decide_eq_true hlt
  have hi : k < A.length := by omega
  have hlk := (hrf k hi).2.2.lim
  refine zC3 ?_
  refine zA6 ?_
  refine zC6 ?_
  refine zA1 rfl ?_
  refine stp (zA7 rfl ?_)
  refine stp (zA7 rfl ?_)
  refine stp (zA2 rfl ?_)
  refine stp (zD9 (RA.grow G) rfl rfl ?_ ?_); omega
  refine stp (zD7 (v := .slice (sa k) (len2 A k) (sc k)) (m := 0) (RA.grow G) rfl (by rw [Nat.mul_one]; exact hsf _ (by omega)) ?_)
  refine stp (zE8 rfl rfl rfl ?_)
  refine stp (zE5 (cs := #[.int .i64 ((len2 A k) : Int)]) (el := 3) (fun w => by kernel_rfl) ?_)
  intro bs3 w4 hb5 hc6 g7
  have hge8 := Nat.le_trans G.size hb5
  replace own := zC8 own g7
  replace G := G.tr g7
  clear g7
  refine stp (zG4 rfl rfl rfl rfl own (Row.of_block (n := 1) hc6 rfl rfl (by omega)) (fun q_ hq_ => by simp at hq_; subst hq_; rfl) (by simp only [maxLen]; omega) (by omega) G.size ?_)
  intro v9 w10 own6 gr6
  replace G := G.grown gr6 (zI2 own)
  clear own gr6
  obtain ⟨ad4, n4, c4, rfl⟩ := zF3 own6
  refine stp (zB0 rfl ?_)
  refine zA4 ?_
  refine zA1 rfl ?_
  refine stp (zA2 rfl ?_)
  refine stp (zD8 rfl rfl ?_ ?_); constructor <;> omega
  refine stp (zA0 rfl ?_)
  refine zA4 ?_
  refine ⟨_, ?_, k + 1, ad4, n4, c4, rfl, zE6 ⟨rfl, rfl, rfl, congrArg (Value.int .i64) (by omega), trivial⟩, by omega, (by rw [qD1 hi, List.map_append]; exact own6), G⟩
  omega
 ·-- false
  replace hlt := of_decide_eq_false hlt
  have hk2 : k = A.length := by omega
  subst hk2
  rw [List.take_length] at own
  have hn9 := qD0 own
  subst hn9
  obtain ⟨_, _, hs9, hc9⟩ := zL1 own
  cases hs9
  refine zF6 ?_
  refine zA6 (zA1 rfl ?_)
  refine stp (zA7 rfl ?_)
  refine stp (zB0 rfl ?_)
  refine zA4 ?_
  refine zC4 ?_
  refine ret1 (zB3 (v := .slice ad3 A.length c3) rfl) ⟨_, _, rfl, hc9, own, G⟩

set_option maxRecDepth 100000 in
theorem zW9 (w : World) {u : Value} {A : List (List Int)} (hA : ArenaR w u A) (hn : A.length ≤ 8796093022208) : Gives Tryz.prog 26 #[u] w (.bool (rightB A)) := by
 have hA0 := hA
 obtain ⟨ada, ca, segs, sa, sc, rfl, hca, hca2, RA, hsf, hrf⟩ := hA.fn
 have hr : ∀ x ∈ sizesP A, inR .i64 x := qY7 (fun i hi => (hrf i hi).2.2.lim)
 have G := Grow.rfl' w
 refine zC7 Tryz.func26 Tryz.ntmps26 Tryz.results26 rfl rfl ?_
 refine zA6 (zA1 rfl ?_)
 refine stp (zA8 (v := .bool false) rfl ?_)
 refine zA4 ?_
 refine zA6 (zA1 rfl ?_)
 refine stp (zA7 rfl ?_)
 refine zA3 (og rfl ?_)
 refine zF1 rfl (zR2 _ (hA0.grow G) hn) ?_
 rintro v_ w1 ⟨ad9, c9, rfl, -, oZ, g_⟩
 replace G := G.tr g_
 clear g_
 obtain ⟨_, _, hs9, -, -, RZ⟩ := zE2 oZ (by omega)
 cases hs9
 rw [← zG5 A] at RZ
 clear oZ
 refine stp (zC0 (v := .bool (rightB A)) rfl ((by have h_ := zO5 w1 (c := c9) RZ hr; rw [zG5, zN4] at h_; exact h_)) ?_)
 intro w2 g3
 replace RZ := RZ.grow g3
 replace G := G.tr g3
 clear g3
 refine stp (zC1 rfl ?_)
 refine zA4 ?_
 refine zC4 ?_
 refine ret1 (zB3 (v := .bool (rightB A)) rfl) ⟨?_, G⟩
 rfl

set_option maxRecDepth 100000 in
theorem qN3 (w : World) {u : Value} {A : List (List Int)} {ses : Int} (hA : ArenaR w u A) (hr : rightB A = true) (hx : ∀ q ∈ A, ∀ x ∈ q, inR .u64 x) (s0 : 0 ≤ ses) (s1 : ses ≤ 18446744073709551615) : Calls Tryz.prog 15 #[.int .u64 ses, u] w (Ret fun v w' => ∃ ad c, v = .tuple #[.agg #[.int .u64 ses, .slice ad A.length c, .int .u32 (sumA ses A)], .int .i64 0] ∧ A.length ≤ c ∧ w'.ownsRow w.heap.size 3 1 (.slice ad A.length c) A.length ((sizesP A).map (.int .i64)) ∧ Grow w w') := by
 have hA0 := hA
 obtain ⟨r1, r2, r3, r4⟩ := of_decide_eq_true hr
 have hl : ∀ i, len2 A i ≤ 4096 := fun i => by have := zM3 A i; omega
 have G := Grow.rfl' w
 refine zE3 Tryz.func15 Tryz.ntmps15 Tryz.results15 rfl rfl ?_
 refine zA6 (zA1 rfl ?_)
 refine stp (zD3 ?_)
 intro b1 w2 hb3 hc4 g5
 refine stp (zA0 rfl ?_)
 refine zA4 ?_
 refine zA6 ?_
 refine zA6 (zA1 rfl ?_)
 refine stp (zB6 (v := u) rfl ?_)
 have hge6 := Nat.le_trans G.size hb3
 replace G := G.tr g5
 clear g5 hb3
 refine stp (zC0 (v := .bool true) rfl (zH3 (zW9 _ (hA0.grow G) (by omega)) (y := .bool true) (by rw [hr])) ?_)
 intro w7 g8
 replace hc4 := g8.heap hc4
 replace G := G.tr g8
 clear g8
 refine stp (zL8 rfl rfl ?_)
 refine zA4 ?_
 refine zI8 rfl ?_
 refine zC3 ?_
 refine zA6 (zA1 rfl ?_)
 refine stp (zA2 rfl ?_)
 refine stp (zB6 (v := u) rfl ?_)
 refine zA3 (og rfl ?_)
 have hG3 := G.size
 refine zF1 rfl (zR2 _ (hA0.grow G) (by omega)) ?_
 rintro v_ w9 ⟨adz, cz, rfl, hcz, oZ_, g_⟩
 have oZ := zI0 oZ_ hG3
 clear oZ_
 replace hc4 := g_.heap hc4
 replace G := G.tr g_
 clear g_
 refine stp (zD4 (v := .agg #[.int .u64 ses, .slice adz A.length cz, .int .u32 0]) (fun w => by kernel_rfl) ?_)
 refine stp (zD3 ?_)
 intro b10 w11 hb12 hc13 g14
 refine stn (zB1 rfl rfl hc13 (by rfl) (by rfl) (by rfl) ?_)
 intro w15 hc16 u17
 have g18 := g14.upd u17 hb12
 have hge19 := Nat.le_trans G.size hb12
 have ne20 := Nat.ne_of_lt (Nat.lt_of_lt_of_le (zA9 hc4) hb12)
 replace hc4 := g18.heap hc4
 replace oZ := zC8 oZ g18
 replace G := G.tr g18
 clear u17 g14 hb12 hc13
 refine zA4 ?_
 refine zA6 (zA1 rfl ?_)
 refine stp (zA2 rfl ?_)
 refine zA3 (og rfl ?_)
 have hG4 := G.size
 refine zF1 rfl (zY4 _ s0 s1 (k := 8) (by decide)) ?_
 rintro v_ w21 ⟨o8_, g_⟩
 have o8 := zI0 o8_ hG4
 clear o8_
 replace hc4 := g_.heap hc4
 replace oZ := zC8 oZ g_
 replace hc16 := g_.heap hc16
 replace G := G.tr g_
 clear g_
 obtain ⟨ad8, n8, c8, rfl⟩ := zF3 o8
 refine stp (zB0 rfl ?_)
 refine zA4 ?_
 refine zA6 ?_
 refine zA6 (zA1 rfl ?_)
 refine stp (zA0 rfl ?_)
 refine zA4 ?_
 refine zC6 ?_
 refine zG6 (fun m_ e_ w_ => ∃ (i : Nat) (ad3 : Option Addr) (n3 : Nat) (c3 : Nat), m_ = A.length - i ∧ Fr [(1, u), (4, .pointer (some ⟨b1, 0, none⟩)), (5, .int .i64 0), (6, .pointer (some ⟨b10, 0, none⟩)), (7, .slice ad3 n3 c3), (8, .int .i64 (i : Int))] e_ ∧ (i ≤ A.length) ∧ (w_.heap[b1]? = some (.cells #[.int .u64 0, .slice none 0 0, .int .u32 0] 51 (0, 0))) ∧ (w_.ownsRow w.heap.size 3 1 (.slice adz A.length cz) A.length ((sizesP A).map (.int .i64))) ∧ (w_.heap[b10]? = some (.cells #[.int .u64 ses, .slice adz A.length cz, .int .u32 0] 51 (0, 0))) ∧ (w_.ownsRow w.heap.size 5 1 (.slice ad3 n3 c3) (((List.range 8).map (byt1 ses)) ++ ((sizesP A).take i).flatMap fun n => ((List.range 2).map (byt1 n))).length ((((List.range 8).map (byt1 ses)) ++ ((sizesP A).take i).flatMap fun n => ((List.range 2).map (byt1 n))).map (.int .u8))) ∧ Grow w w_) _ ⟨0, ad8, n8, c8, rfl, zE6 ⟨rfl, rfl, rfl, rfl, rfl, rfl, trivial⟩, by omega, hc4, oZ, hc16, (by simpa using o8), G⟩ ?_
 clear hc4 oZ hc16 o8
 clear G
 rintro m_ e_ w22 ⟨i, ad3, n3, c3, rfl, ⟨e23, rfl⟩, hi0, hc4, oZ, hc16, own, G⟩
 obtain ⟨_, _, hs9, -, -, RZ⟩ := zE2 oZ (by omega)
 cases hs9
 refine zA6 ?_
 refine zA6 (zA1 rfl ?_)
 refine stp (zA2 rfl ?_)
 refine stp (zA5 rfl ?_)
 refine stp (zB5 (v := .slice adz A.length cz) rfl hc16 rfl ?_)
 refine stp (zE8 rfl rfl rfl ?_)
 refine stp (zF9 rfl rfl ?_)
 refine zA4 ?_
 refine zB8 (b := (decide ((i : Int) < (A.length : Int)))) rfl (fun hlt => ?_) (fun hlt => ?_)
 ·-- true
  replace hlt := of_decide_eq_true hlt
  have hi : i < A.length := by omega
  have hsl := zG5 A
  have hzi := zL4 A i
  have hli := hl i
  have hle := yD3 ses (sizesP A) i
  refine zC3 ?_
  refine zA6 ?_
  refine zC6 ?_
  refine zA6 (zA1 rfl ?_)
  refine stp (zA5 rfl ?_)
  refine stp (zB5 (v := .slice adz A.length cz) rfl hc16 rfl ?_)
  refine stp (zA2 rfl ?_)
  refine stp (zD9 RZ rfl rfl ?_ ?_); omega
  refine stp (zD7 (v := .int .i64 ((sizesP A).getD i 0)) (m := 0) RZ rfl (zE4 0 (by rw [zG5]; omega)) ?_)
  refine stp (zF8 rfl ?_ ?_); constructor <;> omega
  refine zA3 (og rfl ?_)
  refine zF1 rfl (zY4 _ (x := (sizesP A).getD i 0) (by omega) (by omega) (k := 2) (by decide)) ?_
  rintro v8 w24 ⟨o2, g_⟩
  replace hc4 := g_.heap hc4
  replace oZ := zC8 oZ g_
  replace hc16 := g_.heap hc16
  replace own := zC8 own g_
  replace RZ := RZ.grow g_
  replace G := G.tr g_
  clear g_
  have R2 := zE2 o2 (by decide)
  clear o2
  refine stp (zA8 (v := v8) rfl ?_)
  refine zA4 ?_
  refine zA1 rfl ?_
  refine stp (zA7 rfl ?_)
  refine stp (zB6 (v := v8) rfl ?_)
  refine stp (zG4 rfl rfl rfl rfl own R2 (fun q_ hq_ => by obtain ⟨z_, -, rfl⟩ := List.mem_map.1 hq_; rfl) (by simp only [maxLen]; omega) (by omega) G.size ?_)
  intro v25 w26 own6 gr6
  replace G := G.grown gr6 (zI2 own)
  replace hc4 := zI3 gr6 hc4 (zE7 own hc4 (by decide))
  replace oZ := qF0 oZ own (by decide) gr6
  replace hc16 := zI3 gr6 hc16 (zE7 own hc16 (by decide))
  clear own gr6
  obtain ⟨ad4, n4, c4, rfl⟩ := zF3 own6
  refine stp (zB0 rfl ?_)
  refine zA4 ?_
  refine zA1 rfl ?_
  refine stp (zA2 rfl ?_)
  refine stp (zD8 rfl rfl ?_ ?_); constructor <;> omega
  refine stp (zA0 rfl ?_)
  refine zA4 ?_
  refine ⟨_, ?_, i + 1, ad4, n4, c4, rfl, zE6 ⟨rfl, rfl, rfl, rfl, rfl, congrArg (Value.int .i64) (by omega), trivial⟩, by omega, hc4, oZ, hc16, (by rw [yJ1 (by rw [zG5]; exact hi), List.length_append, List.map_append]; simpa using own6), G⟩
  omega
 ·-- false
  replace hlt := of_decide_eq_false hlt
  clear RZ
  have hi9 : i = (sizesP A).length := by rw [zG5]; omega
  rw [hi9, List.take_length] at own
  have hle := yD3 ses (sizesP A) (sizesP A).length
  rw [List.take_length] at hle
  have hsl := zG5 A
  have hbl := zT4 A
  refine zF6 ?_
  refine zA6 (zA1 rfl ?_)
  refine stp (zB6 (v := u) rfl ?_)
  refine zA3 (og rfl ?_)
  refine zF1 rfl (qA1 _ (hA0.grow G) hx (by omega) (fun i => by have := hl i; omega)) ?_
  rintro vb w27 ⟨oB, g_⟩
  replace hc4 := g_.heap hc4
  replace oZ := zC8 oZ g_
  replace hc16 := g_.heap hc16
  replace own := zC8 own g_
  replace G := G.tr g_
  clear g_
  have RB := zE2 oB (by omega)
  clear oB
  refine stp (zA8 (v := vb) rfl ?_)
  refine zA4 ?_
  refine zA6 (zA1 rfl ?_)
  refine stp (zA7 rfl ?_)
  refine stp (zB6 (v := vb) rfl ?_)
  refine stp (zG4 rfl rfl rfl rfl own RB (fun q_ hq_ => by obtain ⟨z_, -, rfl⟩ := List.mem_map.1 hq_; rfl) (by simp only [maxLen]; omega) (by omega) G.size ?_)
  intro v28 w29 own6 gr6
  replace G := G.grown gr6 (zI2 own)
  replace hc4 := zI3 gr6 hc4 (zE7 own hc4 (by decide))
  replace oZ := qF0 oZ own (by decide) gr6
  replace hc16 := zI3 gr6 hc16 (zE7 own hc16 (by decide))
  clear own gr6
  obtain ⟨ad4, n4, c4, rfl⟩ := zF3 own6
  refine stp (zB0 rfl ?_)
  refine zA4 ?_
  refine zA6 (zA1 rfl ?_)
  refine stp (zA7 rfl ?_)
  refine zA3 (og rfl ?_)
  have own7 := own6
  rw [← List.map_append, ← List.length_append] at own7
  obtain ⟨_, _, hs9, -, -, RS⟩ := zE2 own7 (by rw [List.length_append]; omega)
  have hnl := qD0 own7
  subst hnl
  cases hs9
  refine zC0 (v := .int .u32 (sumA ses A)) rfl (qY4 _ RS (yJ2 ses A)) ?_
  intro w30 g31
  replace hc4 := g31.heap hc4
  replace oZ := zC8 oZ g31
  replace hc16 := g31.heap hc16
  replace own6 := zC8 own6 g31
  replace G := G.tr g31
  clear g31
  refine stp (zA5 rfl ?_)
  refine stn (zE0 (v := .int .u32 (sumA ses A)) rfl rfl (by rfl) hc16 (by rfl) (by rfl) ?_)
  intro w32 hc33 u34
  replace hc4 := u34.heap hc4 ne20
  replace oZ := zF0 oZ u34 (zE7 oZ hc16 (by decide))
  replace own6 := zF0 own6 u34 (zE7 own6 hc16 (by decide))
  replace G := G.upd u34 hge19
  clear u34 hc16
  refine zA4 ?_
  refine zA6 (zA1 rfl ?_)
  refine stp (zB4 rfl hc33 (by rfl) ?_)
  refine stn (zB1 rfl rfl hc4 (by rfl) (by rfl) (by rfl) ?_)
  intro w35 hc36 u37
  replace oZ := zF0 oZ u37 (zE7 oZ hc4 (by decide))
  replace own6 := zF0 own6 u37 (zE7 own6 hc4 (by decide))
  replace hc33 := u37.heap hc33 ne20.symm
  replace G := G.upd u37 hge6
  clear u37 hc4
  refine stp (zA0 rfl ?_)
  refine zA4 ?_
  refine zC4 ?_
  refine ret2 (zC9 rfl hc36 (by rfl)) (zB3 (v := .int .i64 0) rfl) ⟨adz, cz, rfl, hcz, oZ, G⟩

set_option maxRecDepth 100000 in
theorem qN4 (w : World) {u : Value} {A : List (List Int)} (hA : ArenaR w u A) (hr : rightB A = true) (hx : ∀ q ∈ A, ∀ x ∈ q, inR .u64 x) {i : Nat} (hi : i ≤ 1000000) : Calls Tryz.prog 16 #[u, .int .i64 (i : Int)] w (Ret fun v w' => ∃ ad c, v = .slice ad (chunkA A i).length c ∧ (chunkA A i).length ≤ c ∧ c ≤ maxLen ∧ RowAt w' 1 ad (chunkA A i).length ((chunkA A i).map (.int .u8)) ∧ (0 < (chunkA A i).length → ∃ g q cs, ad = some ⟨g, q, none⟩ ∧ w.heap.size ≤ g ∧ w'.heap[g]? = some (.cells cs 5 (0, 0)) ∧ q + (chunkA A i).length ≤ cs.size) ∧ Grow w w') := by
 have hA0 := hA
 obtain ⟨r1, r2, r3, r4⟩ := of_decide_eq_true hr
 have hl : ∀ i, len2 A i ≤ 100000 := fun i => by have := zM3 A i; omega
 have hbl := zT4 A
 have hcl := qG0 A i
 have G := Grow.rfl' w
 refine zE3 Tryz.func16 Tryz.ntmps16 Tryz.results16 rfl rfl ?_
 refine zA6 (zA1 rfl ?_)
 refine stp (zB0 rfl ?_)
 refine zA4 ?_
 refine zA6 (zA1 rfl ?_)
 refine stp (zB6 (v := u) rfl ?_)
 refine zA3 (og rfl ?_)
 have hG4 := G.size
 refine zF1 rfl (qA1 _ (hA0.grow G) hx (by omega) hl) ?_
 rintro vb w1 ⟨oB_, g_⟩
 have oB := zI0 oB_ hG4
 clear oB_
 replace G := G.tr g_
 clear g_
 have hs0 := zM3 A 0
 obtain ⟨g5, cb, cur5, rfl, hg5b, hg5, hcb, hcb2, hc53, hc54⟩ := zK1 oB (by omega)
 refine stp (zB0 rfl ?_)
 refine zA4 ?_
 refine zA6 ?_
 refine zA6 (zA1 rfl ?_)
 refine stp (zB6 (v := u) rfl ?_)
 refine stp (zC0 (v := .bool true) rfl (zH3 (zW9 _ (hA0.grow G) (by omega)) (y := .bool true) (by rw [hr])) ?_)
 intro w2 g3
 replace oB := zC8 oB g3
 replace hg5 := g3.heap hg5
 replace G := G.tr g3
 clear g3
 refine stp (zL8 rfl rfl ?_)
 refine stp (zB6 (v := .bool false) rfl ?_)
 refine stp (zA2 rfl ?_)
 refine stp (zF9 rfl rfl ?_)
 refine stp (zG8 (v := .bool (decide ((i : Int) < 0))) rfl rfl rfl ?_)
 refine stp (zB9 rfl ?_)
 refine zA3 (zC2 (s := .bool (decide ((i : Int) < 0))) (b := false) (v := .int .i64 (i : Int)) rfl (zD1 _) (fun hc4 => ?_) ?_)
 ·
  have hc4_ := hc4
  try simp only [sb] at hc4_
  refine zA2 rfl ?_
  exact ⟨rfl, rfl⟩
 refine zA3 (zC2 (s := .bool (decide ((i : Int) < 0))) (b := false) (v := .slice (some ⟨g5, 0, none⟩) ((bytesA A).length) cb) rfl (zD1 _) (fun hc5 => ?_) ?_)
 ·
  have hc5_ := hc5
  try simp only [sb] at hc5_
  refine zA7 rfl ?_
  exact ⟨rfl, rfl⟩
 refine zA3 (zC2 (s := .bool (decide ((i : Int) < 0))) (b := false) (v := .int .i64 ((bytesA A).length : Int)) rfl (zD1 _) (fun hc6 => ?_) ?_)
 ·
  have hc6_ := hc6
  try simp only [sb] at hc6_
  refine zE8 rfl rfl (gvt hc6) ?_
  exact ⟨rfl, rfl⟩
 refine zA3 (zC2 (s := .bool (decide ((i : Int) < 0))) (b := false) (v := .int .i64 (((bytesA A).length : Int) + 63)) rfl (zD1 _) (fun hc7 => ?_) ?_)
 ·
  have hc7_ := hc7
  try simp only [sb] at hc7_
  refine zD8 (gvt hc7) rfl ?_ ?_; constructor <;> omega
  exact ⟨rfl, rfl⟩
 refine zA3 (zC2 (s := .bool (decide ((i : Int) < 0))) (b := false) (v := .int .i64 ((((bytesA A).length : Int) + 63) / 64)) rfl (zD1 _) (fun hc8 => ?_) ?_)
 ·
  have hc8_ := hc8
  try simp only [sb] at hc8_
  refine zK3 (gvt hc8) rfl ?_ ?_ ?_ ?_; omega; omega; (constructor <;> omega)
  exact ⟨rfl, rfl⟩
 refine zA3 (zC2 (s := .bool (decide ((i : Int) < 0))) (b := false) (v := .bool (decide ((i : Int) ≥ ((((bytesA A).length : Int) + 63) / 64)))) rfl (zD1 _) (fun hc9 => ?_) ?_)
 ·
  have hc9_ := hc9
  try simp only [sb] at hc9_
  refine zL7 (gvt hc9) (gvt hc9) ?_
  exact ⟨rfl, rfl⟩
 refine stp (zI6 rfl rfl rfl ?_)
 refine zA4 ?_
 refine zB8 (b := ((decide ((i : Int) < 0)) || (decide ((i : Int) ≥ ((((bytesA A).length : Int) + 63) / 64))))) rfl (fun h1 => ?_) (fun h1 => ?_)
 ·-- true
  simp only [sb] at h1
  have h0 : chunkA A i = [] := List.eq_nil_of_length_eq_zero (by omega)
  refine zA6 (zA1 rfl ?_)
  refine stp (zB0 rfl ?_)
  refine zA4 ?_
  refine zC4 ?_
  rw [h0]
  refine ret1 (zB3 (v := .slice none 0 0) rfl) ⟨none, 0, rfl, Nat.le_refl _, Nat.zero_le _, RowAt.empty _ _ _, fun h_ => by simp at h_, G⟩
 ·-- false
  simp only [sb] at h1
  refine zC3 ?_
  refine zA6 (zA1 rfl ?_)
  refine stp (zA7 rfl ?_)
  refine stp (zA2 rfl ?_)
  refine stp (zL5 rfl rfl ?_ ?_); constructor <;> omega
  refine stp (zA2 rfl ?_)
  refine stp (zL5 rfl rfl ?_ ?_); constructor <;> omega
  refine stp (zD8 rfl rfl ?_ ?_); constructor <;> omega
  refine stp (zA7 rfl ?_)
  refine stp (zE8 rfl rfl rfl ?_)
  refine zA3 (og rfl ?_)
  refine zT7 rfl rfl rfl ?_
  rw [show (if ((bytesA A).length : Int) < 64 * (i : Int) + 64 then ((bytesA A).length : Int) else 64 * (i : Int) + 64) = ((64 * i + (chunkA A i).length : Nat) : Int) from by split <;> omega]
  refine zA3 (og rfl ?_)
  refine qB7 (l := 64 * (i : Int)) rfl rfl rfl (by omega) (by omega) (by omega) ?_
  rw [show (64 * (i : Int)).toNat = 64 * i from by omega, Int.toNat_natCast, show 64 * i + (chunkA A i).length - 64 * i = (chunkA A i).length from by omega]
  refine stp (zB0 rfl ?_)
  refine zA4 ?_
  refine zC4 ?_
  obtain ⟨_, _, hs9, hcc, hcm, RB⟩ := zE2 oB (by omega)
  cases hs9
  have RC := RB.sliceLH (l := 64 * i) (m := (chunkA A i).length) hcb (by omega) (by decide)
  have he9 : (((bytesA A).map (Value.int .u8)).drop (64 * i * 1)).take ((chunkA A i).length * 1) = (chunkA A i).map (.int .u8) := by rw [Nat.mul_one, Nat.mul_one, ← List.map_drop, ← List.map_take, yD4]
  rw [he9] at RC
  refine ret1 (zB3 (v := .slice (if cb = 64 * i then some ⟨g5, 0, none⟩ else (some ⟨g5, 0, none⟩ : Option Addr).map (·.add (64 * i * 1))) ((chunkA A i).length) (cb - 64 * i)) rfl) ⟨_, _, rfl, by omega, by omega, RC, fun hp_ => ⟨g5, 64 * i, cur5, by rw [if_neg (by omega)]; show some (Addr.add _ _) = _; rw [add_lit, Nat.mul_one, Nat.zero_add], hg5b, hg5, by omega⟩, G⟩

set_option maxRecDepth 100000 in
theorem qR8 (w : World) {n : Nat} (hn : n ≤ 65536) : Calls Tryz.prog 35 #[.int .i64 (n : Int)] w (Ret fun v w' => ∃ b, v = .slice (some ⟨b, 0, none⟩) ((n + 7) / 8) ((n + 7) / 8) ∧ w.heap.size ≤ b ∧ w'.ownsRow w.heap.size 5 1 (.slice (some ⟨b, 0, none⟩) ((n + 7) / 8) ((n + 7) / 8)) ((n + 7) / 8) ((List.replicate ((n + 7) / 8) (0 : Int)).map (.int .u8)) ∧ Grow w w') := by
 have G := Grow.rfl' w
 refine zE3 Tryz.func35 Tryz.ntmps35 Tryz.results35 rfl rfl ?_
 refine zA6 (zA1 rfl ?_)
 refine stp (zB0 rfl ?_)
 refine zA4 ?_
 refine zA6 (zA1 rfl ?_)
 refine stp (zA2 rfl ?_)
 refine zA3 (og rfl ?_)
 refine zT7 rfl rfl rfl ?_
 rw [if_neg (by omega)]
 refine zA3 (og rfl ?_)
 refine qP9 rfl rfl rfl ?_
 rw [show (if (n : Int) > 0 then (n : Int) else 0) = (n : Int) from by split <;> omega]
 refine stp (zC0 (v := .int .i64 (((n + 7) / 8 : Nat) : Int)) rfl (zH3 (qF3 _ _ (by omega) (by omega)) (y := .int .i64 (((n + 7) / 8 : Nat) : Int)) (by congr 1 <;> omega)) ?_)
 intro w1 g2
 replace G := G.tr g2
 clear g2
 refine stp (zY9 (n := ((n + 7) / 8)) (base := w.heap.size) rfl rfl (by first | omega | (simp only [maxLen]; omega)) (by first | omega | (simp only [maxLen]; omega)) G.size ?_)
 intro bm6 w3 hb4 own7 g5
 rw [show (madeCells (Value.cells (.int .u8 0 : Value)) (((n + 7) / 8) * 1)).toList = List.replicate ((n + 7) / 8) (.int .u8 0) from by rw [Nat.mul_one]; exact toList_madeCells_one _ _] at own7
 replace G := G.tr g5
 clear g5
 refine stp (zB0 rfl ?_)
 refine zA4 ?_
 refine zC4 ?_
 refine ret1 (zB3 (v := .slice (some ⟨bm6, 0, none⟩) ((n + 7) / 8) ((n + 7) / 8)) rfl) ⟨bm6, rfl, (zI2 own7 _ rfl), by rw [List.map_replicate]; exact own7, G⟩

set_option maxRecDepth 100000 in
theorem qZ0 (w : World) {b : Addr} {c : Nat} {xs : List Int} (hc : xs.length ≤ c) (hc2 : c ≤ maxLen) (R : RowAt w 1 (some b) xs.length (xs.map (.int .u8))) (hx : isB xs) {i : Nat} (hi : i / 8 < xs.length) (hl : xs.length ≤ 100000) : Calls Tryz.prog 47 #[.slice (some b) xs.length c, .int .i64 (i : Int)] w (Ret fun v w' => ∃ h c', v = .slice (some ⟨h, 0, none⟩) xs.length c' ∧ w.heap.size ≤ h ∧ w'.ownsRow w.heap.size 5 1 (.slice (some ⟨h, 0, none⟩) xs.length c') xs.length ((setQ xs i).map (.int .u8)) ∧ Grow w w') := by
 have G := Grow.rfl' w
 refine zE3 Tryz.func47 Tryz.ntmps47 Tryz.results47 rfl rfl ?_
 refine zA6 (zA1 rfl ?_)
 refine stp (zB0 rfl ?_)
 refine zA4 ?_
 refine zA6 (zA1 rfl ?_)
 refine stp (zA7 rfl ?_)
 refine zA3 (og rfl ?_)
 refine zF1 rfl (zZ9 _ hc hc2 (R.grow G) (fun q_ hq_ => by obtain ⟨z_, -, rfl⟩ := List.mem_map.1 hq_; rfl) (by omega)) ?_
 rintro vb w1 ⟨oB_, g_⟩
 have oB := zI0 oB_ G.size
 clear oB_
 replace G := G.tr g_
 clear g_
 obtain ⟨g5, c5, cur5, rfl, hg5b, hg5, hc51, hc52, hc53, hc54⟩ := zK1 oB (by omega)
 obtain ⟨_, _, hs9, -, -, R5⟩ := zE2 oB (by omega)
 cases hs9
 refine stp (zB0 rfl ?_)
 refine zA4 ?_
 refine zA6 ?_
 refine zA6 (zA1 rfl ?_)
 refine stp (zA2 rfl ?_)
 refine stp (zL7 rfl rfl ?_)
 refine stp (zB9 rfl ?_)
 refine zA3 (zC2 (s := .bool (decide ((i : Int) ≥ 0))) (b := true) (v := .int .i64 (i : Int)) rfl (zF2 _) (fun hc2 => ?_) ?_)
 ·
  have hc2_ := of_decide_eq_true hc2
  refine zA2 rfl ?_
  exact ⟨rfl, rfl⟩
 refine zA3 (zC2 (s := .bool (decide ((i : Int) ≥ 0))) (b := true) (v := .int .i64 ((i / 8 : Nat) : Int)) rfl (zF2 _) (fun hc3 => ?_) ?_)
 ·
  have hc3_ := of_decide_eq_true hc3
  refine zK3 (gvt hc3) rfl ?_ ?_ ?_ ?_; omega; omega; (constructor <;> omega)
  rw [show (i : Int) / 8 = ((i / 8 : Nat) : Int) from by omega]
  exact ⟨rfl, rfl⟩
 refine zA3 (zC2 (s := .bool (decide ((i : Int) ≥ 0))) (b := true) (v := .slice (some ⟨g5, 0, none⟩) xs.length c5) rfl (zF2 _) (fun hc4 => ?_) ?_)
 ·
  have hc4_ := of_decide_eq_true hc4
  refine zA7 rfl ?_
  exact ⟨rfl, rfl⟩
 refine zA3 (zC2 (s := .bool (decide ((i : Int) ≥ 0))) (b := true) (v := .int .i64 (xs.length : Int)) rfl (zF2 _) (fun hc5 => ?_) ?_)
 ·
  have hc5_ := of_decide_eq_true hc5
  refine zE8 rfl rfl (gvt hc5) ?_
  exact ⟨rfl, rfl⟩
 refine zA3 (zC2 (s := .bool (decide ((i : Int) ≥ 0))) (b := true) (v := .bool (decide (((i / 8 : Nat) : Int) < (xs.length : Int)))) rfl (zF2 _) (fun hc6 => ?_) ?_)
 ·
  have hc6_ := of_decide_eq_true hc6
  refine zF9 (gvt hc6) (gvt hc6) ?_
  exact ⟨rfl, rfl⟩
 refine stp (zJ2 rfl rfl rfl ?_)
 refine zA4 ?_
 refine zP2 (show _ = Value.bool true from congrArg Value.bool (by rw [decide_eq_true (show (i : Int) ≥ 0 by omega), decide_eq_true (show ((i / 8 : Nat) : Int) < (xs.length : Int) by omega)]; rfl)) ?_
 refine zJ4 9 [[], [], [0], [2, 1, 0], [3, 2, 1, 0], [], [0], [1, 0], [7, 6, 5, 4, 3, 2, 1, 0]] mixed (by kernel_rfl) (by kernel_rfl) (by kernel_rfl) ?_
 intro w7 g8
 replace oB := zC8 oB g8
 replace hg5 := g8.heap hg5
 replace R5 := R5.grow g8
 replace G := G.tr g8
 clear g8
 apply zB7
 ·intro w_ g_; refine og rfl ?_; refine zA7 rfl ?_; exact ⟨Grow.rfl' _, rfl⟩
 apply zB7
 ·intro w_ g_; refine og rfl ?_; refine zA2 rfl ?_; exact ⟨Grow.rfl' _, rfl⟩
 apply zB7
 ·intro w_ g_; refine og rfl ?_; refine zK3 rfl rfl ?_ ?_ ?_ ?_; omega; omega; (constructor <;> omega); rw [show (i : Int) / 8 = ((i / 8 : Nat) : Int) from by omega]; exact ⟨Grow.rfl' _, rfl⟩
 apply zB7
 ·intro w_ g_; refine og rfl ?_; refine zD9 (R5.grow g_) rfl rfl ?_ ?_; omega; exact ⟨Grow.rfl' _, rfl⟩
 apply zB7
 ·intro w_ g_; refine og rfl ?_; refine zD7 (v := .int .u8 (xs.getD (i / 8) 0)) (m := 0) (R5.grow g_) rfl (zE4 0 (by omega)) ?_; exact ⟨Grow.rfl' _, rfl⟩
 apply zB7
 ·intro w_ g_; refine og rfl ?_; refine zA2 rfl ?_; exact ⟨Grow.rfl' _, rfl⟩
 apply zB7
 ·intro w_ g_; refine og rfl ?_; refine zJ5 rfl rfl ?_ ?_ ?_; omega; omega; rw [show (i : Int) % 8 = ((i % 8 : Nat) : Int) from by omega]; exact ⟨Grow.rfl' _, rfl⟩
 apply zB7
 ·intro w_ g_; refine og rfl ?_; refine qP6 rfl rfl ?_ ?_; omega; rw [show min ((i % 8 : Nat) : Int).toNat (IntKind.bits .u8) = i % 8 from by simp only [IntKind.bits]; omega]; exact ⟨Grow.rfl' _, rfl⟩
 apply zB7
 ·intro w_ g_; refine og rfl ?_; refine r_or rfl rfl ?_; exact ⟨Grow.rfl' _, rfl⟩
 refine zI5 ?_
 intro w9 g10
 replace oB := zC8 oB g10
 replace hg5 := g10.heap hg5
 replace R5 := R5.grow g10
 replace G := G.tr g10
 clear g10
 refine zA3 (og rfl ?_)
 refine zH9 (b := g5) (o := 0) rfl rfl (by omega) (by omega) ?_
 rw [Int.toNat_natCast, Nat.zero_add, Nat.mul_one]
 refine stn (zE0 (v := .int .u8 (orB (xs.getD (i / 8) 0) (i % 8))) rfl rfl rfl hg5 (Nat.ble_eq_true_of_le (by omega)) rfl ?_)
 intro w7 hs6 u7
 have o7 := zJ6 (i := i / 8) (x := .int .u8 (orB (xs.getD (i / 8) 0) (i % 8))) oB hg5 hs6 (by simp)
 replace G := G.upd u7 hg5b
 rw [← List.map_set] at o7
 refine zA4 ?_
 refine zA6 (zA1 rfl ?_)
 refine stp (zA7 rfl ?_)
 refine stp (zB0 rfl ?_)
 refine zA4 ?_
 refine zC4 ?_
 refine ret1 (zB3 (v := .slice (some ⟨g5, 0, none⟩) xs.length c5) rfl) ⟨g5, c5, rfl, hg5b, o7, G⟩
end Go.Proofs.YtifhcfhdajkhlaaGreat.K

namespace Go.Proofs.YtifhcfhdajkhlaaGreat.K
open Go Go.RowKit
structure PartR (TP TI TW TB : TypeId) (w : World) (base b g h : Nat) (ses sum : Int) (sz wl kb : List Int) : Prop where
  fit : fitsL sz = true
  lw : wl.length = wordsM sz
  lk : kb.length = (chunksM sz + 7) / 8
  ub : isB kb
  uw : ∀ x ∈ wl, inR .u64 x
  hb : base ≤ b
  mem : ∃ ads cs cw ck, w.heap[b]? = some (.cells #[.int .u64 ses, .slice ads sz.length cs, .int .u32 sum, .slice ads sz.length cs, .slice (some ⟨g, 0, none⟩) wl.length cw, .slice (some ⟨h, 0, none⟩) kb.length ck] TP (0, 0)) ∧
    w.ownsRow base TI 1 (.slice ads sz.length cs) sz.length (sz.map (.int .i64)) ∧ w.ownsRow base TW 1 (.slice (some ⟨g, 0, none⟩) wl.length cw) wl.length (wordsV wl) ∧ w.ownsRow base TB 1 (.slice (some ⟨h, 0, none⟩) kb.length ck) kb.length (kb.map (.int .u8))
section
variable {TP TI TW TB : TypeId} {w w' : World} {base b g h : Nat} {ses sum : Int} {sz wl kb : List Int}
theorem PartR.keep {F : List Nat} (H : PartR TP TI TW TB w base b g h ses sum sz wl kb) (k : Kp F w w') (hF : ∀ x ∈ F, x ≠ b ∧ x ≠ g ∧ x ≠ h ∧ ∃ cs T fr, w.heap[x]? = some (.cells cs T fr) ∧ TI ≠ T) : PartR TP TI TW TB w' base b g h ses sum sz wl kb := by
  obtain ⟨h1, h2, h3, h4, h5, h6, ads, cs, cw, ck, hB, oS, oW, oK⟩ := H
  refine ⟨h1, h2, h3, h4, h5, h6, ads, cs, cw, ck, k.heap hB (fun hm => (hF b hm).1 rfl), zP9 oS k (fun q hq hm => ?_), zP9 oW k (fun q hq hm => ?_), zP9 oK k (fun q hq hm => ?_)⟩
  · obtain ⟨-, -, -, cs, T, fr, hc, hT⟩ := hF q hm
    exact zE7 oS hc hT hq
  · simp only [Value.ownBlock, Option.some.injEq] at hq; exact (hF q hm).2.1 hq.symm
  · simp only [Value.ownBlock, Option.some.injEq] at hq; exact (hF q hm).2.2.1 hq.symm
theorem PartR.grow (H : PartR TP TI TW TB w base b g h ses sum sz wl kb) (k : Grow w w') : PartR TP TI TW TB w' base b g h ses sum sz wl kb := H.keep (F := []) (Kp.of_grow k) (fun x hx => by simp at hx)
theorem PartR.words (H : PartR TP TI TW TB w base b g h ses sum sz wl kb) : ∃ cur, w.heap[g]? = some (.cells cur TW (0, 0)) := by
  obtain ⟨h1, h2, h3, h4, h5, h6, ads, cs, cw, ck, hB, oS, oW, oK⟩ := H
  obtain ⟨g5, c5, cur5, he, -, hg, -⟩ := zK1 oW (by have := (zF4 h1).2; omega)
  simp only [Value.slice.injEq, Option.some.injEq, Addr.mk.injEq, and_true, true_and] at he
  obtain ⟨rfl, -⟩ := he
  exact ⟨_, hg⟩
theorem PartR.known (H : PartR TP TI TW TB w base b g h ses sum sz wl kb) : ∃ cur, w.heap[h]? = some (.cells cur TB (0, 0)) := by
  obtain ⟨h1, h2, h3, h4, h5, h6, ads, cs, cw, ck, hB, oS, oW, oK⟩ := H
  obtain ⟨g5, c5, cur5, he, -, hg, -⟩ := zK1 oK (by have := (zF4 h1).2; have e : chunksM sz = (wordsM sz + 7) / 8 := rfl; omega)
  simp only [Value.slice.injEq, Option.some.injEq, Addr.mk.injEq, and_true, true_and] at he
  obtain ⟨rfl, -⟩ := he
  exact ⟨_, hg⟩
theorem PartR.bases (H : PartR TP TI TW TB w base b g h ses sum sz wl kb) : base ≤ b ∧ base ≤ g ∧ base ≤ h := by
  obtain ⟨h1, h2, h3, h4, h5, h6, ads, cs, cw, ck, hB, oS, oW, oK⟩ := H
  exact ⟨h6, zI2 oW _ rfl, zI2 oK _ rfl⟩
end
theorem zI7 {sz : List Int} (h : fitsL sz = true) : ∀ x ∈ sz, inR .i64 x := fun x hx => by
  obtain ⟨i, hi, rfl⟩ := List.getElem_of_mem hx
  have := zH7 h i
  rw [List.getD_eq_getElem?_getD, List.getElem?_eq_getElem hi] at this
  simp only [Option.getD_some] at this
  simp only [inR]; omega
/-! ### what a part answers -/
def ovl (wl : List Int) (a : Nat) (l : List Int) : List Int := wl.take a ++ l ++ wl.drop (a + l.length)
theorem yD5 {wl l : List Int} {a : Nat} (h : a + l.length ≤ wl.length) : (ovl wl a l).length = wl.length := by
  unfold ovl
  simp only [List.length_append, List.length_take, List.length_drop]
  omega
theorem yM8 (wl : List Int) (a : Nat) : ovl wl a [] = wl := by unfold ovl; simp
theorem yJ3 {wl l : List Int} {a : Nat} {x : Int} (h : a + l.length < wl.length) : ovl wl a (l ++ [x]) = (ovl wl a l).set (a + l.length) x := by
  unfold ovl
  have hl : (wl.take a ++ l).length = a + l.length := by rw [List.length_append, List.length_take]; omega
  rw [List.set_append_right _ _ (by omega), hl, Nat.sub_self, List.length_append, List.length_singleton]
  have hd : wl.drop (a + l.length) = wl[a + l.length] :: wl.drop (a + l.length + 1) := List.drop_eq_getElem_cons h
  rw [hd, List.set_cons_zero, ← List.append_assoc, Nat.add_assoc]
  simp
theorem yD6 {wl l : List Int} {a : Nat} {Q : Int → Prop} (h1 : ∀ x ∈ wl, Q x) (h2 : ∀ x ∈ l, Q x) : ∀ x ∈ ovl wl a l, Q x := by
  intro x hx
  unfold ovl at hx
  rcases List.mem_append.1 hx with hx | hx
  · rcases List.mem_append.1 hx with hx | hx
    · exact h1 x (List.mem_of_mem_take hx)
    · exact h2 x hx
  · exact h1 x (List.mem_of_mem_drop hx)
def putOk (sz : List Int) (i : Int) (n : Nat) : Bool := decide (0 ≤ i ∧ i < (chunksM sz : Int) ∧ (n : Int) = sizeM sz i)
def putDo (sz kb : List Int) (i : Int) (n : Nat) : Bool := putOk sz i n && !bitQ kb i.toNat
def putW (sz wl kb : List Int) (i : Int) (xs : List Int) : List Int := if putDo sz kb i xs.length then ovl wl (8 * i.toNat) (chunksP xs) else wl
def putK (sz kb : List Int) (i : Int) (n : Nat) : List Int := if putDo sz kb i n then setQ kb i.toNat else kb
theorem zR3 (xs : List Int) : (chunksP xs).length = (xs.length + 7) / 8 := by simp [chunksP]
theorem qV4 {sz : List Int} {i : Nat} {n : Nat} (h : putOk sz i n = true) : i < chunksM sz ∧ (n : Int) = sizeM sz i ∧ 8 * i + (n + 7) / 8 ≤ wordsM sz ∧ 1 ≤ (n + 7) / 8 ∧ n ≤ 64 := by
  obtain ⟨h1, h2, h3⟩ := of_decide_eq_true h
  have hle := zG9 sz
  have hc : chunksM sz = (wordsM sz + 7) / 8 := rfl
  have hs : sizeM sz i = min 64 (8 * (wordsM sz : Int) - 64 * i) := by unfold sizeM; rw [if_neg (by omega)]
  rw [hs] at h3
  omega
theorem qV5 {sz kb : List Int} {i : Int} {n : Nat} (h1 : putOk sz i n = true) (h2 : bitQ kb i.toNat = false) : putDo sz kb i n = true := by unfold putDo; rw [h1, h2]; rfl
theorem qJ0 {sz kb : List Int} {i : Int} {n : Nat} (h : putOk sz i n = false ∨ bitQ kb i.toNat = true) : putDo sz kb i n = false := by
  unfold putDo
  rcases h with h | h
  · rw [h]; rfl
  · rw [h]; simp
theorem qD4 {xs : List Int} (h : isB xs) : ∀ x ∈ chunksP xs, inR .u64 x := fun x hx => by
  obtain ⟨j, _, rfl⟩ := List.mem_map.1 hx
  have := zP8 ((xs.drop (8 * j)).take 8) (fun y hy => h y (List.mem_of_mem_drop (List.mem_of_mem_take hy)))
  have hl : ((xs.drop (8 * j)).take 8).length ≤ 8 := by rw [List.length_take]; omega
  have hp : ∀ n : Nat, n ≤ 8 → (256 : Int) ^ n ≤ 18446744073709551616 := fun n hn => by
    by_cases h7 : n ≤ 7
    · have := qQ3 h7; omega
    · have e : n = 8 := by omega
      subst e; decide
  have := hp _ hl
  unfold chunkP
  simp only [inR]
  omega
theorem yP4 {w w' : World} {g n : Nat} {ad : Option Addr} {xs : List Value} (R : RowAt w 1 ad n xs) (k : Kp [g] w w') (h : 0 < n → ∀ q o, ad = some ⟨q, o, none⟩ → q ≠ g) : RowAt w' 1 ad n xs :=
  ⟨R.len, R.lim, fun hn => by
    obtain ⟨b, o, cs, T, fr, rfl, hb, hx⟩ := R.at_ hn
    exact ⟨b, o, cs, T, fr, rfl, k.heap hb (by simpa using h hn b o rfl), hx⟩⟩
def srcW (sz wl kb : List Int) (seg a : Int) : Int × Int := if placeM sz seg a < 0 then (0, 20) else if bitQ kb ((placeM sz seg a).toNat / 8) then (wl.getD (placeM sz seg a).toNat 0, 0) else (0, 30)
def srcP (sz wl kb : List Int) : Src := ⟨sz, srcW sz wl kb⟩
theorem zX0 {sz : List Int} {seg a : Int} (h : 0 ≤ placeM sz seg a) : fitsL sz = true ∧ 0 ≤ seg ∧ seg < sz.length ∧ 0 ≤ a ∧ a < sz.getD seg.toNat 0 ∧ placeM sz seg a = a + sumL (sz.take seg.toNat) ∧ placeM sz seg a < (wordsM sz : Int) := by
  unfold placeM at h ⊢
  split at h
  · rename_i hc
    rw [if_pos hc]
    obtain ⟨h1, h2, h3, h4, h5⟩ := hc
    have hf := zG2 h1
    have h6 := zJ0 (sz := sz) (k := seg.toNat) (by omega)
    have h7 := (zH4 hf.2.2.2.1 (seg.toNat + 1)).2
    have h8 := (zF4 h1).1
    exact ⟨h1, h2, h3, h4, h5, rfl, by omega⟩
  · omega
theorem qV6 {sz wl kb : List Int} (hu : ∀ x ∈ wl, inR .u64 x) (seg a : Int) : 0 ≤ (srcW sz wl kb seg a).1 ∧ (srcW sz wl kb seg a).1 ≤ 18446744073709551615 ∧ 0 ≤ (srcW sz wl kb seg a).2 ∧ (srcW sz wl kb seg a).2 ≤ 65535 := by
  unfold srcW
  split
  · simp
  · split
    · have : inR .u64 (wl.getD (placeM sz seg a).toNat 0) := by
        rw [List.getD_eq_getElem?_getD]
        cases hi : wl[(placeM sz seg a).toNat]? with
        | none => simp [inR]
        | some x => exact hu x (List.mem_of_getElem? hi)
      simp only [inR] at this
      exact ⟨this.1, this.2, by show (0 : Int) ≤ 0; decide, by show (0 : Int) ≤ 65535; decide⟩
    · simp
theorem yJ4 {P : Program} {w : World} {t : TypeId} {u : Value} {fw fs : FuncId} {sz wl kb : List Int} (hf : fitsL sz = true) (hu : ∀ x ∈ wl, inR .u64 x) (mw : MethI P t "Word" fw) (ms : MethI P t "Sizes" fs)
    (hw : ∀ w', Grow w w' → ∀ seg a : Int, Gives P fw #[u, .int .i64 seg, .int .i64 a] w' (.tuple #[.int .u64 (srcW sz wl kb seg a).1, .int .u16 (srcW sz wl kb seg a).2]))
    (hs : ∀ w', Grow w w' → Calls P fs #[u] w' (Ret fun r w2 => ∃ ad c, r = .slice ad sz.length c ∧ RowAt w2 1 ad sz.length (sz.map (.int .i64)) ∧ Grow w' w2)) : SrcOk P w (.iface t u) (srcP sz wl kb) := by
  refine ⟨⟨t, _, fw, rfl, mw, hw⟩, ⟨t, _, fs, rfl, ms, hs⟩, qV6 hu, ?_, by have := (zG2 hf).2.1; show sz.length ≤ _; omega, fun i _ => by have := zH7 hf i; show 0 ≤ sz.getD i 0 ∧ sz.getD i 0 ≤ _; omega⟩
  intro seg a h
  show 0 ≤ seg ∧ seg < sz.length ∧ 0 ≤ a ∧ a ≤ 140737488355328
  have h2 : (srcW sz wl kb seg a).2 = 0 := h
  unfold srcW at h2
  split at h2
  · simp at h2
  · rename_i hp
    obtain ⟨-, g1, g2, g3, g4, -, -⟩ := zX0 (sz := sz) (seg := seg) (a := a) (by omega)
    have := zH7 hf seg.toNat
    omega
def cutW : List Int → List Int → List (List Int)
  | [], _ => []
  | n :: sz, wl => wl.take n.toNat :: cutW sz (wl.drop n.toNat)
theorem qN5 : ∀ (sz : List Int) (n : Int) (wl : List Int), (∀ x ∈ sz, 0 ≤ x) → cutW (sz ++ [n]) wl = cutW sz wl ++ [(wl.drop (sumL sz).toNat).take n.toNat]
  | [], n, wl, _ => by simp [cutW, sumL]
  | m :: sz, n, wl, h => by
    have hm := h m (by simp)
    have hs := zX9 (sz := sz) (fun y hy => h y (by simp [hy]))
    rw [List.cons_append, cutW, qN5 sz n (wl.drop m.toNat) (fun y hy => h y (by simp [hy])), cutW, List.drop_drop, sumL, List.cons_append]
    rw [show m.toNat + (sumL sz).toNat = (m + sumL sz).toNat from by omega]
theorem qN6 {sz : List Int} {k : Nat} (h : k < sz.length) (hn : ∀ x ∈ sz, 0 ≤ x) (wl : List Int) : cutW (sz.take (k + 1)) wl = cutW (sz.take k) wl ++ [(wl.drop (sumL (sz.take k)).toNat).take (sz.getD k 0).toNat] := by
  rw [List.take_succ_eq_append_getElem h, qN5 _ _ _ (fun x hx => hn x (List.mem_of_mem_take hx)), List.getD_eq_getElem?_getD, List.getElem?_eq_getElem h]
  rfl
theorem zN2 : ∀ (sz wl : List Int), (cutW sz wl).length = sz.length
  | [], _ => rfl
  | n :: sz, wl => by rw [cutW, List.length_cons, zN2, List.length_cons]
def wholeB (sz kb : List Int) : Bool := decide (¬ cntQ kb (8 * kb.length) < chunksM sz)
theorem RowAt.sliceH3 {w : World} {n m : Nat} {ad : Option Addr} {xs : List Value} (h : RowAt w 1 ad n xs) (hm : m ≤ n) : RowAt w 1 (if m = 0 then ad else ad.map (·.add (0 * 1))) m (xs.take m) := by
  by_cases h0 : m = 0
  · subst h0; rw [List.take_zero]; exact RowAt.empty _ _ _
  · have h2 := h.part 0 m (by omega) (by decide)
    rw [if_neg h0]
    simpa using h2
theorem yD7 {w : World} {segs : List Value} {B C : List (List Int)} {wl : List Int} {o : Nat} {x : Int} {n k : Nat} {v : Value} (hS : ∀ (i : Nat) (s : List Int), B[i]? = some s → ∃ u, segs[i]? = some u ∧ Row w 1 u s.length (wordsV s)) (hC : C = B ++ [(wl.drop o).take x.toNat]) (hl : segs.length = k) (hB : B.length = k)
    (hv : Row w 1 v n (((wl.drop o).map (Value.int .u64)).take n)) (hx : x = (n : Int)) (hn : n ≤ wl.length - o) : ∀ (i : Nat) (s : List Int), C[i]? = some s → ∃ u, (segs ++ [v])[i]? = some u ∧ Row w 1 u s.length (wordsV s) := by
  intro i s hs
  rw [hC] at hs
  by_cases hi : i < B.length
  · rw [List.getElem?_append_left hi] at hs
    obtain ⟨u, h1, h2⟩ := hS i s hs
    exact ⟨u, by rw [List.getElem?_append_left (by omega)]; exact h1, h2⟩
  · have hlt := (List.getElem?_eq_some_iff.1 hs).1
    simp only [List.length_append, List.length_singleton] at hlt
    have he : i = B.length := by omega
    subst he
    rw [List.getElem?_append_right (Nat.le_refl _), Nat.sub_self] at hs
    simp only [List.getElem?_cons_zero, Option.some.injEq] at hs
    subst hs
    refine ⟨v, by rw [List.getElem?_append_right (by omega), hl, hB, Nat.sub_self]; rfl, ?_⟩
    have e : ((wl.drop o).take x.toNat).length = n := by rw [hx, Int.toNat_natCast, List.length_take, List.length_drop]; omega
    rw [e, wordsV, hx, Int.toNat_natCast, List.map_take]
    exact hv
end Go.Proofs.YtifhcfhdajkhlaaGreat.K

namespace Go.Proofs.YtifhcfhdajkhlaaGreat.K
open Go Go.RowKit
theorem qN7 {c : List Int} (hx : isU8 c) (j : Nat) : 0 ≤ chunkP c j ∧ chunkP c j ≤ 18446744073709551615 := by
  have h := zP8 ((c.drop (8 * j)).take 8) (fun x hx2 => hx x (List.mem_of_mem_drop (List.mem_of_mem_take hx2)))
  have hl : ((c.drop (8 * j)).take 8).length ≤ 8 := by rw [List.length_take]; omega
  have h2 : (256 : Int) ^ ((c.drop (8 * j)).take 8).length ≤ 256 ^ 8 := by
    generalize ((c.drop (8 * j)).take 8).length = n at hl
    have : n = 0 ∨ n = 1 ∨ n = 2 ∨ n = 3 ∨ n = 4 ∨ n = 5 ∨ n = 6 ∨ n = 7 ∨ n = 8 := by omega
    rcases this with rfl | rfl | rfl | rfl | rfl | rfl | rfl | rfl | rfl <;> decide
  have h3 : (256 : Int) ^ 8 = 18446744073709551616 := by decide
  unfold chunkP
  omega
end Go.Proofs.YtifhcfhdajkhlaaGreat.K

namespace Go.Proofs.YtifhcfhdajkhlaaGreat.K
open Go Go.RowKit
/-! ### the three arenas -/
theorem zT6 (p : Pt) : inR .u64 (encR p) := by
  obtain ⟨h0, h1⟩ := zN3 p
  unfold encR
  split
  · exact ⟨h0, h1⟩
  · simp [inR]
end Go.Proofs.YtifhcfhdajkhlaaGreat.K

namespace Go.Proofs.YtifhcfhdajkhlaaGreat.K
open Go Go.RowKit
inductive Own2 (k z : Int) (w b : List Int) (ks : List Nd) (q a : Int) : Prop where
  | st (h1 : k = 1) (h2 : z = 0) (h3 : b = []) (h4 : objP ((Nd.mk k z w b ks).ptr 0) q a = ⟨1, q, a, w.length, ks.length, 0, 0⟩) (h5 : (Nd.mk k z w b ks).need = (w.length : Int) + ks.length) (h6 : w.length ≤ 100 ∧ ks.length ≤ 100)
  | bt (h1 : k = 2) (h2 : z = 2) (h3 : w = []) (h4 : ks = []) (h5 : objP ((Nd.mk k z w b ks).ptr 0) q a = ⟨2, q, a, 0, 0, 2, b.length⟩) (h6 : (Nd.mk k z w b ks).need = ((b.length : Int) + 7) / 8) (h7 : b.length ≤ 4096)
  | wd (h1 : k = 2) (h2 : z = 5) (h3 : b = []) (h4 : ks = []) (h5 : objP ((Nd.mk k z w b ks).ptr 0) q a = ⟨2, q, a, 0, 0, 5, w.length⟩) (h6 : (Nd.mk k z w b ks).need = (w.length : Int)) (h7 : w.length ≤ 4096)
  | pt (h1 : k = 2) (h2 : z = 6) (h3 : w = []) (h4 : b = []) (h5 : objP ((Nd.mk k z w b ks).ptr 0) q a = ⟨2, q, a, 0, 0, 6, ks.length⟩) (h6 : (Nd.mk k z w b ks).need = (ks.length : Int)) (h7 : ks.length ≤ 4096)
theorem own2 {k z : Int} {w b : List Int} {ks : List Nd} (ho : (Nd.mk k z w b ks).own = true) (hk : ¬ k = 0) (q a : Int) : Own2 k z w b ks q a := by
  simp only [Nd.own, if_neg hk] at ho
  split at ho
  · rename_i h1
    simp only [Bool.and_eq_true, decide_eq_true_eq] at ho
    obtain ⟨h2, h3, h4⟩ := ho
    have hb : b = [] := List.eq_nil_of_length_eq_zero (by omega)
    have hm : w.length ≤ 100 ∧ ks.length ≤ 100 := by split at h4 <;> omega
    subst hb
    subst h1
    exact .st rfl h2 rfl (by simp [Nd.ptr, objP]) (by simp [Nd.need]) hm
  · split at ho
    · rename_i h1 h2
      subst h2
      split at ho
      · rename_i h3
        simp only [Bool.and_eq_true, decide_eq_true_eq] at ho
        have hw : w = [] := List.eq_nil_of_length_eq_zero (by omega)
        have hks : ks = [] := List.eq_nil_of_length_eq_zero (by omega)
        subst hw; subst hks; subst h3
        exact .bt rfl rfl rfl rfl (by simp [Nd.ptr, objP]) (by simp [Nd.need]) (by omega)
      · split at ho
        · rename_i h3
          simp only [Bool.and_eq_true, decide_eq_true_eq] at ho
          have hb : b = [] := List.eq_nil_of_length_eq_zero (by omega)
          have hks : ks = [] := List.eq_nil_of_length_eq_zero (by omega)
          subst hb; subst hks; subst h3
          exact .wd rfl rfl rfl rfl (by simp [Nd.ptr, objP]) (by simp [Nd.need]) (by omega)
        · split at ho
          · rename_i h3
            simp only [Bool.and_eq_true, decide_eq_true_eq] at ho
            have hb : b = [] := List.eq_nil_of_length_eq_zero (by omega)
            have hw : w = [] := List.eq_nil_of_length_eq_zero (by omega)
            subst hb; subst hw; subst h3
            exact .pt rfl rfl rfl rfl (by simp [Nd.ptr, objP]) (by simp [Nd.need]) (by omega)
          · cases ho
    · cases ho
end Go.Proofs.YtifhcfhdajkhlaaGreat.K

namespace Go.Proofs.YtifhcfhdajkhlaaGreat.K
open Go Go.RowKit
abbrev w2 (A : List (List Int)) (s i : Nat) : Int := (A.getD s []).getD i 0
def bodyN : Nd → List Int
  | .mk _ _ w b _ => w ++ chunksP b
/-! ### decoding it -/
mutual
def Nd.cst : Nd → Int
  | .mk k z w b ks => 1 + (Nd.mk k z w b ks).need + Nd.cstL ks
def Nd.cstL : List Nd → Int
  | [] => 0
  | t :: ts => t.cst + Nd.cstL ts
end
/-! ### words and bytes as they lie -/
mutual
def Nd.u8 : Nd → Prop
  | .mk _ _ _ b ks => (∀ x ∈ b, inR .u8 x) ∧ Nd.u8L ks
def Nd.u8L : List Nd → Prop
  | [] => True
  | t :: ts => t.u8 ∧ Nd.u8L ts
end
/-! ### what is built are words -/
def AllU (A : List (List Int)) : Prop := ∀ q ∈ A, ∀ x ∈ q, inR .u64 x
mutual
def Nd.u64 : Nd → Prop
  | .mk _ _ w _ ks => (∀ x ∈ w, inR .u64 x) ∧ Nd.u64L ks
def Nd.u64L : List Nd → Prop
  | [] => True
  | t :: ts => t.u64 ∧ Nd.u64L ts
end
theorem AllU.getD {A : List (List Int)} (h : AllU A) (s : Nat) : ∀ x ∈ A.getD s [], inR .u64 x := by
  by_cases hs : s < A.length
  · rw [zG0 hs]; exact h _ (List.getElem_mem hs)
  · rw [List.getD_eq_getElem?_getD, List.getElem?_eq_none (by omega)]; intro x hx; simp at hx
theorem AllU.set {A : List (List Int)} (h : AllU A) (s i : Nat) {x : Int} (hx : inR .u64 x) : AllU (setP A s i x) := by
  intro q hq y hy
  rcases List.mem_or_eq_of_mem_set hq with hq | rfl
  · exact h q hq y hy
  · rcases List.mem_or_eq_of_mem_set hy with hy | rfl
    · exact h.getD s y hy
    · exact hx
theorem AllU.growB {A : List (List Int)} (h : AllU A) (q : Nat) : AllU (growB A q) := by
  unfold K.growB
  split
  · intro p hp y hy
    rcases List.mem_append.1 hp with hp | hp
    · exact h p hp y hy
    · simp only [List.mem_singleton] at hp; subst hp; simp at hy
  · exact h
theorem AllU.grow {A : List (List Int)} (h : AllU A) (q : Nat) {l : List Int} (hl : ∀ x ∈ l, inR .u64 x) : AllU (growA A q l) := by
  intro p hp y hy
  unfold growA at hp
  rcases List.mem_or_eq_of_mem_set hp with hp | rfl
  · exact (h.growB q) p hp y hy
  · rcases List.mem_append.1 hy with hy | hy
    · exact (h.growB q).getD q y hy
    · exact hl y hy
theorem qR9 {k z : Int} {w b : List Int} {ks : List Nd} (hw : ∀ x ∈ w, inR .u64 x) (hb : isU8 b) : ∀ x ∈ (Nd.mk k z w b ks).content, inR .u64 x := by
  intro x hx
  simp only [Nd.content, List.mem_append, chunksP, List.mem_map, List.mem_replicate] at hx
  rcases hx with (hx | ⟨j, -, rfl⟩) | ⟨-, rfl⟩
  · exact hw x hx
  · have := qN7 hb j
    simp only [inR]; omega
  · simp [inR]
theorem yD8 (size : Int) (t : Nd) (S : Lay) (s i : Nat) (h : AllU S.A) : AllU (placeP size t S s i).S.A := by
  have h1 : ∀ x ∈ [t.near 0], inR .u64 x := fun x hx => by simp only [List.mem_singleton] at hx; subst hx; exact zT6 _
  unfold placeP
  split
  · exact h.set _ _ (zT6 _)
  · split
    · exact (h.set _ _ (zT6 _)).grow _ h1
    · exact (h.set _ _ (zT6 _)).grow _ h1
mutual
theorem yD9 (size : Int) : ∀ (t : Nd) (S : Lay) (s i : Nat), t.u64 → t.u8 → AllU S.A → AllU (t.lay size S s i).A
  | .mk k z w b ks, S, s, i, hw, hb, h => by
    rw [Nd.u64] at hw
    rw [Nd.u8] at hb
    simp only [Nd.lay]
    split
    · exact h
    · split
      · exact h.set _ _ (zT6 _)
      · exact qV7 size ks _ _ _ hw.2 hb.2 ((yD8 size _ S s i h).grow _ (qR9 hw.1 hb.1))
theorem qV7 (size : Int) : ∀ (ts : List Nd) (S : Lay) (s i : Nat), Nd.u64L ts → Nd.u8L ts → AllU S.A → AllU (Nd.lays size ts S s i).A
  | [], S, s, i, _, _, h => h
  | t :: ts, S, s, i, hw, hb, h => by
    rw [Nd.u64L] at hw
    rw [Nd.u8L] at hb
    simp only [Nd.lays]
    exact qV7 size ts _ _ _ hw.2 hb.2 (yD9 size t S s i hw.1 hb.1 h)
end
theorem yE0 {t : Nd} (size : Int) (hw : t.u64) (hb : t.u8) : ∀ q ∈ (t.build size).1, ∀ x ∈ q, inR .u64 x := by
  unfold Nd.build
  split
  · intro q hq; simp at hq
  · split
    · intro q hq; simp at hq
    · refine yD9 size t _ 0 0 hw hb ?_
      intro q hq x hx
      simp only [List.mem_singleton] at hq
      subst hq
      simp only [List.mem_singleton] at hx
      subst hx
      simp [inR]
theorem qS0 {t : Nd} {size : Int} (h : (t.build size).2 = 0) : rightB (t.build size).1 = true := by
  have hf := Nd.build_fit h
  have h0 : 1 ≤ len2 (t.build size).1 0 := by
    unfold Nd.build at h ⊢
    by_cases h1 : size < 1 ∨ size > 4096 ∨ t.right 32 = false
    · rw [if_pos h1] at h; exact absurd h (by decide)
    · rw [if_neg h1] at h ⊢
      by_cases h2 : (t.lay size ⟨[[0]], false⟩ 0 0).full = true
      · rw [if_pos h2] at h; exact absurd h (by decide)
      · rw [if_neg h2]
        exact Nat.le_trans (by decide : 1 ≤ len2 [[0]] 0) ((Nd.lay_ok size t ⟨[[0]], false⟩ 0 0 (by simp)).grew.seg 0)
  unfold rightB
  exact decide_eq_true ⟨hf.one, hf.most, h0, hf.all⟩
end Go.Proofs.YtifhcfhdajkhlaaGreat.K

namespace Go.Proofs.YtifhcfhdajkhlaaGreat.K
open Go Go.RowKit
def bentZ (k : Int) : Int := if k = 0 then 2 else if k = 1 then 5 else if k = 2 then 6 else 3
theorem yJ5 (k : Int) (h0 : 0 ≤ k) (h1 : k < 4) : ([.int .i64 2, .int .i64 5, .int .i64 6, .int .i64 3] : List Value)[k.toNat * 1]? = some (.int .i64 (bentZ k)) := by
  have h : k = 0 ∨ k = 1 ∨ k = 2 ∨ k = 3 := by omega
  rcases h with rfl | rfl | rfl | rfl <;> rfl
def bentP (x y n : Int) : Pt :=
  if x % 3 = 0 then ⟨1, y % 16 - 4, x % 4, x / 64, 0, 0, 0, false⟩
  else if x % 3 = 1 then ⟨2, y % 16 - 4, 0, 0, bentZ (x % 4), x / 16, 0, false⟩
  else ⟨3, y % 12, 0, 0, 0, 0, x / 3 % (n + 1), decide (x % 2 = 1)⟩
inductive BentA (B : List (List Int)) : List (List Int) → Prop
  | refl : BentA B B
  | put {A : List (List Int)} {s i : Nat} {x y : Int} : BentA B A → s < A.length → i < len2 A s → 0 ≤ x → x ≤ 255 → 0 ≤ y → y ≤ 255 → BentA B (setP A s i (encR (bentP x y A.length)))
def bentT (xs : List Int) : Nd := (treeP 6 xs).1
def bentB (xs : List Int) (k : Int) : List (List Int) := if ((bentT xs).build (3 + k % 30)).2 ≠ 0 then ((bentT xs).build 4096).1 else ((bentT xs).build (3 + k % 30)).1
def Bent1 (xs : List Int) (k : Int) (A : List (List Int)) : Prop := BentA (bentB xs k) A
theorem qD5 {xs : List Int} (h : isU8 xs) : (bentT xs).right 32 = true := qC8 6 xs 32 (by decide) h
theorem qS1 {xs : List Int} (h : isU8 xs) (hl : xs.length ≤ 200) : 0 ≤ (bentT xs).needs ∧ (bentT xs).needs ≤ 1400 := by
  have := qC9 6 xs h
  have := Nd.needs_nn (bentT xs)
  unfold bentT at *
  omega
theorem yE1 {xs : List Int} (h : isU8 xs) (hl : xs.length ≤ 200) : ∃ s, (bentT xs).build 4096 = ([s], 0) ∧ (s.length : Int) = 1 + (bentT xs).needs :=
  Nd.build_one (qD5 h) (by have := qS1 h hl; omega) (by decide)
theorem qD6 : ∀ (d : Nat) (c : List Int), (treeP d c).1.u64 ∧ (treeP d c).1.u8
  | 0, c => ⟨⟨by simp, trivial⟩, ⟨by simp [isU8], trivial⟩⟩
  | d + 1, [] => ⟨⟨by simp, trivial⟩, ⟨by simp [isU8], trivial⟩⟩
  | d + 1, k :: c => by
    have hk : ∀ n, Nd.u64L (treesP (treeP d) n c).1 ∧ Nd.u8L (treesP (treeP d) n c).1 := fun n => by
      have h1 := zY0 (f := treeP d) (Q := fun _ => True) (R := fun t => t.u64 ∧ t.u8) (fun c _ => ⟨trivial, qD6 d c⟩) n c trivial
      have : ∀ (ts : List Nd), (∀ t ∈ ts, t.u64 ∧ t.u8) → Nd.u64L ts ∧ Nd.u8L ts := by
        intro ts
        induction ts with
        | nil => exact fun _ => ⟨trivial, trivial⟩
        | cons t ts ih => exact fun h => ⟨⟨(h t (by simp)).1, (ih fun u hu => h u (by simp [hu])).1⟩, ⟨(h t (by simp)).2, (ih fun u hu => h u (by simp [hu])).2⟩⟩
      exact this _ h1
    have hb : ∀ n, isU8 ((List.range n).map (bTree k)) := fun n x hx => by obtain ⟨i, _, rfl⟩ := List.mem_map.1 hx; exact qH8 _
    have h3 : ∀ n, ∀ x ∈ (List.range n).map (w3Tree k), inR .u64 x := fun n x hx => by obtain ⟨i, _, rfl⟩ := List.mem_map.1 hx; exact zW5 _
    have h4 : ∀ n, ∀ x ∈ (List.range n).map (w4Tree k), inR .u64 x := fun n x hx => by obtain ⟨i, _, rfl⟩ := List.mem_map.1 hx; exact zW5 _
    simp only [treeP]
    split
    · exact ⟨⟨by simp, trivial⟩, ⟨by simp [isU8], trivial⟩⟩
    · split
      · exact ⟨⟨by simp, trivial⟩, ⟨hb _, trivial⟩⟩
      · split
        · exact ⟨⟨h3 _, trivial⟩, ⟨by simp [isU8], trivial⟩⟩
        · split
          · exact ⟨⟨by simp, (hk _).1⟩, ⟨by simp [isU8], (hk _).2⟩⟩
          · exact ⟨⟨h4 _, (hk _).1⟩, ⟨by simp [isU8], (hk _).2⟩⟩
theorem yJ6 {xs : List Int} (h : isU8 xs) (hl : xs.length ≤ 200) (k : Int) : rightB (bentB xs k) = true ∧ AllU (bentB xs k) ∧ totalP (bentB xs k) ≤ 4096 ∧ (∀ i, len2 (bentB xs k) i ≤ 4096) := by
  obtain ⟨s, h4, -⟩ := yE1 h hl
  have key : ∀ n, ((bentT xs).build n).2 = 0 → rightB ((bentT xs).build n).1 = true ∧ AllU ((bentT xs).build n).1 ∧ totalP ((bentT xs).build n).1 ≤ 4096 ∧ (∀ i, len2 ((bentT xs).build n).1 i ≤ 4096) := fun n hn => by
    have hr := qS0 hn
    refine ⟨hr, yE0 n (qD6 6 xs).1 (qD6 6 xs).2, ?_⟩
    unfold rightB at hr
    have h1 := of_decide_eq_true hr
    exact ⟨h1.2.2.2, fun i => by have := zM3 ((bentT xs).build n).1 i; omega⟩
  unfold bentB
  split
  · exact key 4096 (by rw [h4])
  · exact key _ (by omega)
theorem BentA.len {B A : List (List Int)} (h : BentA B A) : A.length = B.length ∧ totalP A = totalP B ∧ ∀ i, len2 A i = len2 B i := by
  induction h with
  | refl => exact ⟨rfl, rfl, fun _ => rfl⟩
  | put _ hs hi _ _ _ _ ih => exact ⟨(zG1 _ _ _ _).trans ih.1, (qC1 _ _ _ _).trans ih.2.1, fun j => (zN7 _ _ _ j _).trans (ih.2.2 j)⟩
theorem BentA.allU {B A : List (List Int)} (h : BentA B A) (hB : AllU B) : AllU A := by
  induction h with
  | refl => exact hB
  | put _ hs hi _ _ _ _ ih => exact ih.set _ _ (zT6 _)
theorem BentA.right {B A : List (List Int)} (h : BentA B A) : rightB A = rightB B := by
  obtain ⟨h1, h2, h3⟩ := h.len
  unfold rightB
  rw [h1, h2, h3 0]
theorem Bent1.ok {xs : List Int} {k : Int} {A : List (List Int)} (hA : Bent1 xs k A) (h : isU8 xs) (hl : xs.length ≤ 200) : rightB A = true ∧ AllU A ∧ totalP A ≤ 4096 ∧ (∀ i, len2 A i ≤ 4096) ∧ 1 ≤ A.length ∧ A.length ≤ 16 ∧ ∀ s ∈ A, s.length ≤ 100000 := by
  obtain ⟨h1, h2, h3⟩ := BentA.len hA
  obtain ⟨g1, g2, g3, g4⟩ := yJ6 h hl k
  have hr : rightB A = true := by rw [BentA.right hA]; exact g1
  have hr2 := hr
  unfold rightB at hr2
  obtain ⟨r1, r2, -, -⟩ := of_decide_eq_true hr2
  refine ⟨hr, BentA.allU hA g2, by rw [h2]; exact g3, fun i => by rw [h3]; exact g4 i, r1, r2, fun s hs => ?_⟩
  obtain ⟨i, hi, rfl⟩ := List.getElem_of_mem hs
  have := h3 i
  have := g4 i
  rw [← h3 i, len2, zG0 hi] at this
  omega
theorem yE2 {xs : List Int} (h : isU8 xs) (hl : xs.length ≤ 200) (k : Int) : 1 ≤ (bentB xs k).length ∧ (bentB xs k).length ≤ 16 := by
  obtain ⟨-, -, -, -, h1, h2, -⟩ := Bent1.ok (BentA.refl (B := bentB xs k)) h hl
  exact ⟨h1, h2⟩
end Go.Proofs.YtifhcfhdajkhlaaGreat.K

namespace Go.Proofs.YtifhcfhdajkhlaaGreat.K
open Go Go.RowKit
theorem OwnA.push {TO TW : TypeId} {w w' : World} {base : Nat} {so so' v : Value} {segs : List Value} {A : List (List Int)} {ws : List Int} (hOW : TO ≠ TW) (h : OwnA TO TW w base so segs A) (hv : w.ownsRow base TW 1 v ws.length (wordsV ws)) (hd : ∀ (i : Nat) (u : Value) (b : Nat), segs[i]? = some u → u.ownBlock = some b → v.ownBlock ≠ some b)
    (gr : w.grownBy w' so.ownBlock) (ho : w'.ownsRow base TO 1 so' (A.length + 1) (segs ++ [v])) : OwnA TO TW w' base so' (segs ++ [v]) (A ++ [ws]) := by
  have hl := h.len
  refine ⟨by rw [List.length_append]; exact ho, fun i u wi hu hw => ?_, fun i j u u' b hu hu' hb hb' => ?_⟩
  · by_cases hi : i < A.length
    · rw [List.getElem?_append_left (by omega)] at hu
      rw [List.getElem?_append_left hi] at hw
      exact qF0 (h.seg i u wi hu hw) h.out hOW.symm gr
    · have hb := (List.getElem?_eq_some_iff.1 hw).1
      simp only [List.length_append, List.length_singleton] at hb
      have hie : i = A.length := by omega
      subst hie
      rw [List.getElem?_append_right (by omega), hl, Nat.sub_self] at hu
      rw [List.getElem?_append_right (Nat.le_refl _), Nat.sub_self] at hw
      simp only [List.getElem?_cons_zero, Option.some.injEq] at hu hw
      subst hu; subst hw
      exact qF0 hv h.out hOW.symm gr
  · have key : ∀ k (x : Value), (segs ++ [v])[k]? = some x → (k < segs.length ∧ segs[k]? = some x) ∨ (k = segs.length ∧ x = v) := fun k x hx => by
      by_cases hk : k < segs.length
      · rw [List.getElem?_append_left hk] at hx; exact .inl ⟨hk, hx⟩
      · have hb := (List.getElem?_eq_some_iff.1 hx).1
        simp only [List.length_append, List.length_singleton] at hb
        have hke : k = segs.length := by omega
        subst hke
        rw [List.getElem?_append_right (Nat.le_refl _), Nat.sub_self] at hx
        simp only [List.getElem?_cons_zero, Option.some.injEq] at hx
        exact .inr ⟨rfl, hx.symm⟩
    rcases key i u hu with ⟨hi, hui⟩ | ⟨hi, rfl⟩
    · rcases key j u' hu' with ⟨hj, huj⟩ | ⟨hj, rfl⟩
      · exact h.dis i j u u' b hui huj hb hb'
      · exact absurd hb' (hd i u b hui hb)
    · rcases key j u' hu' with ⟨hj, huj⟩ | ⟨hj, rfl⟩
      · exact absurd hb (hd j u' b huj hb')
      · rw [hi, hj]
theorem OwnA.low {TO TW : TypeId} {w : World} {base : Nat} {so : Value} {segs : List Value} {A : List (List Int)} (h : OwnA TO TW w base so segs A) (i : Nat) (u : Value) (b : Nat) (hu : segs[i]? = some u) (hb : u.ownBlock = some b) : b < w.heap.size := by
  have hi := (List.getElem?_eq_some_iff.1 hu).1
  rw [h.len] at hi
  exact ((h.seg i u _ hu (List.getElem?_eq_getElem hi)).lt b hb).2
end Go.Proofs.YtifhcfhdajkhlaaGreat.K

namespace Go.Proofs.YtifhcfhdajkhlaaGreat.K
open Go Go.RowKit
/-! ### chunks of an arena, as words -/
theorem yE3 {x : Int} (h0 : 0 ≤ x) (h1 : x ≤ 18446744073709551615) : getP (byt8 x) = x := by
  have e : byt8 x = [x / 1 % 256, x / 256 % 256, x / 65536 % 256, x / 16777216 % 256, x / 4294967296 % 256, x / 1099511627776 % 256, x / 281474976710656 % 256, x / 72057594037927936 % 256] := by
    simp [byt8, byt1, List.range, List.range.loop]
  rw [e]
  simp only [getP]
  omega
theorem zY5 : ∀ (l : List Int) (j : Nat), (l.flatMap byt8).drop (8 * j) = (l.drop j).flatMap byt8
  | l, 0 => by simp
  | [], j + 1 => by simp
  | x :: l, j + 1 => by
    rw [List.flatMap_cons, show 8 * (j + 1) = (byt8 x).length + 8 * j from by rw [zO4]; omega, ← List.drop_drop, List.drop_left, zY5 l j, List.drop_succ_cons]
theorem zU9 : ∀ (l : List Int) (j : Nat), (l.flatMap byt8).take (8 * j) = (l.take j).flatMap byt8
  | l, 0 => by simp
  | [], j + 1 => by simp
  | x :: l, j + 1 => by
    rw [List.flatMap_cons, show 8 * (j + 1) = (byt8 x).length + 8 * j from by rw [zO4]; omega, List.take_length_add_append, zU9 l j, List.take_succ_cons, List.flatMap_cons]
theorem qV8 : ∀ (A : List (List Int)), ((A.flatten.length : Nat) : Int) = totalP A
  | [] => rfl
  | s :: A => by have := qV8 A; rw [List.flatten_cons, List.length_append]; simp only [totalP]; omega
theorem qD7 {A : List (List Int)} (h : rightB A = true) : wordsM (sizesP A) = A.flatten.length ∧ 1 ≤ chunksM (sizesP A) := by
  have hf : fitsL (sizesP A) = true := by rw [zN4]; exact h
  have h1 := zF4 hf
  rw [zT5] at h1
  have h2 := qV8 A
  have hc : chunksM (sizesP A) = (wordsM (sizesP A) + 7) / 8 := rfl
  omega
theorem yE4 (n c : Nat) : bitQ (List.replicate n 0) c = false := by
  unfold bitQ
  have : (List.replicate n (0 : Int)).getD (c / 8) 0 = 0 := by
    rw [List.getD_eq_getElem?_getD, List.getElem?_replicate]; split <;> rfl
  rw [this]; simp
/-! ### the chapter's example -/
def A16 : List (List Int) := [[0]]
theorem yE5 : walkS (srcP (sizesP A16) (List.replicate (wordsM (sizesP A16)) 0) (List.replicate ((chunksM (sizesP A16) + 7) / 8) 0)) [] 0 8192 = (Vl0, 30) := by decide +kernel
theorem yE6 : walkS (srcP (sizesP A16) (putW (sizesP A16) (List.replicate (wordsM (sizesP A16)) 0) (List.replicate ((chunksM (sizesP A16) + 7) / 8) 0) 0 (List.replicate 8 0)) (putK (sizesP A16) (List.replicate ((chunksM (sizesP A16) + 7) / 8) 0) 0 (List.replicate 8 (0 : Int)).length)) [] 0 8192 = (Vl0, 0) := by decide +kernel
theorem yE7 : putOk (sizesP A16) 0 (List.replicate 8 (0 : Int)).length = true := by decide +kernel
theorem qN8 : wordsM (sizesP A16) = 1 := by decide +kernel
theorem yE8 : rightB A16 = true := by decide +kernel
theorem yE9 : AllU A16 := fun q hq x hx => by simp only [A16, List.mem_singleton] at hq; subst hq; simp only [List.mem_singleton] at hx; subst hx; simp [inR]
/-! ### what law12.Arena makes of choices -/
theorem qV9 {sz wl kb : List Int} {i : Int} {xs : List Int} (h : putOk sz i xs.length = false ∨ bitQ kb i.toNat = true) : putW sz wl kb i xs = wl ∧ putK sz kb i xs.length = kb := by
  have h9 := qJ0 h
  unfold putW putK
  rw [h9]
  exact ⟨rfl, rfl⟩
end Go.Proofs.YtifhcfhdajkhlaaGreat.K

namespace Go.Proofs.YtifhcfhdajkhlaaGreat.K
open Go Go.RowKit
section
variable {s s' : Src}
end
/-! ### the words of an arena, one behind the other -/
theorem qW0 : ∀ (A : List (List Int)) (i j : Nat), i < A.length → j < len2 A i → (A.flatten).getD (j + (totalP (A.take i)).toNat) 0 = (A.getD i []).getD j 0
  | [], i, j, h, _ => by simp at h
  | s :: A, 0, j, _, hj => by
    simp only [len2, List.getD_cons_zero] at hj
    simp only [List.take_zero, totalP, Int.toNat_zero, Nat.add_zero, List.flatten_cons, List.getD_cons_zero]
    rw [List.getD_eq_getElem?_getD, List.getD_eq_getElem?_getD, List.getElem?_append_left hj]
  | s :: A, i + 1, j, h, hj => by
    have hj' : j < len2 A i := by simpa [len2] using hj
    have ih := qW0 A i j (by simpa using h) hj'
    have hn := zS0 (A.take i)
    simp only [List.take_succ_cons, totalP, List.flatten_cons, List.getD_cons_succ]
    rw [← ih, List.getD_eq_getElem?_getD, List.getD_eq_getElem?_getD, List.getElem?_append_right (by omega), show j + ((s.length : Int) + totalP (A.take i)).toNat - s.length = j + (totalP (A.take i)).toNat from by omega]
theorem qS2 {A : List (List Int)} (h : rightB A = true) (seg a : Int) : (placeM (sizesP A) seg a < 0 ∧ wordA A seg a = (0, 20)) ∨ ∃ k : Nat, placeM (sizesP A) seg a = (k : Int) ∧ k < A.flatten.length ∧ wordA A seg a = (A.flatten.getD k 0, 0) := by
  have hf : fitsL (sizesP A) = true := by rw [zN4]; exact h
  have hsl := zG5 A
  have hg := zL4 A seg.toNat
  by_cases hc : 0 ≤ seg ∧ seg < A.length ∧ 0 ≤ a ∧ a < len2 A seg.toNat
  · right
    have hp : placeM (sizesP A) seg a = a + sumL ((sizesP A).take seg.toNat) := by unfold placeM; rw [if_pos ⟨hf, by omega, by omega, by omega, by omega⟩]
    have hst : sumL ((sizesP A).take seg.toNat) = totalP (A.take seg.toNat) := by
      rw [← zT5]; unfold sizesP; rw [List.map_take]
    have hn := zS0 (A.take seg.toNat)
    have hfg := qW0 A seg.toNat a.toNat (by omega) (by omega)
    have hl := (zX0 (sz := sizesP A) (seg := seg) (a := a) (by omega)).2.2.2.2.2.2
    have hw := (qD7 h).1
    refine ⟨a.toNat + (totalP (A.take seg.toNat)).toNat, by omega, by omega, ?_⟩
    unfold wordA
    rw [if_pos hc, hfg]
  · left
    refine ⟨?_, by unfold wordA; rw [if_neg hc]⟩
    unfold placeM
    rw [if_neg (by omega)]
    decide
theorem yF0 {T T2 : TypeId} {base base2 n sz : Nat} {w w' : World} {v : Value} {xs : List Value} (h : w.ownsRow base T2 sz v n xs) (k : KtP T base2 w w') (hT : T2 ≠ T) : w'.ownsRow base T2 sz v n xs := by
  refine ⟨h.1, ?_⟩
  rcases h.2 with hn | ⟨q, cap, cur, rfl, hb, hg, rest⟩
  · exact .inl hn
  · exact .inr ⟨q, cap, cur, rfl, hb, k.heap hg hT, rest⟩
theorem yJ7 {s : Src} (hn : ∀ seg a : Int, 0 ≤ (s.word seg a).2 ∧ (s.word seg a).2 ≤ 65535) (ks : List Int) (a c : Int) : 0 ≤ (walkS s ks a c).2 ∧ (walkS s ks a c).2 ≤ 65535 := by
  have hs : ∀ o k, 0 ≤ (stepS s o k).2 ∧ (stepS s o k).2 ≤ 65535 := fun o k => by
    unfold stepS; (repeat' split) <;> first | exact qD3 hn _ _ | simp
  have ha : ∀ o k, 0 ≤ (atS s o k).2 ∧ (atS s o k).2 ≤ 65535 := fun o k => by
    unfold atS; (repeat' split) <;> first | exact hn _ _ | simp
  have hx : ∀ (ks : List Int) (o : Ob) (l : Int), 0 ≤ (nextS s a ks o l).2 ∧ (nextS s a ks o l).2 ≤ 65535 := fun ks => by
    induction ks with
    | nil => intro o l; rw [nextS]; unfold valS; (repeat' split) <;> first | exact ha _ _ | simp
    | cons k ks ih => intro o l; rw [nextS]; (repeat' split) <;> first | exact hs _ _ | exact ih _ _ | simp
  have hf := qD3 hn 0 0
  unfold walkS
  (repeat' split) <;> first | exact hx _ _ _ | exact hf | simp
theorem yJ8 (sz wl kb : List Int) (ks : List Int) (a c : Int) : 0 ≤ (walkS (srcP sz wl kb) ks a c).2 ∧ (walkS (srcP sz wl kb) ks a c).2 ≤ 65535 := by
  refine yJ7 (fun seg a => ?_) ks a c
  show 0 ≤ (srcW sz wl kb seg a).2 ∧ (srcW sz wl kb seg a).2 ≤ 65535
  unfold srcW; (repeat' split) <;> simp
end Go.Proofs.YtifhcfhdajkhlaaGreat.K

namespace Go.Proofs.YtifhcfhdajkhlaaGreat.K
open Go Go.RowKit
def stepO (s : Src) (o : Ob) (k : Int) : Ob × Int := (if (stepS s o k).2 ≠ 0 then Ob0 else (stepS s o k).1, (stepS s o k).2)
theorem qD8 {s : Src} {p : Pt} {seg a : Int} (h : (foundS s p seg a).2 ≠ 0) : (foundS s p seg a).1 = Ob0 := by
  revert h; unfold foundS; (repeat' split) <;> simp
theorem qZ1 {s : Src} {seg a : Int} (h : (followS s seg a).2 ≠ 0) : (followS s seg a).1 = Ob0 := by
  revert h; unfold followS
  split
  · intro _; rfl
  · split
    · exact qD8
    · split
      · unfold twiceS
        (repeat' split) <;> first | exact qD8 | (intro _; rfl)
      · unfold landedS
        (repeat' split) <;> first | exact qD8 | (intro _; rfl)
theorem yJ9 (s : Src) (seg a : Int) : ((if (followS s seg a).2 ≠ 0 then Ob0 else (followS s seg a).1), (followS s seg a).2) = followS s seg a := by
  split
  · rename_i h; exact Prod.ext (qZ1 h).symm rfl
  · rfl
theorem yF1 {s : Src} {o : Ob} {k seg a : Int} (h : stepS s o k = followS s seg a) : stepO s o k = followS s seg a := by unfold stepO; rw [h]; exact yJ9 s seg a
theorem qJ1 {s : Src} {o x : Ob} {k e : Int} (h : stepS s o k = (x, e)) (he : e ≠ 0 ∨ x = Ob0) : stepO s o k = (Ob0, e) := by
  unfold stepO; rw [h]
  rcases he with he | he
  · rw [if_pos he]
  · subst he; split <;> rfl
theorem SrcR.stepO_range {P : Program} {fw : FuncId} {w : World} {ua uh : Value} {b : Bool} {A : List (List Int)} {s : Src} (H : SrcR P fw w ua b uh A s) (o : Ob) (k : Int) : ObR (stepO s o k).1 := by
  unfold stepO
  split
  · exact zH1
  · rename_i h
    revert h
    unfold stepS
    (repeat' split) <;> first | (intro _; exact zH1) | (intro h; simp at h; done) | (intro _; exact H.follow_range _ _)
def tailW (s : Src) (steps : List Int) (a cost : Int) (i : Nat) (o : Ob) (e paid : Int) : Vl × Int :=
  if e ≠ 0 then (Vl0, e) else if paid + (1 + wordsO o) > cost then (Vl0, 22) else nextS s a (steps.drop i) o (cost - (paid + (1 + wordsO o)))
theorem yF2 {s : Src} {steps : List Int} {a cost : Int} {i : Nat} {o : Ob} {paid : Int} (hi : i < steps.length) (h : ¬ paid + (1 + wordsO o) > cost) :
    tailW s steps a cost i o 0 paid = tailW s steps a cost (i + 1) (stepO s o (steps.getD i 0)).1 (stepO s o (steps.getD i 0)).2 (paid + (1 + wordsO o)) := by
  unfold tailW
  rw [if_neg (by simp), if_neg h, show steps.drop i = steps.getD i 0 :: steps.drop (i + 1) from by rw [List.drop_eq_getElem_cons hi, zG0 hi], nextS]
  unfold stepO
  by_cases he : (stepS s o (steps.getD i 0)).2 ≠ 0
  · rw [if_pos he, if_pos he]
  · rw [if_neg he, if_neg he]
    simp only [if_neg he]
    by_cases hc : cost - (paid + (1 + wordsO o)) - (1 + wordsO (stepS s o (steps.getD i 0)).1) < 0
    · rw [if_pos hc, if_pos (by omega)]
    · rw [if_neg hc, if_neg (by omega), show cost - (paid + (1 + wordsO o)) - (1 + wordsO (stepS s o (steps.getD i 0)).1) = cost - (paid + (1 + wordsO o) + (1 + wordsO (stepS s o (steps.getD i 0)).1)) from by omega]
theorem yF3 {s : Src} {steps : List Int} {a cost : Int} (h1 : ¬ ∃ k ∈ steps, k < 0) (h2 : ¬ (steps.length : Int) > 32) (hc : 0 ≤ cost) : walkS s steps a cost = tailW s steps a cost 0 (followS s 0 0).1 (followS s 0 0).2 0 := by
  unfold walkS tailW
  rw [if_neg h1, if_neg h2, show max cost (-1) = cost from by omega]
  by_cases h3 : (followS s 0 0).2 ≠ 0
  · rw [if_pos h3, if_pos h3]
  · rw [if_neg h3, if_neg h3]
    by_cases h4 : cost - (1 + wordsO (followS s 0 0).1) < 0
    · rw [if_pos h4, if_pos (by omega)]
    · rw [if_neg h4, if_neg (by omega), List.drop_zero, show cost - (0 + (1 + wordsO (followS s 0 0).1)) = cost - (1 + wordsO (followS s 0 0).1) from by omega]
theorem yK0 {s : Src} {steps : List Int} {a cost : Int} {o : Ob} {paid : Int} (h : ¬ paid + (1 + wordsO o) > cost) : tailW s steps a cost steps.length o 0 paid = valS s o a := by
  unfold tailW
  rw [if_neg (by simp), if_neg h, List.drop_length, nextS]
end Go.Proofs.YtifhcfhdajkhlaaGreat.K

namespace Go.Proofs.YtifhcfhdajkhlaaGreat.K
open Go Go.RowKit
structure TR (TI TB TL : TypeId) (w : World) (ads adb adh : Option Addr) (cs cb ch : Nat) (sz wl kb : List Int) : Prop where
  fit : fitsL sz = true
  lw : wl.length = wordsM sz
  lk : kb.length = (chunksM sz + 7) / 8
  ub : isB kb
  uw : ∀ x ∈ wl, inR .u64 x
  low : ∀ c, bitQ kb c = true → c < chunksM sz
  os : w.ownsRow 0 TI 1 (.slice ads sz.length cs) sz.length (sz.map (.int .i64))
  ob : w.ownsRow 0 TB 1 (.slice adb (8 * wl.length) cb) (8 * wl.length) ((wl.flatMap byt8).map (.int .u8))
  oh : w.ownsRow 0 TL 1 (.slice adh (chunksM sz) ch) (chunksM sz) ((List.range (chunksM sz)).map fun c => .bool (bitQ kb c))
section
variable {TI TB TL T : TypeId} {w w' : World} {ads adb adh : Option Addr} {cs cb ch base b : Nat} {sz wl kb : List Int}
theorem TR.grow (h : TR TI TB TL w ads adb adh cs cb ch sz wl kb) (g : Grow w w') : TR TI TB TL w' ads adb adh cs cb ch sz wl kb :=
  ⟨h.fit, h.lw, h.lk, h.ub, h.uw, h.low, zC8 h.os g, zC8 h.ob g, zC8 h.oh g⟩
theorem TR.kt (h : TR TI TB TL w ads adb adh cs cb ch sz wl kb) (k : KtP T base w w') (h1 : TI ≠ T) (h2 : TB ≠ T) (h3 : TL ≠ T) : TR TI TB TL w' ads adb adh cs cb ch sz wl kb :=
  ⟨h.fit, h.lw, h.lk, h.ub, h.uw, h.low, yF0 h.os k h1, yF0 h.ob k h2, yF0 h.oh k h3⟩
theorem TR.upd {cur : Array Value} {fr : Nat × Nat} (h : TR TI TB TL w ads adb adh cs cb ch sz wl kb) (u : Upd b w w') (hc : w.heap[b]? = some (.cells cur T fr)) (h1 : TI ≠ T) (h2 : TB ≠ T) (h3 : TL ≠ T) : TR TI TB TL w' ads adb adh cs cb ch sz wl kb :=
  ⟨h.fit, h.lw, h.lk, h.ub, h.uw, h.low, zF0 h.os u (zE7 h.os hc h1), zF0 h.ob u (zE7 h.ob hc h2), zF0 h.oh u (zE7 h.oh hc h3)⟩
theorem zR4 {n c : Nat} {ad : Option Addr} {xs : List Value} (h : w.ownsRow 0 T 1 (.slice ad n c) n xs) (hn : n ≤ 8796093022208) : n ≤ c ∧ c ≤ maxLen ∧ RowAt w 1 ad n xs := by
  obtain ⟨_, _, hs9, h1, h2, R⟩ := zE2 h (by omega)
  cases hs9
  exact ⟨h1, h2, R⟩
theorem TR.nums (h : TR TI TB TL w ads adb adh cs cb ch sz wl kb) : sz.length ≤ 16 ∧ 8 * wl.length ≤ 32768 ∧ chunksM sz ≤ 512 := by
  have h1 := zG2 h.fit
  have h2 := zG9 sz
  have h3 := h.lw
  have hch : chunksM sz = (wordsM sz + 7) / 8 := rfl
  omega
theorem TR.hcs (h : TR TI TB TL w ads adb adh cs cb ch sz wl kb) : sz.length ≤ cs ∧ cs ≤ maxLen := by have n := h.nums; have r := zR4 h.os (by omega); exact ⟨r.1, r.2.1⟩
theorem TR.hcb (h : TR TI TB TL w ads adb adh cs cb ch sz wl kb) : 8 * wl.length ≤ cb ∧ cb ≤ maxLen := by have n := h.nums; have r := zR4 h.ob (by omega); exact ⟨r.1, r.2.1⟩
theorem TR.hch (h : TR TI TB TL w ads adb adh cs cb ch sz wl kb) : chunksM sz ≤ ch ∧ ch ≤ maxLen := by have n := h.nums; have r := zR4 h.oh (by omega); exact ⟨r.1, r.2.1⟩
theorem TR.rs (h : TR TI TB TL w ads adb adh cs cb ch sz wl kb) : RowAt w 1 ads sz.length (sz.map (.int .i64)) := by have n := h.nums; exact (zR4 h.os (by omega)).2.2
theorem TR.rb (h : TR TI TB TL w ads adb adh cs cb ch sz wl kb) : RowAt w 1 adb (8 * wl.length) ((wl.flatMap byt8).map (.int .u8)) := by have n := h.nums; exact (zR4 h.ob (by omega)).2.2
theorem TR.rh (h : TR TI TB TL w ads adb adh cs cb ch sz wl kb) : RowAt w 1 adh (chunksM sz) ((List.range (chunksM sz)).map fun c => .bool (bitQ kb c)) := by have n := h.nums; exact (zR4 h.oh (by omega)).2.2
end
theorem qZ2 (n : Nat) : (List.replicate n (0 : Int)).flatMap byt8 = List.replicate (8 * n) 0 := by
  induction n with
  | zero => rfl
  | succ n ih => rw [List.replicate_succ, List.flatMap_cons, ih, show 8 * (n + 1) = 8 + 8 * n from by omega, ← List.replicate_append_replicate]; rfl
theorem qN9 : ∀ (ys : List Int) (j : Nat), isB ys → j < ys.length → byt1 (getP ys) j = ys.getD j 0
  | [], j, _, h => by simp at h
  | y :: ys, 0, hb, _ => by
    have h1 := hb y (by simp)
    simp only [inR] at h1
    simp only [byt1, getP, List.getD_cons_zero, Nat.mul_zero, Int.pow_zero, Int.ediv_one]
    omega
  | y :: ys, j + 1, hb, h => by
    have h1 := hb y (by simp)
    simp only [inR] at h1
    have ih := qN9 ys j (fun x hx => hb x (by simp [hx])) (by simpa using h)
    rw [List.getD_cons_succ, ← ih]
    unfold byt1
    rw [getP, show 8 * (j + 1) = 8 + 8 * j from by omega, Int.pow_add, ← Int.ediv_ediv_of_nonneg (by decide), show (2 : Int) ^ 8 = 256 from by decide, show (y + 256 * getP ys) / 256 = getP ys from by omega]
theorem qJ2 {xs : List Int} (hb : isB xs) (h8 : xs.length % 8 = 0) : (chunksP xs).flatMap byt8 = xs := by
  have hl := zR3 xs
  have hf := zL3 (chunksP xs)
  refine List.ext_getElem? fun i => ?_
  by_cases hi : i < xs.length
  · have hc : i / 8 < (chunksP xs).length := by omega
    rw [qM9 _ i (by omega), zG0 hc]
    simp only [chunksP, List.getElem_map, List.getElem_range, chunkP]
    have hyl : ((xs.drop (8 * (i / 8))).take 8).length = 8 := by rw [List.length_take, List.length_drop]; omega
    rw [qN9 _ _ (fun x hx => hb x (List.mem_of_mem_drop (List.mem_of_mem_take hx))) (by omega), List.getD_eq_getElem?_getD, List.getElem?_take_of_lt (by omega), List.getElem?_drop, show 8 * (i / 8) + i % 8 = i from by omega, List.getElem?_eq_getElem hi]
    rfl
  · rw [List.getElem?_eq_none (by omega), List.getElem?_eq_none (by omega)]
theorem yK1 {sz : List Int} {m n : Nat} (h : (n : Int) = sizeM sz m) (hm : m < chunksM sz) : n % 8 = 0 := by
  unfold sizeM at h
  rw [if_neg (by omega)] at h
  omega
theorem yF4 {wl xs : List Int} {m : Nat} (hb : isB xs) (h8 : xs.length % 8 = 0) : (ovl wl (8 * m) (chunksP xs)).flatMap byt8 = (wl.flatMap byt8).take (64 * m) ++ xs ++ (wl.flatMap byt8).drop (64 * m + xs.length) := by
  unfold ovl
  have hl := zR3 xs
  rw [List.flatMap_append, List.flatMap_append, qJ2 hb h8, show 64 * m = 8 * (8 * m) from by omega, zU9, show 8 * (8 * m) + xs.length = 8 * (8 * m + (chunksP xs).length) from by omega, zY5]
theorem yM9 {n m : Nat} {kb kb' : List Int} (h : ∀ c, bitQ kb' c = (decide (c = m) || bitQ kb c)) (hm : m < n) : (List.range n).map (fun c => Value.bool (bitQ kb' c)) = ((List.range n).map fun c => Value.bool (bitQ kb c)).set m (.bool true) := by
  refine List.ext_getElem (by simp) fun i h1 h2 => ?_
  rw [List.getElem_set]
  simp only [List.getElem_map, List.getElem_range]
  by_cases hi : m = i
  · subst hi; rw [if_pos rfl, h]; simp
  · rw [if_neg hi, h]; simp [Ne.symm hi]
theorem yN0 : ∀ n : _root_.Fin 256, ∀ k : _root_.Fin 8, ((n : Nat) : Int) / 2 ^ (k : Nat) % 2 ≠ 1 → orB ((n : Nat) : Int) (k : Nat) = ((n : Nat) : Int) + IntKind.u8.wrap (1 * 2 ^ (k : Nat)) ∧ ((n : Nat) : Int) + IntKind.u8.wrap (1 * 2 ^ (k : Nat)) ≤ 255 ∧ 0 ≤ IntKind.u8.wrap (1 * 2 ^ (k : Nat)) := by decide +kernel
theorem yN1 {x : Int} {k : Nat} (h0 : 0 ≤ x) (h1 : x ≤ 255) (hk : k < 8) (hb : ¬ x / 2 ^ k % 2 = 1) : orB x k = x + IntKind.u8.wrap (1 * 2 ^ k) ∧ x + IntKind.u8.wrap (1 * 2 ^ k) ≤ 255 ∧ 0 ≤ IntKind.u8.wrap (1 * 2 ^ k) := by
  have h := yN0 ⟨x.toNat, by omega⟩ ⟨k, hk⟩
  simp only [Int.toNat_of_nonneg h0] at h
  exact h hb
/-! ### the arena that words are cut into -/
theorem qG3 : ∀ (sz wl : List Int), (∀ x ∈ sz, 0 ≤ x) → sumL sz = (wl.length : Int) → sizesP (cutW sz wl) = sz ∧ (cutW sz wl).flatten = wl
  | [], wl, _, h => by
    simp only [sumL] at h
    have : wl = [] := List.eq_nil_of_length_eq_zero (by omega)
    subst this
    exact ⟨rfl, rfl⟩
  | n :: sz, wl, hn, h => by
    simp only [sumL] at h
    have h0 := hn n (by simp)
    have hs := zX9 (sz := sz) fun x hx => hn x (by simp [hx])
    obtain ⟨h1, h2⟩ := qG3 sz (wl.drop n.toNat) (fun x hx => hn x (by simp [hx])) (by rw [List.length_drop]; omega)
    rw [cutW]
    refine ⟨?_, by rw [List.flatten_cons, h2, List.take_append_drop]⟩
    show ((wl.take n.toNat).length : Int) :: sizesP (cutW sz (wl.drop n.toNat)) = n :: sz
    rw [h1, List.length_take]
    congr 1
    omega
theorem zY6 {sz wl : List Int} (hf : fitsL sz = true) (hl : wl.length = wordsM sz) : sizesP (cutW sz wl) = sz ∧ (cutW sz wl).flatten = wl ∧ rightB (cutW sz wl) = true := by
  have h1 := zF4 hf
  have h2 := zG2 hf
  obtain ⟨h3, h4⟩ := qG3 sz wl h2.2.2.2.1 (by omega)
  exact ⟨h3, h4, by rw [← zN4, h3]; exact hf⟩
theorem yF5 {sz wl kb : List Int} (hf : fitsL sz = true) (hl : wl.length = wordsM sz) (seg a : Int) :
    ((wordA (cutW sz wl) seg a).2 ≠ 0 ∧ srcW sz wl kb seg a = wordA (cutW sz wl) seg a) ∨ ∃ k : Nat, (wordA (cutW sz wl) seg a).2 = 0 ∧ placeM sz seg a = (k : Int) ∧ k < wordsM sz ∧ srcW sz wl kb seg a = if bitQ kb (k / 8) = true then wordA (cutW sz wl) seg a else (0, 30) := by
  obtain ⟨h1, h2, h3⟩ := zY6 hf hl
  have hp := qS2 h3 seg a
  rw [h1, h2] at hp
  unfold srcW
  rcases hp with ⟨g1, g2⟩ | ⟨k, g1, g2, g3⟩
  · left; rw [if_pos g1, g2]; exact ⟨by decide, rfl⟩
  · right
    refine ⟨k, by rw [g3], g1, by omega, ?_⟩
    rw [if_neg (by omega), show (placeM sz seg a).toNat = k from by omega, g3]
theorem yK2 {kb zb : List Int} {n : Nat} (h1 : isB kb) (h2 : isB zb) (hl : zb.length = kb.length) (low : ∀ c, bitQ kb c = true → c < n) (h : ∀ c, bitQ zb c = (decide (c < n) && bitQ kb c)) : zb = kb := by
  refine yH7 h2 h1 hl fun c => ?_
  rw [h]
  cases hb : bitQ kb c with
  | false => simp
  | true => simp [low c hb]
theorem yF6 {kb zb zb' : List Int} {j : Nat} (h : ∀ c, bitQ zb c = (decide (c < j) && bitQ kb c)) (h2 : ∀ c, bitQ zb' c = (decide (c = j) || bitQ zb c)) (hj : bitQ kb j = true) : ∀ c, bitQ zb' c = (decide (c < j + 1) && bitQ kb c) := fun c => by
  rw [h2, h]
  by_cases hc : c = j
  · subst hc; simp [hj]
  · rw [decide_eq_false hc, Bool.false_or]
    congr 1
    exact decide_eq_decide.2 (by omega)
theorem qZ3 {kb zb : List Int} {j : Nat} (h : ∀ c, bitQ zb c = (decide (c < j) && bitQ kb c)) (hj : bitQ kb j = false) : ∀ c, bitQ zb c = (decide (c < j + 1) && bitQ kb c) := fun c => by
  rw [h]
  by_cases hc : c = j
  · subst hc; simp [hj]
  · congr 1
    exact decide_eq_decide.2 (by omega)
theorem yK3 {wl : List Int} {s j : Nat} (h : s + j < wl.length) : (wl.drop s).take (j + 1) = (wl.drop s).take j ++ [wl.getD (s + j) 0] := by
  rw [List.take_add_one, List.getElem?_drop, List.getElem?_eq_getElem h, zG0 h]
  rfl
theorem qZ4 {sz wl : List Int} (hf : fitsL sz = true) (hl : wl.length = wordsM sz) : ∀ s ∈ cutW sz wl, s.length ≤ 4096 := fun s hs => by
  obtain ⟨i, hi, rfl⟩ := List.getElem_of_mem hs
  have h1 := zL4 (cutW sz wl) i
  rw [(zY6 hf hl).1, len2, zG0 hi] at h1
  have := zH7 hf i
  omega
theorem yK4 (n m : Nat) : (List.range n).map (fun c => Value.bool (bitQ (List.replicate m 0) c)) = List.replicate n (.bool false) := by
  refine List.ext_getElem (by simp) fun i h1 h2 => ?_
  simp only [List.getElem_map, List.getElem_range, List.getElem_replicate, yE4]
theorem qD9 {w : World} {v : Value} {sz wl kb : List Int} (h1 : wholeB sz kb = true → ArenaR w v (cutW sz wl)) (h2 : wholeB sz kb = false → ArenaR w v []) : ArenaR w v (if wholeB sz kb then cutW sz wl else []) := by
  cases hb : wholeB sz kb with
  | true => exact h1 hb
  | false => exact h2 hb
section
variable {TP TI TW TB T : TypeId} {w w' : World} {base b g h x : Nat} {ses sum : Int} {sz wl kb : List Int} {cs : Array Value} {fr : Nat × Nat}
theorem PartR.apart (H : PartR TP TI TW TB w base b g h ses sum sz wl kb) (hc : w.heap[x]? = some (.cells cs T fr)) (h1 : T ≠ TP) (h2 : T ≠ TW) : x ∉ [b, g] := by
  obtain ⟨cg, hg⟩ := H.words
  obtain ⟨-, -, -, -, -, -, ads, c1, c2, c3, hB, -⟩ := H
  intro hm
  simp only [List.mem_cons, List.not_mem_nil, or_false] at hm
  rcases hm with rfl | rfl
  · rw [hc] at hB; simp only [Option.some.injEq, Obj.cells.injEq] at hB; exact h1 hB.2.1
  · rw [hc] at hg; simp only [Option.some.injEq, Obj.cells.injEq] at hg; exact h2 hg.2.1
theorem PartR.upd (H : PartR TP TI TW TB w base b g h ses sum sz wl kb) (u : Upd x w w') (hc : w.heap[x]? = some (.cells cs T fr)) (h1 : T ≠ TP) (h2 : T ≠ TW) (h3 : T ≠ TB) (h4 : TI ≠ T) : PartR TP TI TW TB w' base b g h ses sum sz wl kb := by
  have ha := H.apart hc h1 h2
  obtain ⟨ch, hh⟩ := H.known
  refine H.keep (Kp.of_upd u (List.mem_singleton.2 rfl)) fun y hy => ?_
  simp only [List.mem_singleton] at hy
  subst hy
  simp only [List.mem_cons, List.not_mem_nil, or_false, not_or] at ha
  refine ⟨ha.1, ha.2, fun he => ?_, _, _, _, hc, h4⟩
  rw [he, hh] at hc
  simp only [Option.some.injEq, Obj.cells.injEq] at hc
  exact h3 hc.2.1.symm
theorem TR.kp {TL : TypeId} {ads adb adh : Option Addr} {c1 c2 c3 : Nat} {ses2 sum2 : Int} {sz2 wl2 kb2 : List Int} (Y : TR TI TB TL w ads adb adh c1 c2 c3 sz wl kb) (H : PartR TP TI TW TB w base b g h ses2 sum2 sz2 wl2 kb2) (k : Kp [b, g] w w') (h1 : TI ≠ TP) (h2 : TI ≠ TW) (h3 : TB ≠ TP) (h4 : TB ≠ TW) (h5 : TL ≠ TP) (h6 : TL ≠ TW) : TR TI TB TL w' ads adb adh c1 c2 c3 sz wl kb := by
  obtain ⟨cg, hg⟩ := H.words
  obtain ⟨-, -, -, -, -, -, ads2, d1, d2, d3, hB, -⟩ := H
  have key : ∀ {T3 : TypeId} {v : Value} {n : Nat} {xs : List Value}, w.ownsRow 0 T3 1 v n xs → T3 ≠ TP → T3 ≠ TW → w'.ownsRow 0 T3 1 v n xs := fun o a1 a2 => zP9 o k fun q hq hm => by
    simp only [List.mem_cons, List.not_mem_nil, or_false] at hm
    rcases hm with rfl | rfl
    · exact zE7 o hB a1 hq
    · exact zE7 o hg a2 hq
  exact ⟨Y.fit, Y.lw, Y.lk, Y.ub, Y.uw, Y.low, key Y.os h1 h2, key Y.ob h3 h4, key Y.oh h5 h6⟩
theorem RowAt.keepF {F : List Nat} {n : Nat} {ad : Option Addr} {xs : List Value} (R : RowAt w 1 ad n xs) (k : Kp F w w') (h : 0 < n → ∀ q o, ad = some ⟨q, o, none⟩ → q ∉ F) : RowAt w' 1 ad n xs :=
  ⟨R.len, R.lim, fun hn => by
    obtain ⟨b, o, cs, T, fr, rfl, hb, hx⟩ := R.at_ hn
    exact ⟨b, o, cs, T, fr, rfl, k.heap hb (h hn b o rfl), hx⟩⟩
end
end Go.Proofs.YtifhcfhdajkhlaaGreat.K

namespace Go.Proofs.YtifhcfhdajkhlaaGreat.K
open Go Go.RowKit Go.Proofs
attribute [local irreducible] Run1 OpG WL W AO Gives
set_option maxRecDepth 100000 in
theorem qO0 (w : World) {a : Int} (h0 : 0 ≤ a) (h1 : a ≤ 9007199254740992) : Gives Tryz.prog 117 #[.int .i64 a, .int .i64 8] w (.int .i64 ((a + 7) / 8)) := by
 have G := Grow.rfl' w
 refine zC7 Tryz.func117 Tryz.ntmps117 Tryz.results117 rfl rfl ?_
 refine zA6 (zA1 rfl ?_)
 refine stp (zA0 rfl ?_)
 refine zA4 ?_
 refine zA6 ?_
 refine zA6 (zA1 rfl ?_)
 refine stp (zA2 rfl ?_)
 refine stp (zM5 rfl rfl (by omega) ?_)
 refine stp (zB6 (v := .bool false) rfl ?_)
 refine stp (zA2 rfl ?_)
 refine stp (qP7 rfl rfl (by omega) ?_)
 refine stp (zG8 (v := .bool false) rfl rfl rfl ?_)
 refine stp (zB6 (v := .bool false) rfl ?_)
 refine stp (zA2 rfl ?_)
 refine stp (zM5 rfl rfl (by decide) ?_)
 refine stp (zG8 (v := .bool false) rfl rfl rfl ?_)
 refine stp (zB6 (v := .bool false) rfl ?_)
 refine stp (zA2 rfl ?_)
 refine stp (qP7 rfl rfl (by decide) ?_)
 refine stp (zG8 (v := .bool false) rfl rfl rfl ?_)
 refine zA4 ?_
 refine zI8 rfl ?_
 refine zC3 ?_
 refine zA6 (zA1 rfl ?_)
 refine stp (zA2 rfl ?_)
 refine stp (zA2 rfl ?_)
 refine stp (zK3 rfl rfl ?_ ?_ ?_ ?_); omega; omega; (constructor <;> omega)
 refine stp (zA0 rfl ?_)
 refine zA4 ?_
 refine zA6 ?_
 refine zA6 (zA1 rfl ?_)
 refine stp (zA2 rfl ?_)
 refine stp (zA2 rfl ?_)
 refine stp (zL5 rfl rfl ?_ ?_); constructor <;> omega
 refine stp (zA2 rfl ?_)
 refine stp (zF9 rfl rfl ?_)
 refine zA4 ?_
 refine zB8 (b := (decide (((a / 8) * 8) < a))) rfl (fun h2 => ?_) (fun h2 => ?_)
 ·-- true
  replace h2 := of_decide_eq_true h2
  refine zA1 rfl ?_
  refine stp (zA2 rfl ?_)
  refine stp (zD8 rfl rfl ?_ ?_); constructor <;> omega
  refine stp (zA0 rfl ?_)
  refine zA4 ?_
  refine zA6 (zA1 rfl ?_)
  refine stp (zA2 rfl ?_)
  refine stp (zA0 rfl ?_)
  refine zA4 ?_
  refine zC4 ?_
  refine ret1 (zB3 (v := .int .i64 ((a / 8) + 1)) rfl) ⟨?_, G⟩
  rw [show a / 8 + 1 = (a + 7) / 8 from by omega]
 ·-- false
  replace h2 := of_decide_eq_false h2
  refine zC3 ?_
  refine zA6 (zA1 rfl ?_)
  refine stp (zA2 rfl ?_)
  refine stp (zA0 rfl ?_)
  refine zA4 ?_
  refine zC4 ?_
  refine ret1 (zB3 (v := .int .i64 (a / 8)) rfl) ⟨?_, G⟩
  rw [show a / 8 = (a + 7) / 8 from by omega]

set_option maxRecDepth 100000 in
theorem qO1 (w : World) {n : Nat} (hn : n ≤ 65536) : Calls Tryz.prog 88 #[.int .i64 (n : Int)] w (Ret fun v w' => ∃ b, v = .slice (some ⟨b, 0, none⟩) ((n + 7) / 8) ((n + 7) / 8) ∧ w'.ownsRow w.heap.size 5 1 (.slice (some ⟨b, 0, none⟩) ((n + 7) / 8) ((n + 7) / 8)) ((n + 7) / 8) ((List.replicate ((n + 7) / 8) (0 : Int)).map (.int .u8)) ∧ Grow w w') := by
 have G := Grow.rfl' w
 refine zE3 Tryz.func88 Tryz.ntmps88 Tryz.results88 rfl rfl ?_
 refine zA6 (zA1 rfl ?_)
 refine stp (zB0 rfl ?_)
 refine zA4 ?_
 refine zA6 (zA1 rfl ?_)
 refine stp (zA2 rfl ?_)
 refine zA3 (og rfl ?_)
 refine zT7 rfl rfl rfl ?_
 rw [if_neg (by omega)]
 refine zA3 (og rfl ?_)
 refine qP9 rfl rfl rfl ?_
 rw [show (if (n : Int) > 0 then (n : Int) else 0) = (n : Int) from by split <;> omega]
 refine stp (zC0 (v := .int .i64 (((n + 7) / 8 : Nat) : Int)) rfl (zH3 (qO0 _ (by omega) (by omega)) (y := .int .i64 (((n + 7) / 8 : Nat) : Int)) (by congr 1 <;> omega)) ?_)
 intro w1 g2
 replace G := G.tr g2
 clear g2
 refine stp (zY9 (n := ((n + 7) / 8)) (base := w.heap.size) rfl rfl (by first | omega | (simp only [maxLen]; omega)) (by first | omega | (simp only [maxLen]; omega)) G.size ?_)
 intro bm6 w3 hb4 own7 g5
 rw [show (madeCells (Value.cells (.int .u8 0 : Value)) (((n + 7) / 8) * 1)).toList = List.replicate ((n + 7) / 8) (.int .u8 0) from by rw [Nat.mul_one]; exact toList_madeCells_one _ _] at own7
 replace G := G.tr g5
 clear g5
 refine stp (zB0 rfl ?_)
 refine zA4 ?_
 refine zC4 ?_
 refine ret1 (zB3 (v := .slice (some ⟨bm6, 0, none⟩) ((n + 7) / 8) ((n + 7) / 8)) rfl) ⟨bm6, rfl, by rw [List.map_replicate]; exact own7, G⟩

set_option maxRecDepth 100000 in
theorem qS3 (w : World) {ad : Option Addr} {c : Nat} {xs : List Int} (hc : xs.length ≤ c) (hc2 : c ≤ maxLen) (R : RowAt w 1 ad xs.length (xs.map (.int .u8))) (hx : isB xs) {i : Nat} (hi : i / 8 < xs.length) (hl : xs.length ≤ 100000) (hb : bitQ xs i = false) : Calls Tryz.prog 89 #[.slice ad xs.length c, .int .i64 (i : Int)] w (Ret fun v w' => ∃ ad' c', v = .slice ad' xs.length c' ∧ w'.ownsRow w.heap.size 5 1 (.slice ad' xs.length c') xs.length ((setQ xs i).map (.int .u8)) ∧ Grow w w') := by
 have hxi := hx.at_ (i / 8)
 have hob := yN1 (k := i % 8) hxi.1 hxi.2 (by omega) (by have h_ := hb; unfold bitQ at h_; simpa using h_)
 have G := Grow.rfl' w
 refine zE3 Tryz.func89 Tryz.ntmps89 Tryz.results89 rfl rfl ?_
 have own0 : w.ownsRow w.heap.size 5 1 (.slice none 0 0) 0 [] := World.ownsRow_nil _ _ _ _
 refine zA6 (zA1 rfl ?_)
 refine stp (zB0 rfl ?_)
 refine zA4 ?_
 refine zA6 (zA1 rfl ?_)
 refine stp (zB0 rfl ?_)
 refine zA4 ?_
 refine zA6 (zA1 rfl ?_)
 refine stp (zA7 rfl ?_)
 refine stp (zA7 rfl ?_)
 refine stp (zG4 rfl rfl rfl rfl (zC8 own0 G) ⟨_, _, rfl, hc, hc2, R.grow G⟩ (fun q_ hq_ => by obtain ⟨z_, -, rfl⟩ := List.mem_map.1 hq_; rfl) (by simp only [maxLen]; omega) (by omega) G.size ?_)
 intro v6 w6 own1 gr6
 replace G := G.grown gr6 (zI2 own0)
 rw [Nat.zero_add, List.nil_append] at own1
 obtain ⟨g5, c5, cur5, rfl, hg5b, hg5, hc51, hc52, hc53, hc54⟩ := zK1 own1 (by omega)
 obtain ⟨_, _, hs9, -, -, R5⟩ := zE2 own1 (by omega)
 cases hs9
 refine stp (zB0 rfl ?_)
 refine zA4 ?_
 refine zA6 ?_
 refine zA6 (zA1 rfl ?_)
 refine stp (zA2 rfl ?_)
 refine stp (qH0 rfl rfl (by omega) ?_)
 refine stp (zB6 (v := .bool true) rfl ?_)
 refine stp (zA2 rfl ?_)
 refine zA3 (og rfl ?_)
 refine zK3 rfl rfl ?_ ?_ ?_ ?_; omega; omega; (constructor <;> omega)
 rw [show (i : Int) / 8 = ((i / 8 : Nat) : Int) from by omega]
 refine stp (zA7 rfl ?_)
 refine stp (zE8 rfl rfl rfl ?_)
 refine stp (zR8 rfl rfl (by omega) ?_)
 refine stp (zG7 (v := .bool true) rfl rfl rfl ?_)
 refine stp (zB6 (v := .bool true) rfl ?_)
 refine stp (zA7 rfl ?_)
 refine stp (zA2 rfl ?_)
 refine stp (zC0 (v := .bool false) rfl (zH3 (zW8 _ (R.grow G) hx (i := i) (by omega)) (y := .bool false) (by rw [hb])) ?_)
 intro w1 g2
 replace own1 := zC8 own1 g2
 replace hg5 := g2.heap hg5
 replace R5 := R5.grow g2
 replace G := G.tr g2
 clear g2
 refine stp (qB6 rfl rfl ?_)
 refine stp (zG7 (v := .bool true) rfl rfl rfl ?_)
 refine zA4 ?_
 refine zP2 rfl ?_
 refine zA1 rfl ?_
 refine stp (zA7 rfl ?_)
 refine stp (zA2 rfl ?_)
 refine zA3 (og rfl ?_)
 refine zK3 rfl rfl ?_ ?_ ?_ ?_; omega; omega; (constructor <;> omega)
 rw [show (i : Int) / 8 = ((i / 8 : Nat) : Int) from by omega]
 refine stp (zD9 R5 rfl rfl ?_ ?_); omega
 refine stp (zD7 (v := .int .u8 (xs.getD (i / 8) 0)) (m := 0) R5 rfl (zE4 0 (by omega)) ?_)
 refine stp (zA2 rfl ?_)
 refine zA3 (og rfl ?_)
 refine zJ5 rfl rfl ?_ ?_ ?_; omega; omega
 rw [show (i : Int) % 8 = ((i % 8 : Nat) : Int) from by omega]
 refine stp (zF8 rfl ?_ ?_); constructor <;> omega
 refine zA3 (og rfl ?_)
 refine qP6 rfl rfl ?_ ?_; omega
 rw [show min ((i % 8 : Nat) : Int).toNat (IntKind.bits .u8) = i % 8 from by simp only [IntKind.bits]; omega]
 refine zA3 (og rfl ?_)
 refine zD8 rfl rfl ?_ ?_; constructor <;> omega
 rw [← hob.1]
 refine zA3 (og rfl ?_)
 refine zH9 (b := g5) (o := 0) rfl rfl (by omega) (by omega) ?_
 rw [Int.toNat_natCast, Nat.zero_add, Nat.mul_one]
 refine stn (zE0 (v := .int .u8 (orB (xs.getD (i / 8) 0) (i % 8))) rfl rfl rfl hg5 (Nat.ble_eq_true_of_le (by omega)) rfl ?_)
 intro w7 hs6 u7
 have o7 := zJ6 (i := i / 8) (x := .int .u8 (orB (xs.getD (i / 8) 0) (i % 8))) own1 hg5 hs6 (by simp)
 replace G := G.upd u7 hg5b
 rw [← List.map_set] at o7
 refine zA4 ?_
 refine zA6 (zA1 rfl ?_)
 refine stp (zA7 rfl ?_)
 refine stp (zB0 rfl ?_)
 refine zA4 ?_
 refine zC4 ?_
 refine ret1 (zB3 (v := .slice (some ⟨g5, 0, none⟩) xs.length c5) rfl) ⟨_, c5, rfl, o7, G⟩
end Go.Proofs.YtifhcfhdajkhlaaGreat.K

namespace Go.Proofs.YtifhcfhdajkhlaaGreat.K
open Go Go.RowKit Go.Proofs
attribute [local irreducible] Run1 OpG WL W AO Gives
set_option maxRecDepth 100000 in
theorem qO2 (w : World) {ua uh : Value} {b : Bool} {A : List (List Int)} {s : Src} (H : SrcR Tryz.prog 110 w ua b uh A s) (o : Ob) (ho : ObR o) (k : Int) (k0 : 0 ≤ k) : Gives Tryz.prog 68 #[.agg #[ua, .bool b, uh], .agg #[.int .i64 o.kind, .int .i64 o.seg, .int .i64 o.at_, .int .i64 o.data, .int .i64 o.ptrs, .int .i64 o.size, .int .i64 o.count], .int .i64 k] w (.tuple #[.agg #[.int .i64 ((stepO s o k).1.kind), .int .i64 ((stepO s o k).1.seg), .int .i64 ((stepO s o k).1.at_), .int .i64 ((stepO s o k).1.data), .int .i64 ((stepO s o k).1.ptrs), .int .i64 ((stepO s o k).1.size), .int .i64 ((stepO s o k).1.count)], .int .i64 ((stepO s o k).2)]) := by
 obtain ⟨rk, rs, ra, rd, rp, rz, rc⟩ := ho
 have G := Grow.rfl' w
 refine zC7 Tryz.func68 Tryz.ntmps68 Tryz.results68 rfl rfl ?_
 refine zA6 (zA1 rfl ?_)
 refine zA3 (og rfl ?_)
 (first | refine zD0 rfl ?_ | refine zD2 rfl ?_ | refine zC5 rfl ?_ | refine zH0 rfl rfl ?_)
 intro b1 w2 hb3 hc4 g5
 have hge6 := Nat.le_trans G.size hb3
 replace G := G.tr g5
 clear g5 hb3
 refine zA3 (og rfl ?_)
 (first | refine zD0 rfl ?_ | refine zD2 rfl ?_ | refine zC5 rfl ?_ | refine zH0 rfl rfl ?_)
 intro b7 w8 hb9 hc10 g11
 have hge12 := Nat.le_trans G.size hb9
 replace hc4 := g11.heap hc4
 replace G := G.tr g11
 clear g11 hb9
 refine stp (zD3 ?_)
 intro b13 w14 hb15 hc16 g17
 refine stp (zA0 rfl ?_)
 refine zA4 ?_
 refine zA6 (zA1 rfl ?_)
 refine stp (zA5 rfl ?_)
 have hge18 := Nat.le_trans G.size hb15
 have ne19 := Nat.ne_of_lt (Nat.lt_of_lt_of_le (zA9 hc4) hb15)
 have ne20 := Nat.ne_of_lt (Nat.lt_of_lt_of_le (zA9 hc10) hb15)
 replace hc4 := g17.heap hc4
 replace hc10 := g17.heap hc10
 replace G := G.tr g17
 clear g17 hb15
 refine stp (zB5 (v := .int .i64 o.at_) rfl hc10 rfl ?_)
 refine stp (zA2 rfl ?_)
 refine stp (zI1 rfl rfl ?_)
 obtain ⟨at9, hat9⟩ : ∃ x, x = IntKind.i64.wrap (o.at_ + k) := ⟨_, rfl⟩
 rw [← hat9]
 refine stp (zA0 rfl ?_)
 refine zA4 ?_
 refine zA6 ?_
 refine zA6 (zA1 rfl ?_)
 refine stp (zA5 rfl ?_)
 refine stp (zB5 (v := .int .i64 o.kind) rfl hc10 rfl ?_)
 refine zA4 ?_
 refine zC6 ?_
 refine zA6 (zA1 rfl ?_)
 refine stp (zE9 rfl rfl ?_)
 refine stp (zC1 rfl ?_)
 refine zA4 ?_
 refine zB8 (b := (decide (o.kind = 0))) rfl (fun h1 => ?_) (fun h1 => ?_)
 ·-- true
  replace h1 := of_decide_eq_true h1
  refine zA6 (zA1 rfl ?_)
  refine stp (zD4 (v := .agg #[.int .i64 0, .int .i64 0, .int .i64 0, .int .i64 0, .int .i64 0, .int .i64 0, .int .i64 0]) (fun w => by kernel_rfl) ?_)
  refine stn (zB1 rfl rfl hc16 (by rfl) (by rfl) (by rfl) ?_)
  intro w21 hc22 u23
  replace hc4 := u23.heap hc4 ne19
  replace hc10 := u23.heap hc10 ne20
  replace G := G.upd u23 hge18
  clear u23 hc16
  refine stp (zA0 rfl ?_)
  refine zA4 ?_
  refine zC4 ?_
  have h8 : stepS s o k = (Ob0, 0) := by unfold stepS; rw [if_pos (.inl h1)]
  have h9 := qJ1 h8 (by simp)
  refine ret2 (zC9 rfl hc22 (by rfl)) (zB3 (v := .int .i64 0) rfl) ⟨?_, G⟩
  rw [h9]; rfl
 ·-- false
  replace h1 := of_decide_eq_false h1
  refine zA6 (zA1 rfl ?_)
  refine stp (zE9 rfl rfl ?_)
  refine stp (zC1 rfl ?_)
  refine zA4 ?_
  refine zB8 (b := (decide (o.kind = 1))) rfl (fun h2 => ?_) (fun h2 => ?_)
  ·-- true
   replace h2 := of_decide_eq_true h2
   refine zA6 ?_
   refine zA6 (zA1 rfl ?_)
   refine stp (zA2 rfl ?_)
   refine stp (zA5 rfl ?_)
   refine stp (zB5 (v := .int .i64 o.ptrs) rfl hc10 rfl ?_)
   refine stp (zL7 rfl rfl ?_)
   refine zA4 ?_
   refine zB8 (b := (decide (k ≥ o.ptrs))) rfl (fun h3 => ?_) (fun h3 => ?_)
   ·-- true
    replace h3 := of_decide_eq_true h3
    refine zA6 (zA1 rfl ?_)
    refine stp (zD4 (v := .agg #[.int .i64 0, .int .i64 0, .int .i64 0, .int .i64 0, .int .i64 0, .int .i64 0, .int .i64 0]) (fun w => by kernel_rfl) ?_)
    refine stn (zB1 rfl rfl hc16 (by rfl) (by rfl) (by rfl) ?_)
    intro w24 hc25 u26
    replace hc4 := u26.heap hc4 ne19
    replace hc10 := u26.heap hc10 ne20
    replace G := G.upd u26 hge18
    clear u26 hc16
    refine stp (zA0 rfl ?_)
    refine zA4 ?_
    refine zC4 ?_
    have h8 : stepS s o k = (Ob0, 0) := by unfold stepS; rw [if_pos (.inr ⟨h2, h3⟩)]
    have h9 := qJ1 h8 (by simp)
    refine ret2 (zC9 rfl hc25 (by rfl)) (zB3 (v := .int .i64 0) rfl) ⟨?_, G⟩
    rw [h9]; rfl
   ·-- false
    replace h3 := of_decide_eq_false h3
    have hat8 : at9 = o.at_ + k := by rw [hat9]; exact zK9 (by simp only [inR]; omega)
    have h8 : stepS s o k = (followS s o.seg (at9 + o.data)) := by unfold stepS; rw [if_neg (by omega), if_pos h2, hat8]
    have h9 := yF1 h8
    refine zC3 ?_
    refine zA1 rfl ?_
    refine stp (zA2 rfl ?_)
    refine stp (zA5 rfl ?_)
    refine stp (zB5 (v := .int .i64 o.data) rfl hc10 rfl ?_)
    refine stp (zD8 rfl rfl ?_ ?_); constructor <;> omega
    refine stp (zA0 rfl ?_)
    refine zA4 ?_
    refine zA6 (zA1 rfl ?_)
    refine stp (zB4 rfl hc4 (by rfl) ?_)
    refine stp (zA5 rfl ?_)
    refine stp (zB5 (v := .int .i64 o.seg) rfl hc10 rfl ?_)
    refine stp (zA2 rfl ?_)
    refine stp (zC0 (v := .tuple #[.agg #[.int .i64 ((followS s o.seg (at9 + o.data)).1.kind), .int .i64 ((followS s o.seg (at9 + o.data)).1.seg), .int .i64 ((followS s o.seg (at9 + o.data)).1.at_), .int .i64 ((followS s o.seg (at9 + o.data)).1.data), .int .i64 ((followS s o.seg (at9 + o.data)).1.ptrs), .int .i64 ((followS s o.seg (at9 + o.data)).1.size), .int .i64 ((followS s o.seg (at9 + o.data)).1.count)], .int .i64 ((followS s o.seg (at9 + o.data)).2)]) rfl (zR1 _ (H.grow G) o.seg (at9 + o.data) (by simp only [inR]; omega) (by simp only [inR]; omega)) ?_)
    intro w27 g28
    replace hc4 := g28.heap hc4
    replace hc10 := g28.heap hc10
    replace hc16 := g28.heap hc16
    replace G := G.tr g28
    clear g28
    refine stp (zB6 (v := .tuple #[.agg #[.int .i64 ((followS s o.seg (at9 + o.data)).1.kind), .int .i64 ((followS s o.seg (at9 + o.data)).1.seg), .int .i64 ((followS s o.seg (at9 + o.data)).1.at_), .int .i64 ((followS s o.seg (at9 + o.data)).1.data), .int .i64 ((followS s o.seg (at9 + o.data)).1.ptrs), .int .i64 ((followS s o.seg (at9 + o.data)).1.size), .int .i64 ((followS s o.seg (at9 + o.data)).1.count)], .int .i64 ((followS s o.seg (at9 + o.data)).2)]) rfl ?_)
    refine stp (zB2 (v := .agg #[.int .i64 ((followS s o.seg (at9 + o.data)).1.kind), .int .i64 ((followS s o.seg (at9 + o.data)).1.seg), .int .i64 ((followS s o.seg (at9 + o.data)).1.at_), .int .i64 ((followS s o.seg (at9 + o.data)).1.data), .int .i64 ((followS s o.seg (at9 + o.data)).1.ptrs), .int .i64 ((followS s o.seg (at9 + o.data)).1.size), .int .i64 ((followS s o.seg (at9 + o.data)).1.count)]) rfl rfl ?_)
    refine stp (zB2 (v := .int .i64 ((followS s o.seg (at9 + o.data)).2)) rfl rfl ?_)
    refine stp (zD3 ?_)
    intro b29 w30 hb31 hc32 g33
    refine stn (zB1 rfl rfl hc32 (by rfl) (by rfl) (by rfl) ?_)
    intro w34 hc35 u36
    have g37 := g33.upd u36 hb31
    have hge38 := Nat.le_trans G.size hb31
    have ne39 := Nat.ne_of_lt (Nat.lt_of_lt_of_le (zA9 hc4) hb31)
    have ne40 := Nat.ne_of_lt (Nat.lt_of_lt_of_le (zA9 hc10) hb31)
    have ne41 := Nat.ne_of_lt (Nat.lt_of_lt_of_le (zA9 hc16) hb31)
    replace hc4 := g37.heap hc4
    replace hc10 := g37.heap hc10
    replace hc16 := g37.heap hc16
    replace G := G.tr g37
    clear u36 g33 hb31 hc32
    refine stp (zA0 rfl ?_)
    refine zA4 ?_
    refine zA6 (zA1 rfl ?_)
    refine stp (zB4 rfl hc35 (by rfl) ?_)
    refine stp (zA2 rfl ?_)
    refine stn (zB1 rfl rfl hc16 (by rfl) (by rfl) (by rfl) ?_)
    intro w42 hc43 u44
    replace hc4 := u44.heap hc4 ne19
    replace hc10 := u44.heap hc10 ne20
    replace hc35 := u44.heap hc35 ne41.symm
    replace G := G.upd u44 hge18
    clear u44 hc16
    refine stp (zA0 rfl ?_)
    refine zA4 ?_
    refine zC4 ?_
    refine ret2 (zC9 rfl hc43 (by rfl)) (zB3 (v := .int .i64 ((followS s o.seg (at9 + o.data)).2)) rfl) ⟨?_, G⟩
    rw [h9]
  ·-- false
   replace h2 := of_decide_eq_false h2
   refine zA6 ?_
   refine zA6 (zA1 rfl ?_)
   refine stp (zA5 rfl ?_)
   refine stp (zB5 (v := .int .i64 o.size) rfl hc10 rfl ?_)
   refine stp (zI9 rfl rfl ?_)
   refine zA4 ?_
   refine zB8 (b := (decide (o.size ≠ 6))) rfl (fun h3 => ?_) (fun h3 => ?_)
   ·-- true
    replace h3 := of_decide_eq_true h3
    refine zA6 (zA1 rfl ?_)
    refine stp (zD4 (v := .agg #[.int .i64 0, .int .i64 0, .int .i64 0, .int .i64 0, .int .i64 0, .int .i64 0, .int .i64 0]) (fun w => by kernel_rfl) ?_)
    refine stn (zB1 rfl rfl hc16 (by rfl) (by rfl) (by rfl) ?_)
    intro w45 hc46 u47
    replace hc4 := u47.heap hc4 ne19
    replace hc10 := u47.heap hc10 ne20
    replace G := G.upd u47 hge18
    clear u47 hc16
    refine stp (zA0 rfl ?_)
    refine zA4 ?_
    refine zC4 ?_
    have h8 : stepS s o k = (o, 23) := by unfold stepS; rw [if_neg (by omega), if_neg h2, if_pos h3]
    have h9 := qJ1 h8 (by simp)
    refine ret2 (zC9 rfl hc46 (by rfl)) (zB3 (v := .int .i64 23) rfl) ⟨?_, G⟩
    rw [h9]; rfl
   ·-- false
    replace h3 := of_decide_eq_false h3
    refine zC3 ?_
    refine zA6 (zA1 rfl ?_)
    refine stp (zA2 rfl ?_)
    refine stp (zA5 rfl ?_)
    refine stp (zB5 (v := .int .i64 o.count) rfl hc10 rfl ?_)
    refine stp (zL7 rfl rfl ?_)
    refine zA4 ?_
    refine zB8 (b := (decide (k ≥ o.count))) rfl (fun h4 => ?_) (fun h4 => ?_)
    ·-- true
     replace h4 := of_decide_eq_true h4
     refine zA6 (zA1 rfl ?_)
     refine stp (zD4 (v := .agg #[.int .i64 0, .int .i64 0, .int .i64 0, .int .i64 0, .int .i64 0, .int .i64 0, .int .i64 0]) (fun w => by kernel_rfl) ?_)
     refine stn (zB1 rfl rfl hc16 (by rfl) (by rfl) (by rfl) ?_)
     intro w48 hc49 u50
     replace hc4 := u50.heap hc4 ne19
     replace hc10 := u50.heap hc10 ne20
     replace G := G.upd u50 hge18
     clear u50 hc16
     refine stp (zA0 rfl ?_)
     refine zA4 ?_
     refine zC4 ?_
     have h8 : stepS s o k = (o, 20) := by unfold stepS; rw [if_neg (by omega), if_neg h2, if_neg h3, if_pos h4]
     have h9 := qJ1 h8 (by simp)
     refine ret2 (zC9 rfl hc49 (by rfl)) (zB3 (v := .int .i64 20) rfl) ⟨?_, G⟩
     rw [h9]; rfl
    ·-- false
     replace h4 := of_decide_eq_false h4
     have hat8 : at9 = o.at_ + k := by rw [hat9]; exact zK9 (by simp only [inR]; omega)
     have h8 : stepS s o k = (followS s o.seg at9) := by unfold stepS; rw [if_neg (by omega), if_neg h2, if_neg h3, if_neg h4, hat8]
     have h9 := yF1 h8
     refine zC3 ?_
     refine zA6 (zA1 rfl ?_)
     refine stp (zB4 rfl hc4 (by rfl) ?_)
     refine stp (zA5 rfl ?_)
     refine stp (zB5 (v := .int .i64 o.seg) rfl hc10 rfl ?_)
     refine stp (zA2 rfl ?_)
     refine stp (zC0 (v := .tuple #[.agg #[.int .i64 ((followS s o.seg at9).1.kind), .int .i64 ((followS s o.seg at9).1.seg), .int .i64 ((followS s o.seg at9).1.at_), .int .i64 ((followS s o.seg at9).1.data), .int .i64 ((followS s o.seg at9).1.ptrs), .int .i64 ((followS s o.seg at9).1.size), .int .i64 ((followS s o.seg at9).1.count)], .int .i64 ((followS s o.seg at9).2)]) rfl (zR1 _ (H.grow G) o.seg at9 (by simp only [inR]; omega) (by simp only [inR]; omega)) ?_)
     intro w51 g52
     replace hc4 := g52.heap hc4
     replace hc10 := g52.heap hc10
     replace hc16 := g52.heap hc16
     replace G := G.tr g52
     clear g52
     refine stp (zB6 (v := .tuple #[.agg #[.int .i64 ((followS s o.seg at9).1.kind), .int .i64 ((followS s o.seg at9).1.seg), .int .i64 ((followS s o.seg at9).1.at_), .int .i64 ((followS s o.seg at9).1.data), .int .i64 ((followS s o.seg at9).1.ptrs), .int .i64 ((followS s o.seg at9).1.size), .int .i64 ((followS s o.seg at9).1.count)], .int .i64 ((followS s o.seg at9).2)]) rfl ?_)
     refine stp (zB2 (v := .agg #[.int .i64 ((followS s o.seg at9).1.kind), .int .i64 ((followS s o.seg at9).1.seg), .int .i64 ((followS s o.seg at9).1.at_), .int .i64 ((followS s o.seg at9).1.data), .int .i64 ((followS s o.seg at9).1.ptrs), .int .i64 ((followS s o.seg at9).1.size), .int .i64 ((followS s o.seg at9).1.count)]) rfl rfl ?_)
     refine stp (zB2 (v := .int .i64 ((followS s o.seg at9).2)) rfl rfl ?_)
     refine stp (zD3 ?_)
     intro b53 w54 hb55 hc56 g57
     refine stn (zB1 rfl rfl hc56 (by rfl) (by rfl) (by rfl) ?_)
     intro w58 hc59 u60
     have g61 := g57.upd u60 hb55
     have hge62 := Nat.le_trans G.size hb55
     have ne63 := Nat.ne_of_lt (Nat.lt_of_lt_of_le (zA9 hc4) hb55)
     have ne64 := Nat.ne_of_lt (Nat.lt_of_lt_of_le (zA9 hc10) hb55)
     have ne65 := Nat.ne_of_lt (Nat.lt_of_lt_of_le (zA9 hc16) hb55)
     replace hc4 := g61.heap hc4
     replace hc10 := g61.heap hc10
     replace hc16 := g61.heap hc16
     replace G := G.tr g61
     clear u60 g57 hb55 hc56
     refine stp (zA0 rfl ?_)
     refine zA4 ?_
     refine zA6 (zA1 rfl ?_)
     refine stp (zB4 rfl hc59 (by rfl) ?_)
     refine stp (zA2 rfl ?_)
     refine stn (zB1 rfl rfl hc16 (by rfl) (by rfl) (by rfl) ?_)
     intro w66 hc67 u68
     replace hc4 := u68.heap hc4 ne19
     replace hc10 := u68.heap hc10 ne20
     replace hc59 := u68.heap hc59 ne65.symm
     replace G := G.upd u68 hge18
     clear u68 hc16
     refine stp (zA0 rfl ?_)
     refine zA4 ?_
     refine zC4 ?_
     refine ret2 (zC9 rfl hc67 (by rfl)) (zB3 (v := .int .i64 ((followS s o.seg at9).2)) rfl) ⟨?_, G⟩
     rw [h9]

set_option maxRecDepth 100000 in
theorem qO3 (w : World) {ua uh : Value} {b : Bool} {A : List (List Int)} {s : Src} (H : SrcR Tryz.prog 110 w ua b uh A s) (o : Ob) (ho : ObR o) (k : Int) (k0 : 0 ≤ k) (k1 : k ≤ 9223372036854775807) : Gives Tryz.prog 107 #[.agg #[ua, .bool b, uh], .agg #[.int .i64 o.kind, .int .i64 o.seg, .int .i64 o.at_, .int .i64 o.data, .int .i64 o.ptrs, .int .i64 o.size, .int .i64 o.count], .int .i64 k] w (.tuple #[.int .u64 ((atS s o k).1), .int .i64 ((atS s o k).2)]) := by
 obtain ⟨rk, rs, ra, rd, rp, rz, rc⟩ := ho
 have G := Grow.rfl' w
 refine zC7 Tryz.func107 Tryz.ntmps107 Tryz.results107 rfl rfl ?_
 refine zA6 (zA1 rfl ?_)
 refine zA3 (og rfl ?_)
 (first | refine zD0 rfl ?_ | refine zD2 rfl ?_ | refine zC5 rfl ?_ | refine zH0 rfl rfl ?_)
 intro b1 w2 hb3 hc4 g5
 have hge6 := Nat.le_trans G.size hb3
 replace G := G.tr g5
 clear g5 hb3
 refine zA3 (og rfl ?_)
 (first | refine zD0 rfl ?_ | refine zD2 rfl ?_ | refine zC5 rfl ?_ | refine zH0 rfl rfl ?_)
 intro b7 w8 hb9 hc10 g11
 have hge12 := Nat.le_trans G.size hb9
 replace hc4 := g11.heap hc4
 replace G := G.tr g11
 clear g11 hb9
 refine stp (zA0 rfl ?_)
 refine stp (zA0 rfl ?_)
 refine zA4 ?_
 refine zA6 ?_
 refine zA6 (zA1 rfl ?_)
 refine stp (zA5 rfl ?_)
 refine stp (zB5 (v := .int .i64 o.kind) rfl hc10 rfl ?_)
 refine stp (zE9 rfl rfl ?_)
 refine stp (zB9 rfl ?_)
 refine zA3 (zC2 (s := .bool (decide (o.kind = 0))) (b := false) (v := .pointer (some ⟨b7, 0, none⟩)) rfl (zD1 _) (fun hc13 => ?_) ?_)
 ·
  have hc13_ := hc13
  try simp only [sb] at hc13_
  refine zA5 rfl ?_
  exact ⟨rfl, rfl⟩
 refine zA3 (zC2 (s := .bool (decide (o.kind = 0))) (b := false) (v := .int .i64 o.kind) rfl (zD1 _) (fun hc14 => ?_) ?_)
 ·
  have hc14_ := hc14
  try simp only [sb] at hc14_
  refine zB5 (v := .int .i64 o.kind) (gvt hc14) hc10 rfl ?_
  exact ⟨rfl, rfl⟩
 refine zA3 (zC2 (s := .bool (decide (o.kind = 0))) (b := false) (v := .bool (decide (o.kind = 1))) rfl (zD1 _) (fun hc15 => ?_) ?_)
 ·
  have hc15_ := hc15
  try simp only [sb] at hc15_
  refine zE9 (gvt hc15) rfl ?_
  exact ⟨rfl, rfl⟩
 refine zA3 (zC2 (s := .bool (decide (o.kind = 0))) (b := false) (v := .bool (decide (o.kind = 1))) rfl (zD1 _) (fun hc16 => ?_) ?_)
 ·
  have hc16_ := hc16
  try simp only [sb] at hc16_
  refine zB6 (v := .bool (decide (o.kind = 1))) (gvt hc16) ?_
  exact ⟨rfl, rfl⟩
 refine zA3 (zC2 (s := gv (!(decide (o.kind = 0))) (.bool (decide (o.kind = 1)))) (b := true) (v := .int .i64 k) rfl (zK4 _ _) (fun hc17 => ?_) ?_)
 ·
  obtain ⟨hc17a, hc17b⟩ := and_t hc17
  have hc17a_ := hc17a
  try simp only [sb] at hc17a_
  have hc17b_ := of_decide_eq_true hc17b
  refine zA2 rfl ?_
  exact ⟨rfl, rfl⟩
 refine zA3 (zC2 (s := gv (!(decide (o.kind = 0))) (.bool (decide (o.kind = 1)))) (b := true) (v := .pointer (some ⟨b7, 3, none⟩)) rfl (zK4 _ _) (fun hc18 => ?_) ?_)
 ·
  obtain ⟨hc18a, hc18b⟩ := and_t hc18
  have hc18a_ := hc18a
  try simp only [sb] at hc18a_
  have hc18b_ := of_decide_eq_true hc18b
  refine zA5 rfl ?_
  exact ⟨rfl, rfl⟩
 refine zA3 (zC2 (s := gv (!(decide (o.kind = 0))) (.bool (decide (o.kind = 1)))) (b := true) (v := .int .i64 o.data) rfl (zK4 _ _) (fun hc19 => ?_) ?_)
 ·
  obtain ⟨hc19a, hc19b⟩ := and_t hc19
  have hc19a_ := hc19a
  try simp only [sb] at hc19a_
  have hc19b_ := of_decide_eq_true hc19b
  refine zB5 (v := .int .i64 o.data) (gvt hc19) hc10 rfl ?_
  exact ⟨rfl, rfl⟩
 refine zA3 (zC2 (s := gv (!(decide (o.kind = 0))) (.bool (decide (o.kind = 1)))) (b := true) (v := .bool (decide (k ≥ o.data))) rfl (zK4 _ _) (fun hc20 => ?_) ?_)
 ·
  obtain ⟨hc20a, hc20b⟩ := and_t hc20
  have hc20a_ := hc20a
  try simp only [sb] at hc20a_
  have hc20b_ := of_decide_eq_true hc20b
  refine zL7 (gvt hc20) (gvt hc20) ?_
  exact ⟨rfl, rfl⟩
 refine zA3 (zC2 (s := .bool (decide (o.kind = 0))) (b := false) (v := .bool ((decide (o.kind = 1)) && (decide (k ≥ o.data)))) rfl (zD1 _) (fun hc21 => ?_) ?_)
 ·
  have hc21_ := hc21
  try simp only [sb] at hc21_
  refine zZ3 hc21 (gvt hc21) rfl rfl ?_
  exact ⟨rfl, rfl⟩
 refine stp (zI6 rfl rfl rfl ?_)
 refine zA4 ?_
 refine zB8 (b := ((decide (o.kind = 0)) || ((decide (o.kind = 1)) && (decide (k ≥ o.data))))) rfl (fun h1 => ?_) (fun h1 => ?_)
 ·-- true
  simp only [sb] at h1
  refine zA6 (zA1 rfl ?_)
  refine stp (zA0 rfl ?_)
  refine stp (zA0 rfl ?_)
  refine zA4 ?_
  refine zC4 ?_
  refine ret2 (zB3 (v := .int .u64 0) rfl) (zB3 (v := .int .i64 0) rfl) ⟨?_, G⟩
  have h9 : atS s o k = (0, 0) := by unfold atS; rw [if_pos (by omega)]
  rw [h9]
 ·-- false
  simp only [sb] at h1
  have h1n : ¬ (o.kind = 0 ∨ o.kind = 1 ∧ k ≥ o.data) := by omega
  refine zC3 ?_
  refine zA6 ?_
  refine zA6 (zA1 rfl ?_)
  refine stp (zA5 rfl ?_)
  refine stp (zB5 (v := .int .i64 o.kind) rfl hc10 rfl ?_)
  refine stp (zE9 rfl rfl ?_)
  refine zA4 ?_
  refine zB8 (b := (decide (o.kind = 1))) rfl (fun h3 => ?_) (fun h3 => ?_)
  ·-- true
   replace h3 := of_decide_eq_true h3
   refine zA6 (zA1 rfl ?_)
   refine stp (zB4 rfl hc4 (by rfl) ?_)
   refine stp (zA5 rfl ?_)
   refine stp (zB5 (v := .int .i64 o.seg) rfl hc10 rfl ?_)
   refine stp (zA5 rfl ?_)
   refine stp (zB5 (v := .int .i64 o.at_) rfl hc10 rfl ?_)
   refine stp (zA2 rfl ?_)
   refine stp (zD8 rfl rfl ?_ ?_); constructor <;> omega
   refine stp (zC0 (v := .tuple #[.int .u64 ((s.word o.seg (o.at_ + k)).1), .int .i64 ((s.word o.seg (o.at_ + k)).2)]) rfl (H.word _ G o.seg (o.at_ + k) (by simp only [inR]; omega) (by simp only [inR]; omega)) ?_)
   intro w22 g23
   replace hc4 := g23.heap hc4
   replace hc10 := g23.heap hc10
   replace G := G.tr g23
   clear g23
   refine stp (zB6 (v := .tuple #[.int .u64 ((s.word o.seg (o.at_ + k)).1), .int .i64 ((s.word o.seg (o.at_ + k)).2)]) rfl ?_)
   refine stp (zB2 (v := .int .u64 ((s.word o.seg (o.at_ + k)).1)) rfl rfl ?_)
   refine stp (zB2 (v := .int .i64 ((s.word o.seg (o.at_ + k)).2)) rfl rfl ?_)
   refine stp (zA0 rfl ?_)
   refine stp (zA0 rfl ?_)
   refine zA4 ?_
   refine zA6 (zA1 rfl ?_)
   refine stp (zA2 rfl ?_)
   refine stp (zA2 rfl ?_)
   refine stp (zA0 rfl ?_)
   refine stp (zA0 rfl ?_)
   refine zA4 ?_
   refine zC4 ?_
   refine ret2 (zB3 (v := .int .u64 ((s.word o.seg (o.at_ + k)).1)) rfl) (zB3 (v := .int .i64 ((s.word o.seg (o.at_ + k)).2)) rfl) ⟨?_, G⟩
   have h9 : atS s o k = s.word o.seg (o.at_ + k) := by unfold atS; rw [if_neg h1n, if_pos h3]
   rw [h9]
  ·-- false
   replace h3 := of_decide_eq_false h3
   refine zC3 ?_
   refine zA6 ?_
   refine zA6 (zA1 rfl ?_)
   refine stp (zA5 rfl ?_)
   refine stp (zB5 (v := .int .i64 o.size) rfl hc10 rfl ?_)
   refine stp (zE9 rfl rfl ?_)
   refine zA4 ?_
   refine zB8 (b := (decide (o.size = 6))) rfl (fun h4 => ?_) (fun h4 => ?_)
   ·-- true
    replace h4 := of_decide_eq_true h4
    refine zA6 (zA1 rfl ?_)
    refine stp (zA0 rfl ?_)
    refine stp (zA0 rfl ?_)
    refine zA4 ?_
    refine zC4 ?_
    refine ret2 (zB3 (v := .int .u64 0) rfl) (zB3 (v := .int .i64 23) rfl) ⟨?_, G⟩
    have h9 : atS s o k = (0, 23) := by unfold atS; rw [if_neg h1n, if_neg h3, if_pos h4]
    rw [h9]
   ·-- false
    replace h4 := of_decide_eq_false h4
    refine zC3 ?_
    refine zA6 ?_
    refine zA6 (zA1 rfl ?_)
    refine stp (zA2 rfl ?_)
    refine stp (zA5 rfl ?_)
    refine stp (zB5 (v := .int .i64 o.count) rfl hc10 rfl ?_)
    refine stp (zL7 rfl rfl ?_)
    refine zA4 ?_
    refine zB8 (b := (decide (k ≥ o.count))) rfl (fun h5 => ?_) (fun h5 => ?_)
    ·-- true
     replace h5 := of_decide_eq_true h5
     refine zA6 (zA1 rfl ?_)
     refine stp (zA0 rfl ?_)
     refine stp (zA0 rfl ?_)
     refine zA4 ?_
     refine zC4 ?_
     refine ret2 (zB3 (v := .int .u64 0) rfl) (zB3 (v := .int .i64 20) rfl) ⟨?_, G⟩
     have h9 : atS s o k = (0, 20) := by unfold atS; rw [if_neg h1n, if_neg h3, if_neg h4, if_pos h5]
     rw [h9]
    ·-- false
     replace h5 := of_decide_eq_false h5
     refine zC3 ?_
     refine zA6 ?_
     refine zA6 (zA1 rfl ?_)
     refine stp (zA5 rfl ?_)
     refine stp (zB5 (v := .int .i64 o.size) rfl hc10 rfl ?_)
     refine stp (zE9 rfl rfl ?_)
     refine zA4 ?_
     refine zB8 (b := (decide (o.size = 5))) rfl (fun h6 => ?_) (fun h6 => ?_)
     ·-- true
      replace h6 := of_decide_eq_true h6
      refine zA6 (zA1 rfl ?_)
      refine stp (zB4 rfl hc4 (by rfl) ?_)
      refine stp (zA5 rfl ?_)
      refine stp (zB5 (v := .int .i64 o.seg) rfl hc10 rfl ?_)
      refine stp (zA5 rfl ?_)
      refine stp (zB5 (v := .int .i64 o.at_) rfl hc10 rfl ?_)
      refine stp (zA2 rfl ?_)
      refine stp (zD8 rfl rfl ?_ ?_); constructor <;> omega
      refine stp (zC0 (v := .tuple #[.int .u64 ((s.word o.seg (o.at_ + k)).1), .int .i64 ((s.word o.seg (o.at_ + k)).2)]) rfl (H.word _ G o.seg (o.at_ + k) (by simp only [inR]; omega) (by simp only [inR]; omega)) ?_)
      intro w24 g25
      replace hc4 := g25.heap hc4
      replace hc10 := g25.heap hc10
      replace G := G.tr g25
      clear g25
      refine stp (zB6 (v := .tuple #[.int .u64 ((s.word o.seg (o.at_ + k)).1), .int .i64 ((s.word o.seg (o.at_ + k)).2)]) rfl ?_)
      refine stp (zB2 (v := .int .u64 ((s.word o.seg (o.at_ + k)).1)) rfl rfl ?_)
      refine stp (zB2 (v := .int .i64 ((s.word o.seg (o.at_ + k)).2)) rfl rfl ?_)
      refine stp (zA0 rfl ?_)
      refine stp (zA0 rfl ?_)
      refine zA4 ?_
      refine zA6 (zA1 rfl ?_)
      refine stp (zA2 rfl ?_)
      refine stp (zA2 rfl ?_)
      refine stp (zA0 rfl ?_)
      refine stp (zA0 rfl ?_)
      refine zA4 ?_
      refine zC4 ?_
      refine ret2 (zB3 (v := .int .u64 ((s.word o.seg (o.at_ + k)).1)) rfl) (zB3 (v := .int .i64 ((s.word o.seg (o.at_ + k)).2)) rfl) ⟨?_, G⟩
      have h9 : atS s o k = s.word o.seg (o.at_ + k) := by unfold atS; rw [if_neg h1n, if_neg h3, if_neg h4, if_neg h5, if_pos h6]
      rw [h9]
     ·-- false
      replace h6 := of_decide_eq_false h6
      obtain ⟨n1, n2, -, -⟩ := H.num o.seg (o.at_ + k / 8)
      refine zC3 ?_
      refine zA6 (zA1 rfl ?_)
      refine stp (zB4 rfl hc4 (by rfl) ?_)
      refine stp (zA5 rfl ?_)
      refine stp (zB5 (v := .int .i64 o.seg) rfl hc10 rfl ?_)
      refine stp (zA5 rfl ?_)
      refine stp (zB5 (v := .int .i64 o.at_) rfl hc10 rfl ?_)
      refine stp (zA2 rfl ?_)
      refine stp (zK3 rfl rfl ?_ ?_ ?_ ?_); omega; omega; (constructor <;> omega)
      refine stp (zD8 rfl rfl ?_ ?_); constructor <;> omega
      refine stp (zC0 (v := .tuple #[.int .u64 ((s.word o.seg (o.at_ + (k / 8))).1), .int .i64 ((s.word o.seg (o.at_ + (k / 8))).2)]) rfl (H.word _ G o.seg (o.at_ + (k / 8)) (by simp only [inR]; omega) (by simp only [inR]; omega)) ?_)
      intro w26 g27
      replace hc4 := g27.heap hc4
      replace hc10 := g27.heap hc10
      replace G := G.tr g27
      clear g27
      refine stp (zB6 (v := .tuple #[.int .u64 ((s.word o.seg (o.at_ + (k / 8))).1), .int .i64 ((s.word o.seg (o.at_ + (k / 8))).2)]) rfl ?_)
      refine stp (zB2 (v := .int .u64 ((s.word o.seg (o.at_ + (k / 8))).1)) rfl rfl ?_)
      refine stp (zB2 (v := .int .i64 ((s.word o.seg (o.at_ + (k / 8))).2)) rfl rfl ?_)
      refine stp (zA0 rfl ?_)
      refine stp (zA0 rfl ?_)
      refine zA4 ?_
      refine zA6 ?_
      refine zA6 (zA1 rfl ?_)
      refine stp (zA0 rfl ?_)
      refine zA4 ?_
      refine zC6 ?_
      refine zG6 (fun m_ e_ w_ => ∃ (j : Nat), m_ = 8 - j ∧ Fr [(2, .int .i64 k), (6, .int .u64 0), (7, .int .i64 0), (13, .int .i64 ((s.word o.seg (o.at_ + (k / 8))).2)), (12, .int .u64 ((s.word o.seg (o.at_ + k / 8)).1 / 2 ^ (8 * j))), (14, .int .i64 (j : Int))] e_ ∧ ((j : Int) ≤ k % 8) ∧ (w_.heap[b1]? = some (.cells #[ua, .bool b, uh] 90 (0, 0))) ∧ (w_.heap[b7]? = some (.cells #[.int .i64 o.kind, .int .i64 o.seg, .int .i64 o.at_, .int .i64 o.data, .int .i64 o.ptrs, .int .i64 o.size, .int .i64 o.count] 93 (0, 0))) ∧ Grow w w_) _ ⟨0, rfl, zE6 ⟨rfl, rfl, rfl, rfl, congrArg (Value.int .u64) (by simp), rfl, trivial⟩, by omega, hc4, hc10, G⟩ ?_
      clear hc4 hc10
      clear G
      rintro m_ e_ w28 ⟨j, rfl, ⟨e29, rfl⟩, hj, hc4, hc10, G⟩
      have hsr := qM8 (s.word o.seg (o.at_ + k / 8)).1 j n1 n2
      refine zA6 ?_
      refine zA6 (zA1 rfl ?_)
      refine stp (zA2 rfl ?_)
      refine stp (zA2 rfl ?_)
      refine stp (zJ5 rfl rfl ?_ ?_ ?_); omega; omega
      refine stp (zF9 rfl rfl ?_)
      refine zA4 ?_
      refine zB8 (b := (decide ((j : Int) < (k % 8)))) rfl (fun hlt => ?_) (fun hlt => ?_)
      ·-- true
       replace hlt := of_decide_eq_true hlt
       refine zC3 ?_
       refine zA6 ?_
       refine zC6 ?_
       refine zA1 rfl ?_
       refine stp (zA2 rfl ?_)
       refine stp (zK3 rfl rfl ?_ ?_ ?_ ?_); omega; omega; (constructor <;> omega)
       refine stp (zA0 rfl ?_)
       refine zA4 ?_
       refine zA1 rfl ?_
       refine stp (zA2 rfl ?_)
       refine stp (zD8 rfl rfl ?_ ?_); constructor <;> omega
       refine stp (zA0 rfl ?_)
       refine zA4 ?_
       refine ⟨_, ?_, j + 1, rfl, zE6 ⟨rfl, rfl, rfl, rfl, congrArg (Value.int .u64) (qV1 _ _), congrArg (Value.int .i64) (by omega), trivial⟩, by omega, hc4, hc10, G⟩
       omega
      ·-- false
       replace hlt := of_decide_eq_false hlt
       have hj9 : 8 * j = (k % 8 * 8).toNat := by omega
       rw [hj9] at hsr
       have h9 : atS s o k = ((s.word o.seg (o.at_ + k / 8)).1 / 2 ^ (8 * j) % 256, (s.word o.seg (o.at_ + k / 8)).2) := by rw [hj9]; unfold atS; rw [if_neg h1n, if_neg h3, if_neg h4, if_neg h5, if_neg h6]
       rw [← hj9] at hsr
       refine zF6 ?_
       refine zA6 (zA1 rfl ?_)
       refine stp (zA2 rfl ?_)
       refine stp (zJ5 rfl rfl ?_ ?_ ?_); omega; omega
       refine stp (zA2 rfl ?_)
       refine stp (zA0 rfl ?_)
       refine stp (zA0 rfl ?_)
       refine zA4 ?_
       refine zC4 ?_
       refine ret2 (zB3 (v := .int .u64 (((s.word o.seg (o.at_ + k / 8)).1 / 2 ^ (8 * j)) % 256)) rfl) (zB3 (v := .int .i64 ((s.word o.seg (o.at_ + (k / 8))).2)) rfl) ⟨?_, G⟩
       rw [h9]

set_option maxRecDepth 100000 in
theorem qJ3 (w : World) {ua uh : Value} {b : Bool} {A : List (List Int)} {s : Src} (H : SrcR Tryz.prog 110 w ua b uh A s) (o : Ob) (ho : ObR o) (k : Int) (k1 : inR .i64 k) : Gives Tryz.prog 69 #[.agg #[ua, .bool b, uh], .agg #[.int .i64 o.kind, .int .i64 o.seg, .int .i64 o.at_, .int .i64 o.data, .int .i64 o.ptrs, .int .i64 o.size, .int .i64 o.count], .int .i64 k] w (.tuple #[.agg #[.int .i64 ((valS s o k).1.kind), .int .i64 ((valS s o k).1.size), .int .i64 ((valS s o k).1.words), .int .i64 ((valS s o k).1.kids), .int .u64 ((valS s o k).1.word)], .int .i64 ((valS s o k).2)]) := by
 simp only [inR] at k1
 have G := Grow.rfl' w
 refine zC7 Tryz.func69 Tryz.ntmps69 Tryz.results69 rfl rfl ?_
 refine zA6 (zA1 rfl ?_)
 refine zA3 (og rfl ?_)
 (first | refine zD0 rfl ?_ | refine zD2 rfl ?_ | refine zC5 rfl ?_ | refine zH0 rfl rfl ?_)
 intro b1 w2 hb3 hc4 g5
 have hge6 := Nat.le_trans G.size hb3
 replace G := G.tr g5
 clear g5 hb3
 refine zA3 (og rfl ?_)
 (first | refine zD0 rfl ?_ | refine zD2 rfl ?_ | refine zC5 rfl ?_ | refine zH0 rfl rfl ?_)
 intro b7 w8 hb9 hc10 g11
 have hge12 := Nat.le_trans G.size hb9
 replace hc4 := g11.heap hc4
 replace G := G.tr g11
 clear g11 hb9
 refine stp (zD3 ?_)
 intro b13 w14 hb15 hc16 g17
 refine stp (zA0 rfl ?_)
 refine zA4 ?_
 refine zA6 ?_
 refine zA6 (zA1 rfl ?_)
 refine stp (zA2 rfl ?_)
 refine stp (zL7 rfl rfl ?_)
 refine zA4 ?_
 have hge18 := Nat.le_trans G.size hb15
 have ne19 := Nat.ne_of_lt (Nat.lt_of_lt_of_le (zA9 hc4) hb15)
 have ne20 := Nat.ne_of_lt (Nat.lt_of_lt_of_le (zA9 hc10) hb15)
 replace hc4 := g17.heap hc4
 replace hc10 := g17.heap hc10
 replace G := G.tr g17
 clear g17 hb15
 refine zB8 (b := (decide (k ≥ 0))) rfl (fun h1 => ?_) (fun h1 => ?_)
 ·-- true
  replace h1 := of_decide_eq_true h1
  refine zA6 (zA1 rfl ?_)
  refine stp (zB4 rfl hc4 (by rfl) ?_)
  refine stp (zB4 rfl hc10 (by rfl) ?_)
  refine stp (zA2 rfl ?_)
  refine stp (zC0 (v := .tuple #[.int .u64 ((atS s o k).1), .int .i64 ((atS s o k).2)]) rfl (qO3 _ (H.grow G) o ho k (by omega) (by omega)) ?_)
  intro w21 g22
  replace hc4 := g22.heap hc4
  replace hc10 := g22.heap hc10
  replace hc16 := g22.heap hc16
  replace G := G.tr g22
  clear g22
  refine stp (zB6 (v := .tuple #[.int .u64 ((atS s o k).1), .int .i64 ((atS s o k).2)]) rfl ?_)
  refine stp (zB2 (v := .int .u64 ((atS s o k).1)) rfl rfl ?_)
  refine stp (zB2 (v := .int .i64 ((atS s o k).2)) rfl rfl ?_)
  refine stp (zA0 rfl ?_)
  refine stp (zA0 rfl ?_)
  refine zA4 ?_
  refine zA6 ?_
  refine zA6 (zA1 rfl ?_)
  refine stp (zA2 rfl ?_)
  refine stp (zI9 rfl rfl ?_)
  refine zA4 ?_
  refine zB8 (b := (decide (((atS s o k).2) ≠ 0))) rfl (fun h2 => ?_) (fun h2 => ?_)
  ·-- true
   replace h2 := of_decide_eq_true h2
   refine zA6 (zA1 rfl ?_)
   refine stp (zD4 (v := .agg #[.int .i64 0, .int .i64 0, .int .i64 0, .int .i64 0, .int .u64 0]) (fun w => by kernel_rfl) ?_)
   refine stp (zA2 rfl ?_)
   refine stn (zB1 rfl rfl hc16 (by rfl) (by rfl) (by rfl) ?_)
   intro w23 hc24 u25
   replace hc4 := u25.heap hc4 ne19
   replace hc10 := u25.heap hc10 ne20
   replace G := G.upd u25 hge18
   clear u25 hc16
   refine stp (zA0 rfl ?_)
   refine zA4 ?_
   refine zC4 ?_
   have h9 : valS s o k = (Vl0, (atS s o k).2) := by unfold valS; rw [if_neg (by omega), if_pos h2]
   refine ret2 (zC9 rfl hc24 (by rfl)) (zB3 (v := .int .i64 ((atS s o k).2)) rfl) ⟨?_, G⟩
   rw [h9] <;> rfl
  ·-- false
   replace h2 := of_decide_eq_false h2
   refine zC3 ?_
   refine zA6 (zA1 rfl ?_)
   refine stp (zA5 rfl ?_)
   refine stp (zB5 (v := .int .i64 o.kind) rfl hc10 rfl ?_)
   refine stp (zA2 rfl ?_)
   refine stp (zD4 (v := .agg #[.int .i64 o.kind, .int .i64 0, .int .i64 0, .int .i64 0, .int .u64 ((atS s o k).1)]) (fun w => by kernel_rfl) ?_)
   refine stn (zB1 rfl rfl hc16 (by rfl) (by rfl) (by rfl) ?_)
   intro w26 hc27 u28
   replace hc4 := u28.heap hc4 ne19
   replace hc10 := u28.heap hc10 ne20
   replace G := G.upd u28 hge18
   clear u28 hc16
   refine stp (zA0 rfl ?_)
   refine zA4 ?_
   refine zC4 ?_
   have h9 : valS s o k = (⟨o.kind, 0, 0, 0, (atS s o k).1⟩, 0) := by unfold valS; rw [if_neg (by omega), if_neg h2]
   refine ret2 (zC9 rfl hc27 (by rfl)) (zB3 (v := .int .i64 0) rfl) ⟨?_, G⟩
   rw [h9] <;> rfl
 ·-- false
  replace h1 := of_decide_eq_false h1
  refine zC3 ?_
  refine zA6 (zA1 rfl ?_)
  refine stp (zA5 rfl ?_)
  refine stp (zB5 (v := .int .i64 o.kind) rfl hc10 rfl ?_)
  refine stp (zA5 rfl ?_)
  refine stp (zB5 (v := .int .i64 o.size) rfl hc10 rfl ?_)
  refine stp (zA5 rfl ?_)
  refine stp (zB5 (v := .int .i64 o.data) rfl hc10 rfl ?_)
  refine stp (zA5 rfl ?_)
  refine stp (zB5 (v := .int .i64 o.ptrs) rfl hc10 rfl ?_)
  refine stp (zD4 (v := .agg #[.int .i64 o.kind, .int .i64 o.size, .int .i64 o.data, .int .i64 o.ptrs, .int .u64 0]) (fun w => by kernel_rfl) ?_)
  refine stp (zD3 ?_)
  intro b29 w30 hb31 hc32 g33
  refine stn (zB1 rfl rfl hc32 (by rfl) (by rfl) (by rfl) ?_)
  intro w34 hc35 u36
  have g37 := g33.upd u36 hb31
  have hge38 := Nat.le_trans G.size hb31
  have ne39 := Nat.ne_of_lt (Nat.lt_of_lt_of_le (zA9 hc4) hb31)
  have ne40 := Nat.ne_of_lt (Nat.lt_of_lt_of_le (zA9 hc10) hb31)
  have ne41 := Nat.ne_of_lt (Nat.lt_of_lt_of_le (zA9 hc16) hb31)
  replace hc4 := g37.heap hc4
  replace hc10 := g37.heap hc10
  replace hc16 := g37.heap hc16
  replace G := G.tr g37
  clear u36 g33 hb31 hc32
  refine zA4 ?_
  refine zA6 ?_
  refine zA6 (zA1 rfl ?_)
  refine stp (zA5 rfl ?_)
  refine stp (zB5 (v := .int .i64 o.kind) rfl hc10 rfl ?_)
  refine stp (zE9 rfl rfl ?_)
  refine stp (zB9 rfl ?_)
  refine zA3 (zC2 (s := .bool (decide (o.kind = 2))) (b := true) (v := .pointer (some ⟨b7, 5, none⟩)) rfl (zF2 _) (fun hc42 => ?_) ?_)
  ·
   have hc42_ := of_decide_eq_true hc42
   refine zA5 rfl ?_
   exact ⟨rfl, rfl⟩
  refine zA3 (zC2 (s := .bool (decide (o.kind = 2))) (b := true) (v := .int .i64 o.size) rfl (zF2 _) (fun hc43 => ?_) ?_)
  ·
   have hc43_ := of_decide_eq_true hc43
   refine zB5 (v := .int .i64 o.size) (gvt hc43) hc10 rfl ?_
   exact ⟨rfl, rfl⟩
  refine zA3 (zC2 (s := .bool (decide (o.kind = 2))) (b := true) (v := .bool (decide (o.size = 6))) rfl (zF2 _) (fun hc44 => ?_) ?_)
  ·
   have hc44_ := of_decide_eq_true hc44
   refine zE9 (gvt hc44) rfl ?_
   exact ⟨rfl, rfl⟩
  refine stp (zJ2 rfl rfl rfl ?_)
  refine zA4 ?_
  refine zB8 (b := ((decide (o.kind = 2)) && (decide (o.size = 6)))) rfl (fun h2 => ?_) (fun h2 => ?_)
  ·-- true
   simp only [sb] at h2
   refine zA1 rfl ?_
   refine stp (zA5 rfl ?_)
   refine stp (zB5 (v := .int .i64 o.count) rfl hc10 rfl ?_)
   refine stp (zA5 rfl ?_)
   refine stn (zE0 (v := .int .i64 o.count) rfl rfl (by rfl) hc35 (by rfl) (by rfl) ?_)
   intro w45 hc46 u47
   replace hc4 := u47.heap hc4 ne39
   replace hc10 := u47.heap hc10 ne40
   replace hc16 := u47.heap hc16 ne41
   replace G := G.upd u47 hge38
   clear u47 hc35
   refine zA4 ?_
   refine zA6 (zA1 rfl ?_)
   refine stp (zB4 rfl hc46 (by rfl) ?_)
   refine stn (zB1 rfl rfl hc16 (by rfl) (by rfl) (by rfl) ?_)
   intro w48 hc49 u50
   replace hc4 := u50.heap hc4 ne19
   replace hc10 := u50.heap hc10 ne20
   replace hc46 := u50.heap hc46 ne41.symm
   replace G := G.upd u50 hge18
   clear u50 hc16
   refine stp (zA0 rfl ?_)
   refine zA4 ?_
   refine zC4 ?_
   have h9 : valS s o k = (⟨o.kind, o.size, o.data, o.count, 0⟩, 0) := by unfold valS; rw [if_pos (by omega)]; unfold isS; rw [if_neg (by omega), if_pos (by omega)]
   refine ret2 (zC9 rfl hc49 (by rfl)) (zB3 (v := .int .i64 0) rfl) ⟨?_, G⟩
   rw [h9] <;> rfl
  ·-- false
   simp only [sb] at h2
   refine zA6 (zA1 rfl ?_)
   refine stp (zA5 rfl ?_)
   refine stp (zB5 (v := .int .i64 o.kind) rfl hc10 rfl ?_)
   refine stp (zE9 rfl rfl ?_)
   refine zA4 ?_
   refine zB8 (b := (decide (o.kind = 2))) rfl (fun h3 => ?_) (fun h3 => ?_)
   ·-- true
    replace h3 := of_decide_eq_true h3
    refine zA1 rfl ?_
    refine stp (zA5 rfl ?_)
    refine stp (zB5 (v := .int .i64 o.count) rfl hc10 rfl ?_)
    refine stp (zA5 rfl ?_)
    refine stn (zE0 (v := .int .i64 o.count) rfl rfl (by rfl) hc35 (by rfl) (by rfl) ?_)
    intro w51 hc52 u53
    replace hc4 := u53.heap hc4 ne39
    replace hc10 := u53.heap hc10 ne40
    replace hc16 := u53.heap hc16 ne41
    replace G := G.upd u53 hge38
    clear u53 hc35
    refine zA4 ?_
    refine zA6 (zA1 rfl ?_)
    refine stp (zB4 rfl hc52 (by rfl) ?_)
    refine stn (zB1 rfl rfl hc16 (by rfl) (by rfl) (by rfl) ?_)
    intro w54 hc55 u56
    replace hc4 := u56.heap hc4 ne19
    replace hc10 := u56.heap hc10 ne20
    replace hc52 := u56.heap hc52 ne41.symm
    replace G := G.upd u56 hge18
    clear u56 hc16
    refine stp (zA0 rfl ?_)
    refine zA4 ?_
    refine zC4 ?_
    have h9 : valS s o k = (⟨o.kind, o.size, o.count, o.ptrs, 0⟩, 0) := by unfold valS; rw [if_pos (by omega)]; unfold isS; rw [if_pos (by omega), if_neg (by omega)]
    refine ret2 (zC9 rfl hc55 (by rfl)) (zB3 (v := .int .i64 0) rfl) ⟨?_, G⟩
    rw [h9] <;> rfl
   ·-- false
    replace h3 := of_decide_eq_false h3
    refine zC3 ?_
    refine zA6 (zA1 rfl ?_)
    refine stp (zB4 rfl hc35 (by rfl) ?_)
    refine stn (zB1 rfl rfl hc16 (by rfl) (by rfl) (by rfl) ?_)
    intro w57 hc58 u59
    replace hc4 := u59.heap hc4 ne19
    replace hc10 := u59.heap hc10 ne20
    replace hc35 := u59.heap hc35 ne41.symm
    replace G := G.upd u59 hge18
    clear u59 hc16
    refine stp (zA0 rfl ?_)
    refine zA4 ?_
    refine zC4 ?_
    have h9 : valS s o k = (⟨o.kind, o.size, o.data, o.ptrs, 0⟩, 0) := by unfold valS; rw [if_pos (by omega)]; unfold isS; rw [if_neg (by omega), if_neg (by omega)]
    refine ret2 (zC9 rfl hc58 (by rfl)) (zB3 (v := .int .i64 0) rfl) ⟨?_, G⟩
    rw [h9] <;> rfl

set_option maxRecDepth 100000 in
theorem qO4 (w : World) {ua uh : Value} {b : Bool} {A : List (List Int)} {s : Src} (H : SrcR Tryz.prog 110 w ua b uh A s) {ad : Option Addr} {c : Nat} {steps : List Int} {a cost : Int} (R : RowAt w 1 ad steps.length (steps.map (.int .i64))) (ha : inR .i64 a) (hc : 0 ≤ cost ∧ cost ≤ 9000000000000000000) : Gives Tryz.prog 27 #[.agg #[ua, .bool b, uh], .agg #[.slice ad steps.length c, .int .i64 a], .int .i64 cost] w (.tuple #[.agg #[.int .i64 ((walkS s steps a cost).1.kind), .int .i64 ((walkS s steps a cost).1.size), .int .i64 ((walkS s steps a cost).1.words), .int .i64 ((walkS s steps a cost).1.kids), .int .u64 ((walkS s steps a cost).1.word)], .int .i64 ((walkS s steps a cost).2)]) := by
 have ll := R.lim
 have G := Grow.rfl' w
 refine zC7 Tryz.func27 Tryz.ntmps27 Tryz.results27 rfl rfl ?_
 refine zA6 (zA1 rfl ?_)
 refine zA3 (og rfl ?_)
 (first | refine zD0 rfl ?_ | refine zD2 rfl ?_ | refine zC5 rfl ?_ | refine zH0 rfl rfl ?_)
 intro b1 w2 hb3 hc4 g5
 have hge6 := Nat.le_trans G.size hb3
 replace G := G.tr g5
 clear g5 hb3
 refine zA3 (og rfl ?_)
 (first | refine zD0 rfl ?_ | refine zD2 rfl ?_ | refine zC5 rfl ?_ | refine zH0 rfl rfl ?_)
 intro b7 w8 hb9 hc10 g11
 have hge12 := Nat.le_trans G.size hb9
 replace hc4 := g11.heap hc4
 replace G := G.tr g11
 clear g11 hb9
 refine stp (zD3 ?_)
 intro b13 w14 hb15 hc16 g17
 refine stp (zA0 rfl ?_)
 refine zA4 ?_
 refine zA6 ?_
 refine zA6 (zA1 rfl ?_)
 refine stp (zA0 rfl ?_)
 refine zA4 ?_
 refine zC6 ?_
 have hge18 := Nat.le_trans G.size hb15
 have ne19 := Nat.ne_of_lt (Nat.lt_of_lt_of_le (zA9 hc4) hb15)
 have ne20 := Nat.ne_of_lt (Nat.lt_of_lt_of_le (zA9 hc10) hb15)
 replace hc4 := g17.heap hc4
 replace hc10 := g17.heap hc10
 replace G := G.tr g17
 clear g17 hb15
 refine zG6 (fun m_ e_ w_ => ∃ (k : Nat), m_ = steps.length - k ∧ Fr [(2, .int .i64 cost), (3, .pointer (some ⟨b1, 0, none⟩)), (4, .pointer (some ⟨b7, 0, none⟩)), (6, .pointer (some ⟨b13, 0, none⟩)), (8, .int .i64 (k : Int))] e_ ∧ (k ≤ steps.length) ∧ (∀ j, j < k → 0 ≤ steps.getD j 0) ∧ (w_.heap[b1]? = some (.cells #[ua, .bool b, uh] 90 (0, 0))) ∧ (w_.heap[b7]? = some (.cells #[.slice ad steps.length c, .int .i64 a] 29 (0, 0))) ∧ (w_.heap[b13]? = some (.cells #[.int .i64 0, .int .i64 0, .int .i64 0, .int .i64 0, .int .u64 0] 35 (0, 0))) ∧ Grow w w_) _ ⟨0, rfl, zE6 ⟨rfl, rfl, rfl, rfl, rfl, trivial⟩, by omega, fun j hj => by omega, hc4, hc10, hc16, G⟩ ?_
 clear hc4 hc10 hc16
 clear G
 rintro m_ e_ w21 ⟨k, rfl, ⟨e22, rfl⟩, hk2, hnn, hc4, hc10, hc16, G⟩
 refine zA6 ?_
 refine zA6 (zA1 rfl ?_)
 refine stp (zA2 rfl ?_)
 refine stp (zA5 rfl ?_)
 refine stp (zB5 (v := .slice ad steps.length c) rfl hc10 rfl ?_)
 refine stp (zE8 rfl rfl rfl ?_)
 refine stp (zF9 rfl rfl ?_)
 refine zA4 ?_
 refine zB8 (b := (decide ((k : Int) < (steps.length : Int)))) rfl (fun hlt1 => ?_) (fun hlt1 => ?_)
 ·-- true
  replace hlt1 := of_decide_eq_true hlt1
  have hi : k < steps.length := by omega
  refine zC3 ?_
  refine zA6 ?_
  refine zC6 ?_
  refine zA6 (zA1 rfl ?_)
  refine stp (zA5 rfl ?_)
  refine stp (zB5 (v := .slice ad steps.length c) rfl hc10 rfl ?_)
  refine stp (zA2 rfl ?_)
  refine stp (zD9 (R.grow G) rfl rfl ?_ ?_); omega
  refine stp (zD7 (v := .int .i64 (steps.getD k 0)) (m := 0) (R.grow G) rfl (zE4 0 (by omega)) ?_)
  refine stp (zF9 rfl rfl ?_)
  refine zA4 ?_
  refine zB8 (b := (decide ((steps.getD k 0) < 0))) rfl (fun h2 => ?_) (fun h2 => ?_)
  ·-- true
   replace h2 := of_decide_eq_true h2
   refine zA6 (zA1 rfl ?_)
   refine stp (zD4 (v := .agg #[.int .i64 0, .int .i64 0, .int .i64 0, .int .i64 0, .int .u64 0]) (fun w => by kernel_rfl) ?_)
   refine stn (zB1 rfl rfl hc16 (by rfl) (by rfl) (by rfl) ?_)
   intro w23 hc24 u25
   replace hc4 := u25.heap hc4 ne19
   replace hc10 := u25.heap hc10 ne20
   replace G := G.upd u25 hge18
   clear u25 hc16
   refine stp (zA0 rfl ?_)
   refine zA4 ?_
   refine zC4 ?_
   have h9 : (walkS s steps a cost) = (Vl0, 1) := by unfold walkS; rw [if_pos ⟨_, qI0 hi, h2⟩]
   refine ret2 (zC9 rfl hc24 (by rfl)) (zB3 (v := .int .i64 1) rfl) ⟨?_, G⟩
   rw [h9] <;> rfl
  ·-- false
   replace h2 := of_decide_eq_false h2
   refine zC3 ?_
   refine zA1 rfl ?_
   refine stp (zA2 rfl ?_)
   refine stp (zD8 rfl rfl ?_ ?_); constructor <;> omega
   refine stp (zA0 rfl ?_)
   refine zA4 ?_
   refine ⟨_, ?_, k + 1, rfl, zE6 ⟨rfl, rfl, rfl, rfl, rfl, trivial⟩, by omega, fun j hj => by rcases Nat.lt_succ_iff_lt_or_eq.1 hj with h_ | h_; exact hnn j h_; subst h_; omega, hc4, hc10, hc16, G⟩
   omega
 ·-- false
  replace hlt1 := of_decide_eq_false hlt1
  replace hnn : ∀ j, j < steps.length → 0 ≤ steps.getD j 0 := fun j hj => hnn j (by omega)
  have hno : ¬ ∃ k ∈ steps, k < 0 := fun ⟨x_, hx_, hlt_⟩ => by obtain ⟨j_, hj_, he_⟩ := List.getElem_of_mem hx_; have := hnn j_ hj_; rw [zG0 hj_] at this; omega
  refine zF6 ?_
  refine zA6 ?_
  refine zA6 (zA1 rfl ?_)
  refine stp (zA5 rfl ?_)
  refine stp (zB5 (v := .slice ad steps.length c) rfl hc10 rfl ?_)
  refine stp (zE8 rfl rfl rfl ?_)
  refine stp (zM7 rfl rfl ?_)
  refine zA4 ?_
  refine zB8 (b := (decide ((steps.length : Int) > 32))) rfl (fun h3 => ?_) (fun h3 => ?_)
  ·-- true
   replace h3 := of_decide_eq_true h3
   refine zA6 (zA1 rfl ?_)
   refine stp (zD4 (v := .agg #[.int .i64 0, .int .i64 0, .int .i64 0, .int .i64 0, .int .u64 0]) (fun w => by kernel_rfl) ?_)
   refine stn (zB1 rfl rfl hc16 (by rfl) (by rfl) (by rfl) ?_)
   intro w26 hc27 u28
   replace hc4 := u28.heap hc4 ne19
   replace hc10 := u28.heap hc10 ne20
   replace G := G.upd u28 hge18
   clear u28 hc16
   refine stp (zA0 rfl ?_)
   refine zA4 ?_
   refine zC4 ?_
   have h9 : (walkS s steps a cost) = (Vl0, 3) := by unfold walkS; rw [if_neg hno, if_pos h3]
   refine ret2 (zC9 rfl hc27 (by rfl)) (zB3 (v := .int .i64 3) rfl) ⟨?_, G⟩
   rw [h9] <;> rfl
  ·-- false
   replace h3 := of_decide_eq_false h3
   have hw0 := yF3 (s := s) (a := a) hno h3 hc.1
   have ho0 := H.follow_range 0 0
   refine zC3 ?_
   refine zA6 (zA1 rfl ?_)
   refine stp (zB4 rfl hc4 (by rfl) ?_)
   refine stp (zC0 (v := .tuple #[.agg #[.int .i64 ((followS s 0 0).1.kind), .int .i64 ((followS s 0 0).1.seg), .int .i64 ((followS s 0 0).1.at_), .int .i64 ((followS s 0 0).1.data), .int .i64 ((followS s 0 0).1.ptrs), .int .i64 ((followS s 0 0).1.size), .int .i64 ((followS s 0 0).1.count)], .int .i64 ((followS s 0 0).2)]) rfl (zR1 _ (H.grow G) 0 0 (by simp [inR]) (by simp [inR])) ?_)
   intro w29 g30
   replace hc4 := g30.heap hc4
   replace hc10 := g30.heap hc10
   replace hc16 := g30.heap hc16
   replace G := G.tr g30
   clear g30
   refine stp (zB6 (v := .tuple #[.agg #[.int .i64 ((followS s 0 0).1.kind), .int .i64 ((followS s 0 0).1.seg), .int .i64 ((followS s 0 0).1.at_), .int .i64 ((followS s 0 0).1.data), .int .i64 ((followS s 0 0).1.ptrs), .int .i64 ((followS s 0 0).1.size), .int .i64 ((followS s 0 0).1.count)], .int .i64 ((followS s 0 0).2)]) rfl ?_)
   refine stp (zB2 (v := .agg #[.int .i64 ((followS s 0 0).1.kind), .int .i64 ((followS s 0 0).1.seg), .int .i64 ((followS s 0 0).1.at_), .int .i64 ((followS s 0 0).1.data), .int .i64 ((followS s 0 0).1.ptrs), .int .i64 ((followS s 0 0).1.size), .int .i64 ((followS s 0 0).1.count)]) rfl rfl ?_)
   refine stp (zB2 (v := .int .i64 ((followS s 0 0).2)) rfl rfl ?_)
   refine stp (zD3 ?_)
   intro b31 w32 hb33 hc34 g35
   refine stn (zB1 rfl rfl hc34 (by rfl) (by rfl) (by rfl) ?_)
   intro w36 hc37 u38
   have g39 := g35.upd u38 hb33
   have hge40 := Nat.le_trans G.size hb33
   have ne41 := Nat.ne_of_lt (Nat.lt_of_lt_of_le (zA9 hc4) hb33)
   have ne42 := Nat.ne_of_lt (Nat.lt_of_lt_of_le (zA9 hc10) hb33)
   have ne43 := Nat.ne_of_lt (Nat.lt_of_lt_of_le (zA9 hc16) hb33)
   replace hc4 := g39.heap hc4
   replace hc10 := g39.heap hc10
   replace hc16 := g39.heap hc16
   replace G := G.tr g39
   clear u38 g35 hb33 hc34
   refine stp (zA0 rfl ?_)
   refine zA4 ?_
   refine zA6 (zA1 rfl ?_)
   refine stp (zA0 rfl ?_)
   refine zA4 ?_
   refine zA6 ?_
   refine zA6 (zA1 rfl ?_)
   refine stp (zA0 rfl ?_)
   refine zA4 ?_
   refine zC6 ?_
   refine zG6 (fun m_ e_ w_ => ∃ (i : Nat) (o : Ob) (e : Int) (paid : Int), m_ = steps.length + 1 - i ∧ Fr [(2, .int .i64 cost), (3, .pointer (some ⟨b1, 0, none⟩)), (4, .pointer (some ⟨b7, 0, none⟩)), (6, .pointer (some ⟨b13, 0, none⟩)), (9, .pointer (some ⟨b31, 0, none⟩)), (12, .int .i64 (i : Int)), (10, .int .i64 e), (11, .int .i64 paid)] e_ ∧ (i ≤ steps.length + 1) ∧ (ObR o) ∧ (0 ≤ paid ∧ paid ≤ 536870913 * (i : Int)) ∧ (i ≤ steps.length → (walkS s steps a cost) = tailW s steps a cost i o e paid) ∧ (i = steps.length + 1 → (walkS s steps a cost) = valS s o a) ∧ (w_.heap[b1]? = some (.cells #[ua, .bool b, uh] 90 (0, 0))) ∧ (w_.heap[b7]? = some (.cells #[.slice ad steps.length c, .int .i64 a] 29 (0, 0))) ∧ (w_.heap[b13]? = some (.cells #[.int .i64 0, .int .i64 0, .int .i64 0, .int .i64 0, .int .u64 0] 35 (0, 0))) ∧ (w_.heap[b31]? = some (.cells #[.int .i64 o.kind, .int .i64 o.seg, .int .i64 o.at_, .int .i64 o.data, .int .i64 o.ptrs, .int .i64 o.size, .int .i64 o.count] 93 (0, 0))) ∧ Grow w w_) _ ⟨0, (followS s 0 0).1, (followS s 0 0).2, 0, rfl, zE6 ⟨rfl, rfl, rfl, rfl, rfl, rfl, rfl, rfl, trivial⟩, by omega, ho0, by omega, fun _ => hw0, fun h_ => by omega, hc4, hc10, hc16, hc37, G⟩ ?_
   clear hc4 hc10 hc16 hc37
   clear G
   rintro m_ e_ w44 ⟨i, o, e, paid, rfl, ⟨e45, rfl⟩, hi1, ho, hpd, hw, hv0, hc4, hc10, hc16, hc37, G⟩
   have hwo := zM2 ho
   refine zA6 ?_
   refine zA6 (zA1 rfl ?_)
   refine stp (zA2 rfl ?_)
   refine stp (zA5 rfl ?_)
   refine stp (zB5 (v := .slice ad steps.length c) rfl hc10 rfl ?_)
   refine stp (zE8 rfl rfl rfl ?_)
   refine stp (qG9 rfl rfl ?_)
   refine zA4 ?_
   refine zB8 (b := (decide ((i : Int) ≤ (steps.length : Int)))) rfl (fun hlt => ?_) (fun hlt => ?_)
   ·-- true
    replace hlt := of_decide_eq_true hlt
    have hil : i ≤ steps.length := by omega
    have hw1 := hw hil
    refine zC3 ?_
    refine zA6 ?_
    refine zC6 ?_
    refine zA6 ?_
    refine zA6 (zA1 rfl ?_)
    refine stp (zA2 rfl ?_)
    refine stp (zI9 rfl rfl ?_)
    refine zA4 ?_
    refine zB8 (b := (decide (e ≠ 0))) rfl (fun he => ?_) (fun he => ?_)
    ·-- true
     replace he := of_decide_eq_true he
     refine zA6 (zA1 rfl ?_)
     refine stp (zD4 (v := .agg #[.int .i64 0, .int .i64 0, .int .i64 0, .int .i64 0, .int .u64 0]) (fun w => by kernel_rfl) ?_)
     refine stp (zA2 rfl ?_)
     refine stn (zB1 rfl rfl hc16 (by rfl) (by rfl) (by rfl) ?_)
     intro w46 hc47 u48
     replace hc4 := u48.heap hc4 ne19
     replace hc10 := u48.heap hc10 ne20
     replace hc37 := u48.heap hc37 ne43.symm
     replace G := G.upd u48 hge18
     clear u48 hc16
     refine stp (zA0 rfl ?_)
     refine zA4 ?_
     refine zC4 ?_
     have h9 : (walkS s steps a cost) = (Vl0, e) := by rw [hw1]; unfold tailW; rw [if_pos he]
     refine ret2 (zC9 rfl hc47 (by rfl)) (zB3 (v := .int .i64 e) rfl) ⟨?_, G⟩
     rw [h9] <;> rfl
    ·-- false
     replace he := of_decide_eq_false he
     have he9 : e = 0 := by omega
     subst he9
     refine zC3 ?_
     refine zA6 (zA1 rfl ?_)
     refine stp (zA2 rfl ?_)
     refine stp (zB4 rfl hc37 (by rfl) ?_)
     refine stp (zC0 (v := .int .i64 (wordsO o)) rfl (qI5 _ o) ?_)
     intro w49 g50
     replace hc4 := g50.heap hc4
     replace hc10 := g50.heap hc10
     replace hc16 := g50.heap hc16
     replace hc37 := g50.heap hc37
     replace G := G.tr g50
     clear g50
     refine stp (zD8 rfl rfl ?_ ?_); constructor <;> omega
     refine stp (zD8 rfl rfl ?_ ?_); constructor <;> omega
     refine stp (zA0 rfl ?_)
     refine zA4 ?_
     refine zA6 ?_
     refine zA6 (zA1 rfl ?_)
     refine stp (zA2 rfl ?_)
     refine stp (zA2 rfl ?_)
     refine stp (zM7 rfl rfl ?_)
     refine zA4 ?_
     refine zB8 (b := (decide ((paid + (1 + (wordsO o))) > cost))) rfl (fun h7 => ?_) (fun h7 => ?_)
     ·-- true
      replace h7 := of_decide_eq_true h7
      refine zA6 (zA1 rfl ?_)
      refine stp (zD4 (v := .agg #[.int .i64 0, .int .i64 0, .int .i64 0, .int .i64 0, .int .u64 0]) (fun w => by kernel_rfl) ?_)
      refine stn (zB1 rfl rfl hc16 (by rfl) (by rfl) (by rfl) ?_)
      intro w51 hc52 u53
      replace hc4 := u53.heap hc4 ne19
      replace hc10 := u53.heap hc10 ne20
      replace hc37 := u53.heap hc37 ne43.symm
      replace G := G.upd u53 hge18
      clear u53 hc16
      refine stp (zA0 rfl ?_)
      refine zA4 ?_
      refine zC4 ?_
      have h9 : (walkS s steps a cost) = (Vl0, 22) := by rw [hw1]; unfold tailW; rw [if_neg (by simp), if_pos (by omega)]
      refine ret2 (zC9 rfl hc52 (by rfl)) (zB3 (v := .int .i64 22) rfl) ⟨?_, G⟩
      rw [h9] <;> rfl
     ·-- false
      replace h7 := of_decide_eq_false h7
      have hnv : ¬ (paid + (1 + wordsO o)) > cost := by omega
      refine zC3 ?_
      refine zA6 (zA1 rfl ?_)
      refine stp (zA2 rfl ?_)
      refine stp (zA5 rfl ?_)
      refine stp (zB5 (v := .slice ad steps.length c) rfl hc10 rfl ?_)
      refine stp (zE8 rfl rfl rfl ?_)
      refine stp (zF9 rfl rfl ?_)
      refine zA4 ?_
      refine zB8 (b := (decide ((i : Int) < (steps.length : Int)))) rfl (fun h8 => ?_) (fun h8 => ?_)
      ·-- true
       replace h8 := of_decide_eq_true h8
       have hi : i < steps.length := by omega
       have hkk := hnn i hi
       have hso := H.stepO_range o (steps.getD i 0)
       have hw2 := yF2 (s := s) (a := a) hi hnv
       have hsz54 : w49.heap.size ≤ w49.heap.size := Nat.le_refl _
       have ltf54_hc4 := zA9 hc4
       have ltf54_hc10 := zA9 hc10
       have ltf54_hc16 := zA9 hc16
       have ltf54_hc37 := zA9 hc37
       have hgz54 := G.size
       refine zA6 ?_
       have kb_hc4 : ∀ w_, (ktR 93 w49.heap.size).r w49 w_ → w_.heap[b1]? = some (.cells #[ua, .bool b, uh] 90 (0, 0)) := fun w_ k_ => (KtP.to_grow k_ (Grow.rfl' _)).heap hc4
       have kb_hc10 : ∀ w_, (ktR 93 w49.heap.size).r w49 w_ → w_.heap[b7]? = some (.cells #[.slice ad steps.length c, .int .i64 a] 29 (0, 0)) := fun w_ k_ => (KtP.to_grow k_ (Grow.rfl' _)).heap hc10
       have kb_hc16 : ∀ w_, (ktR 93 w49.heap.size).r w49 w_ → w_.heap[b13]? = some (.cells #[.int .i64 0, .int .i64 0, .int .i64 0, .int .i64 0, .int .u64 0] 35 (0, 0)) := fun w_ k_ => (KtP.to_grow k_ (Grow.rfl' _)).heap hc16
       have kb_hc37 : ∀ w_, (ktR 93 w49.heap.size).r w49 w_ → w_.heap[b31]? = some (.cells #[.int .i64 o.kind, .int .i64 o.seg, .int .i64 o.at_, .int .i64 o.data, .int .i64 o.ptrs, .int .i64 o.size, .int .i64 o.count] 93 (0, 0)) := fun w_ k_ => (KtP.to_grow k_ (Grow.rfl' _)).heap hc37
       have kb_hsz54 : ∀ w_, (ktR 93 w49.heap.size).r w49 w_ → w49.heap.size ≤ w_.heap.size := fun w_ k_ => Nat.le_trans hsz54 (KtP.to_grow k_ (Grow.rfl' _)).size
       have kb_G : ∀ w_, (ktR 93 w49.heap.size).r w49 w_ → Grow w w_ := fun w_ k_ => G.tr (KtP.to_grow k_ (Grow.rfl' _))
       refine qL9 13 [[], [], [], [0], [], [2, 1, 0], [3, 2, 1, 0], [6, 5, 4, 3, 2, 1, 0], [7, 6, 5, 4, 3, 2, 1, 0], [8, 7, 6, 5, 4, 3, 2, 1, 0], [9, 8, 7, 6, 5, 4, 3, 2, 1], [], [11, 10, 9, 8, 7, 6, 5, 4, 3, 2, 0]] [12] [13] (grQ (ktR 93 w49.heap.size)) (fun k_ e_ w_ => match k_ with | 0 => True | _ => ∃ b : Nat, e_ 13 = .pointer (some ⟨b, 0, none⟩) ∧ w49.heap.size ≤ b ∧ w_.heap[b]? = some (.cells #[.int .i64 ((stepO s o (steps.getD i 0)).1.kind), .int .i64 ((stepO s o (steps.getD i 0)).1.seg), .int .i64 ((stepO s o (steps.getD i 0)).1.at_), .int .i64 ((stepO s o (steps.getD i 0)).1.data), .int .i64 ((stepO s o (steps.getD i 0)).1.ptrs), .int .i64 ((stepO s o (steps.getD i 0)).1.size), .int .i64 ((stepO s o (steps.getD i 0)).1.count)] 93 (0, 0))) mixed (by kernel_rfl) (by kernel_rfl) (by kernel_rfl) (by kernel_rfl) (by kernel_rfl) (fun k_ _ _ _ g_ h_ => match k_, h_ with | 0, _ => trivial | _ + 1, ⟨b_, h1_, h2_, h3_⟩ => ⟨b_, h1_, h2_, g_.heap h3_⟩) (fun k_ _ _ _ hu_ h_ => match k_, h_ with | 0, _ => trivial | _ + 1, ⟨b_, h1_, h2_, h3_⟩ => ⟨b_, (hu_ _ (by simp)).symm.trans h1_, h2_, h3_⟩) (fun _ _ _ h_ => h_) (fun _ _ => trivial) ?_
       intro w55 g56
       replace kb_hc4 : ∀ w_, (ktR 93 w49.heap.size).r w55 w_ → w_.heap[b1]? = some (.cells #[ua, .bool b, uh] 90 (0, 0)) := fun w_ k_ => kb_hc4 w_ ((ktR 93 w49.heap.size).tr ((ktR 93 w49.heap.size).grow g56) k_)
       replace kb_hc10 : ∀ w_, (ktR 93 w49.heap.size).r w55 w_ → w_.heap[b7]? = some (.cells #[.slice ad steps.length c, .int .i64 a] 29 (0, 0)) := fun w_ k_ => kb_hc10 w_ ((ktR 93 w49.heap.size).tr ((ktR 93 w49.heap.size).grow g56) k_)
       replace kb_hc16 : ∀ w_, (ktR 93 w49.heap.size).r w55 w_ → w_.heap[b13]? = some (.cells #[.int .i64 0, .int .i64 0, .int .i64 0, .int .i64 0, .int .u64 0] 35 (0, 0)) := fun w_ k_ => kb_hc16 w_ ((ktR 93 w49.heap.size).tr ((ktR 93 w49.heap.size).grow g56) k_)
       replace kb_hc37 : ∀ w_, (ktR 93 w49.heap.size).r w55 w_ → w_.heap[b31]? = some (.cells #[.int .i64 o.kind, .int .i64 o.seg, .int .i64 o.at_, .int .i64 o.data, .int .i64 o.ptrs, .int .i64 o.size, .int .i64 o.count] 93 (0, 0)) := fun w_ k_ => kb_hc37 w_ ((ktR 93 w49.heap.size).tr ((ktR 93 w49.heap.size).grow g56) k_)
       replace kb_hsz54 : ∀ w_, (ktR 93 w49.heap.size).r w55 w_ → w49.heap.size ≤ w_.heap.size := fun w_ k_ => kb_hsz54 w_ ((ktR 93 w49.heap.size).tr ((ktR 93 w49.heap.size).grow g56) k_)
       replace kb_G : ∀ w_, (ktR 93 w49.heap.size).r w55 w_ → Grow w w_ := fun w_ k_ => kb_G w_ ((ktR 93 w49.heap.size).tr ((ktR 93 w49.heap.size).grow g56) k_)
       have k0_ : (ktR 93 w49.heap.size).r w49 w55 := ((ktR 93 w49.heap.size).grow g56)
       apply zF5 (hm := by rfl)
       ·intro w_ g_; refine og rfl ?_; refine zB4 rfl (kb_hc4 _ g_) (by rfl) ?_; exact ⟨Grow.rfl' _, rfl⟩
       apply zF5 (hm := by rfl)
       ·intro w_ g_; refine og rfl ?_; refine zB4 rfl (kb_hc37 _ g_) (by rfl) ?_; exact ⟨Grow.rfl' _, rfl⟩
       apply zF5 (hm := by rfl)
       ·intro w_ g_; refine og rfl ?_; refine zA5 rfl ?_; exact ⟨Grow.rfl' _, rfl⟩
       apply zF5 (hm := by rfl)
       ·intro w_ g_; refine og rfl ?_; refine zB5 (v := .slice ad steps.length c) rfl (kb_hc10 _ g_) rfl ?_; exact ⟨Grow.rfl' _, rfl⟩
       apply zF5 (hm := by rfl)
       ·intro w_ g_; refine og rfl ?_; refine zA2 rfl ?_; exact ⟨Grow.rfl' _, rfl⟩
       apply zF5 (hm := by rfl)
       ·intro w_ g_; refine og rfl ?_; refine zD9 (R.grow (kb_G _ g_)) rfl rfl ?_ ?_; omega; exact ⟨Grow.rfl' _, rfl⟩
       apply zF5 (hm := by rfl)
       ·intro w_ g_; refine og rfl ?_; refine zD7 (v := .int .i64 (steps.getD i 0)) (m := 0) (R.grow (kb_G _ g_)) rfl (zE4 0 (by omega)) ?_; exact ⟨Grow.rfl' _, rfl⟩
       apply zF5 (hm := by rfl)
       ·intro w_ g_; refine og rfl ?_; exact zC0 (v := .tuple #[.agg #[.int .i64 ((stepO s o (steps.getD i 0)).1.kind), .int .i64 ((stepO s o (steps.getD i 0)).1.seg), .int .i64 ((stepO s o (steps.getD i 0)).1.at_), .int .i64 ((stepO s o (steps.getD i 0)).1.data), .int .i64 ((stepO s o (steps.getD i 0)).1.ptrs), .int .i64 ((stepO s o (steps.getD i 0)).1.size), .int .i64 ((stepO s o (steps.getD i 0)).1.count)], .int .i64 ((stepO s o (steps.getD i 0)).2)]) rfl (qO2 _ (H.grow (kb_G _ g_)) o ho (steps.getD i 0) hkk) (fun w2_ g2_ => ⟨g2_, rfl⟩)
       apply zF5 (hm := by rfl)
       ·intro w_ g_; refine og rfl ?_; refine zB6 (v := .tuple #[.agg #[.int .i64 ((stepO s o (steps.getD i 0)).1.kind), .int .i64 ((stepO s o (steps.getD i 0)).1.seg), .int .i64 ((stepO s o (steps.getD i 0)).1.at_), .int .i64 ((stepO s o (steps.getD i 0)).1.data), .int .i64 ((stepO s o (steps.getD i 0)).1.ptrs), .int .i64 ((stepO s o (steps.getD i 0)).1.size), .int .i64 ((stepO s o (steps.getD i 0)).1.count)], .int .i64 ((stepO s o (steps.getD i 0)).2)]) rfl ?_; exact ⟨Grow.rfl' _, rfl⟩
       apply zF5 (hm := by rfl)
       ·intro w_ g_; refine og rfl ?_; refine zB2 (v := .agg #[.int .i64 ((stepO s o (steps.getD i 0)).1.kind), .int .i64 ((stepO s o (steps.getD i 0)).1.seg), .int .i64 ((stepO s o (steps.getD i 0)).1.at_), .int .i64 ((stepO s o (steps.getD i 0)).1.data), .int .i64 ((stepO s o (steps.getD i 0)).1.ptrs), .int .i64 ((stepO s o (steps.getD i 0)).1.size), .int .i64 ((stepO s o (steps.getD i 0)).1.count)]) rfl rfl ?_; exact ⟨Grow.rfl' _, rfl⟩
       apply zF5 (hm := by rfl)
       ·intro w_ g_; refine og rfl ?_; refine zB2 (v := .int .i64 ((stepO s o (steps.getD i 0)).2)) rfl rfl ?_; exact ⟨Grow.rfl' _, rfl⟩
       refine zS7 (fun w_ v_ => ∃ b cs, v_ = .pointer (some ⟨b, 0, none⟩) ∧ w49.heap.size ≤ b ∧ cs.size = 7 ∧ w_.heap[b]? = some (.cells cs 93 (0, 0))) (fun _ _ _ g_ ⟨b, cs, h1_, h2_, h3_, h4_⟩ => by obtain ⟨cs2, h5_, h6_⟩ := KtP.new g_ b cs h4_; exact ⟨b, cs2, h1_, h2_, h5_.trans h3_, h6_⟩) (by rfl) ?_ ?_
       ·intro w_ g_
        refine og rfl ?_
        refine zD3 ?_
        intro b_ w2_ hb_ hc_ g2_
        exact ⟨g2_, b_, _, rfl, Nat.le_trans (kb_hsz54 _ g_) hb_, rfl, hc_⟩
       apply qC5 0 (hm := by rfl)
       ·intro w_ g_
        intro v11_ hv11_
        intro s_
        show OpG _ _ _ _ _ _
        refine og rfl ?_
        obtain ⟨b_, cs_, rfl, hge_, hsz_, hb_⟩ := hv11_
        refine zB1 rfl rfl hb_ (by rfl) hsz_ (by rfl) ?_
        intro w2_ s2_ u_
        exact ⟨KtP.of_upd u_ hge_ hb_ s2_ hsz_.symm, ⟨b_, rfl, hge_, s2_⟩, rfl⟩
       refine qC6 ?_
       intro w57 g58
       replace k0_ := ((ktR 93 w49.heap.size).tr k0_ g58)
       replace hc4 := kb_hc4 _ g58
       clear kb_hc4
       replace hc10 := kb_hc10 _ g58
       clear kb_hc10
       replace hc16 := kb_hc16 _ g58
       clear kb_hc16
       replace hc37 := kb_hc37 _ g58
       clear kb_hc37
       replace hsz54 := kb_hsz54 _ g58
       clear kb_hsz54
       replace G := kb_G _ g58
       clear kb_G
       intro v_x54 hv_x54
       rintro ⟨bx54, hbe54, hge54, hc54⟩
       have hbv54 : v_x54 = .pointer (some ⟨bx54, 0, none⟩) := hbe54
       subst hbv54
       clear hv_x54 hbe54
       have hgx54 := Nat.le_trans hgz54 hge54
       refine stp (zA0 rfl ?_)
       refine zA4 ?_
       refine zA6 (zA1 rfl ?_)
       refine stp (zB4 rfl hc54 (by rfl) ?_)
       refine stn (zB1 rfl rfl hc37 (by rfl) (by rfl) (by rfl) ?_)
       intro w59 hc60 u61
       replace hc4 := u61.heap hc4 ne41
       replace hc10 := u61.heap hc10 ne42
       replace hc16 := u61.heap hc16 ne43
       replace hc54 := u61.heap hc54 (Nat.ne_of_lt (Nat.lt_of_lt_of_le ltf54_hc37 hge54)).symm
       replace G := G.upd u61 hge40
       clear u61 hc37
       refine zA4 ?_
       refine zA1 rfl ?_
       refine stp (zA2 rfl ?_)
       refine stp (zA0 rfl ?_)
       refine zA4 ?_
       refine zA1 rfl ?_
       refine stp (zA2 rfl ?_)
       refine stp (zD8 rfl rfl ?_ ?_); constructor <;> omega
       refine stp (zA0 rfl ?_)
       refine zA4 ?_
       refine ⟨_, ?_, i + 1, (stepO s o (steps.getD i 0)).1, (stepO s o (steps.getD i 0)).2, (paid + (1 + wordsO o)), rfl, zE6 ⟨rfl, rfl, rfl, rfl, rfl, congrArg (Value.int .i64) (by omega), rfl, rfl, trivial⟩, by omega, hso, by omega, fun _ => by rw [hw1]; exact hw2, fun h_ => by omega, hc4, hc10, hc16, hc60, G⟩
       omega
      ·-- false
       replace h8 := of_decide_eq_false h8
       have hi9 : i = steps.length := by omega
       refine zC3 ?_
       refine zA1 rfl ?_
       refine stp (zA2 rfl ?_)
       refine stp (zD8 rfl rfl ?_ ?_); constructor <;> omega
       refine stp (zA0 rfl ?_)
       refine zA4 ?_
       refine ⟨_, ?_, i + 1, o, 0, (paid + (1 + wordsO o)), rfl, zE6 ⟨rfl, rfl, rfl, rfl, rfl, congrArg (Value.int .i64) (by omega), rfl, rfl, trivial⟩, by omega, ho, by omega, fun h_ => by omega, fun _ => by rw [hw1, hi9]; exact yK0 hnv, hc4, hc10, hc16, hc37, G⟩
       omega
   ·-- false
    replace hlt := of_decide_eq_false hlt
    have hv := hv0 (by omega)
    refine zF6 ?_
    refine zA6 (zA1 rfl ?_)
    refine stp (zB4 rfl hc4 (by rfl) ?_)
    refine stp (zB4 rfl hc37 (by rfl) ?_)
    refine stp (zA5 rfl ?_)
    refine stp (zB5 (v := .int .i64 a) rfl hc10 rfl ?_)
    refine stp (zC0 (v := .tuple #[.agg #[.int .i64 ((valS s o a).1.kind), .int .i64 ((valS s o a).1.size), .int .i64 ((valS s o a).1.words), .int .i64 ((valS s o a).1.kids), .int .u64 ((valS s o a).1.word)], .int .i64 ((valS s o a).2)]) rfl (qJ3 _ (H.grow G) o ho a ha) ?_)
    intro w62 g63
    replace hc4 := g63.heap hc4
    replace hc10 := g63.heap hc10
    replace hc16 := g63.heap hc16
    replace hc37 := g63.heap hc37
    replace G := G.tr g63
    clear g63
    refine stp (zB6 (v := .tuple #[.agg #[.int .i64 ((valS s o a).1.kind), .int .i64 ((valS s o a).1.size), .int .i64 ((valS s o a).1.words), .int .i64 ((valS s o a).1.kids), .int .u64 ((valS s o a).1.word)], .int .i64 ((valS s o a).2)]) rfl ?_)
    refine stp (zB2 (v := .agg #[.int .i64 ((valS s o a).1.kind), .int .i64 ((valS s o a).1.size), .int .i64 ((valS s o a).1.words), .int .i64 ((valS s o a).1.kids), .int .u64 ((valS s o a).1.word)]) rfl rfl ?_)
    refine stp (zB2 (v := .int .i64 ((valS s o a).2)) rfl rfl ?_)
    refine stp (zD3 ?_)
    intro b64 w65 hb66 hc67 g68
    refine stn (zB1 rfl rfl hc67 (by rfl) (by rfl) (by rfl) ?_)
    intro w69 hc70 u71
    have g72 := g68.upd u71 hb66
    have hge73 := Nat.le_trans G.size hb66
    have ne74 := Nat.ne_of_lt (Nat.lt_of_lt_of_le (zA9 hc4) hb66)
    have ne75 := Nat.ne_of_lt (Nat.lt_of_lt_of_le (zA9 hc10) hb66)
    have ne76 := Nat.ne_of_lt (Nat.lt_of_lt_of_le (zA9 hc16) hb66)
    have ne77 := Nat.ne_of_lt (Nat.lt_of_lt_of_le (zA9 hc37) hb66)
    replace hc4 := g72.heap hc4
    replace hc10 := g72.heap hc10
    replace hc16 := g72.heap hc16
    replace hc37 := g72.heap hc37
    replace G := G.tr g72
    clear u71 g68 hb66 hc67
    refine stp (zA0 rfl ?_)
    refine zA4 ?_
    refine zA6 (zA1 rfl ?_)
    refine stp (zB4 rfl hc70 (by rfl) ?_)
    refine stp (zA2 rfl ?_)
    refine stn (zB1 rfl rfl hc16 (by rfl) (by rfl) (by rfl) ?_)
    intro w78 hc79 u80
    replace hc4 := u80.heap hc4 ne19
    replace hc10 := u80.heap hc10 ne20
    replace hc37 := u80.heap hc37 ne43.symm
    replace hc70 := u80.heap hc70 ne76.symm
    replace G := G.upd u80 hge18
    clear u80 hc16
    refine stp (zA0 rfl ?_)
    refine zA4 ?_
    refine zC4 ?_
    refine ret2 (zC9 rfl hc79 (by rfl)) (zB3 (v := .int .i64 ((valS s o a).2)) rfl) ⟨?_, G⟩
    rw [hv]

end Go.Proofs.YtifhcfhdajkhlaaGreat.K

namespace Go.Proofs.YtifhcfhdajkhlaaGreat.K
open Go Go.RowKit Go.Proofs
attribute [local irreducible] Run1 OpG WL W AO Gives
set_option maxRecDepth 100000 in
theorem qG4 (w : World) {ads adb : Option Addr} {cs cb : Nat} {sz wl : List Int} (hf : fitsL sz = true) (hlw : wl.length = wordsM sz) (hu : ∀ x ∈ wl, inR .u64 x) (RS : RowAt w 1 ads sz.length (sz.map (.int .i64))) (hcb : 8 * wl.length ≤ cb) (RB : RowAt w 1 adb (8 * wl.length) ((wl.flatMap byt8).map (.int .u8))) : Calls Tryz.prog 84 #[.slice ads sz.length cs, .slice adb (8 * wl.length) cb] w (Ret fun v w' => ∃ ad n c, v = .tuple #[.slice ad n c, .int .i64 0] ∧ ArenaR w' (.slice ad n c) (cutW sz wl) ∧ Grow w w') := by
 have hrz : ∀ x ∈ sz, inR .i64 x := zI7 hf
 have hf16 := zG2 hf
 have hwf := zF4 hf
 have hOn := OwnA.nil 67 33 w w.heap.size
 have hfl8 := zL3 wl
 have G := Grow.rfl' w
 refine zE3 Tryz.func84 Tryz.ntmps84 Tryz.results84 rfl rfl ?_
 refine zA6 (zA1 rfl ?_)
 refine stp (zB0 rfl ?_)
 refine stp (zA0 rfl ?_)
 refine zA4 ?_
 refine zA6 ?_
 refine zA6 (zA1 rfl ?_)
 refine stp (zA7 rfl ?_)
 refine stp (zC0 (v := .bool true) rfl (zH3 (zO5 _ (RS.grow G) hrz) (y := .bool true) (by rw [hf])) ?_)
 intro w1 g2
 replace G := G.tr g2
 clear g2
 refine stp (zL8 rfl rfl ?_)
 refine zA4 ?_
 refine zI8 rfl ?_
 refine zC3 ?_
 refine zA6 (zA1 rfl ?_)
 refine stp (zA0 rfl ?_)
 refine zA4 ?_
 refine zA6 ?_
 refine zA6 (zA1 rfl ?_)
 refine stp (zA0 rfl ?_)
 refine zA4 ?_
 refine zC6 ?_
 refine zG6 (fun m_ e_ w_ => ∃ (k : Nat), m_ = sz.length - k ∧ Fr [(0, .slice ads sz.length cs), (1, .slice adb (8 * wl.length) cb), (4, .slice none 0 0), (5, .int .i64 0), (6, .int .i64 (sumL (sz.take k))), (7, .int .i64 (k : Int))] e_ ∧ (k ≤ sz.length) ∧ Grow w w_) _ ⟨0, rfl, zE6 ⟨rfl, rfl, rfl, rfl, rfl, rfl, trivial⟩, by omega, G⟩ ?_
 clear G
 rintro m_ e_ w3 ⟨k, rfl, ⟨e4, rfl⟩, hk, G⟩
 refine zA6 ?_
 refine zA6 (zA1 rfl ?_)
 refine stp (zA2 rfl ?_)
 refine stp (zA7 rfl ?_)
 refine stp (zE8 rfl rfl rfl ?_)
 refine stp (zF9 rfl rfl ?_)
 refine zA4 ?_
 refine zB8 (b := (decide ((k : Int) < (sz.length : Int)))) rfl (fun hlt => ?_) (fun hlt => ?_)
 ·-- true
  replace hlt := of_decide_eq_true hlt
  have hi : k < sz.length := by omega
  have hst := zJ0 hi
  have hzk := zH7 hf k
  have hsk := zH4 hf16.2.2.2.1 k
  refine zC3 ?_
  refine zA6 ?_
  refine zC6 ?_
  refine zA1 rfl ?_
  refine stp (zA2 rfl ?_)
  refine stp (zA7 rfl ?_)
  refine stp (zA2 rfl ?_)
  refine stp (zD9 (RS.grow G) rfl rfl ?_ ?_); omega
  refine stp (zD7 (v := .int .i64 (sz.getD k 0)) (m := 0) (RS.grow G) rfl (zE4 0 (by omega)) ?_)
  refine stp (zD8 rfl rfl ?_ ?_); constructor <;> omega
  refine stp (zA0 rfl ?_)
  refine zA4 ?_
  refine zA1 rfl ?_
  refine stp (zA2 rfl ?_)
  refine stp (zD8 rfl rfl ?_ ?_); constructor <;> omega
  refine stp (zA0 rfl ?_)
  refine zA4 ?_
  refine ⟨_, ?_, k + 1, rfl, zE6 ⟨rfl, rfl, rfl, rfl, congrArg (Value.int .i64) (by omega), congrArg (Value.int .i64) (by omega), trivial⟩, by omega, G⟩
  omega
 ·-- false
  replace hlt := of_decide_eq_false hlt
  have hk9 : k = sz.length := by omega
  have hsum : sumL (sz.take k) = (wl.length : Int) := by rw [hk9, List.take_length]; omega
  refine zF6 ?_
  refine zA6 ?_
  refine zA6 (zA1 rfl ?_)
  refine stp (zA7 rfl ?_)
  refine stp (zE8 rfl rfl rfl ?_)
  refine stp (zA2 rfl ?_)
  refine stp (zL5 rfl rfl ?_ ?_); constructor <;> omega
  refine stp (zM4 rfl rfl (by omega) ?_)
  refine zA4 ?_
  refine zI8 rfl ?_
  refine zC3 ?_
  refine zA6 (zA1 rfl ?_)
  refine stp (zB0 rfl ?_)
  refine zA4 ?_
  refine zA6 (zA1 rfl ?_)
  refine stp (zA0 rfl ?_)
  refine zA4 ?_
  refine zA6 ?_
  refine zA6 (zA1 rfl ?_)
  refine stp (zA0 rfl ?_)
  refine zA4 ?_
  refine zC6 ?_
  refine zG6 (fun m_ e_ w_ => ∃ (i : Nat) (ado : Option Addr) (co : Nat) (segs : List Value), m_ = sz.length - i ∧ Fr [(0, .slice ads sz.length cs), (1, .slice adb (8 * wl.length) cb), (4, .slice none 0 0), (5, .int .i64 0), (10, .int .i64 (i : Int)), (8, .slice ado ((cutW (sz.take i) wl).length) co), (9, .int .i64 (8 * sumL (sz.take i)))] e_ ∧ (i ≤ sz.length) ∧ (OwnA 67 33 w_ w.heap.size (.slice ado (cutW (sz.take i) wl).length co) segs (cutW (sz.take i) wl)) ∧ Grow w w_) _ ⟨0, none, 0, [], rfl, zE6 ⟨rfl, rfl, rfl, rfl, rfl, rfl, congrArg (Value.int .i64) (by simp [sumL]), trivial⟩, by omega, (hOn.grow G), G⟩ ?_
  clear G
  rintro m_ e_ w5 ⟨i, ado, co, segs, rfl, ⟨e6, rfl⟩, hi2, hO, G⟩
  have hcl : (cutW (sz.take i) wl).length = i := by rw [zN2, List.length_take]; omega
  refine zA6 ?_
  refine zA6 (zA1 rfl ?_)
  refine stp (zA2 rfl ?_)
  refine stp (zA7 rfl ?_)
  refine stp (zE8 rfl rfl rfl ?_)
  refine stp (zF9 rfl rfl ?_)
  refine zA4 ?_
  refine zB8 (b := (decide ((i : Int) < (sz.length : Int)))) rfl (fun hlt2 => ?_) (fun hlt2 => ?_)
  ·-- true
   replace hlt2 := of_decide_eq_true hlt2
   have hi : i < sz.length := by omega
   have hst := zJ0 hi
   have hzi := zH7 hf i
   have hsk := zH4 hf16.2.2.2.1 i
   have hsk1 := zH4 hf16.2.2.2.1 (i + 1)
   have hct := qN6 hi hf16.2.2.2.1 wl
   obtain ⟨z, hz⟩ : ∃ z : Nat, (z : Int) = sz.getD i 0 := ⟨(sz.getD i 0).toNat, by omega⟩
   obtain ⟨s0, hs0⟩ : ∃ s0 : Nat, (s0 : Int) = sumL (sz.take i) := ⟨(sumL (sz.take i)).toNat, by omega⟩
   refine zC3 ?_
   refine zA6 ?_
   refine zC6 ?_
   refine zA6 (zA1 rfl ?_)
   refine stp (zB0 rfl ?_)
   refine zA4 ?_
   have hO0 := hO
   have G00 := G
   have hlow := hO.low
   refine zA6 ?_
   refine zA6 (zA1 rfl ?_)
   refine stp (zA0 rfl ?_)
   refine zA4 ?_
   refine zC6 ?_
   refine zG6 (fun m_ e_ w_ => ∃ (j : Nat) (ad3 : Option Addr) (n3 : Nat) (c3 : Nat), m_ = z - j ∧ Fr [(0, .slice ads sz.length cs), (1, .slice adb (8 * wl.length) cb), (4, .slice none 0 0), (5, .int .i64 0), (8, .slice ado ((cutW (sz.take i) wl).length) co), (10, .int .i64 (i : Int)), (12, .int .i64 (j : Int)), (9, .int .i64 (8 * ((s0 : Int) + (j : Int)))), (11, .slice ad3 n3 c3)] e_ ∧ (j ≤ z) ∧ (Grow w5 w_) ∧ (w_.ownsRow w5.heap.size 33 1 (.slice ad3 n3 c3) j (wordsV ((wl.drop s0).take j))) ∧ Grow w w_) _ ⟨0, none, 0, 0, rfl, zE6 ⟨rfl, rfl, rfl, rfl, rfl, rfl, rfl, congrArg (Value.int .i64) (by omega), rfl, trivial⟩, by omega, Grow.rfl' _, World.ownsRow_nil _ _ _ _, G⟩ ?_
   clear hO
   clear G
   rintro m_ e_ w7 ⟨j, ad3, n3, c3, rfl, ⟨e8, rfl⟩, hj, G0, ownS, G⟩
   refine zA6 ?_
   refine zA6 (zA1 rfl ?_)
   refine stp (zA2 rfl ?_)
   refine stp (zA7 rfl ?_)
   refine stp (zA2 rfl ?_)
   refine stp (zD9 (RS.grow G) rfl rfl ?_ ?_); omega
   refine stp (zD7 (v := .int .i64 (sz.getD i 0)) (m := 0) (RS.grow G) rfl (zE4 0 (by omega)) ?_)
   refine stp (zF9 rfl rfl ?_)
   refine zA4 ?_
   refine zB8 (b := (decide ((j : Int) < (sz.getD i 0)))) rfl (fun hlt3 => ?_) (fun hlt3 => ?_)
   ·-- true
    replace hlt3 := of_decide_eq_true hlt3
    have hjz : j < z := by omega
    have hsj : s0 + j < wl.length := by omega
    have hxu : inR .u64 (wl.getD (s0 + j) 0) := by rw [zG0 hsj]; exact hu _ (List.getElem_mem hsj)
    simp only [inR] at hxu
    have hb8 : (((wl.flatMap byt8).map (Value.int .u8)).drop (8 * (s0 + j) * 1)).take (8 * 1) = (byt8 (wl.getD (s0 + j) 0)).map (.int .u8) := by rw [Nat.mul_one, Nat.mul_one, ← List.map_drop, ← List.map_take, zY5, show 8 = 8 * 1 from rfl, zU9, List.drop_eq_getElem_cons hsj, List.take_succ_cons, List.take_zero, List.flatMap_cons, List.flatMap_nil, List.append_nil, zG0 hsj]
    refine zC3 ?_
    refine zA6 ?_
    refine zC6 ?_
    refine zA6 (zA1 rfl ?_)
    refine stp (zA7 rfl ?_)
    refine stp (zA7 rfl ?_)
    refine stp (zA2 rfl ?_)
    refine stp (zA2 rfl ?_)
    refine stp (zD8 rfl rfl ?_ ?_); constructor <;> omega
    refine zA3 (og rfl ?_)
    refine qB7 (l := 8 * ((s0 : Int) + (j : Int))) rfl rfl rfl (by omega) (by omega) (by omega) ?_
    rw [show (8 * ((s0 : Int) + (j : Int))).toNat = 8 * (s0 + j) from by omega, show (8 * ((s0 : Int) + (j : Int)) + 8).toNat - 8 * (s0 + j) = 8 from by omega]
    have RC := (RB.sliceLH (l := 8 * (s0 + j)) (m := 8) hcb (by omega) (by decide)).grow G
    rw [hb8] at RC
    refine stp (zC0 (v := .int .u64 (wl.getD (s0 + j) 0)) rfl (zH3 (qF4 _ (xs := byt8 (wl.getD (s0 + j) 0)) (by rw [zO4]) RC (fun y hy => qI9 _ 8 y hy) (by decide)) (y := .int .u64 (wl.getD (s0 + j) 0)) (by rw [yE3 hxu.1 hxu.2])) ?_)
    intro w9 g10
    replace G0 := G0.tr g10
    replace ownS := zC8 ownS g10
    replace G := G.tr g10
    clear g10
    refine stp (zE5 (cs := #[.int .u64 (wl.getD (s0 + j) 0)]) (el := 33) (fun w => by kernel_rfl) ?_)
    intro bs11 w12 hb13 hc14 g15
    have hge16 := Nat.le_trans G.size hb13
    replace G0 := G0.tr g15
    replace ownS := zC8 ownS g15
    replace G := G.tr g15
    clear g15
    refine stp (zG4 rfl rfl rfl rfl ownS (Row.of_block (n := 1) hc14 rfl rfl (by omega)) (fun q_ hq_ => by simp at hq_; subst hq_; rfl) (by simp only [maxLen]; omega) (by omega) G0.size ?_)
    intro v6 w6 own6 gr6
    replace G := G.grown gr6 (fun k_ hk_ => Nat.le_trans G00.size (zI2 ownS k_ hk_))
    replace G0 := G0.grown gr6 (zI2 ownS)
    clear ownS gr6
    obtain ⟨ad4, n4, c4, rfl⟩ := zF3 own6
    refine stp (zB0 rfl ?_)
    refine zA4 ?_
    refine zA1 rfl ?_
    refine stp (zA2 rfl ?_)
    refine stp (zD8 rfl rfl ?_ ?_); constructor <;> omega
    refine stp (zA0 rfl ?_)
    refine zA4 ?_
    refine zA1 rfl ?_
    refine stp (zA2 rfl ?_)
    refine stp (zD8 rfl rfl ?_ ?_); constructor <;> omega
    refine stp (zA0 rfl ?_)
    refine zA4 ?_
    refine ⟨_, ?_, j + 1, ad4, n4, c4, rfl, zE6 ⟨rfl, rfl, rfl, rfl, rfl, rfl, congrArg (Value.int .i64) (by omega), congrArg (Value.int .i64) (by omega), rfl, trivial⟩, by omega, G0, (by rw [yK3 hsj, wordsV, List.map_append]; exact own6), G⟩
    omega
   ·-- false
    replace hlt3 := of_decide_eq_false hlt3
    have hjz : j = z := by omega
    have hO := hO0.grow G0
    have hwl : ((wl.drop s0).take z).length = j := by rw [List.length_take, List.length_drop]; omega
    rw [hjz] at ownS
    have hwl2 : ((wl.drop s0).take z).length = z := by omega
    refine zF6 ?_
    refine zA1 rfl ?_
    refine stp (zA7 rfl ?_)
    refine stp (zA7 rfl ?_)
    refine stp (zE5 (cs := #[.slice ad3 n3 c3]) (el := 67) (fun w => by kernel_rfl) ?_)
    intro bs17 w18 hb19 hc20 g21
    have hge22 := Nat.le_trans G.size hb19
    replace G0 := G0.tr g21
    replace ownS := zC8 ownS g21
    replace hO := hO.grow g21
    replace G := G.tr g21
    clear g21
    refine zA3 (og rfl ?_)
    have ownS2 := ownS
    have hout := hO.out
    refine zG4 rfl rfl rfl rfl hout (Row.of_block (n := 1) hc20 rfl rfl (by omega)) (fun q_ hq_ => by simp at hq_; subst hq_; rfl) (by simp only [maxLen]; omega) (by omega) G.size ?_
    intro v7 w7 own6 gr6
    have hO6 := OwnA.push (ws := ((wl.drop s0).take z)) (by decide) hO (by rw [hwl2]; exact zI0 ownS2 G00.size) (fun i u b hu hb he_ => by have := hlow i u b hu hb; have := zI2 ownS b he_; omega) gr6 own6
    replace G := G.grown gr6 (zI2 hout)
    obtain ⟨ad9, n9, c9, rfl⟩ := zF3 own6
    have hn9 := qD0 own6
    subst hn9
    refine stp (zB0 rfl ?_)
    refine zA4 ?_
    refine zA1 rfl ?_
    refine stp (zA2 rfl ?_)
    refine stp (zD8 rfl rfl ?_ ?_); constructor <;> omega
    refine stp (zA0 rfl ?_)
    refine zA4 ?_
    rw [show z = (sz.getD i 0).toNat from by omega, show s0 = (sumL (sz.take i)).toNat from by omega, ← hct] at hO6
    have hpl : (cutW (sz.take (i + 1)) wl).length = (cutW (sz.take i) wl).length + 1 := by rw [hct, List.length_append, List.length_singleton]
    rw [← hpl] at hO6
    refine ⟨_, ?_, i + 1, ad9, c9, _, rfl, zE6 ⟨rfl, rfl, rfl, rfl, congrArg (Value.int .i64) (by omega), by rw [hpl]; rfl, congrArg (Value.int .i64) (by omega), trivial⟩, by omega, hO6, G⟩
    omega
  ·-- false
   replace hlt2 := of_decide_eq_false hlt2
   have hi9 : i = sz.length := by omega
   rw [hi9, List.take_length] at hO
   refine zF6 ?_
   refine zA6 (zA1 rfl ?_)
   refine stp (zA7 rfl ?_)
   refine stp (zB0 rfl ?_)
   refine stp (zA0 rfl ?_)
   refine zA4 ?_
   refine zC4 ?_
   have hcz := zN2 sz wl
   have hA9 := hO.arena (by omega) (fun s_ hs_ => by obtain ⟨h1_, h2_, h3_⟩ := zY6 hf hlw; have := qZ4 hf hlw s_ hs_; omega)
   refine ret2 (zB3 (v := .slice ado ((cutW (sz.take i) wl).length) co) rfl) (zB3 (v := .int .i64 0) rfl) ⟨_, _, _, rfl, by rw [hi9, List.take_length]; exact hA9, G⟩
end Go.Proofs.YtifhcfhdajkhlaaGreat.K

namespace Go.Proofs.YtifhcfhdajkhlaaGreat.K
open Go Go.RowKit Go.Proofs
attribute [local irreducible] Run1 OpG WL W AO Gives
set_option maxRecDepth 100000 in
theorem qO5 (w : World) {u : Value} {adh : Option Addr} {ch : Nat} {sz wl kb : List Int} (hA : ArenaR w u (cutW sz wl)) (hf : fitsL sz = true) (hlw : wl.length = wordsM sz) (RH : RowAt w 1 adh (chunksM sz) ((List.range (chunksM sz)).map fun c => .bool (bitQ kb c))) (seg a : Int) : Gives Tryz.prog 110 #[.agg #[u, .bool true, .slice adh (chunksM sz) ch], .int .i64 seg, .int .i64 a] w (.tuple #[.int .u64 ((srcW sz wl kb seg a).1), .int .i64 ((srcW sz wl kb seg a).2)]) := by
 have hcw := zN2 sz wl
 have hf16 := zG2 hf
 have hch : chunksM sz = (wordsM sz + 7) / 8 := rfl
 have hle := zG9 sz
 obtain ⟨hcz, hcf, hcr⟩ := zY6 hf hlw
 have hrz : ∀ x ∈ sz, inR .i64 x := zI7 hf
 have hpw := yF5 (kb := kb) hf hlw seg a
 have G := Grow.rfl' w
 refine zC7 Tryz.func110 Tryz.ntmps110 Tryz.results110 rfl rfl ?_
 refine zA6 (zA1 rfl ?_)
 refine zA3 (og rfl ?_)
 (first | refine zD0 rfl ?_ | refine zD2 rfl ?_ | refine zC5 rfl ?_ | refine zH0 rfl rfl ?_)
 intro b1 w2 hb3 hc4 g5
 have hge6 := Nat.le_trans G.size hb3
 replace G := G.tr g5
 clear g5 hb3
 refine stp (zA0 rfl ?_)
 refine stp (zA0 rfl ?_)
 refine zA4 ?_
 refine zA6 (zA1 rfl ?_)
 refine stp (zA5 rfl ?_)
 refine stp (zB5 (v := u) rfl hc4 rfl ?_)
 refine stp (zA2 rfl ?_)
 refine stp (zA2 rfl ?_)
 refine stp (zC0 (v := .tuple #[.int .u64 ((wordA (cutW sz wl) seg a).1), .int .i64 ((wordA (cutW sz wl) seg a).2)]) rfl (qM3 _ (hA.grow G) (by omega)) ?_)
 intro w7 g8
 replace hc4 := g8.heap hc4
 replace G := G.tr g8
 clear g8
 refine stp (zB6 (v := .tuple #[.int .u64 ((wordA (cutW sz wl) seg a).1), .int .i64 ((wordA (cutW sz wl) seg a).2)]) rfl ?_)
 refine stp (zB2 (v := .int .u64 ((wordA (cutW sz wl) seg a).1)) rfl rfl ?_)
 refine stp (zB2 (v := .int .i64 ((wordA (cutW sz wl) seg a).2)) rfl rfl ?_)
 refine stp (zA0 rfl ?_)
 refine stp (zA0 rfl ?_)
 refine zA4 ?_
 refine zA6 ?_
 refine zA6 (zA1 rfl ?_)
 refine stp (zA2 rfl ?_)
 refine stp (zE9 rfl rfl ?_)
 refine stp (zB9 rfl ?_)
 refine zA3 (zC2 (s := .bool (decide (((wordA (cutW sz wl) seg a).2) = 0))) (b := true) (v := .pointer (some ⟨b1, 1, none⟩)) rfl (zF2 _) (fun hc9 => ?_) ?_)
 ·
  have hc9_ := of_decide_eq_true hc9
  refine zA5 rfl ?_
  exact ⟨rfl, rfl⟩
 refine zA3 (zC2 (s := .bool (decide (((wordA (cutW sz wl) seg a).2) = 0))) (b := true) (v := .bool true) rfl (zF2 _) (fun hc10 => ?_) ?_)
 ·
  have hc10_ := of_decide_eq_true hc10
  refine zB5 (v := .bool true) (gvt hc10) hc4 rfl ?_
  exact ⟨rfl, rfl⟩
 refine stp (zJ2 rfl rfl rfl ?_)
 refine zA4 ?_
 refine zB8 (b := ((decide (((wordA (cutW sz wl) seg a).2) = 0)) && true)) rfl (fun h1 => ?_) (fun h1 => ?_)
 ·-- true
  simp only [sb] at h1
  rcases hpw with ⟨hx_, -⟩ | ⟨k, hk0, hkp, hkl, hks⟩
  ·exact absurd (by omega) hx_
  refine zA6 (zA1 rfl ?_)
  refine stp (zA5 rfl ?_)
  refine stp (zB5 (v := u) rfl hc4 rfl ?_)
  refine zA3 (og rfl ?_)
  refine zF1 rfl (zR2 _ (hA.grow G) (by omega)) ?_
  rintro v_ w11 ⟨ad9, c9, rfl, hc9, oZ, g_⟩
  replace hc4 := g_.heap hc4
  replace G := G.tr g_
  clear g_
  obtain ⟨_, _, hs9, -, -, RZ⟩ := zE2 oZ (by omega)
  cases hs9
  rw [hcw, hcz] at RZ
  clear oZ
  have hc8 : sz.length ≤ c9 := by omega
  refine stp (zA2 rfl ?_)
  refine stp (zA2 rfl ?_)
  refine stp (zC0 (v := .int .i64 (k : Int)) rfl ((by have h_ := qM5 w11 (seg := seg) (a := a) RZ hrz hc8; rw [hkp] at h_; rw [hcw]; exact h_)) ?_)
  intro w12 g13
  replace hc4 := g13.heap hc4
  replace RZ := RZ.grow g13
  replace G := G.tr g13
  clear g13
  refine stp (zA0 rfl ?_)
  refine zA4 ?_
  refine zA6 (zA1 rfl ?_)
  refine stp (zA2 rfl ?_)
  refine stp (zM5 rfl rfl (by omega) ?_)
  refine stp (zB6 (v := .bool false) rfl ?_)
  refine stp (zA2 rfl ?_)
  refine zA3 (og rfl ?_)
  refine zK3 rfl rfl ?_ ?_ ?_ ?_; omega; omega; (constructor <;> omega)
  rw [show (k : Int) / 8 = ((k / 8 : Nat) : Int) from by omega]
  refine stp (zA5 rfl ?_)
  refine stp (zB5 (v := .slice adh (chunksM sz) ch) rfl hc4 rfl ?_)
  refine stp (zE8 rfl rfl rfl ?_)
  refine stp (qH1 rfl rfl (by omega) ?_)
  refine stp (zG8 (v := .bool false) rfl rfl rfl ?_)
  refine stp (zB6 (v := .bool false) rfl ?_)
  refine stp (zA5 rfl ?_)
  refine stp (zB5 (v := .slice adh (chunksM sz) ch) rfl hc4 rfl ?_)
  refine stp (zA2 rfl ?_)
  refine zA3 (og rfl ?_)
  refine zK3 rfl rfl ?_ ?_ ?_ ?_; omega; omega; (constructor <;> omega)
  rw [show (k : Int) / 8 = ((k / 8 : Nat) : Int) from by omega]
  refine stp (zD9 (RH.grow G) rfl rfl ?_ ?_); omega
  refine stp (zD7 (v := .bool (bitQ kb (k / 8))) (m := 0) (RH.grow G) rfl (by rw [Nat.mul_one, List.getElem?_map, List.getElem?_range (by omega)]; rfl) ?_)
  refine stp (zN6 rfl ?_)
  refine stp (zG8 (v := .bool (!(bitQ kb (k / 8)))) rfl rfl rfl ?_)
  refine zA4 ?_
  refine zB8 (b := (!(bitQ kb (k / 8)))) rfl (fun h2 => ?_) (fun h2 => ?_)
  ·-- true
   simp only [sb] at h2
   refine zA6 (zA1 rfl ?_)
   refine stp (zA0 rfl ?_)
   refine stp (zA0 rfl ?_)
   refine zA4 ?_
   refine zC4 ?_
   refine ret2 (zB3 (v := .int .u64 0) rfl) (zB3 (v := .int .i64 30) rfl) ⟨?_, G⟩
   rw [hks, if_neg (by simpa using h2)]
  ·-- false
   simp only [sb] at h2
   refine zC3 ?_
   refine zA6 (zA1 rfl ?_)
   refine stp (zA2 rfl ?_)
   refine stp (zA2 rfl ?_)
   refine stp (zA0 rfl ?_)
   refine stp (zA0 rfl ?_)
   refine zA4 ?_
   refine zC4 ?_
   refine ret2 (zB3 (v := .int .u64 ((wordA (cutW sz wl) seg a).1)) rfl) (zB3 (v := .int .i64 ((wordA (cutW sz wl) seg a).2)) rfl) ⟨?_, G⟩
   rw [hks, if_pos (by simpa using h2)]
 ·-- false
  simp only [sb] at h1
  rcases hpw with ⟨-, hx_⟩ | ⟨k, hk0, -⟩
  ·
   refine zC3 ?_
   refine zA6 (zA1 rfl ?_)
   refine stp (zA2 rfl ?_)
   refine stp (zA2 rfl ?_)
   refine stp (zA0 rfl ?_)
   refine stp (zA0 rfl ?_)
   refine zA4 ?_
   refine zC4 ?_
   refine ret2 (zB3 (v := .int .u64 ((wordA (cutW sz wl) seg a).1)) rfl) (zB3 (v := .int .i64 ((wordA (cutW sz wl) seg a).2)) rfl) ⟨?_, G⟩
   rw [hx_]
  ·exact absurd hk0 (by omega)

theorem yF7 {w : World} {ua : Value} {adh : Option Addr} {ch : Nat} {sz wl kb : List Int} (hA : ArenaR w ua (cutW sz wl)) (hf : fitsL sz = true) (hlw : wl.length = wordsM sz) (hu : ∀ x ∈ wl, inR .u64 x) (RH : RowAt w 1 adh (chunksM sz) ((List.range (chunksM sz)).map fun c => .bool (bitQ kb c))) : SrcR Tryz.prog 110 w ua true (.slice adh (chunksM sz) ch) (cutW sz wl) (srcP sz wl kb) :=
  ⟨hA, (zY6 hf hlw).1.symm, fun w' g seg a _ _ => qO5 w' (hA.grow g) hf hlw (RH.grow g) seg a, qV6 hu, fun seg a h => by
    show 0 ≤ seg ∧ seg < sz.length ∧ _
    have h2 : (srcW sz wl kb seg a).2 = 0 := h
    unfold srcW at h2
    split at h2
    · simp at h2
    · rename_i hp
      have hl := zX0 (sz := sz) (seg := seg) (a := a) (by omega)
      have hz := zH7 hf seg.toNat
      omega, by rw [zN2]; have := zG2 hf; omega, fun i => by
    have h1 := zL4 (cutW sz wl) i
    rw [(zY6 hf hlw).1] at h1
    have := zH7 hf i
    omega⟩

set_option maxRecDepth 100000 in
theorem zU1 (w : World) {ads adb adh : Option Addr} {cs cb ch : Nat} {ses sum : Int} {sz wl kb : List Int} (Y : TR 3 5 4 w ads adb adh cs cb ch sz wl kb) : Calls Tryz.prog 54 #[.agg #[.int .u64 ses, .slice ads sz.length cs, .int .u32 sum, .slice adb (8 * wl.length) cb, .slice adh (chunksM sz) ch]] w (Ret fun v w' => Row w' 1 v kb.length (kb.map (.int .u8)) ∧ Grow w w') := by
 have hfit := Y.fit
 have hlw := Y.lw
 have hlk := Y.lk
 have hrz : ∀ x ∈ sz, inR .i64 x := zI7 hfit
 have hle := zG9 sz
 have hwf := zF4 hfit
 have hch : chunksM sz = (wordsM sz + 7) / 8 := rfl
 have hf16 := zG2 hfit
 have hcs := Y.hcs
 have hcb := Y.hcb
 have hcn := Y.hch
 have RS := Y.rs
 have RB := Y.rb
 have RH := Y.rh
 have hfl8 := zL3 wl
 have hub := Y.ub
 have hlow := Y.low
 have G := Grow.rfl' w
 refine zE3 Tryz.func54 Tryz.ntmps54 Tryz.results54 rfl rfl ?_
 refine zA6 (zA1 rfl ?_)
 refine zA3 (og rfl ?_)
 (first | refine zD0 rfl ?_ | refine zD2 rfl ?_ | refine zC5 rfl ?_ | refine zH0 rfl rfl ?_)
 intro b1 w2 hb3 hc4 g5
 have hge6 := Nat.le_trans G.size hb3
 replace G := G.tr g5
 clear g5 hb3
 refine stp (zB0 rfl ?_)
 refine zA4 ?_
 refine zA6 (zA1 rfl ?_)
 refine stp (zA5 rfl ?_)
 refine stp (zB5 (v := .slice adh (chunksM sz) ch) rfl hc4 rfl ?_)
 refine stp (zE8 rfl rfl rfl ?_)
 refine zA3 (og rfl ?_)
 have hG1 := G.size
 refine zF1 rfl (qO1 _ (n := chunksM sz) (by omega)) ?_
 rintro v_ w7 ⟨b0, rfl, oZ_, g_⟩
 have oZ := zI0 oZ_ hG1
 clear oZ_
 replace hc4 := g_.heap hc4
 replace G := G.tr g_
 clear g_
 rw [← hlk] at oZ
 rw [← hlk]
 refine stp (zB0 rfl ?_)
 refine zA4 ?_
 refine zA6 ?_
 refine zA6 (zA1 rfl ?_)
 refine stp (zA0 rfl ?_)
 refine zA4 ?_
 refine zC6 ?_
 refine zG6 (fun m_ e_ w_ => ∃ (j : Nat) (zb : List Int) (adz : Option Addr) (cz : Nat), m_ = chunksM sz - j ∧ Fr [(1, .pointer (some ⟨b1, 0, none⟩)), (2, .slice none 0 0), (4, .int .i64 (j : Int)), (3, .slice adz kb.length cz)] e_ ∧ (j ≤ chunksM sz) ∧ (zb.length = kb.length) ∧ (isB zb) ∧ (∀ c, bitQ zb c = (decide (c < j) && bitQ kb c)) ∧ (w_.heap[b1]? = some (.cells #[.int .u64 ses, .slice ads sz.length cs, .int .u32 sum, .slice adb (8 * wl.length) cb, .slice adh (chunksM sz) ch] 56 (0, 0))) ∧ (w_.ownsRow w.heap.size 5 1 (.slice adz kb.length cz) kb.length (zb.map (.int .u8))) ∧ Grow w w_) _ ⟨0, _, _, _, rfl, zE6 ⟨rfl, rfl, rfl, rfl, trivial⟩, by omega, List.length_replicate, fun x hx_ => by rw [List.eq_of_mem_replicate hx_]; simp [inR], fun c => by rw [yE4]; simp, hc4, oZ, G⟩ ?_
 clear hc4 oZ
 clear G
 rintro m_ e_ w8 ⟨j, zb, adz, cz, rfl, ⟨e9, rfl⟩, hj, hzl, hzu, hzb, hc4, oZ, G⟩
 have hzl' := hzl
 refine zA6 ?_
 refine zA6 (zA1 rfl ?_)
 refine stp (zA2 rfl ?_)
 refine stp (zA5 rfl ?_)
 refine stp (zB5 (v := .slice adh (chunksM sz) ch) rfl hc4 rfl ?_)
 refine stp (zE8 rfl rfl rfl ?_)
 refine stp (zF9 rfl rfl ?_)
 refine zA4 ?_
 refine zB8 (b := (decide ((j : Int) < ((chunksM sz) : Int)))) rfl (fun hlt => ?_) (fun hlt => ?_)
 ·-- true
  replace hlt := of_decide_eq_true hlt
  refine zC3 ?_
  refine zA6 ?_
  refine zC6 ?_
  refine zA6 (zA1 rfl ?_)
  refine stp (zA5 rfl ?_)
  refine stp (zB5 (v := .slice adh (chunksM sz) ch) rfl hc4 rfl ?_)
  refine stp (zA2 rfl ?_)
  refine stp (zD9 (RH.grow G) rfl rfl ?_ ?_); omega
  refine stp (zD7 (v := .bool (bitQ kb j)) (m := 0) (RH.grow G) rfl (by rw [Nat.mul_one, List.getElem?_map, List.getElem?_range (by omega)]; rfl) ?_)
  refine zA4 ?_
  refine zB8 (b := (bitQ kb j)) rfl (fun h2 => ?_) (fun h2 => ?_)
  ·-- true
   refine zA1 rfl ?_
   refine stp (zA7 rfl ?_)
   refine stp (zA2 rfl ?_)
   refine zA3 (og rfl ?_)
   have hzf : bitQ zb j = false := by rw [hzb]; simp
   obtain ⟨_, _, hs9, hq1, hq2, RZ⟩ := zE2 oZ (by omega)
   cases hs9
   rw [← hzl] at RZ hq1
   have hcal := qS3 _ hq1 hq2 RZ hzu (i := j) (by omega) (by omega) hzf
   rw [hzl] at hcal
   have hG4 := G.size
   refine zF1 rfl hcal ?_
   rintro v_ w10 ⟨ad5, c5, rfl, o5_, g_⟩
   have o5 := zI0 o5_ hG4
   clear o5_ hcal
   replace hc4 := g_.heap hc4
   replace oZ := zC8 oZ g_
   replace G := G.tr g_
   clear g_
   refine stp (zB0 rfl ?_)
   refine zA4 ?_
   refine zA1 rfl ?_
   refine stp (zA2 rfl ?_)
   refine stp (zD8 rfl rfl ?_ ?_); constructor <;> omega
   refine stp (zA0 rfl ?_)
   refine zA4 ?_
   have hsb := qU5 hzu (i := j) (by omega)
   refine ⟨_, ?_, j + 1, setQ zb j, _, _, rfl, zE6 ⟨rfl, rfl, congrArg (Value.int .i64) (by omega), rfl, trivial⟩, by omega, by rw [qI1]; exact hzl, qI2 hzu j, yF6 hzb hsb h2, hc4, o5, G⟩
   omega
  ·-- false
   refine zC3 ?_
   refine zA1 rfl ?_
   refine stp (zA2 rfl ?_)
   refine stp (zD8 rfl rfl ?_ ?_); constructor <;> omega
   refine stp (zA0 rfl ?_)
   refine zA4 ?_
   refine ⟨_, ?_, j + 1, zb, _, _, rfl, zE6 ⟨rfl, rfl, congrArg (Value.int .i64) (by omega), rfl, trivial⟩, by omega, hzl, hzu, qZ3 hzb (by simpa using h2), hc4, oZ, G⟩
   omega
 ·-- false
  replace hlt := of_decide_eq_false hlt
  have hj9 : j = chunksM sz := by omega
  have hze := yK2 hub hzu hzl hlow (fun c => by rw [hzb, hj9])
  rw [hze] at oZ
  refine zF6 ?_
  refine zA6 (zA1 rfl ?_)
  refine stp (zA7 rfl ?_)
  refine stp (zB0 rfl ?_)
  refine zA4 ?_
  refine zC4 ?_
  refine ret1 (zB3 (v := .slice adz kb.length cz) rfl) ⟨zE2 oZ (by omega), G⟩
end Go.Proofs.YtifhcfhdajkhlaaGreat.K

