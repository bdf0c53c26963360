/- package span (printed by sp04.py). -/
import Derived.Test.YtldlfhodboigeaaSB
set_option linter.unusedVariables false
set_option linter.unusedSimpArgs false
namespace Go.Proofs.Ytldlfhodboigeaa.K
open Go Go.RowKit Go.Proofs
attribute [local irreducible] Run1 OpG WL W AO Gives
set_option maxRecDepth 100000 in
theorem delete_calls (w : World) {base c : Nat} {ad : Option Addr} {L : List Spn} (own : w.ownsRow base 26 2 (.slice ad L.length c) L.length (encL L)) (hbase : base ≤ w.heap.size) (hl : L.length ≤ 8796093022208) : Calls Try.prog 22 #[.slice ad L.length c, .func (.func 24) #[] #[]] w (Ret fun v w' => w'.ownsRow base 26 2 v (L.filter keepS).length (encL (L.filter keepS)) ∧ Below base w w') := by
 refine calls_ret Try.func22 Try.ntmps22 Try.results22 rfl rfl ?_
 have hB := Below.refl base w
 have hsz := hbase
 obtain ⟨ad', c', he, hc1, hc2, R⟩ := own_row own (by omega)
 simp only [Value.slice.injEq, true_and] at he
 obtain ⟨rfl, rfl⟩ := he
 refine W_seq (W_region rfl ?_)
 refine stp (r_assign_slice rfl ?_)
 refine WL_nil ?_
 refine W_seq (W_region rfl ?_)
 refine stp (r_move_slice rfl ?_)
 refine stp (r_move_func rfl ?_)
 refine stp (r_gives (v := .int .i64 (findI (fun i => noneS (gS L i)) L.length 0)) rfl (index_calls _ R (fun i => noneS (gS L i)) (fun i hi w' g' => by rw [row_gS R hi]; exact none_calls w' _ _)) ?_)
 intro w1 g2
 replace hB := Below.trans hB (Below.mono g2 hsz)
 replace hsz := Nat.le_trans hsz g2.size
 replace own := own_grow own g2
 clear g2
 refine stp (r_assign_int rfl ?_)
 refine WL_nil ?_
 refine W_seq ?_
 refine W_seq (W_region rfl ?_)
 refine stp (r_move_int rfl ?_)
 refine stp (r_eql rfl rfl ?_)
 refine WL_nil ?_
 rcases findI_or (fun i => noneS (gS L i)) L.length with ⟨hfi, hno⟩ | ⟨i, hi, hfi, hpi, hno⟩
 ·
  refine W_true (show _ = Value.bool true from congrArg Value.bool (by rw [hfi]; rfl)) ?_
  refine W_seq (W_region rfl ?_)
  refine stp (r_move_slice rfl ?_)
  refine stp (r_assign_slice rfl ?_)
  refine WL_nil ?_
  refine W_ret ?_
  have hfl : L.filter keepS = L := List.filter_eq_self.2 fun s hs => by
   obtain ⟨j, hj, rfl⟩ := List.getElem_of_mem hs
   have := hno j hj
   rw [gS_get hj] at this
   simp [keepS, this]
  rw [hfl]
  refine ret1 (res_tmp (v := .slice ad L.length c) rfl) ⟨own, hB⟩
 ·
  refine W_false (show _ = Value.bool false from congrArg Value.bool (by rw [hfi]; exact decide_eq_false (by omega))) ?_
  obtain ⟨q, cap, cur, hv, hq, hgc, hn1, hn2, hcs, hct⟩ := own_pos own (by omega)
  simp only [Value.slice.injEq, true_and] at hv
  obtain ⟨rfl, rfl⟩ := hv
  clear own R
  have D0 := DelSt.start hcs hn1 hct hi hpi hno
  refine W_skip ?_
  refine W_seq ?_
  refine W_seq (W_region rfl ?_)
  refine stp (r_move_int rfl ?_)
  refine stp (r_add rfl rfl ?_ ?_); constructor <;> omega
  refine stp (r_assign_int rfl ?_)
  refine WL_nil ?_
  refine W_block ?_
  refine W_loop (fun m_ e_ w_ => ∃ (j : Nat) (K : List Spn) (cur' : Array Value), m_ = L.length - j ∧ Fr [(0, .slice (some ⟨q, 0, none⟩) L.length c), (1, .func (.func 24) #[] #[]), (4, .slice none 0 0), (6, .int .i64 (j : Int)), (5, .int .i64 (K.length : Int))] e_ ∧ (DelSt L c j K cur') ∧ (Below base w w_) ∧ (base ≤ w_.heap.size) ∧ (w_.heap[q]? = some (.cells cur' 26 (0, 0)))) _ ⟨i + 1, L.take i, cur, rfl, fr_of ⟨rfl, rfl, rfl, congrArg (Value.int .i64) (by rw [hfi]; omega), congrArg (Value.int .i64) (by rw [hfi, List.length_take]; omega), trivial⟩, D0, hB, hsz, hgc⟩ ?_
  clear hB hsz hgc
  rintro m_ e_ w3 ⟨j, K, cur', rfl, ⟨e4, rfl⟩, D, hB, hsz, hgc⟩
  refine W_seq ?_
  refine W_seq (W_region rfl ?_)
  refine stp (r_move_int rfl ?_)
  refine stp (r_move_slice rfl ?_)
  refine stp (r_len rfl rfl rfl ?_)
  refine stp (r_lss rfl rfl ?_)
  refine WL_nil ?_
  refine W_cond2 (b := (decide ((j : Int) < (L.length : Int)))) rfl (fun hlt => ?_) (fun hlt => ?_)
  ·-- true
   replace hlt := of_decide_eq_true hlt
   have hj : j < L.length := by omega
   have RC := D.row hgc (by omega)
   have hld := D.load hj
   have hlt1 := D.lt
   refine W_skip ?_
   refine W_seq ?_
   refine W_block ?_
   refine W_seq (W_region rfl ?_)
   refine stp (r_move_slice rfl ?_)
   refine stp (r_move_int rfl ?_)
   refine stp (r_indexN RC rfl rfl ?_ ?_); omega
   refine stp (r_loadNR RC rfl (by decide) (by rw [RC.len]; omega) hld ?_)
   refine stp (r_alloc ?_)
   intro b5 w6 hb7 hc8 g9
   refine stn (r_storeAll rfl rfl hc8 (by rfl) (by rfl) (by rfl) ?_)
   intro w10 hc11 u12
   have g13 := g9.upd u12 hb7
   replace hB := Below.trans hB (Below.mono g13 hsz)
   replace hsz := Nat.le_trans hsz g13.size
   replace hgc := g13.heap hgc
   replace RC := RC.grow g13
   clear u12 g9 hb7 hc8
   refine WL_nil ?_
   refine W_seq (W_region rfl ?_)
   refine stp (r_move_func rfl ?_)
   refine stp (r_loadAll rfl hc11 (by rfl) ?_)
   refine stp (r_gives (v := .bool (noneS (gS L j))) rfl (none_calls _ _ _) ?_)
   intro w14 g15
   replace hB := Below.trans hB (Below.mono g15 hsz)
   replace hsz := Nat.le_trans hsz g15.size
   replace hgc := g15.heap hgc
   replace RC := RC.grow g15
   replace hc11 := g15.heap hc11
   clear g15
   refine stp (r_not rfl ?_)
   refine WL_nil ?_
   refine W_cond2 (b := (!(noneS (gS L j)))) rfl (fun hk => ?_) (fun hk => ?_)
   ·-- true
    simp only [Bool.and_eq_true, Bool.or_eq_true, Bool.not_eq_true', Bool.and_eq_false_iff, Bool.or_eq_false_iff, Bool.not_eq_false', decide_eq_true_eq, decide_eq_false_iff_not, Bool.not_true, Bool.not_false, Bool.not_eq_eq_eq_not, Bool.or_false, Bool.and_true, Bool.or_true, Bool.and_false, Bool.false_or, Bool.true_and, Bool.true_or, Bool.false_and, Bool.false_eq_true, Bool.true_eq_false] at hk
    have hkp : noneS (gS L j) = false := by simpa using hk
    refine W_seq (W_region rfl ?_)
    refine stp (r_move_slice rfl ?_)
    refine stp (r_move_int rfl ?_)
    refine stp (r_loadAll rfl hc11 (by rfl) ?_)
    refine stp (r_indexAddr (b := q) (o := 0) (i := (K.length : Int)) rfl rfl ?_ ?_ ?_); omega; omega
    refine stn (r_store (b := q) (o := 0 + K.length * 2) (n := 2) rfl rfl rfl hgc rfl (Nat.ble_eq_true_of_le (by have := D.sz; have := D.cap; omega)) rfl rfl ?_)
    intro w16 hgc2 u2
    replace hB := Below.trans hB (u2.below hq)
    replace hsz : base ≤ w16.heap.size := by rw [u2.size]; exact hsz
    clear RC
    refine WL_nil ?_
    refine W_region rfl ?_
    refine stp (r_move_int rfl ?_)
    refine stp (r_add rfl rfl ?_ ?_); constructor <;> omega
    refine stp (r_assign_int rfl ?_)
    refine WL_nil ?_
    refine W_region rfl ?_
    refine stp (r_move_int rfl ?_)
    refine stp (r_add rfl rfl ?_ ?_); constructor <;> omega
    refine stp (r_assign_int rfl ?_)
    refine WL_nil ?_
    refine ⟨_, ?_, j + 1, K ++ [gS L j], _, rfl, fr_of ⟨rfl, rfl, rfl, rfl, by simp; rfl, trivial⟩, D.put hj hkp, hB, hsz, hgc2⟩
    omega
   ·-- false
    simp only [Bool.and_eq_true, Bool.or_eq_true, Bool.not_eq_true', Bool.and_eq_false_iff, Bool.or_eq_false_iff, Bool.not_eq_false', decide_eq_true_eq, decide_eq_false_iff_not, Bool.not_true, Bool.not_false, Bool.not_eq_eq_eq_not, Bool.or_false, Bool.and_true, Bool.or_true, Bool.and_false, Bool.false_or, Bool.true_and, Bool.true_or, Bool.false_and, Bool.false_eq_true, Bool.true_eq_false] at hk
    have hkp : noneS (gS L j) = true := by simpa using hk
    refine W_skip ?_
    refine W_region rfl ?_
    refine stp (r_move_int rfl ?_)
    refine stp (r_add rfl rfl ?_ ?_); constructor <;> omega
    refine stp (r_assign_int rfl ?_)
    refine WL_nil ?_
    refine ⟨_, ?_, j + 1, K, cur', rfl, fr_of ⟨rfl, rfl, rfl, rfl, rfl, trivial⟩, D.skip hj hkp, hB, hsz, hgc⟩
    omega
  ·-- false
   replace hlt := of_decide_eq_false hlt
   have hj9 : j = L.length := by have := D.hj; omega
   have hlt1 := D.lt
   have hK9 : K = L.filter keepS := by rw [D.hK, hj9, List.take_length]
   refine W_exit ?_
   refine W_seq (W_region rfl ?_)
   refine stp (r_move_slice rfl ?_)
   refine stp (r_move_int rfl ?_)
   refine stp (r_sliceL rfl rfl ?_ ?_ ?_); omega; omega
   refine stn (r_clear (b := q) (o := K.length * 2) (T := 26) (sz := 2) (z := .agg #[.int .i64 0, .int .i64 0]) (n := L.length - (K.length : Int).toNat) rfl rfl rfl ?_ hgc ?_ rfl ?_ ?_)
   ·intro _
    rw [if_neg (by omega), Int.toNat_natCast]
    simp [add_lit]
   ·rw [Int.toNat_natCast]; have := D.sz; have := D.cap; omega
   ·intro q_ hq_
    have hq2_ : q_ = .int .i64 0 := by simpa [Value.cells] using hq_
    rw [hq2_]; rfl
   intro w17 cs9 hgc9 hs9 ht9 u9
   replace hB := Below.trans hB (u9.below hq)
   refine WL_nil ?_
   refine W_seq (W_region rfl ?_)
   refine stp (r_move_slice rfl ?_)
   refine stp (r_move_int rfl ?_)
   refine stp (r_sliceH rfl rfl ?_ ?_ ?_); omega; omega
   refine stp (r_assign (v := .slice (if c = 0 then some ⟨q, 0, none⟩ else (some (⟨q, 0, none⟩ : Addr)).map (·.add (0 * 2))) (K.length : Int).toNat c) rfl ?_)
   refine WL_nil ?_
   refine W_ret ?_
   have hsl : (Value.slice (if c = 0 then some ⟨q, 0, none⟩ else (some (⟨q, 0, none⟩ : Addr)).map (·.add (0 * 2))) (K.length : Int).toNat c) = .slice (some ⟨q, 0, none⟩) K.length c := by rw [if_neg (by omega), Int.toNat_natCast]; simp [add_lit]
   rw [← hK9]
   refine ret1 (res_tmp (v := .slice (if c = 0 then some ⟨q, 0, none⟩ else (some (⟨q, 0, none⟩ : Addr)).map (·.add (0 * 2))) (K.length : Int).toNat c) rfl) ⟨by rw [hsl]; exact ⟨encL_len _, .inr ⟨q, c, cs9, rfl, hq, hgc9, by omega, hn2, by rw [hs9, D.sz], by rw [ht9, D.hd]⟩⟩, hB⟩
end Go.Proofs.Ytldlfhodboigeaa.K
