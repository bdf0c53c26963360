/- package span (printed by sp04.py). -/
import Derived.Test.YtldlfhodboigeaaSD
set_option linter.unusedVariables false
set_option linter.unusedSimpArgs false
namespace Go.Proofs.Ytldlfhodboigeaa.K
open Go Go.RowKit Go.Proofs
attribute [local irreducible] Run1 OpG WL W AO Gives
set_option maxRecDepth 100000 in
theorem put_calls (w : World) {b B n : Nat} {v : Value} {O : List Spn} (f t : Int) (hb : w.heap[b]? = some (.cells #[v] 23 (0, 0))) (own : w.ownsRow B 26 2 v n (encL O)) (hn : O.length = n) (hB : B ≤ w.heap.size) (hl : n ≤ 1099511627776) : Calls Try.prog 29 #[.int .i64 f, .int .i64 t, .pointer (some ⟨b, 0, none⟩)] w (Ret fun r w' => ∃ v2, w'.heap[b]? = some (.cells #[v2] 23 (0, 0)) ∧ w'.ownsRow B 26 2 v2 (O ++ putS f t).length (encL (O ++ putS f t)) ∧ Kp (b :: v.ownBlock.toList) w w') := by
 refine calls_ret Try.func29 Try.ntmps29 Try.results29 rfl rfl ?_
 subst hn
 have K1 := Kp.refl (b :: v.ownBlock.toList) w
 have hB1 := hB
 refine W_seq (W_region rfl ?_)
 refine stp (r_move_int rfl ?_)
 refine stp (r_move_int rfl ?_)
 refine stp (r_lss rfl rfl ?_)
 refine WL_nil ?_
 refine W_cond2 (b := (decide (f < t))) rfl (fun h1 => ?_) (fun h1 => ?_)
 ·-- true
  replace h1 := of_decide_eq_true h1
  refine W_region rfl ?_
  refine stp (r_load (v := v) rfl hb rfl ?_)
  refine stp (r_move_int rfl ?_)
  refine stp (r_move_int rfl ?_)
  refine stp (r_build (v := .agg #[.int .i64 f, .int .i64 t]) (fun w => by kernel_rfl) ?_)
  refine stp (r_buildSlice (cs := #[.int .i64 f, .int .i64 t]) (el := 26) (fun w => by kernel_rfl) ?_)
  intro bs1 w2 hb3 hc4 g5
  replace hb := g5.heap hb
  replace own := own_grow own g5
  replace K1 := K1.tr (Kp.of_grow g5)
  replace hB1 := Nat.le_trans hB1 g5.size
  clear g5
  refine stp (r_append rfl rfl rfl rfl own (Row.of_block (n := 1) hc4 rfl rfl (by omega)) (fun q_ hq_ => by simp at hq_; rcases hq_ with rfl | rfl <;> rfl) (by simp only [maxLen]; omega) (by omega) hB1 ?_)
  intro v9 w9 own9 gr9
  have K9 := K1.tr (Kp.of_grownBy gr9 (fun k_ hk_ => List.mem_cons_of_mem _ (Option.mem_toList.2 hk_)))
  have hb9 := gr_heap gr9 hb (own_ne own hb (by decide))
  refine stn (r_store1 (v := v9) rfl rfl (own_one own9) hb9 (by rfl) (by rfl) ?_)
  intro w10 hb10 u10
  refine WL_nil ?_
  have hp : putS f t = [(f, t)] := if_pos h1
  rw [hp]
  refine ret0n ⟨v9, hb10, ?_, K9.tr (Kp.of_upd u10 (by simp))⟩
  rw [List.length_append, encL_append]
  exact own_upd own9 u10 (own_ne own9 hb9 (by decide))
 ·-- false
  replace h1 := of_decide_eq_false h1
  refine W_skip ?_
  have hp : putS f t = [] := if_neg (by omega)
  rw [hp, List.append_nil]
  exact ret0n ⟨v, hb, own, K1⟩

set_option maxRecDepth 100000 in
theorem holes_calls (w : World) {ad : Option Addr} {c n : Nat} {L : List Spn} (s1 s2 : Int) (hc : n ≤ c) (hc2 : c ≤ maxLen) (R : RowAt w 2 ad n (encL L)) (hb : n ≤ 549755813888) : Calls Try.prog 15 #[.slice ad n c, .agg #[.int .i64 s1, .int .i64 s2]] w (Ret fun v w' => w'.ownsRow w.heap.size 26 2 v (hls L (s1, s2)).length (encL (hls L (s1, s2))) ∧ Grow w w') := by
 have G := Grow.rfl' w
 refine calls_ret Try.func15 Try.ntmps15 Try.results15 rfl rfl ?_
 have hLn := row_lenS R
 have hnl := nrm_len L
 refine W_seq (W_region rfl ?_)
 refine WL_some (og rfl ?_)
 (first | refine r_box_agg rfl ?_ | refine r_box_int rfl ?_ | refine r_box_slice rfl ?_ | refine r_box rfl rfl ?_)
 intro b1 w2 hb3 hc4 g5
 have hge6 := Nat.le_trans G.size hb3
 replace G := G.tr g5
 clear g5 hb3
 refine stp (r_assign_slice rfl ?_)
 refine WL_nil ?_
 refine W_seq (W_region rfl ?_)
 refine stp (r_alloc ?_)
 intro b7 w8 hb9 hc10 g11
 refine WL_nil ?_
 have hge12 := Nat.le_trans G.size hb9
 have ne13 := Nat.ne_of_lt (Nat.lt_of_lt_of_le (lt_of_heap hc4) hb9)
 replace hc4 := g11.heap hc4
 replace G := G.tr g11
 clear g11 hb9
 refine W_seq (W_region rfl ?_)
 refine stp (r_makeFunc (vs := []) (us := [.pointer (some ⟨b7, 0, none⟩)]) rfl rfl ?_)
 refine stp (r_assign_func rfl ?_)
 refine WL_nil ?_
 refine W_seq ?_
 refine W_seq (W_region rfl ?_)
 refine stp (r_move_slice rfl ?_)
 refine WL_some (og rfl ?_)
 have hpre3 := hc4
 have hpre5 := hc10
 refine r_call rfl (norm_calls _ hc hc2 (R.grow G) (by omega)) ?_
 rintro v1 w1 ⟨own1, g1⟩
 replace hc4 := g1.heap hc4
 replace hc10 := g1.heap hc10
 replace G := G.tr g1
 obtain ⟨ad1, n1, c1, rfl⟩ := own_slice own1
 have hn1 := own_lenS own1
 subst hn1
 have ne5 : ∀ k, (Value.slice ad1 (nrm L).length c1).ownBlock = some k → k ∉ [b1, b7] := fun k hk hm => by simp only [List.mem_cons, List.not_mem_nil, or_false] at hm; have hge9 := (own1.lt k hk).1; have := lt_of_heap hpre3; have := lt_of_heap hpre5; omega
 have lt3 := lt_of_heap hc4
 have lt5 := lt_of_heap hc10
 have n35 : b1 ≠ b7 := fun he_ => by have h9_ := hc4; rw [he_, hc10] at h9_; simp at h9_
 have Gw := G
 have hge5 := hge12
 have hge3 := hge6
 have K1 := KB.refl w1.heap.size [b1, b7] w1
 have hB1 := Nat.le_refl w1.heap.size
 have ownO : w1.ownsRow w1.heap.size 26 2 (.slice none 0 0) 0 (encL []) := World.ownsRow_nil _ _ _ _
 refine stp (r_len rfl rfl rfl ?_)
 refine stp (r_move_int rfl ?_)
 refine WL_nil ?_
 refine W_block ?_
 refine W_loop (fun m_ e_ w_ => ∃ (k : Nat) (f : Int) (ho : List Spn) (vo : Value), m_ = (nrm L).length - k ∧ Fr [(3, .pointer (some ⟨b1, 0, none⟩)), (4, .slice none 0 0), (5, .pointer (some ⟨b7, 0, none⟩)), (6, .func (.func 29) #[] #[.pointer (some ⟨b7, 0, none⟩)]), (11, .slice ad1 ((nrm L).length) c1), (12, .int .i64 ((nrm L).length : Int)), (13, .int .i64 (k : Int))] e_ ∧ (k ≤ (nrm L).length) ∧ (ho ++ holesG ((nrm L).drop k) f s2 = hls L (s1, s2)) ∧ (KB w1.heap.size [b1, b7] w1 w_) ∧ (w1.heap.size ≤ w_.heap.size) ∧ (w_.heap[b1]? = some (.cells #[.int .i64 f, .int .i64 s2] 26 (0, 0))) ∧ (w_.heap[b7]? = some (.cells #[vo] 23 (0, 0))) ∧ (w_.ownsRow w1.heap.size 26 2 vo ho.length (encL ho))) _ ⟨0, s1, [], _, rfl, fr_of ⟨rfl, rfl, rfl, rfl, rfl, rfl, rfl, trivial⟩, by omega, rfl, K1, hB1, hc4, hc10, ownO⟩ ?_
 clear hc4 hc10 K1 hB1 ownO
 rintro m_ e_ w14 ⟨k, f, ho, vo, rfl, ⟨e15, rfl⟩, hk, hO, K1, hB1, hb3, hb5, ownO⟩
 refine W_seq (W_region rfl ?_)
 refine stp (r_lss rfl rfl ?_)
 refine WL_nil ?_
 refine W_seq ?_
 refine W_cond2 (b := (decide ((k : Int) < ((nrm L).length : Int)))) rfl (fun hlt => ?_) (fun hlt => ?_)
 ·-- true
  replace hlt := of_decide_eq_true hlt
  have hkN : k < (nrm L).length := by omega
  obtain ⟨ad2, c2, he2, -, -, RN⟩ := own_row (KB.own K1 own1 ne5) (by omega)
  simp only [Value.slice.injEq, true_and] at he2
  obtain ⟨rfl, rfl⟩ := he2
  have hd : (nrm L).drop k = gS (nrm L) k :: (nrm L).drop (k + 1) := by rw [gS_get hkN, List.drop_eq_getElem_cons hkN]
  rw [hd, holesG] at hO
  have ltO := ownO.lt
  have hsz0 := Nat.le_refl w14.heap.size
  have hW0 := hB1
  refine W_skip ?_
  refine W_seq ?_
  refine W_block ?_
  refine W_seq (W_region rfl ?_)
  refine stp (r_indexN RN rfl rfl ?_ ?_); omega
  refine stp (r_loadNR RN rfl (by decide) (by rw [RN.len]; omega) (row_gS RN (by omega)) ?_)
  refine stp (r_alloc ?_)
  intro b16 w17 hb18 hc19 g20
  refine stn (r_storeAll rfl rfl hc19 (by rfl) (by rfl) (by rfl) ?_)
  intro w21 hc22 u23
  have g24 := g20.upd u23 hb18
  have hN_b16 := Nat.le_trans hsz0 hb18
  replace K1 := K1.tr (KB.of_grow g24 hB1)
  replace hB1 := Nat.le_trans hB1 g24.size
  replace hb3 := g24.heap hb3
  replace hb5 := g24.heap hb5
  replace ownO := own_grow ownO g24
  replace RN := RN.grow g24
  replace hsz0 := Nat.le_trans hsz0 g24.size
  clear u23 g20 hb18 hc19
  refine WL_nil ?_
  refine W_seq (W_region rfl ?_)
  refine stp (r_move_func rfl ?_)
  refine stp (r_fieldAddr rfl ?_)
  refine stp (r_load (v := .int .i64 f) rfl hb3 rfl ?_)
  refine stp (r_fieldAddr rfl ?_)
  refine stp (r_load (v := .int .i64 ((gS (nrm L) k).1)) rfl hc22 rfl ?_)
  refine stp (r_fieldAddr rfl ?_)
  refine stp (r_load (v := .int .i64 s2) rfl hb3 rfl ?_)
  refine stp (r_min rfl rfl rfl ?_)
  refine WL_some (og rfl ?_)
  clear RN
  refine r_call rfl (put_calls _ f (if s2 < (gS (nrm L) k).1 then s2 else (gS (nrm L) k).1) hb5 ownO rfl hB1 (by have := hls_len L (s1, s2); have hQ := congrArg List.length hO; simp only [List.length_append] at hQ; omega)) ?_
  rintro _ wp ⟨vo2, hb5', own2, Kp1⟩
  replace K1 := K1.tr (KB.of_kp Kp1 (fun x_ hx_ => (kp_low ownO x_ hx_).imp (fun h_ => by simp [h_]) id) hB1)
  have hb8' := Kp1.heap hc22 (fun hm_ => by rcases List.mem_cons.1 hm_ with h_ | h_; (have h9_ := hc22; rw [h_, hb5] at h9_; simp at h9_); (have := (ltO b16 (by simpa using h_)).2; have := hN_b16; omega))
  replace hb3 := Kp1.heap hb3 (fun hm_ => by rcases kp_low ownO b1 hm_ with h_ | h_ <;> omega)
  have n38 : b16 ≠ b1 := by have := hN_b16; omega
  replace hB1 := Nat.le_trans hB1 Kp1.size
  have hmin : (if s2 < (gS (nrm L) k).1 then s2 else (gS (nrm L) k).1) = min (gS (nrm L) k).1 s2 := by split <;> omega
  rw [hmin] at own2
  refine WL_nil ?_
  refine W_region rfl ?_
  refine stp (r_fieldAddr rfl ?_)
  refine stp (r_load (v := .int .i64 f) rfl hb3 rfl ?_)
  refine stp (r_fieldAddr rfl ?_)
  refine stp (r_load (v := .int .i64 ((gS (nrm L) k).2)) rfl hb8' rfl ?_)
  refine stp (r_max rfl rfl rfl ?_)
  refine stp (r_fieldAddr rfl ?_)
  refine stn (r_store1 (v := .int .i64 (max f (gS (nrm L) k).2)) rfl (congrArg (Value.int .i64) (by split <;> omega)) (by rfl) hb3 (by rfl) (by rfl) ?_)
  intro w9 hb39 u9
  have K9 := K1.tr (KB.of_upd u9 (.inl (by simp)))
  have hb59 := u9.heap hb5' n35.symm
  have own9 := own_upd own2 u9 (fun he_ => by have := (own2.lt _ he_).1; omega)
  have hB9 : w1.heap.size ≤ w9.heap.size := by rw [u9.size]; exact hB1
  refine WL_nil ?_
  refine W_region rfl ?_
  refine stp (r_add rfl rfl ?_ ?_); constructor <;> omega
  refine stp (r_move_int rfl ?_)
  refine WL_nil ?_
  refine ⟨_, ?_, k + 1, max f (gS (nrm L) k).2, ho ++ putS f (min (gS (nrm L) k).1 s2), vo2, rfl, fr_of ⟨rfl, rfl, rfl, rfl, rfl, rfl, congrArg (Value.int .i64) (by omega), trivial⟩, by omega, by rw [List.append_assoc]; exact hO, K9, hB9, hb39, hb59, own9⟩
  omega
 ·-- false
  replace hlt := of_decide_eq_false hlt
  have hk9 : k = (nrm L).length := by omega
  rw [hk9, List.drop_length, holesG] at hO
  refine W_exit ?_
  refine W_seq (W_region rfl ?_)
  refine stp (r_move_func rfl ?_)
  refine stp (r_fieldAddr rfl ?_)
  refine stp (r_load (v := .int .i64 f) rfl hb3 rfl ?_)
  refine stp (r_fieldAddr rfl ?_)
  refine stp (r_load (v := .int .i64 s2) rfl hb3 rfl ?_)
  refine WL_some (og rfl ?_)
  refine r_call rfl (put_calls _ f s2 hb5 ownO rfl hB1 (by have := hls_len L (s1, s2); have hQ := congrArg List.length hO; simp only [List.length_append] at hQ; omega)) ?_
  rintro _ wp ⟨vo2, hb5', own2, Kp1⟩
  replace K1 := K1.tr (KB.of_kp Kp1 (fun x_ hx_ => (kp_low ownO x_ hx_).imp (fun h_ => by simp [h_]) id) hB1)
  refine WL_nil ?_
  refine W_seq (W_region rfl ?_)
  refine stp (r_load (v := vo2) rfl hb5' rfl ?_)
  refine stp (r_assign (v := vo2) rfl ?_)
  refine WL_nil ?_
  refine W_ret ?_
  rw [hO] at own2
  exact ret1 (res_tmp (v := vo2) rfl) ⟨own_base own2 Gw.size, Below.trans Gw (K1.below Gw.size (fun x_ hx_ => by simp only [List.mem_cons, List.not_mem_nil, or_false] at hx_; rcases hx_ with rfl | rfl <;> assumption))⟩
end Go.Proofs.Ytldlfhodboigeaa.K
