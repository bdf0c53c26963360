/- package span (printed by sp04.py). -/
import Derived.Test.YtldlfhodboigeaaT
import Derived.Test.YtldlfhodboigeaaJ15
import Derived.Test.YtldlfhodboigeaaM08
import Derived.Test.YtldlfhodboigeaaD04
set_option linter.unusedVariables false
set_option linter.unusedSimpArgs false
namespace Go.Proofs.Ytldlfhodboigeaa.K
open Go Go.RowKit Go.Proofs
attribute [local irreducible] Run1 OpG WL W AO Gives
set_option maxRecDepth 100000 in
theorem none_calls (w : World) (a b : Int) : Gives Try.prog 24 #[.agg #[.int .i64 a, .int .i64 b]] w (.bool (noneS (a, b))) := by
 have G := Grow.rfl' w
 refine gives_of Try.func24 Try.ntmps24 Try.results24 rfl rfl ?_
 refine W_seq (W_region rfl ?_)
 refine WL_some (og rfl ?_)
 (first | refine r_box_agg rfl ?_ | refine r_box_int rfl ?_ | refine r_box_slice rfl ?_ | refine r_box rfl rfl ?_)
 intro b1 w2 hb3 hc4 g5
 have hge6 := Nat.le_trans G.size hb3
 replace G := G.tr g5
 clear g5 hb3
 refine stp (r_assign (v := .bool false) rfl ?_)
 refine WL_nil ?_
 refine W_seq (W_region rfl ?_)
 refine stp (r_fieldAddr rfl ?_)
 refine stp (r_load (v := .int .i64 b) rfl hc4 rfl ?_)
 refine stp (r_fieldAddr rfl ?_)
 refine stp (r_load (v := .int .i64 a) rfl hc4 rfl ?_)
 refine stp (r_leq rfl rfl ?_)
 refine stp (r_assign_bool rfl ?_)
 refine WL_nil ?_
 refine W_ret ?_
 refine ret1 (res_tmp (v := .bool (decide (b ≤ a))) rfl) ⟨?_, G⟩
 rfl

set_option maxRecDepth 100000 in
theorem isnan_calls (w : World) (a : Int) : Calls Try.prog 40 #[.int .i64 a] w (Ret fun v w' => v = .bool false ∧ w' = w) := by
 refine calls_ret Try.func40 Try.ntmps40 Try.results40 rfl rfl ?_
 refine W_seq (W_region rfl ?_)
 refine stp (r_assign (v := .bool false) rfl ?_)
 refine WL_nil ?_
 refine W_seq (W_region rfl ?_)
 refine stp (r_move_int rfl ?_)
 refine stp (r_move_int rfl ?_)
 refine stp (r_neq_f rfl rfl (by simp) ?_)
 refine stp (r_assign (v := .bool false) rfl ?_)
 refine WL_nil ?_
 refine W_ret ?_
 refine ret1 (res_tmp (v := .bool false) rfl) ⟨rfl, rfl⟩

set_option maxRecDepth 100000 in
theorem compare_calls (w : World) (a b : Int) : Calls Try.prog 28 #[.int .i64 a, .int .i64 b] w (Ret fun v w' => v = .int .i64 (cmpI a b) ∧ w' = w) := by
 refine calls_ret Try.func28 Try.ntmps28 Try.results28 rfl rfl ?_
 refine W_seq (W_region rfl ?_)
 refine stp (r_assign_int rfl ?_)
 refine WL_nil ?_
 refine W_seq (W_region rfl ?_)
 refine stp (r_move_int rfl ?_)
 refine WL_some (og rfl ?_)
 refine r_call rfl (isnan_calls _ _) ?_
 rintro _ _ ⟨rfl, rfl⟩
 refine stp (r_assign (v := .bool false) rfl ?_)
 refine WL_nil ?_
 refine W_seq (W_region rfl ?_)
 refine stp (r_move_int rfl ?_)
 refine WL_some (og rfl ?_)
 refine r_call rfl (isnan_calls _ _) ?_
 rintro _ _ ⟨rfl, rfl⟩
 refine stp (r_assign (v := .bool false) rfl ?_)
 refine WL_nil ?_
 refine W_seq ?_
 refine W_seq (W_region rfl ?_)
 refine stp (r_move (v := .bool false) rfl ?_)
 refine WL_nil ?_
 refine W_false rfl ?_
 refine W_skip ?_
 refine W_seq ?_
 refine W_seq (W_region rfl ?_)
 refine stp (r_move (v := .bool false) rfl ?_)
 refine WL_nil ?_
 refine W_false rfl ?_
 refine W_skip ?_
 refine W_seq ?_
 refine W_seq (W_region rfl ?_)
 refine stp (r_move_int rfl ?_)
 refine stp (r_move_int rfl ?_)
 refine stp (r_lss rfl rfl ?_)
 refine WL_nil ?_
 refine W_cond2 (b := (decide (a < b))) rfl (fun h1 => ?_) (fun h1 => ?_)
 ·-- true
  replace h1 := of_decide_eq_true h1
  refine W_seq (W_region rfl ?_)
  refine stp (r_assign_int rfl ?_)
  refine WL_nil ?_
  refine W_ret ?_
  refine ret1 (res_tmp (v := .int .i64 (-1)) rfl) ⟨?_, rfl⟩
  unfold cmpI; (try simp only [gt_iff_lt] at *); simp [*]
 ·-- false
  replace h1 := of_decide_eq_false h1
  refine W_skip ?_
  refine W_seq ?_
  refine W_seq (W_region rfl ?_)
  refine stp (r_move_int rfl ?_)
  refine stp (r_move_int rfl ?_)
  refine stp (r_gtr rfl rfl ?_)
  refine WL_nil ?_
  refine W_cond2 (b := (decide (a > b))) rfl (fun h2 => ?_) (fun h2 => ?_)
  ·-- true
   replace h2 := of_decide_eq_true h2
   refine W_seq (W_region rfl ?_)
   refine stp (r_assign_int rfl ?_)
   refine WL_nil ?_
   refine W_ret ?_
   refine ret1 (res_tmp (v := .int .i64 1) rfl) ⟨?_, rfl⟩
   unfold cmpI; (try simp only [gt_iff_lt] at *); simp [*]
  ·-- false
   replace h2 := of_decide_eq_false h2
   refine W_skip ?_
   refine W_seq (W_region rfl ?_)
   refine stp (r_assign_int rfl ?_)
   refine WL_nil ?_
   refine W_ret ?_
   refine ret1 (res_tmp (v := .int .i64 0) rfl) ⟨?_, rfl⟩
   unfold cmpI; (try simp only [gt_iff_lt] at *); simp [*]

set_option maxRecDepth 100000 in
theorem or_calls (w : World) {ad : Option Addr} {n c : Nat} {xs : List Int} (R : RowAt w 1 ad n (xs.map (.int .i64))) : Calls Try.prog 27 #[.slice ad n c] w (Ret fun v w' => v = .int .i64 (orS xs) ∧ w' = w) := by
 have ln := R.len
 have lm := R.lim
 simp only [List.length_map, Nat.mul_one] at ln
 refine calls_ret Try.func27 Try.ntmps27 Try.results27 rfl rfl ?_
 refine W_seq (W_region rfl ?_)
 refine stp (r_assign_int rfl ?_)
 refine WL_nil ?_
 refine W_seq (W_region rfl ?_)
 refine stp (r_assign_int rfl ?_)
 refine WL_nil ?_
 refine W_seq ?_
 refine W_seq (W_region rfl ?_)
 refine stp (r_move_slice rfl ?_)
 refine stp (r_len rfl rfl rfl ?_)
 refine stp (r_move_int rfl ?_)
 refine WL_nil ?_
 refine W_block ?_
 have hw : w = w := rfl
 refine W_loop (fun m_ e_ w_ => ∃ (k : Nat), m_ = n - k ∧ Fr [(3, .int .i64 0), (6, .slice ad n c), (7, .int .i64 (n : Int)), (8, .int .i64 (k : Int))] e_ ∧ (k ≤ n) ∧ (orS xs = orS (xs.drop k)) ∧ (RowAt w_ 1 ad n (xs.map (.int .i64))) ∧ (w_ = w)) _ ⟨0, rfl, fr_of ⟨rfl, rfl, rfl, rfl, trivial⟩, by omega, by simp, R, hw⟩ ?_
 clear R hw
 rintro m_ e_ w1 ⟨k, rfl, ⟨e2, rfl⟩, hk, hor, R, hw⟩
 refine W_seq (W_region rfl ?_)
 refine stp (r_lss rfl rfl ?_)
 refine WL_nil ?_
 refine W_seq ?_
 refine W_cond2 (b := (decide ((k : Int) < (n : Int)))) rfl (fun hlt => ?_) (fun hlt => ?_)
 ·-- true
  replace hlt := of_decide_eq_true hlt
  refine W_skip ?_
  refine W_seq ?_
  refine W_block ?_
  refine W_seq (W_region rfl ?_)
  refine stp (r_indexN R rfl rfl ?_ ?_); omega
  refine stp (r_loadR (v := .int .i64 (xs.getD k 0)) (m := 0) R rfl (map_get1 0 (by omega)) ?_)
  refine stp (r_assign_int rfl ?_)
  refine WL_nil ?_
  refine W_seq (W_region rfl ?_)
  refine stp (r_move_int rfl ?_)
  refine stp (r_move_int rfl ?_)
  refine stp (r_neq rfl rfl ?_)
  refine WL_nil ?_
  refine W_cond2 (b := (decide ((xs.getD k 0) ≠ 0))) rfl (fun hx => ?_) (fun hx => ?_)
  ·-- true
   replace hx := of_decide_eq_true hx
   refine W_seq (W_region rfl ?_)
   refine stp (r_move_int rfl ?_)
   refine stp (r_assign_int rfl ?_)
   refine WL_nil ?_
   refine W_ret ?_
   refine ret1 (res_tmp (v := .int .i64 (xs.getD k 0)) rfl) ⟨?_, hw⟩
   rw [hor, List.drop_eq_getElem_cons (show k < xs.length by omega), orS, if_pos (by rw [List.getD_eq_getElem?_getD, List.getElem?_eq_getElem (by omega)] at hx; exact hx)]
   simp [List.getD_eq_getElem?_getD, List.getElem?_eq_getElem (show k < xs.length by omega)]
  ·-- false
   replace hx := of_decide_eq_false hx
   refine W_skip ?_
   refine W_region rfl ?_
   refine stp (r_add rfl rfl ?_ ?_); constructor <;> omega
   refine stp (r_move_int rfl ?_)
   refine WL_nil ?_
   refine ⟨_, ?_, k + 1, rfl, fr_of ⟨rfl, rfl, rfl, rfl, trivial⟩, by omega, by rw [hor, List.drop_eq_getElem_cons (show k < xs.length by omega), orS, if_neg (by rw [List.getD_eq_getElem?_getD, List.getElem?_eq_getElem (by omega)] at hx; exact hx)], R, hw⟩
   omega
 ·-- false
  replace hlt := of_decide_eq_false hlt
  have hk2 : xs.drop k = [] := by rw [List.drop_eq_nil_iff]; omega
  refine W_exit ?_
  refine W_seq (W_region rfl ?_)
  refine stp (r_move_int rfl ?_)
  refine stp (r_assign_int rfl ?_)
  refine WL_nil ?_
  refine W_ret ?_
  refine ret1 (res_tmp (v := .int .i64 0) rfl) ⟨?_, hw⟩
  rw [hor, hk2]; rfl

set_option maxRecDepth 100000 in
theorem index_calls (w : World) {ad : Option Addr} {c n fid : Nat} {fst cap : Array Value} {kc : List Value} [FuncI Try.prog fid] (R : RowAt w 2 ad n kc) (p : Nat → Bool) (hf : ∀ i, i < n → ∀ w', Grow w w' → Gives Try.prog fid (fst.toList ++ ([Value.agg ((kc.drop (i * 2)).take 2).toArray] ++ cap.toList)).toArray w' (.bool (p i))) : Gives Try.prog 37 #[.slice ad n c, .func (.func fid) fst cap] w (.int .i64 (findI p n 0)) := by
 have ln := R.lim
 have G := Grow.rfl' w
 refine gives_of Try.func37 Try.ntmps37 Try.results37 rfl rfl ?_
 refine W_seq (W_region rfl ?_)
 refine stp (r_assign_int rfl ?_)
 refine WL_nil ?_
 refine W_seq ?_
 refine W_seq (W_region rfl ?_)
 refine stp (r_move_slice rfl ?_)
 refine stp (r_len rfl rfl rfl ?_)
 refine stp (r_move_int rfl ?_)
 refine WL_nil ?_
 refine W_block ?_
 refine W_loop (fun m_ e_ w_ => ∃ (k : Nat), m_ = n - k ∧ Fr [(0, .slice ad n c), (1, .func (.func fid) fst cap), (7, .int .i64 (n : Int)), (8, .int .i64 (k : Int))] e_ ∧ (k ≤ n) ∧ (∀ j, j < k → p j = false) ∧ Grow w w_) _ ⟨0, rfl, fr_of ⟨rfl, rfl, rfl, rfl, trivial⟩, by omega, fun j hj => by omega, G⟩ ?_
 clear G
 rintro m_ e_ w1 ⟨k, rfl, ⟨e2, rfl⟩, hk, hno, G⟩
 refine W_seq (W_region rfl ?_)
 refine stp (r_lss rfl rfl ?_)
 refine WL_nil ?_
 refine W_seq ?_
 refine W_cond2 (b := (decide ((k : Int) < (n : Int)))) rfl (fun hlt => ?_) (fun hlt => ?_)
 ·-- true
  replace hlt := of_decide_eq_true hlt
  refine W_skip ?_
  refine W_seq ?_
  refine W_block ?_
  refine W_seq (W_region rfl ?_)
  refine stp (r_move_int rfl ?_)
  refine stp (r_assign_int rfl ?_)
  refine WL_nil ?_
  refine W_seq (W_region rfl ?_)
  refine stp (r_move (v := .func (.func fid) fst cap) rfl ?_)
  refine stp (r_move_slice rfl ?_)
  refine stp (r_move_int rfl ?_)
  refine stp (r_indexN (R.grow G) rfl rfl ?_ ?_); omega
  refine stp (r_loadNR (R.grow G) rfl (by decide) (by rw [R.len]; omega) rfl ?_)
  refine stp (r_gives (v := .bool (p k)) rfl (hf k (by omega) _ G) ?_)
  intro w3 g4
  replace G := G.tr g4
  clear g4
  refine WL_nil ?_
  refine W_cond2 (b := (p k)) rfl (fun hpk => ?_) (fun hpk => ?_)
  ·-- true
   refine W_seq (W_region rfl ?_)
   refine stp (r_move_int rfl ?_)
   refine stp (r_assign_int rfl ?_)
   refine WL_nil ?_
   refine W_ret ?_
   refine ret1 (res_tmp (v := .int .i64 (k : Int)) rfl) ⟨?_, G⟩
   rw [findI_some n 0 k (by omega) (by omega) hpk (fun j _ hj => hno j hj)]
  ·-- false
   refine W_skip ?_
   refine W_region rfl ?_
   refine stp (r_add rfl rfl ?_ ?_); constructor <;> omega
   refine stp (r_move_int rfl ?_)
   refine WL_nil ?_
   refine ⟨_, ?_, k + 1, rfl, fr_of ⟨rfl, rfl, rfl, rfl, trivial⟩, by omega, fun j hj => by rcases Nat.lt_succ_iff_lt_or_eq.1 hj with h | h; exact hno j h; subst h; exact hpk, G⟩
   omega
 ·-- false
  replace hlt := of_decide_eq_false hlt
  have hk2 : k = n := by omega
  subst hk2
  refine W_exit ?_
  refine W_seq (W_region rfl ?_)
  refine stp (r_assign_int rfl ?_)
  refine WL_nil ?_
  refine W_ret ?_
  refine ret1 (res_tmp (v := .int .i64 (-1)) rfl) ⟨?_, G⟩
  rw [findI_none _ _ (fun j _ hj => hno j (by omega))]

set_option maxRecDepth 100000 in
theorem norm1_calls (w : World) (a b c d : Int) : Calls Try.prog 26 #[.agg #[.int .i64 a, .int .i64 b], .agg #[.int .i64 c, .int .i64 d]] w (Ret fun v w' => v = .int .i64 (cfS (a, b) (c, d)) ∧ Exa w w') := by
 refine calls_ret Try.func26 Try.ntmps26 Try.results26 rfl rfl ?_
 have X := Exa.refl w
 refine W_seq (W_region rfl ?_)
 refine stp (r_boxE rfl ?_)
 intro b1 wb1 hge1 hb1 gb1
 replace X := X.tr gb1
 refine stp (r_boxE rfl ?_)
 intro b2 wb2 hge2 hb2 gb2
 replace X := X.tr gb2
 replace hb1 := gb2.grow.heap hb1
 refine stp (r_assign_int rfl ?_)
 refine WL_nil ?_
 refine W_seq ?_
 have kb_hb1 : ∀ w_, exQ.r wb2 w_ → w_.heap[b1]? = some (.cells #[.int .i64 a, .int .i64 b] 26 (0, 0)) := fun w_ k_ => (Exa.grow k_).heap hb1
 have kb_hb2 : ∀ w_, exQ.r wb2 w_ → w_.heap[b2]? = some (.cells #[.int .i64 c, .int .i64 d] 26 (0, 0)) := fun w_ k_ => (Exa.grow k_).heap hb2
 refine W_anyQ 10 [[], [0], [], [0], [3, 2, 1, 0], [], [0], [], [0], [8, 7, 6, 5, 4, 3, 2, 1, 0]] [] exQ (fun k_ w_ => match k_ with | _ => True) mixed (by kernel_rfl) (by kernel_rfl) (by kernel_rfl) (by kernel_rfl) (fun _ _ _ _ _ => trivial) (fun _ _ => trivial) ?_
 intro w1 g2
 replace kb_hb1 : ∀ w_, exQ.r w1 w_ → w_.heap[b1]? = some (.cells #[.int .i64 a, .int .i64 b] 26 (0, 0)) := fun w_ k_ => kb_hb1 w_ (exQ.tr (exQ.grow g2) k_)
 replace kb_hb2 : ∀ w_, exQ.r w1 w_ → w_.heap[b2]? = some (.cells #[.int .i64 c, .int .i64 d] 26 (0, 0)) := fun w_ k_ => kb_hb2 w_ (exQ.tr (exQ.grow g2) k_)
 have k0_ : exQ.r wb2 w1 := (exQ.grow g2)
 apply AOQ_ex (hm := by rfl)
 ·intro w_ g_; refine og rfl ?_; refine r_fieldAddr rfl ?_; exact ⟨Exa.refl _, rfl⟩
 apply AOQ_ex (hm := by rfl)
 ·intro w_ g_; refine og rfl ?_; refine r_load (v := .int .i64 a) rfl (kb_hb1 _ g_) rfl ?_; exact ⟨Exa.refl _, rfl⟩
 apply AOQ_ex (hm := by rfl)
 ·intro w_ g_; refine og rfl ?_; refine r_fieldAddr rfl ?_; exact ⟨Exa.refl _, rfl⟩
 apply AOQ_ex (hm := by rfl)
 ·intro w_ g_; refine og rfl ?_; refine r_load (v := .int .i64 c) rfl (kb_hb2 _ g_) rfl ?_; exact ⟨Exa.refl _, rfl⟩
 apply AOQ_ex (hm := by rfl)
 ·intro w_ g_; refine og rfl ?_; refine r_call rfl (compare_calls _ _ _) ?_; rintro _ _ ⟨rfl, rfl⟩; exact ⟨Exa.refl _, rfl⟩
 apply AOQ_ex (hm := by rfl)
 ·intro w_ g_; refine og rfl ?_; refine r_fieldAddr rfl ?_; exact ⟨Exa.refl _, rfl⟩
 apply AOQ_ex (hm := by rfl)
 ·intro w_ g_; refine og rfl ?_; refine r_load (v := .int .i64 b) rfl (kb_hb1 _ g_) rfl ?_; exact ⟨Exa.refl _, rfl⟩
 apply AOQ_ex (hm := by rfl)
 ·intro w_ g_; refine og rfl ?_; refine r_fieldAddr rfl ?_; exact ⟨Exa.refl _, rfl⟩
 apply AOQ_ex (hm := by rfl)
 ·intro w_ g_; refine og rfl ?_; refine r_load (v := .int .i64 d) rfl (kb_hb2 _ g_) rfl ?_; exact ⟨Exa.refl _, rfl⟩
 apply AOQ_ex (hm := by rfl)
 ·intro w_ g_; refine og rfl ?_; refine r_call rfl (compare_calls _ _ _) ?_; rintro _ _ ⟨rfl, rfl⟩; exact ⟨Exa.refl _, rfl⟩
 refine AOQ_nil ?_
 intro w3 g4 S_
 replace k0_ := (exQ.tr k0_ g4)
 replace X := X.tr k0_
 replace hb1 := kb_hb1 _ g4
 clear kb_hb1
 replace hb2 := kb_hb2 _ g4
 clear kb_hb2
 refine stp (r_buildSliceE (cs := #[.int .i64 (cmpI a c), .int .i64 (cmpI b d)]) (el := 3) (fun w => by kernel_rfl) ?_)
 intro b3 wb3 hge3 hb3 gb3
 replace X := X.tr gb3
 refine WL_some (og rfl ?_)
 refine r_call rfl (or_calls _ (xs := [cmpI a c, cmpI b d]) ?_) ?_
 ·obtain ⟨ad_, c_, he_, -, -, R_⟩ := Row.of_block (sz := 1) (n := 2) hb3 rfl rfl (by omega)
  simp only [Value.slice.injEq] at he_
  obtain ⟨rfl, -, rfl⟩ := he_
  exact R_
 rintro _ _ ⟨rfl, rfl⟩
 refine stp (r_assign_int rfl ?_)
 refine WL_nil ?_
 refine W_ret ?_
 refine ret1 (res_tmp (v := .int .i64 (orS [cmpI a c, cmpI b d])) rfl) ⟨rfl, X⟩
end Go.Proofs.Ytldlfhodboigeaa.K
