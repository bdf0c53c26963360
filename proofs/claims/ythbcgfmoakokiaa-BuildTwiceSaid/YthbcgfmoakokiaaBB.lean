/- Contracts of chapter 08's functions (printed by build08.py). -/
import Derived.Test.YthbcgfmoakokiaaT
import Derived.Test.YthbcgfmoakokiaaM08
set_option linter.unusedVariables false
set_option linter.unusedSimpArgs false
namespace Go.Proofs.Ythbcgfmoakokiaa.K
open Go Go.RowKit Go.Proofs
attribute [local irreducible] Run1 OpG WL W AO Gives
set_option maxRecDepth 100000 in
theorem backward_calls (w : World) {ad : Option Addr} {n c : Nat} : Calls Try.prog 66 #[.slice ad n c] w (Ret fun v w' => ∃ bx, v = .func (.func 71) #[] #[.pointer (some ⟨bx, 0, none⟩)] ∧ w.heap.size ≤ bx ∧ w'.heap[bx]? = some (.cells #[.slice ad n c] 23 (0, 0)) ∧ Grow w w') := by
 have G := Grow.rfl' w
 refine calls_ret Try.func66 Try.ntmps66 Try.results66 rfl rfl ?_
 refine W_seq (W_region rfl ?_)
 refine WL_some (og rfl ?_)
 (first | refine r_box_agg rfl ?_ | refine r_box_int rfl ?_ | refine r_box_slice rfl ?_ | refine r_box rfl rfl ?_)
 intro b1 w2 hb3 hc4 g5
 have hge6 := Nat.le_trans G.size hb3
 replace G := G.tr g5
 clear g5 hb3
 refine WL_some (og rfl ?_)
 (first | refine r_assign_iface rfl ?_ | refine r_assign_nili rfl ?_ | refine r_assign_ptr rfl ?_ | refine r_assign_int rfl ?_ | refine r_assign_slice rfl ?_ | refine r_assign_func rfl ?_ | refine r_assign rfl ?_)
 refine WL_nil ?_
 refine W_seq (W_region rfl ?_)
 refine stp (r_makeFunc (vs := []) (us := [.pointer (some ⟨b1, 0, none⟩)]) rfl rfl ?_)
 refine WL_some (og rfl ?_)
 (first | refine r_assign_func rfl ?_ | refine r_assign rfl ?_)
 refine WL_nil ?_
 refine W_ret ?_
 exact ret1 (res_tmp rfl) ⟨_, rfl, hge6, hc4, G⟩

set_option maxRecDepth 100000 in
theorem back1_calls (w : World) {bx l n c : Nat} {ad : Option Addr} {T : TypeId} {xs : List Int} (hn : n = xs.length) (I : Nat → World → Prop) (hI : ∀ i w', I i w' → w'.heap[bx]? = some (.cells #[.slice ad n c] T (0, 0)) ∧ RowAt w' 1 ad n (xs.map (.int .u8))) (hy : ∀ i w' (hi : i < n), I i w' → Yields Try.prog l #[.int .i64 ((n : Int) - 1 - i), .int .u8 (xs[n - 1 - i]'(by omega))] w' (fun v w'' => v = .bool true ∧ I (i + 1) w'')) (h0 : I 0 w) : Calls Try.prog 71 #[.func (.yield l) #[] #[], .pointer (some ⟨bx, 0, none⟩)] w (Ret fun v w' => I n w') := by
 obtain ⟨hbx, R⟩ := hI 0 w h0
 have ln := R.lim
 refine calls_ret Try.func71 Try.ntmps71 Try.results71 rfl rfl ?_
 refine W_seq (W_region rfl ?_)
 refine stp (r_load rfl (by assumption) (by rfl) ?_)
 refine stp (r_len rfl rfl rfl ?_)
 refine WL_some (og rfl ?_)
 (first | (refine r_sub rfl rfl ?_ ?_; (constructor <;> omega)) | refine r_subw rfl rfl ?_)
 refine WL_some (og rfl ?_)
 (first | refine r_assign_int rfl ?_ | refine r_assign rfl ?_)
 refine WL_nil ?_
 refine W_block ?_
 clear R hbx
 refine W_loop (fun m_ e_ w_ => ∃ (k : Nat), m_ = n - k ∧ Fr [(0, .func (.yield l) #[] #[]), (1, .pointer (some ⟨bx, 0, none⟩)), (3, .int .i64 ((n : Int) - 1 - k))] e_ ∧ (k ≤ n) ∧ (I k w_)) _ ⟨0, rfl, fr_of ⟨rfl, rfl, congrArg (Value.int .i64) (by omega), trivial⟩, by omega, h0⟩ ?_
 rintro m_ e_ w1 ⟨k, rfl, ⟨e2, rfl⟩, hk2, HI⟩
 obtain ⟨hbx, R⟩ := hI k _ HI
 refine W_seq ?_
 refine W_seq (W_region rfl ?_)
 refine WL_some (og rfl ?_)
 (first | refine r_move_int rfl ?_ | refine r_move rfl ?_)
 refine WL_some (og rfl ?_)
 (first | (refine r_geq_t rfl rfl ?_ ?_; (first | assumption | omega)) | (refine r_geq_f rfl rfl ?_ ?_; (first | assumption | omega)) | refine r_geq rfl rfl ?_)
 refine WL_nil ?_
 refine W_cond2 rfl (fun hge => ?_) (fun hge => ?_)
 ·-- true
  first | (replace hge := of_decide_eq_true hge) | (replace hge := of_decide_eq_false hge) | skip
  have hk3 : k < n := by omega
  obtain ⟨b_, o_, cs_, T_, fr_, rfl, hb_, hx_⟩ := R.at_ (by omega)
  refine W_skip ?_
  refine W_seq ?_
  refine W_block ?_
  refine W_seq (W_region rfl ?_)
  refine WL_some (og rfl ?_)
  (first | refine r_move_func rfl ?_ | refine r_move rfl ?_)
  refine WL_some (og rfl ?_)
  (first | refine r_move_int rfl ?_ | refine r_move rfl ?_)
  refine stp (r_load rfl (by assumption) (by rfl) ?_)
  refine WL_some (og rfl ?_)
  (first | refine r_move_int rfl ?_ | refine r_move rfl ?_)
  refine WL_some (og rfl ?_)
  (refine r_indexAddr rfl rfl ?_ ?_ ?_; omega; omega)
  refine stp (r_load (v := .int .u8 (xs[n - 1 - k]'(by omega))) rfl hb_ (by rw [show o_ + (((n : Int) - 1 - k).toNat) * 1 = o_ + (n - 1 - k) from by omega]; exact row_cell hx_ (by rw [List.getElem?_map, List.getElem?_eq_getElem (by omega)]; rfl)) ?_)
  refine stp (r_yield rfl (Yields.mono ?_ (hy k _ hk3 HI)))
  rintro v_ w2_ ⟨rfl, HI2⟩
  refine WL_some (og rfl ?_)
  (first | (refine r_not_t rfl ?_ ?_; (first | rfl | assumption)) | (refine r_not_f rfl ?_ ?_; (first | rfl | assumption)) | refine r_not rfl ?_)
  refine WL_nil ?_
  refine W_false rfl ?_
  refine W_skip ?_
  refine W_region rfl ?_
  refine WL_some (og rfl ?_)
  (first | refine r_move_int rfl ?_ | refine r_move rfl ?_)
  refine WL_some (og rfl ?_)
  (first | (refine r_sub rfl rfl ?_ ?_; (constructor <;> omega)) | refine r_subw rfl rfl ?_)
  refine WL_some (og rfl ?_)
  (first | refine r_assign_int rfl ?_ | refine r_assign rfl ?_)
  refine WL_nil ?_
  refine ⟨_, ?_, k + 1, rfl, fr_of ⟨rfl, rfl, congrArg (Value.int .i64) (by omega), trivial⟩, by omega, HI2⟩
  omega
 ·-- false
  first | (replace hge := of_decide_eq_true hge) | (replace hge := of_decide_eq_false hge) | skip
  have hk3 : k = n := by omega
  subst hk3
  refine W_exit ?_
  exact ret0n HI

set_option maxRecDepth 100000 in
theorem get8_calls (w : World) {ad : Option Addr} {n c : Nat} {xs : List Int} (hn : n = xs.length) (hc : n ≤ c) (R : RowAt w 1 ad n (xs.map (.int .u8))) (hx : ∀ x ∈ xs, inR .u8 x) : Gives Try.prog 48 #[.slice ad n c] w (.int .u64 (getP (xs.take 8))) := by
 have ln := R.lim
 have G := Grow.rfl' w
 refine gives_of Try.func48 Try.ntmps48 Try.results48 rfl rfl ?_
 refine W_seq (W_region rfl ?_)
 refine WL_some (og rfl ?_)
 (first | refine r_assign_int rfl ?_ | refine r_assign rfl ?_)
 refine WL_nil ?_
 refine W_seq (W_region rfl ?_)
 refine stp (r_alloc ?_)
 intro b1 w2 hb3 hc4 g5
 refine stn (r_store1 (v := .int _ _) rfl rfl (by rfl) hc4 (by rfl) (by rfl) ?_)
 intro w6 hc7 u8
 have g9 := g5.upd u8 hb3
 have hge10 := Nat.le_trans G.size hb3
 replace G := G.tr g9
 clear u8 g5 hb3 hc4
 refine WL_nil ?_
 refine W_seq ?_
 refine W_seq (W_region rfl ?_)
 refine WL_some (og rfl ?_)
 (first | refine r_move_slice rfl ?_ | refine r_move rfl ?_)
 refine WL_some (og rfl ?_)
 (first | refine r_move_slice rfl ?_ | refine r_move rfl ?_)
 refine stp (r_len rfl rfl rfl ?_)
 refine WL_some (og rfl ?_)
 refine r_min rfl rfl rfl ?_
 rw [show (if (8 : Int) < (n : Int) then (8 : Int) else (n : Int)) = ((min n 8 : Nat) : Int) from by split <;> omega]
 refine WL_some (og rfl ?_)
 refine r_sliceH rfl rfl (by omega) (by omega) ?_
 rw [Int.toNat_natCast]
 have R8 : RowAt w 1 (if c = 0 then ad else ad.map (·.add (0 * 1))) (min n 8) ((xs.take 8).map (Value.int .u8)) := by
  have h := R.sliceH (m := min n 8) hc (by omega) (by omega)
  rwa [Nat.mul_one (min n 8), ← List.map_take, take_min8 hn] at h
 generalize (if c = 0 then ad else ad.map (·.add (0 * 1))) = ad8 at R8 ⊢
 have hm8 : min n 8 = (xs.take 8).length := by rw [List.length_take]; omega
 have hx8 : ∀ x ∈ xs.take 8, inR .u8 x := fun x h => hx x (List.mem_of_mem_take h)
 have hl8 : (xs.take 8).length ≤ 8 := by rw [List.length_take]; omega
 generalize xs.take 8 = ys at R8 hm8 hx8 hl8 ⊢
 generalize min n 8 = m at R8 hm8 ⊢
 refine WL_some (og rfl ?_)
 refine r_call rfl (backward_calls _) ?_
 rintro v_ w5_ ⟨bx, rfl, hbxge, hbx, g5_⟩
 have hq3 := Nat.lt_of_lt_of_le (lt_of_heap hc7) hbxge
 replace hc7 := g5_.heap hc7
 replace G := G.tr g5_
 refine WL_nil ?_
 refine W_block ?_
 refine W_rangeC rfl rfl ?_
 intro rc hst hpd hps has hbd hsz hge l w6 hl hlp hmk g6 hw6
 have hb3l := lt_of_heap hc7
 have hbxl := lt_of_heap hbx
 replace hc7 := g6.heap hc7
 replace hbx := g6.heap hbx
 have hGs := G.size
 have hb3g := hge10
 replace G := G.tr g6
 generalize hmm : w5_.heap.size = mk at *
 refine Calls.mono (back1_calls w6 hm8 (fun k W => W.heap[b1]? = some (.cells #[.int .u64 (getP (ys.drop (m - k)))] 44 (0, 0)) ∧ W.heap[bx]? = some (.cells #[.slice ad8 m c] 23 (0, 0)) ∧ W.heap[l]? = some (.loop rc) ∧ W.heap[mk]? = some (.deferred (some [])) ∧ Grow w W) (fun i w' h => ⟨h.2.1, R8.grow h.2.2.2.2⟩) ?_ ⟨by rw [Nat.sub_zero, hm8, List.drop_length]; exact hc7, hbx, hlp, hmk, G⟩) ?_
 ·rintro i w7 hi ⟨h1, h2, h4, h5, G7⟩
  refine yields_of_W (ps := [12, 13]) (vs := [_, _]) (n := 20) h4 hps rfl hsz (by rfl) hge ?_
  rw [has, hbd]
  refine W_region rfl ?_
  refine WL_some (og rfl ?_)
  (first | refine r_assign_int rfl ?_ | refine r_assign rfl ?_)
  refine WL_nil ?_
  refine ⟨rc, h4, hst, ?_⟩
  have u1 := upd_put (o' := .loop { rc with state := .busy }) h4
  have h4b := put_same (o' := .loop { rc with state := .busy }) h4
  have g1 := u1.heap h1 (by omega)
  have g2 := u1.heap h2 (by omega)
  have g5 := u1.heap h5 (by omega)
  have G8 := G7.upd u1 (by omega)
  generalize w7.putObj l (.loop { rc with state := .busy }) = w8 at *
  clear u1 h1 h2 h5
  have hyr := getP_range (ys.drop (m - i)) (fun x hx_ => hx8 x (List.mem_of_mem_drop hx_))
  have hpow := pow_le8 (show (ys.drop (m - i)).length ≤ 7 from by rw [List.length_drop]; omega)
  have hxi := hx8 (ys[m - 1 - i]'(by omega)) (List.getElem_mem _)
  simp only [inR] at hxi
  refine W_block ?_
  refine W_region rfl ?_
  refine stp (r_load rfl g1 (by rfl) ?_)
  refine WL_some (og rfl ?_)
  (first | (refine r_shlc (m := 256) rfl rfl (by decide) (by decide) ?_ ?_; (constructor <;> omega)) | refine r_shlcw (m := 256) rfl rfl (by decide) (by decide) ?_)
  refine WL_some (og rfl ?_)
  (first | refine r_move_int rfl ?_ | refine r_move rfl ?_)
  refine WL_some (og rfl ?_)
  (first | (refine r_conv rfl ?_ ?_; (constructor <;> omega)) | refine r_convw rfl ?_)
  refine WL_some (og rfl ?_)
  refine r_or rfl rfl ?_
  rw [shl_or _ _ hyr.1 (by omega) hxi.1 hxi.2]
  refine stn (r_store1 (v := .int _ _) rfl rfl (by rfl) g1 (by rfl) (by rfl) ?_)
  intro w9 h1' u9
  refine WL_nil ?_
  have h4c := u9.heap h4b (by omega)
  have u2 := upd_put (o' := .loop rc) h4c
  refine ⟨_, h4c, ?_⟩
  rw [loop_again hst hpd]
  refine ⟨rfl, ?_, u2.heap (u9.heap g2 (by omega)) (by omega), put_same h4c, u2.heap (u9.heap g5 (by omega)) (by omega), (G8.upd u9 (by omega)).upd u2 (by omega)⟩
  rw [getP_drop hm8 hi]
  exact u2.heap h1' (by omega)
 ·rintro r_ w7 ⟨v_, rfl, h1, h2, h4, h5, G7⟩
  refine ⟨_, rc, rfl, h4, by rw [hst]; simp, ?_⟩
  simp only [hpd]
  have u1 := upd_put (o' := .loop { rc with state := .exhausted, pending := none }) h4
  have g1 := u1.heap h1 (by omega)
  have g5 := u1.heap h5 (by omega)
  clear G
  have G := G7.upd u1 (by omega)
  generalize w7.putObj l _ = w8 at *
  clear u1 h1 h2 h5
  refine W_seq (W_region rfl ?_)
  refine stp (r_load rfl (by assumption) (by rfl) ?_)
  refine WL_some (og rfl ?_)
  (first | refine r_assign_int rfl ?_ | refine r_assign rfl ?_)
  refine WL_nil ?_
  refine W_ret ?_
  refine retM (vs := [_]) ⟨mk, _, rfl, run_takeDeferred g5, rfl⟩ ⟨rfl, trivial⟩ ⟨?_, G.upd (upd_put g5) (by omega)⟩
  rw [Nat.sub_self]; rfl

set_option maxRecDepth 100000 in
theorem clone_calls (w : World) {ad : Option Addr} {n c : Nat} {xs : List Value} (hc : n ≤ c) (hc2 : c ≤ maxLen) (R : RowAt w 1 ad n xs) (h1 : ∀ q ∈ xs, q.oneCell' = true) (hb : n ≤ 17592186044416) : Calls Try.prog 46 #[.slice ad n c] w (Ret fun v w' => w'.ownsRow w.heap.size 44 1 v n xs ∧ Grow w w') := by
 have G := Grow.rfl' w
 refine calls_ret Try.func46 Try.ntmps46 Try.results46 rfl rfl ?_
 refine W_seq (W_region rfl ?_)
 refine WL_some (og rfl ?_)
 (first | refine r_assign_slice rfl ?_ | refine r_assign rfl ?_)
 refine WL_nil ?_
 refine W_seq ?_
 refine W_seq (W_region rfl ?_)
 refine WL_some (og rfl ?_)
 (first | refine r_move_slice rfl ?_ | refine r_move rfl ?_)
 refine stp (r_eqlNil rfl rfl ?_)
 refine WL_nil ?_
 cases ad with
 | none =>
  refine W_true rfl ?_
  refine W_seq (W_region rfl ?_)
  refine WL_some (og rfl ?_)
  (first | refine r_assign_slice rfl ?_ | refine r_assign rfl ?_)
  refine WL_nil ?_
  refine W_ret ?_
  have hn : n = 0 := by
   rcases Nat.eq_zero_or_pos n with h | h
   ·exact h
   ·obtain ⟨b, o, cs, T, fr, h2, _⟩ := R.at_ h; cases h2
  subst hn
  have hx : xs = [] := List.eq_nil_of_length_eq_zero (by simpa using R.len)
  subst hx
  exact ret1 (res_tmp rfl) ⟨World.ownsRow_nil _ _ _ _, G⟩
 | some ad =>
  refine W_false rfl ?_
  refine W_skip ?_
  refine W_seq (W_region rfl ?_)
  refine stp (r_buildSlice (cs := #[]) (el := 44) (fun w => by kernel_rfl) ?_)
  intro bs w5 hbs hcs g5
  have G5 := G.tr g5
  have own0 := own_lit0 (base := w.heap.size) (sz := 1) hcs (by have := G.size; omega)
  refine WL_some (og rfl ?_)
  (first | refine r_move_slice rfl ?_ | refine r_move rfl ?_)
  refine stp (r_append rfl rfl rfl rfl own0 ⟨_, c, rfl, hc, hc2, R.grow G5⟩ h1 (by simp only [maxLen]; omega) (by omega) G5.size ?_)
  intro v6 w6 own6 gr6
  have G6 := G5.grown gr6 (own_ge own0)
  rw [Nat.zero_add, List.nil_append] at own6
  refine WL_some (og rfl ?_)
  (first | refine r_assign_slice rfl ?_ | refine r_assign rfl ?_)
  refine WL_nil ?_
  refine W_ret ?_
  exact ret1 (res_tmp rfl) ⟨own6, G6⟩

set_option maxRecDepth 100000 in
theorem chunk_calls (w : World) {ad : Option Addr} {n c : Nat} : Calls Try.prog 47 #[.slice ad n c, .int .i64 8] w (Ret fun v w' => ∃ b1 b2, v = .func (.func 65) #[] #[.pointer (some ⟨b1, 0, none⟩), .pointer (some ⟨b2, 0, none⟩)] ∧ w.heap.size ≤ b1 ∧ w.heap.size ≤ b2 ∧ w'.heap[b1]? = some (.cells #[.slice ad n c] 23 (0, 0)) ∧ w'.heap[b2]? = some (.cells #[.int .i64 8] 3 (0, 0)) ∧ Grow w w') := by
 have G := Grow.rfl' w
 refine calls_ret Try.func47 Try.ntmps47 Try.results47 rfl rfl ?_
 refine W_seq (W_region rfl ?_)
 refine WL_some (og rfl ?_)
 (first | refine r_box_agg rfl ?_ | refine r_box_int rfl ?_ | refine r_box_slice rfl ?_ | refine r_box rfl rfl ?_)
 intro b1 w2 hb3 hc4 g5
 have hge6 := Nat.le_trans G.size hb3
 replace G := G.tr g5
 clear g5 hb3
 refine WL_some (og rfl ?_)
 (first | refine r_box_agg rfl ?_ | refine r_box_int rfl ?_ | refine r_box_slice rfl ?_ | refine r_box rfl rfl ?_)
 intro b7 w8 hb9 hc10 g11
 have hge12 := Nat.le_trans G.size hb9
 replace hc4 := g11.heap hc4
 replace G := G.tr g11
 clear g11 hb9
 refine WL_some (og rfl ?_)
 (first | refine r_assign_iface rfl ?_ | refine r_assign_nili rfl ?_ | refine r_assign_ptr rfl ?_ | refine r_assign_int rfl ?_ | refine r_assign_slice rfl ?_ | refine r_assign_func rfl ?_ | refine r_assign rfl ?_)
 refine WL_nil ?_
 refine W_seq ?_
 refine W_seq (W_region rfl ?_)
 refine stp (r_load rfl (by assumption) (by rfl) ?_)
 refine WL_some (og rfl ?_)
 (first | (refine r_lss_t rfl rfl ?_ ?_; (first | assumption | omega)) | (refine r_lss_f rfl rfl ?_ ?_; (first | assumption | omega)) | refine r_lss rfl rfl ?_)
 refine WL_nil ?_
 refine W_false rfl ?_
 refine W_skip ?_
 refine W_seq (W_region rfl ?_)
 refine stp (r_makeFunc (vs := []) (us := [.pointer (some ⟨b1, 0, none⟩), .pointer (some ⟨b7, 0, none⟩)]) rfl rfl ?_)
 refine WL_some (og rfl ?_)
 (first | refine r_assign_func rfl ?_ | refine r_assign rfl ?_)
 refine WL_nil ?_
 refine W_ret ?_
 exact ret1 (res_tmp rfl) ⟨_, _, rfl, hge6, hge12, hc4, hc10, G⟩

set_option maxRecDepth 100000 in
theorem chunk1_calls (w : World) {b1 b2 l n c : Nat} {ad : Option Addr} {T T2 : TypeId} (hnc : n ≤ c) (hn : n ≤ 140737488355328) (I : Nat → World → Prop) (hI : ∀ i w', I i w' → w'.heap[b1]? = some (.cells #[.slice ad n c] T (0, 0)) ∧ w'.heap[b2]? = some (.cells #[.int .i64 8] T2 (0, 0))) (hgr : ∀ i w' w'', Grow w' w'' → I i w' → I i w'') (hy : ∀ j w', 8 * j < n → I j w' → Yields Try.prog l #[.slice (if 8 * j + chunkN n j = 8 * j then ad else ad.map (·.add (8 * j * 1))) (chunkN n j) (chunkN n j)] w' (fun v w'' => v = .bool true ∧ I (j + 1) w'')) (h0 : I 0 w) : Calls Try.prog 65 #[.func (.yield l) #[] #[], .pointer (some ⟨b1, 0, none⟩), .pointer (some ⟨b2, 0, none⟩)] w (Ret fun v w' => I ((n + 7) / 8) w') := by
 refine calls_ret Try.func65 Try.ntmps65 Try.results65 rfl rfl ?_
 refine W_seq (W_region rfl ?_)
 refine WL_some (og rfl ?_)
 (first | refine r_assign_int rfl ?_ | refine r_assign rfl ?_)
 refine WL_nil ?_
 refine W_block ?_
 refine W_loop (fun m_ e_ w_ => ∃ (k : Nat), m_ = n + 8 - 8 * k ∧ Fr [(0, .func (.yield l) #[] #[]), (1, .pointer (some ⟨b1, 0, none⟩)), (2, .pointer (some ⟨b2, 0, none⟩)), (4, .int .i64 ((8 * k : Nat) : Int))] e_ ∧ (8 * k < n + 8) ∧ (I k w_)) _ ⟨0, rfl, fr_of ⟨rfl, rfl, rfl, rfl, trivial⟩, by omega, h0⟩ ?_
 rintro m_ e_ w1 ⟨k, rfl, ⟨e2, rfl⟩, hk2, HI⟩
 obtain ⟨hb1, hb2⟩ := hI k _ HI
 refine W_seq ?_
 refine W_seq (W_region rfl ?_)
 refine WL_some (og rfl ?_)
 (first | refine r_move_int rfl ?_ | refine r_move rfl ?_)
 refine stp (r_load rfl (by assumption) (by rfl) ?_)
 refine stp (r_len rfl rfl rfl ?_)
 refine WL_some (og rfl ?_)
 (first | (refine r_lss_t rfl rfl ?_ ?_; (first | assumption | omega)) | (refine r_lss_f rfl rfl ?_ ?_; (first | assumption | omega)) | refine r_lss rfl rfl ?_)
 refine WL_nil ?_
 refine W_cond2 rfl (fun hlt => ?_) (fun hlt => ?_)
 ·-- true
  first | (replace hlt := of_decide_eq_true hlt) | (replace hlt := of_decide_eq_false hlt) | skip
  have hk3 : 8 * k < n := by omega
  have hmin : (if (n : Int) - (8 * k : Nat) < 8 then (n : Int) - (8 * k : Nat) else 8) = (chunkN n k : Nat) := by unfold chunkN; split <;> omega
  have hck : chunkN n k ≤ n - 8 * k := by unfold chunkN; omega
  refine W_skip ?_
  refine W_seq ?_
  refine W_block ?_
  refine W_seq ?_
  refine W_any 7 [[], [], [], [1, 0], [2, 1, 0], [4, 3, 2, 1, 0], [5, 4, 3, 2, 1, 0]] mixed (by kernel_rfl) (by kernel_rfl) (by kernel_rfl) ?_
  intro w3 g4
  replace HI := hgr _ _ _ g4 HI
  replace HI := HI
  replace hb1 := g4.heap hb1
  replace hb2 := g4.heap hb2
  clear g4
  apply AO_ex
  ·intro w_ g_; refine og rfl ?_; refine r_load rfl (by exact Grow.heap g_ (by assumption)) (by rfl) ?_; exact ⟨Grow.rfl' _, rfl⟩
  apply AO_ex
  ·intro w_ g_; refine og rfl ?_; refine r_load rfl (by exact Grow.heap g_ (by assumption)) (by rfl) ?_; exact ⟨Grow.rfl' _, rfl⟩
  apply AO_ex
  ·intro w_ g_; refine og rfl ?_; (first | refine r_move_int rfl ?_ | refine r_move rfl ?_); exact ⟨Grow.rfl' _, rfl⟩
  apply AO_ex
  ·intro w_ g_
   refine og rfl ?_
   refine r_sliceL rfl rfl (by omega) (by omega) ?_
   exact ⟨Grow.rfl' _, rfl⟩
  apply AO_ex
  ·intro w_ g_
   refine og rfl ?_
   refine r_len rfl rfl rfl ?_
   exact ⟨Grow.rfl' _, rfl⟩
  apply AO_ex
  ·intro w_ g_
   refine og rfl ?_
   refine r_min rfl rfl rfl ?_
   rw [show (if ((n - ((8 * k : Nat) : Int).toNat : Nat) : Int) < 8 then ((n - ((8 * k : Nat) : Int).toNat : Nat) : Int) else 8) = (chunkN n k : Nat) from by unfold chunkN; split <;> omega]
   exact ⟨Grow.rfl' _, rfl⟩
  apply AO_ex
  ·intro w_ g_; refine og rfl ?_; (first | refine r_assign_int rfl ?_ | refine r_assign rfl ?_); exact ⟨Grow.rfl' _, rfl⟩
  refine AO_nil ?_
  intro w5 g6
  replace HI := hgr _ _ _ g6 HI
  replace HI := HI
  replace hb1 := g6.heap hb1
  replace hb2 := g6.heap hb2
  clear g6
  refine WL_nil ?_
  refine W_seq (W_region rfl ?_)
  refine WL_some (og rfl ?_)
  (first | refine r_move_func rfl ?_ | refine r_move rfl ?_)
  refine stp (r_load rfl (by assumption) (by rfl) ?_)
  refine WL_some (og rfl ?_)
  (first | refine r_move_int rfl ?_ | refine r_move rfl ?_)
  refine WL_some (og rfl ?_)
  (first | refine r_move_int rfl ?_ | refine r_move rfl ?_)
  refine WL_some (og rfl ?_)
  (first | refine r_move_int rfl ?_ | refine r_move rfl ?_)
  refine WL_some (og rfl ?_)
  (first | (refine r_add rfl rfl ?_ ?_; (constructor <;> omega)) | refine r_addw rfl rfl ?_)
  refine WL_some (og rfl ?_)
  (first | refine r_move_int rfl ?_ | refine r_move rfl ?_)
  refine WL_some (og rfl ?_)
  (first | refine r_move_int rfl ?_ | refine r_move rfl ?_)
  refine WL_some (og rfl ?_)
  (first | (refine r_add rfl rfl ?_ ?_; (constructor <;> omega)) | refine r_addw rfl rfl ?_)
  refine WL_some (og rfl ?_)
  refine r_slice3 rfl rfl rfl rfl (by omega) (by omega) (by omega) (by omega) ?_
  rw [show ((((8 * k : Nat) : Int) + (chunkN n k : Nat)).toNat) = 8 * k + chunkN n k from by omega, Int.toNat_natCast, show 8 * k + chunkN n k - 8 * k = chunkN n k from by omega]
  refine stp (r_yield rfl (Yields.mono ?_ (hy k _ hk3 HI)))
  rintro v_ w2_ ⟨rfl, HI2⟩
  refine WL_some (og rfl ?_)
  (first | (refine r_not_t rfl ?_ ?_; (first | rfl | assumption)) | (refine r_not_f rfl ?_ ?_; (first | rfl | assumption)) | refine r_not rfl ?_)
  refine WL_nil ?_
  refine W_false rfl ?_
  obtain ⟨hb1b, hb2b⟩ := hI (k + 1) _ HI2
  refine W_skip ?_
  refine W_region rfl ?_
  refine WL_some (og rfl ?_)
  (first | refine r_move_int rfl ?_ | refine r_move rfl ?_)
  refine stp (r_load rfl (by assumption) (by rfl) ?_)
  refine WL_some (og rfl ?_)
  (first | (refine r_add rfl rfl ?_ ?_; (constructor <;> omega)) | refine r_addw rfl rfl ?_)
  refine WL_some (og rfl ?_)
  (first | refine r_assign_int rfl ?_ | refine r_assign rfl ?_)
  refine WL_nil ?_
  refine ⟨_, ?_, k + 1, rfl, fr_of ⟨rfl, rfl, rfl, congrArg (Value.int .i64) (by omega), trivial⟩, by omega, HI2⟩
  omega
 ·-- false
  first | (replace hlt := of_decide_eq_true hlt) | (replace hlt := of_decide_eq_false hlt) | skip
  have hk3 : (n + 7) / 8 = k := by omega
  rw [hk3]
  refine W_exit ?_
  exact ret0n HI

set_option maxRecDepth 100000 in
theorem content_calls (w : World) {c : List Value} {t : Nd} (T : NodeR w c t) (hw4 : t.words.length ≤ 4096) (hb4 : t.bytes.length ≤ 4096) (hk4 : t.kids.length ≤ 4096) : Calls Try.prog 32 #[.agg c.toArray] w (Ret fun v w' => w'.ownsRow w.heap.size 44 1 v t.content.length (t.content.map (.int .u64)) ∧ Grow w w') := by
 obtain @⟨kind, size, words, bytes, kids, ws, bs, ks, kc, hk, hs, hW, hwr, hB, hbr, hK, hKs⟩ := T
 obtain ⟨aw, cw, rfl, hcw, hcw2, RW⟩ := hW
 obtain ⟨ab, cb, rfl, hcb, hcb2, RB⟩ := hB
 obtain ⟨ak, ck, rfl, hck, hck2, RK⟩ := hK
 have lw := RW.lim
 have lb := RB.lim
 have lk := RK.lim
 simp only [inR] at hk hs
 simp only [Nd.words, Nd.bytes, Nd.kids] at hw4 hb4 hk4
 have G := Grow.rfl' w
 refine calls_ret Try.func32 Try.ntmps32 Try.results32 rfl rfl ?_
 refine W_seq (W_region rfl ?_)
 refine WL_some (og rfl ?_)
 (first | refine r_box_agg rfl ?_ | refine r_box_int rfl ?_ | refine r_box_slice rfl ?_ | refine r_box rfl rfl ?_)
 intro b1 w2 hb3 hc4 g5
 have hge6 := Nat.le_trans G.size hb3
 replace G := G.tr g5
 clear g5 hb3
 refine WL_some (og rfl ?_)
 (first | refine r_assign_slice rfl ?_ | refine r_assign rfl ?_)
 refine WL_nil ?_
 refine W_seq (W_region rfl ?_)
 refine stp (r_fieldAddr rfl ?_)
 refine stp (r_load rfl (by assumption) (by rfl) ?_)
 refine WL_some (og rfl ?_)
 refine r_call rfl (clone_calls _ hcw hcw2 (RW.grow G) (fun q hq => by obtain ⟨z, _, rfl⟩ := List.mem_map.1 hq; rfl) (by omega)) ?_
 rintro vc w5_ ⟨own0, g5_⟩
 have own1 := own_base own0 G.size
 clear own0
 replace hc4 := g5_.heap hc4
 replace G := G.tr g5_
 refine stp (r_alloc ?_)
 intro b7 w8 hb9 hc10 g11
 refine stn (r_store1 (v := vc) rfl rfl (own_one own1) hc10 (by rfl) (by rfl) ?_)
 intro w7_ hs u7_
 have g7_ := g11.upd u7_ hb9
 replace own1 := own_grow own1 g7_
 have hge12 := Nat.le_trans G.size hb9
 have ne13 := Nat.ne_of_lt (Nat.lt_of_lt_of_le (lt_of_heap hc4) hb9)
 replace hc4 := g7_.heap hc4
 replace G := G.tr g7_
 clear u7_ g11 hb9 hc10
 refine WL_nil ?_
 refine W_seq ?_
 refine W_seq (W_region rfl ?_)
 refine stp (r_fieldAddr rfl ?_)
 refine stp (r_load rfl (by assumption) (by rfl) ?_)
 refine WL_some (og rfl ?_)
 refine r_call rfl (chunk_calls _) ?_
 rintro v_ w6_ ⟨q1, q2, rfl, hq1, hq2, hc1, hc2, g6_⟩
 have hlt1 := lt_of_heap hc4
 have hlt3 := lt_of_heap hs
 replace hc4 := g6_.heap hc4
 replace own1 := own_grow own1 g6_
 replace hs := g6_.heap hs
 replace G := G.tr g6_
 refine WL_nil ?_
 refine W_block ?_
 refine W_rangeC rfl rfl ?_
 intro rc hst hpd hps has hbd hsz hge l w6 hl hlp hmk g6 hw6
 have lt_hc4 := lt_of_heap hc4
 skip
 have lt_hs := lt_of_heap hs
 have lt_hc1 := lt_of_heap hc1
 have lt_hc2 := lt_of_heap hc2
 replace hc4 := g6.heap hc4
 replace own1 := own_grow own1 g6
 replace hs := g6.heap hs
 replace hc1 := g6.heap hc1
 replace hc2 := g6.heap hc2
 have hGs := G.size
 have hg1 := hge6
 have hg3 := hge12
 replace G := G.tr g6
 generalize hmm : w6_.heap.size = mk at *
 refine Calls.mono (chunk1_calls w6 (l := l) hcb lb (fun j W => (∃ v, W.heap[b7]? = some (.cells #[v] 22 (0, 0)) ∧ W.ownsRow w.heap.size 44 1 v (words.length + j) ((words ++ (List.range j).map (chunkP bytes)).map (.int .u64))) ∧ W.heap[b1]? = some (.cells #[.int .i64 kind, .int .i64 size, .slice aw words.length cw, .slice ab bytes.length cb, .slice ak kids.length ck] 26 (0, 0)) ∧ W.heap[q1]? = some (.cells #[.slice ab bytes.length cb] 23 (0, 0)) ∧ W.heap[q2]? = some (.cells #[.int .i64 8] 3 (0, 0)) ∧ W.heap[l]? = some (.loop rc) ∧ W.heap[mk]? = some (.deferred (some [])) ∧ Grow w W) (fun i w' h => ⟨h.2.2.1, h.2.2.2.1⟩) (fun i w' w'' g ⟨⟨v, h1, h2⟩, h3, h4, h5, h6, h7, h8⟩ => ⟨⟨v, g.heap h1, own_grow h2 g⟩, g.heap h3, g.heap h4, g.heap h5, g.heap h6, g.heap h7, h8.tr g⟩) ?_ ⟨⟨_, hs, by simpa using own1⟩, hc4, hc1, hc2, hlp, hmk, G⟩) ?_
 ·rintro j w7 hj ⟨⟨vc2, h1, own2⟩, h3, h4, h5, h6, h7, G7⟩
  refine yields_of_W (ps := [11]) (vs := [_]) (n := 22) h6 hps rfl hsz (by rfl) hge ?_
  rw [has, hbd]
  refine W_region rfl ?_
  refine WL_some (og rfl ?_)
  (first | refine r_assign_slice rfl ?_ | refine r_assign rfl ?_)
  refine WL_nil ?_
  refine ⟨rc, h6, hst, ?_⟩
  have u1 := upd_put (o' := .loop { rc with state := .busy }) h6
  have k6 := put_same (o' := .loop { rc with state := .busy }) h6
  have k1 := u1.heap h1 (by omega)
  have k2 := own_upd own2 u1 (own_ne_loop own2 h6)
  have k3 := u1.heap h3 (by omega)
  have k4 := u1.heap h4 (by omega)
  have k5 := u1.heap h5 (by omega)
  have k7 := u1.heap h7 (by omega)
  have G8 := G7.upd u1 (by omega)
  generalize w7.putObj l (.loop { rc with state := .busy }) = w8 at *
  clear u1 h1 own2 h3 h4 h5 h7
  have hcn : chunkN bytes.length j ≤ 8 := by unfold chunkN; omega
  have Rj : RowAt w8 1 (if 8 * j + chunkN bytes.length j = 8 * j then ab else ab.map (·.add (8 * j * 1))) (chunkN bytes.length j) (((bytes.drop (8 * j)).take 8).map (.int .u8)) := by
   have h := (RB.grow G8).chunk (l := 8 * j) (m := chunkN bytes.length j) (by unfold chunkN; omega)
   rwa [← List.map_drop, ← List.map_take, drop_chunk] at h
  have hlenj : chunkN bytes.length j = ((bytes.drop (8 * j)).take 8).length := by rw [List.length_take, List.length_drop, chunkN]
  have hxj : ∀ x ∈ (bytes.drop (8 * j)).take 8, inR .u8 x := fun x hx_ => hbr x (List.mem_of_mem_drop (List.mem_of_mem_take hx_))
  refine W_block ?_
  refine W_any 4 [[], [], [0], [1, 0]] mixed (by kernel_rfl) (by kernel_rfl) (by kernel_rfl) ?_
  intro w14 g15
  replace k1 := g15.heap k1
  replace k3 := g15.heap k3
  replace k4 := g15.heap k4
  replace k5 := g15.heap k5
  replace k6 := g15.heap k6
  replace k7 := g15.heap k7
  replace k2 := own_grow k2 g15
  replace G8 := G8.tr g15
  replace Rj := Rj.grow g15
  clear g15
  apply AO_ex
  ·intro w_ g_
   refine og rfl ?_
   refine r_load rfl (Grow.heap g_ k1) (by rfl) ?_
   exact ⟨Grow.rfl' _, rfl⟩
  apply AO_ex
  ·intro w_ g_; refine og rfl ?_; (first | refine r_move_slice rfl ?_ | refine r_move rfl ?_); exact ⟨Grow.rfl' _, rfl⟩
  apply AO_ex
  ·intro w_ g_; refine og rfl ?_; refine r_gives rfl (gives_eq (get8_calls _ hlenj (Nat.le_refl _) (Rj.grow g_) hxj) (y := .int .u64 (chunkP bytes j)) (by rw [List.take_take]; rfl)) ?_; intro w2_ g2_; exact ⟨g2_, rfl⟩
  refine AO_so (fun w_ v => ∃ b, v = .slice (some ⟨b, 0, none⟩) 1 1 ∧ w_.heap[b]? = some (.cells #[.int .u64 (chunkP bytes j)] 44 (0, 0))) (fun _ _ _ g ⟨b, hv, hb⟩ => ⟨b, hv, g.heap hb⟩) ?_ ?_
  ·intro w_ g_
   refine og rfl ?_
   refine r_buildSlice (cs := #[.int .u64 (chunkP bytes j)]) (el := 44) (fun w => by kernel_rfl) ?_
   intro b w2_ _ hb g2_
   exact ⟨g2_, b, rfl, hb⟩
  refine AO_nil ?_
  intro w16 g17
  replace k1 := g17.heap k1
  replace k3 := g17.heap k3
  replace k4 := g17.heap k4
  replace k5 := g17.heap k5
  replace k6 := g17.heap k6
  replace k7 := g17.heap k7
  replace k2 := own_grow k2 g17
  replace G8 := G8.tr g17
  replace Rj := Rj.grow g17
  clear g17
  intro v_ hv_
  refine WL_some (og rfl ?_)
  obtain ⟨bq, rfl, hq⟩ := hv_
  refine r_append rfl rfl rfl rfl k2 (Row.of_block (n := 1) hq rfl rfl (by omega)) (fun q hq_ => by simp at hq_; subst hq_; rfl) (by simp only [maxLen]; omega) (by omega) G8.size ?_
  intro v9 w9 own9 gr9
  have G9 := G8.grown gr9 (own_ge k2)
  have m1 := gr_heap gr9 k1 (own_ne k2 k1 (by decide))
  have m3 := gr_heap gr9 k3 (own_ne k2 k3 (by decide))
  have m4 := gr_heap gr9 k4 (own_ne k2 k4 (by decide))
  have m5 := gr_heap gr9 k5 (own_ne k2 k5 (by decide))
  have m6 := gr_heap gr9 k6 (own_ne_loop k2 k6)
  have m7 := gr_heap gr9 k7 (own_ne_def k2 k7)
  refine stn (r_store1 (v := v9) rfl rfl (own_one own9) m1 (by rfl) (by rfl) ?_)
  intro w10 n1 u10
  refine WL_nil ?_
  have n6 := u10.heap m6 (by omega)
  have u2 := upd_put (o' := .loop rc) n6
  refine ⟨_, n6, ?_⟩
  rw [loop_again hst hpd]
  have own10 := own_upd (own_upd own9 u10 (own_ne own9 m1 (by decide))) u2 (own_ne_loop (own_upd own9 u10 (own_ne own9 m1 (by decide))) n6)
  refine ⟨rfl, ⟨_, u2.heap n1 (by omega), ?_⟩, u2.heap (u10.heap m3 (by omega)) (by omega), u2.heap (u10.heap m4 (by omega)) (by omega), u2.heap (u10.heap m5 (by omega)) (by omega), put_same n6, u2.heap (u10.heap m7 (by omega)) (by omega), (G9.upd u10 (by omega)).upd u2 (by omega)⟩
  have e3 : (words ++ (List.range (j + 1)).map (chunkP bytes)).map (Value.int .u64) = (words ++ (List.range j).map (chunkP bytes)).map (Value.int .u64) ++ [.int .u64 (chunkP bytes j)] := by simp [List.range_succ]
  rw [e3, ← Nat.add_assoc]
  exact own10
 ·rintro r_ w7 ⟨v_, rfl, ⟨vc2, h1, own2⟩, h3, h4, h5, h6, h7, G7⟩
  refine ⟨_, rc, rfl, h6, by rw [hst]; simp, ?_⟩
  simp only [hpd]
  have u1 := upd_put (o' := .loop { rc with state := .exhausted, pending := none }) h6
  have k1 := u1.heap h1 (by omega)
  have k3 := u1.heap h3 (by omega)
  have k7 := u1.heap h7 (by omega)
  have k2 := own_upd own2 u1 (own_ne_loop own2 h6)
  clear G
  have G := G7.upd u1 (by omega)
  generalize w7.putObj l _ = w8 at *
  clear u1 h1 h3 own2
  refine W_seq (W_region rfl ?_)
  refine stp (r_load rfl k1 (by rfl) ?_)
  refine stp (r_fieldAddr rfl ?_)
  refine stp (r_load rfl k3 (by rfl) ?_)
  refine stp (r_len rfl rfl rfl ?_)
  refine stp (r_appendZ (z := .int .u64 0) (by_ := 8) rfl rfl rfl rfl (by rfl) (by rfl) k2 (by omega) (by omega) G.size ?_)
  intro v9 w9 own9 gr9
  have G9 := G.grown gr9 (own_ge k2)
  have m7 := gr_heap gr9 k7 (own_ne_def k2 k7)
  refine WL_some (og rfl ?_)
  (first | refine r_assign_slice rfl ?_ | refine r_assign rfl ?_)
  refine WL_nil ?_
  refine W_ret ?_
  have u2 := upd_put (o' := .deferred none) m7
  refine retM (vs := [_]) ⟨mk, _, rfl, run_takeDeferred m7, rfl⟩ ⟨rfl, trivial⟩ ⟨?_, G9.upd u2 (by omega)⟩
  have own10 := own_upd own9 u2 (own_ne_def own9 m7)
  have e1 : (Nd.mk kind size words bytes kids).content.length = words.length + (bytes.length + 7) / 8 + kids.length := by simp only [Nd.content, chunksP, List.length_append, List.length_map, List.length_range, List.length_replicate]
  have e2 : (Nd.mk kind size words bytes kids).content.map (Value.int .u64) = (words ++ (List.range ((bytes.length + 7) / 8)).map (chunkP bytes)).map (Value.int .u64) ++ List.replicate kids.length (.int .u64 0) := by simp [Nd.content, chunksP]
  rw [e1, e2]
  exact own10
end Go.Proofs.Ythbcgfmoakokiaa.K
