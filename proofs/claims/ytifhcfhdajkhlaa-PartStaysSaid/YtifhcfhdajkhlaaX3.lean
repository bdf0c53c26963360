/- Laid together: BB, MB, P16, V11, V10, N07, S16, PA, PB, QF, QK, PC, J12, BN, QA, SM, OS, Ro. Each part is plain law, a rule, or a walk of the functions that its names tell. -/
import Derived.Test.YtifhcfhdajkhlaaX2
import Derived.Laws.BytesArg
import Derived.WalkKit
import Derived.ProofKit
import Derived.OpenShut
import Derived.ChangeOld
import Derived.Carry
import Derived.SizedLaws
set_option linter.unusedVariables false
set_option linter.unusedSimpArgs false
namespace Go.Proofs.Ytifhcfhdajkhlaa.K
open Go Go.RowKit Go.Proofs
attribute [local irreducible] Run1 OpG WL W AO Gives
set_option maxRecDepth 100000 in
theorem backward_calls (w : World) {ad : Option Addr} {n c : Nat} : Calls Try.prog 65 #[.slice ad n c] w (Ret fun v w' => ∃ bx, v = .func (.func 85) #[] #[.pointer (some ⟨bx, 0, none⟩)] ∧ w.heap.size ≤ bx ∧ w'.heap[bx]? = some (.cells #[.slice ad n c] 22 (0, 0)) ∧ Grow w w') := by
 have G := Grow.rfl' w
 refine calls_ret Try.func65 Try.ntmps65 Try.results65 rfl rfl ?_
 refine W_seq (W_region rfl ?_)
 refine WL_some (og rfl ?_)
 (first | refine r_box_agg rfl ?_ | refine r_box_int rfl ?_ | refine r_box_slice rfl ?_ | refine r_box rfl rfl ?_)
 intro b1 w2 hb3 hc4 g5
 have hge6 := Nat.le_trans G.size hb3
 replace G := G.tr g5
 clear g5 hb3
 refine WL_some (og rfl ?_)
 (first | refine r_assign_iface rfl ?_ | refine r_assign_nili rfl ?_ | refine r_assign_ptr rfl ?_ | refine r_assign_int rfl ?_ | refine r_assign_slice rfl ?_ | refine r_assign_func rfl ?_ | refine r_assign rfl ?_)
 refine WL_nil ?_
 refine W_seq (W_region rfl ?_)
 refine stp (r_makeFunc (vs := []) (us := [.pointer (some ⟨b1, 0, none⟩)]) rfl rfl ?_)
 refine WL_some (og rfl ?_)
 (first | refine r_assign_func rfl ?_ | refine r_assign rfl ?_)
 refine WL_nil ?_
 refine W_ret ?_
 exact ret1 (res_tmp rfl) ⟨_, rfl, hge6, hc4, G⟩

set_option maxRecDepth 100000 in
theorem back1_calls (w : World) {bx l n c : Nat} {ad : Option Addr} {T : TypeId} {xs : List Int} (hn : n = xs.length) (I : Nat → World → Prop) (hI : ∀ i w', I i w' → w'.heap[bx]? = some (.cells #[.slice ad n c] T (0, 0)) ∧ RowAt w' 1 ad n (xs.map (.int .u8))) (hy : ∀ i w' (hi : i < n), I i w' → Yields Try.prog l #[.int .i64 ((n : Int) - 1 - i), .int .u8 (xs[n - 1 - i]'(by omega))] w' (fun v w'' => v = .bool true ∧ I (i + 1) w'')) (h0 : I 0 w) : Calls Try.prog 85 #[.func (.yield l) #[] #[], .pointer (some ⟨bx, 0, none⟩)] w (Ret fun v w' => I n w') := by
 obtain ⟨hbx, R⟩ := hI 0 w h0
 have ln := R.lim
 refine calls_ret Try.func85 Try.ntmps85 Try.results85 rfl rfl ?_
 refine W_seq (W_region rfl ?_)
 refine stp (r_load rfl (by assumption) (by rfl) ?_)
 refine stp (r_len rfl rfl rfl ?_)
 refine WL_some (og rfl ?_)
 (first | (refine r_sub rfl rfl ?_ ?_; (constructor <;> omega)) | refine r_subw rfl rfl ?_)
 refine WL_some (og rfl ?_)
 (first | refine r_assign_int rfl ?_ | refine r_assign rfl ?_)
 refine WL_nil ?_
 refine W_block ?_
 clear R hbx
 refine W_loop (fun m_ e_ w_ => ∃ (k : Nat), m_ = n - k ∧ Fr [(0, .func (.yield l) #[] #[]), (1, .pointer (some ⟨bx, 0, none⟩)), (3, .int .i64 ((n : Int) - 1 - k))] e_ ∧ (k ≤ n) ∧ (I k w_)) _ ⟨0, rfl, fr_of ⟨rfl, rfl, congrArg (Value.int .i64) (by omega), trivial⟩, by omega, h0⟩ ?_
 rintro m_ e_ w1 ⟨k, rfl, ⟨e2, rfl⟩, hk2, HI⟩
 obtain ⟨hbx, R⟩ := hI k _ HI
 refine W_seq ?_
 refine W_seq (W_region rfl ?_)
 refine WL_some (og rfl ?_)
 (first | refine r_move_int rfl ?_ | refine r_move rfl ?_)
 refine WL_some (og rfl ?_)
 (first | (refine r_geq_t rfl rfl ?_ ?_; (first | assumption | omega)) | (refine r_geq_f rfl rfl ?_ ?_; (first | assumption | omega)) | refine r_geq rfl rfl ?_)
 refine WL_nil ?_
 refine W_cond2 rfl (fun hge => ?_) (fun hge => ?_)
 ·-- true
  first | (replace hge := of_decide_eq_true hge) | (replace hge := of_decide_eq_false hge) | skip
  have hk3 : k < n := by omega
  obtain ⟨b_, o_, cs_, T_, fr_, rfl, hb_, hx_⟩ := R.at_ (by omega)
  refine W_skip ?_
  refine W_seq ?_
  refine W_block ?_
  refine W_seq (W_region rfl ?_)
  refine WL_some (og rfl ?_)
  (first | refine r_move_func rfl ?_ | refine r_move rfl ?_)
  refine WL_some (og rfl ?_)
  (first | refine r_move_int rfl ?_ | refine r_move rfl ?_)
  refine stp (r_load rfl (by assumption) (by rfl) ?_)
  refine WL_some (og rfl ?_)
  (first | refine r_move_int rfl ?_ | refine r_move rfl ?_)
  refine WL_some (og rfl ?_)
  (refine r_indexAddr rfl rfl ?_ ?_ ?_; omega; omega)
  refine stp (r_load (v := .int .u8 (xs[n - 1 - k]'(by omega))) rfl hb_ (by rw [show o_ + (((n : Int) - 1 - k).toNat) * 1 = o_ + (n - 1 - k) from by omega]; exact row_cell hx_ (by rw [List.getElem?_map, List.getElem?_eq_getElem (by omega)]; rfl)) ?_)
  refine stp (r_yield rfl (Yields.mono ?_ (hy k _ hk3 HI)))
  rintro v_ w2_ ⟨rfl, HI2⟩
  refine WL_some (og rfl ?_)
  (first | (refine r_not_t rfl ?_ ?_; (first | rfl | assumption)) | (refine r_not_f rfl ?_ ?_; (first | rfl | assumption)) | refine r_not rfl ?_)
  refine WL_nil ?_
  refine W_false rfl ?_
  refine W_skip ?_
  refine W_region rfl ?_
  refine WL_some (og rfl ?_)
  (first | refine r_move_int rfl ?_ | refine r_move rfl ?_)
  refine WL_some (og rfl ?_)
  (first | (refine r_sub rfl rfl ?_ ?_; (constructor <;> omega)) | refine r_subw rfl rfl ?_)
  refine WL_some (og rfl ?_)
  (first | refine r_assign_int rfl ?_ | refine r_assign rfl ?_)
  refine WL_nil ?_
  refine ⟨_, ?_, k + 1, rfl, fr_of ⟨rfl, rfl, congrArg (Value.int .i64) (by omega), trivial⟩, by omega, HI2⟩
  omega
 ·-- false
  first | (replace hge := of_decide_eq_true hge) | (replace hge := of_decide_eq_false hge) | skip
  have hk3 : k = n := by omega
  subst hk3
  refine W_exit ?_
  exact ret0n HI

set_option maxRecDepth 100000 in
theorem get8_calls (w : World) {ad : Option Addr} {n c : Nat} {xs : List Int} (hn : n = xs.length) (hc : n ≤ c) (R : RowAt w 1 ad n (xs.map (.int .u8))) (hx : ∀ x ∈ xs, inR .u8 x) : Gives Try.prog 42 #[.slice ad n c] w (.int .u64 (getP (xs.take 8))) := by
 have ln := R.lim
 have G := Grow.rfl' w
 refine gives_of Try.func42 Try.ntmps42 Try.results42 rfl rfl ?_
 refine W_seq (W_region rfl ?_)
 refine WL_some (og rfl ?_)
 (first | refine r_assign_int rfl ?_ | refine r_assign rfl ?_)
 refine WL_nil ?_
 refine W_seq (W_region rfl ?_)
 refine stp (r_alloc ?_)
 intro b1 w2 hb3 hc4 g5
 refine stn (r_store1 (v := .int _ _) rfl rfl (by rfl) hc4 (by rfl) (by rfl) ?_)
 intro w6 hc7 u8
 have g9 := g5.upd u8 hb3
 have hge10 := Nat.le_trans G.size hb3
 replace G := G.tr g9
 clear u8 g5 hb3 hc4
 refine WL_nil ?_
 refine W_seq ?_
 refine W_seq (W_region rfl ?_)
 refine WL_some (og rfl ?_)
 (first | refine r_move_slice rfl ?_ | refine r_move rfl ?_)
 refine WL_some (og rfl ?_)
 (first | refine r_move_slice rfl ?_ | refine r_move rfl ?_)
 refine stp (r_len rfl rfl rfl ?_)
 refine WL_some (og rfl ?_)
 refine r_min rfl rfl rfl ?_
 rw [show (if (8 : Int) < (n : Int) then (8 : Int) else (n : Int)) = ((min n 8 : Nat) : Int) from by split <;> omega]
 refine WL_some (og rfl ?_)
 refine r_sliceH rfl rfl (by omega) (by omega) ?_
 rw [Int.toNat_natCast]
 have R8 : RowAt w 1 (if c = 0 then ad else ad.map (·.add (0 * 1))) (min n 8) ((xs.take 8).map (Value.int .u8)) := by
  have h := R.sliceH (m := min n 8) hc (by omega) (by omega)
  rwa [Nat.mul_one (min n 8), ← List.map_take, take_min8 hn] at h
 generalize (if c = 0 then ad else ad.map (·.add (0 * 1))) = ad8 at R8 ⊢
 have hm8 : min n 8 = (xs.take 8).length := by rw [List.length_take]; omega
 have hx8 : ∀ x ∈ xs.take 8, inR .u8 x := fun x h => hx x (List.mem_of_mem_take h)
 have hl8 : (xs.take 8).length ≤ 8 := by rw [List.length_take]; omega
 generalize xs.take 8 = ys at R8 hm8 hx8 hl8 ⊢
 generalize min n 8 = m at R8 hm8 ⊢
 refine WL_some (og rfl ?_)
 refine r_call rfl (backward_calls _) ?_
 rintro v_ w5_ ⟨bx, rfl, hbxge, hbx, g5_⟩
 have hq3 := Nat.lt_of_lt_of_le (lt_of_heap hc7) hbxge
 replace hc7 := g5_.heap hc7
 replace G := G.tr g5_
 refine WL_nil ?_
 refine W_block ?_
 refine W_rangeC rfl rfl ?_
 intro rc hst hpd hps has hbd hsz hge l w6 hl hlp hmk g6 hw6
 have hb3l := lt_of_heap hc7
 have hbxl := lt_of_heap hbx
 replace hc7 := g6.heap hc7
 replace hbx := g6.heap hbx
 have hGs := G.size
 have hb3g := hge10
 replace G := G.tr g6
 generalize hmm : w5_.heap.size = mk at *
 refine Calls.mono (back1_calls w6 hm8 (fun k W => W.heap[b1]? = some (.cells #[.int .u64 (getP (ys.drop (m - k)))] 33 (0, 0)) ∧ W.heap[bx]? = some (.cells #[.slice ad8 m c] 22 (0, 0)) ∧ W.heap[l]? = some (.loop rc) ∧ W.heap[mk]? = some (.deferred (some [])) ∧ Grow w W) (fun i w' h => ⟨h.2.1, R8.grow h.2.2.2.2⟩) ?_ ⟨by rw [Nat.sub_zero, hm8, List.drop_length]; exact hc7, hbx, hlp, hmk, G⟩) ?_
 ·rintro i w7 hi ⟨h1, h2, h4, h5, G7⟩
  refine yields_of_W (ps := [12, 13]) (vs := [_, _]) (n := 20) h4 hps rfl hsz (by rfl) hge ?_
  rw [has, hbd]
  refine W_region rfl ?_
  refine WL_some (og rfl ?_)
  (first | refine r_assign_int rfl ?_ | refine r_assign rfl ?_)
  refine WL_nil ?_
  refine ⟨rc, h4, hst, ?_⟩
  have u1 := upd_put (o' := .loop { rc with state := .busy }) h4
  have h4b := put_same (o' := .loop { rc with state := .busy }) h4
  have g1 := u1.heap h1 (by omega)
  have g2 := u1.heap h2 (by omega)
  have g5 := u1.heap h5 (by omega)
  have G8 := G7.upd u1 (by omega)
  generalize w7.putObj l (.loop { rc with state := .busy }) = w8 at *
  clear u1 h1 h2 h5
  have hyr := getP_range (ys.drop (m - i)) (fun x hx_ => hx8 x (List.mem_of_mem_drop hx_))
  have hpow := pow_le8 (show (ys.drop (m - i)).length ≤ 7 from by rw [List.length_drop]; omega)
  have hxi := hx8 (ys[m - 1 - i]'(by omega)) (List.getElem_mem _)
  simp only [inR] at hxi
  refine W_block ?_
  refine W_region rfl ?_
  refine stp (r_load rfl g1 (by rfl) ?_)
  refine WL_some (og rfl ?_)
  (first | (refine r_shlc (m := 256) rfl rfl (by decide) (by decide) ?_ ?_; (constructor <;> omega)) | refine r_shlcw (m := 256) rfl rfl (by decide) (by decide) ?_)
  refine WL_some (og rfl ?_)
  (first | refine r_move_int rfl ?_ | refine r_move rfl ?_)
  refine WL_some (og rfl ?_)
  (first | (refine r_conv rfl ?_ ?_; (constructor <;> omega)) | refine r_convw rfl ?_)
  refine WL_some (og rfl ?_)
  refine r_or rfl rfl ?_
  rw [shl_or _ _ hyr.1 (by omega) hxi.1 hxi.2]
  refine stn (r_store1 (v := .int _ _) rfl rfl (by rfl) g1 (by rfl) (by rfl) ?_)
  intro w9 h1' u9
  refine WL_nil ?_
  have h4c := u9.heap h4b (by omega)
  have u2 := upd_put (o' := .loop rc) h4c
  refine ⟨_, h4c, ?_⟩
  rw [loop_again hst hpd]
  refine ⟨rfl, ?_, u2.heap (u9.heap g2 (by omega)) (by omega), put_same h4c, u2.heap (u9.heap g5 (by omega)) (by omega), (G8.upd u9 (by omega)).upd u2 (by omega)⟩
  rw [getP_drop hm8 hi]
  exact u2.heap h1' (by omega)
 ·rintro r_ w7 ⟨v_, rfl, h1, h2, h4, h5, G7⟩
  refine ⟨_, rc, rfl, h4, by rw [hst]; simp, ?_⟩
  simp only [hpd]
  have u1 := upd_put (o' := .loop { rc with state := .exhausted, pending := none }) h4
  have g1 := u1.heap h1 (by omega)
  have g5 := u1.heap h5 (by omega)
  clear G
  have G := G7.upd u1 (by omega)
  generalize w7.putObj l _ = w8 at *
  clear u1 h1 h2 h5
  refine W_seq (W_region rfl ?_)
  refine stp (r_load rfl (by assumption) (by rfl) ?_)
  refine WL_some (og rfl ?_)
  (first | refine r_assign_int rfl ?_ | refine r_assign rfl ?_)
  refine WL_nil ?_
  refine W_ret ?_
  refine retM (vs := [_]) ⟨mk, _, rfl, run_takeDeferred g5, rfl⟩ ⟨rfl, trivial⟩ ⟨?_, G.upd (upd_put g5) (by omega)⟩
  rw [Nat.sub_self]; rfl

set_option maxRecDepth 100000 in
theorem chunk_calls (w : World) {ad : Option Addr} {n c : Nat} : Calls Try.prog 41 #[.slice ad n c, .int .i64 8] w (Ret fun v w' => ∃ b1 b2, v = .func (.func 64) #[] #[.pointer (some ⟨b1, 0, none⟩), .pointer (some ⟨b2, 0, none⟩)] ∧ w.heap.size ≤ b1 ∧ w.heap.size ≤ b2 ∧ w'.heap[b1]? = some (.cells #[.slice ad n c] 22 (0, 0)) ∧ w'.heap[b2]? = some (.cells #[.int .i64 8] 3 (0, 0)) ∧ Grow w w') := by
 have G := Grow.rfl' w
 refine calls_ret Try.func41 Try.ntmps41 Try.results41 rfl rfl ?_
 refine W_seq (W_region rfl ?_)
 refine WL_some (og rfl ?_)
 (first | refine r_box_agg rfl ?_ | refine r_box_int rfl ?_ | refine r_box_slice rfl ?_ | refine r_box rfl rfl ?_)
 intro b1 w2 hb3 hc4 g5
 have hge6 := Nat.le_trans G.size hb3
 replace G := G.tr g5
 clear g5 hb3
 refine WL_some (og rfl ?_)
 (first | refine r_box_agg rfl ?_ | refine r_box_int rfl ?_ | refine r_box_slice rfl ?_ | refine r_box rfl rfl ?_)
 intro b7 w8 hb9 hc10 g11
 have hge12 := Nat.le_trans G.size hb9
 replace hc4 := g11.heap hc4
 replace G := G.tr g11
 clear g11 hb9
 refine WL_some (og rfl ?_)
 (first | refine r_assign_iface rfl ?_ | refine r_assign_nili rfl ?_ | refine r_assign_ptr rfl ?_ | refine r_assign_int rfl ?_ | refine r_assign_slice rfl ?_ | refine r_assign_func rfl ?_ | refine r_assign rfl ?_)
 refine WL_nil ?_
 refine W_seq ?_
 refine W_seq (W_region rfl ?_)
 refine stp (r_load rfl (by assumption) (by rfl) ?_)
 refine WL_some (og rfl ?_)
 (first | (refine r_lss_t rfl rfl ?_ ?_; (first | assumption | omega)) | (refine r_lss_f rfl rfl ?_ ?_; (first | assumption | omega)) | refine r_lss rfl rfl ?_)
 refine WL_nil ?_
 refine W_false rfl ?_
 refine W_skip ?_
 refine W_seq (W_region rfl ?_)
 refine stp (r_makeFunc (vs := []) (us := [.pointer (some ⟨b1, 0, none⟩), .pointer (some ⟨b7, 0, none⟩)]) rfl rfl ?_)
 refine WL_some (og rfl ?_)
 (first | refine r_assign_func rfl ?_ | refine r_assign rfl ?_)
 refine WL_nil ?_
 refine W_ret ?_
 exact ret1 (res_tmp rfl) ⟨_, _, rfl, hge6, hge12, hc4, hc10, G⟩

set_option maxRecDepth 100000 in
theorem chunk1_calls (w : World) {b1 b2 l n c : Nat} {ad : Option Addr} {T T2 : TypeId} (hnc : n ≤ c) (hn : n ≤ 140737488355328) (I : Nat → World → Prop) (hI : ∀ i w', I i w' → w'.heap[b1]? = some (.cells #[.slice ad n c] T (0, 0)) ∧ w'.heap[b2]? = some (.cells #[.int .i64 8] T2 (0, 0))) (hgr : ∀ i w' w'', Grow w' w'' → I i w' → I i w'') (hy : ∀ j w', 8 * j < n → I j w' → Yields Try.prog l #[.slice (if 8 * j + chunkN n j = 8 * j then ad else ad.map (·.add (8 * j * 1))) (chunkN n j) (chunkN n j)] w' (fun v w'' => v = .bool true ∧ I (j + 1) w'')) (h0 : I 0 w) : Calls Try.prog 64 #[.func (.yield l) #[] #[], .pointer (some ⟨b1, 0, none⟩), .pointer (some ⟨b2, 0, none⟩)] w (Ret fun v w' => I ((n + 7) / 8) w') := by
 refine calls_ret Try.func64 Try.ntmps64 Try.results64 rfl rfl ?_
 refine W_seq (W_region rfl ?_)
 refine WL_some (og rfl ?_)
 (first | refine r_assign_int rfl ?_ | refine r_assign rfl ?_)
 refine WL_nil ?_
 refine W_block ?_
 refine W_loop (fun m_ e_ w_ => ∃ (k : Nat), m_ = n + 8 - 8 * k ∧ Fr [(0, .func (.yield l) #[] #[]), (1, .pointer (some ⟨b1, 0, none⟩)), (2, .pointer (some ⟨b2, 0, none⟩)), (4, .int .i64 ((8 * k : Nat) : Int))] e_ ∧ (8 * k < n + 8) ∧ (I k w_)) _ ⟨0, rfl, fr_of ⟨rfl, rfl, rfl, rfl, trivial⟩, by omega, h0⟩ ?_
 rintro m_ e_ w1 ⟨k, rfl, ⟨e2, rfl⟩, hk2, HI⟩
 obtain ⟨hb1, hb2⟩ := hI k _ HI
 refine W_seq ?_
 refine W_seq (W_region rfl ?_)
 refine WL_some (og rfl ?_)
 (first | refine r_move_int rfl ?_ | refine r_move rfl ?_)
 refine stp (r_load rfl (by assumption) (by rfl) ?_)
 refine stp (r_len rfl rfl rfl ?_)
 refine WL_some (og rfl ?_)
 (first | (refine r_lss_t rfl rfl ?_ ?_; (first | assumption | omega)) | (refine r_lss_f rfl rfl ?_ ?_; (first | assumption | omega)) | refine r_lss rfl rfl ?_)
 refine WL_nil ?_
 refine W_cond2 rfl (fun hlt => ?_) (fun hlt => ?_)
 ·-- true
  first | (replace hlt := of_decide_eq_true hlt) | (replace hlt := of_decide_eq_false hlt) | skip
  have hk3 : 8 * k < n := by omega
  have hmin : (if (n : Int) - (8 * k : Nat) < 8 then (n : Int) - (8 * k : Nat) else 8) = (chunkN n k : Nat) := by unfold chunkN; split <;> omega
  have hck : chunkN n k ≤ n - 8 * k := by unfold chunkN; omega
  refine W_skip ?_
  refine W_seq ?_
  refine W_block ?_
  refine W_seq ?_
  refine W_any 7 [[], [], [], [1, 0], [2, 1, 0], [4, 3, 2, 1, 0], [5, 4, 3, 2, 1, 0]] mixed (by kernel_rfl) (by kernel_rfl) (by kernel_rfl) ?_
  intro w3 g4
  replace HI := hgr _ _ _ g4 HI
  replace HI := HI
  replace hb1 := g4.heap hb1
  replace hb2 := g4.heap hb2
  clear g4
  apply AO_ex
  ·intro w_ g_; refine og rfl ?_; refine r_load rfl (by exact Grow.heap g_ (by assumption)) (by rfl) ?_; exact ⟨Grow.rfl' _, rfl⟩
  apply AO_ex
  ·intro w_ g_; refine og rfl ?_; refine r_load rfl (by exact Grow.heap g_ (by assumption)) (by rfl) ?_; exact ⟨Grow.rfl' _, rfl⟩
  apply AO_ex
  ·intro w_ g_; refine og rfl ?_; (first | refine r_move_int rfl ?_ | refine r_move rfl ?_); exact ⟨Grow.rfl' _, rfl⟩
  apply AO_ex
  ·intro w_ g_
   refine og rfl ?_
   refine r_sliceL rfl rfl (by omega) (by omega) ?_
   exact ⟨Grow.rfl' _, rfl⟩
  apply AO_ex
  ·intro w_ g_
   refine og rfl ?_
   refine r_len rfl rfl rfl ?_
   exact ⟨Grow.rfl' _, rfl⟩
  apply AO_ex
  ·intro w_ g_
   refine og rfl ?_
   refine r_min rfl rfl rfl ?_
   rw [show (if ((n - ((8 * k : Nat) : Int).toNat : Nat) : Int) < 8 then ((n - ((8 * k : Nat) : Int).toNat : Nat) : Int) else 8) = (chunkN n k : Nat) from by unfold chunkN; split <;> omega]
   exact ⟨Grow.rfl' _, rfl⟩
  apply AO_ex
  ·intro w_ g_; refine og rfl ?_; (first | refine r_assign_int rfl ?_ | refine r_assign rfl ?_); exact ⟨Grow.rfl' _, rfl⟩
  refine AO_nil ?_
  intro w5 g6
  replace HI := hgr _ _ _ g6 HI
  replace HI := HI
  replace hb1 := g6.heap hb1
  replace hb2 := g6.heap hb2
  clear g6
  refine WL_nil ?_
  refine W_seq (W_region rfl ?_)
  refine WL_some (og rfl ?_)
  (first | refine r_move_func rfl ?_ | refine r_move rfl ?_)
  refine stp (r_load rfl (by assumption) (by rfl) ?_)
  refine WL_some (og rfl ?_)
  (first | refine r_move_int rfl ?_ | refine r_move rfl ?_)
  refine WL_some (og rfl ?_)
  (first | refine r_move_int rfl ?_ | refine r_move rfl ?_)
  refine WL_some (og rfl ?_)
  (first | refine r_move_int rfl ?_ | refine r_move rfl ?_)
  refine WL_some (og rfl ?_)
  (first | (refine r_add rfl rfl ?_ ?_; (constructor <;> omega)) | refine r_addw rfl rfl ?_)
  refine WL_some (og rfl ?_)
  (first | refine r_move_int rfl ?_ | refine r_move rfl ?_)
  refine WL_some (og rfl ?_)
  (first | refine r_move_int rfl ?_ | refine r_move rfl ?_)
  refine WL_some (og rfl ?_)
  (first | (refine r_add rfl rfl ?_ ?_; (constructor <;> omega)) | refine r_addw rfl rfl ?_)
  refine WL_some (og rfl ?_)
  refine r_slice3 rfl rfl rfl rfl (by omega) (by omega) (by omega) (by omega) ?_
  rw [show ((((8 * k : Nat) : Int) + (chunkN n k : Nat)).toNat) = 8 * k + chunkN n k from by omega, Int.toNat_natCast, show 8 * k + chunkN n k - 8 * k = chunkN n k from by omega]
  refine stp (r_yield rfl (Yields.mono ?_ (hy k _ hk3 HI)))
  rintro v_ w2_ ⟨rfl, HI2⟩
  refine WL_some (og rfl ?_)
  (first | (refine r_not_t rfl ?_ ?_; (first | rfl | assumption)) | (refine r_not_f rfl ?_ ?_; (first | rfl | assumption)) | refine r_not rfl ?_)
  refine WL_nil ?_
  refine W_false rfl ?_
  obtain ⟨hb1b, hb2b⟩ := hI (k + 1) _ HI2
  refine W_skip ?_
  refine W_region rfl ?_
  refine WL_some (og rfl ?_)
  (first | refine r_move_int rfl ?_ | refine r_move rfl ?_)
  refine stp (r_load rfl (by assumption) (by rfl) ?_)
  refine WL_some (og rfl ?_)
  (first | (refine r_add rfl rfl ?_ ?_; (constructor <;> omega)) | refine r_addw rfl rfl ?_)
  refine WL_some (og rfl ?_)
  (first | refine r_assign_int rfl ?_ | refine r_assign rfl ?_)
  refine WL_nil ?_
  refine ⟨_, ?_, k + 1, rfl, fr_of ⟨rfl, rfl, rfl, congrArg (Value.int .i64) (by omega), trivial⟩, by omega, HI2⟩
  omega
 ·-- false
  first | (replace hlt := of_decide_eq_true hlt) | (replace hlt := of_decide_eq_false hlt) | skip
  have hk3 : (n + 7) / 8 = k := by omega
  rw [hk3]
  refine W_exit ?_
  exact ret0n HI
end Go.Proofs.Ytifhcfhdajkhlaa.K

namespace Go.Proofs.Ytifhcfhdajkhlaa.K
open Go Go.RowKit Go.Proofs
attribute [local irreducible] Run1 OpG WL W AO Gives
set_option maxRecDepth 100000 in
theorem cloneB_calls (w : World) {b : Addr} {n c : Nat} {xs : List Value} (hc : n ≤ c) (hc2 : c ≤ maxLen) (R : RowAt w 1 (some b) n xs) (h1 : ∀ q ∈ xs, q.oneCell' = true) (hb : n ≤ 17592186044416) : Calls Try.prog 29 #[.slice (some b) n c] w (Ret fun v w' => w'.ownsRow w.heap.size 5 1 v n xs ∧ Grow w w') := by
 have G := Grow.rfl' w
 refine calls_ret Try.func29 Try.ntmps29 Try.results29 rfl rfl ?_
 refine W_seq (W_region rfl ?_)
 refine stp (r_assign_slice rfl ?_)
 refine WL_nil ?_
 refine W_seq ?_
 refine W_seq (W_region rfl ?_)
 refine stp (r_move_slice rfl ?_)
 refine stp (r_eqlNil rfl rfl ?_)
 refine WL_nil ?_
 refine W_false rfl ?_
 refine W_skip ?_
 refine W_seq (W_region rfl ?_)
 refine stp (r_buildSlice (cs := #[]) (el := 5) (fun w => by kernel_rfl) ?_)
 intro bs_ w5_ hbs_ hcs_ g5_
 replace G := G.tr g5_
 clear g5_
 have own0 := own_lit0 (base := w.heap.size) (sz := 1) hcs_ (by have := G.size; omega)
 refine stp (r_move_slice rfl ?_)
 refine stp (r_append rfl rfl rfl rfl own0 ⟨_, c, rfl, hc, hc2, R.grow G⟩ h1 (by simp only [maxLen]; omega) (by omega) G.size ?_)
 intro v6 w6 own6 gr6
 have G6 := G.grown gr6 (own_ge own0)
 rw [Nat.zero_add, List.nil_append] at own6
 refine stp (r_assign (v := v6) rfl ?_)
 refine WL_nil ?_
 refine W_ret ?_
 exact ret1 (res_tmp rfl) ⟨own6, G6⟩

set_option maxRecDepth 100000 in
theorem cloneW_calls (w : World) {b : Addr} {n c : Nat} {xs : List Value} (hc : n ≤ c) (hc2 : c ≤ maxLen) (R : RowAt w 1 (some b) n xs) (h1 : ∀ q ∈ xs, q.oneCell' = true) (hb : n ≤ 17592186044416) : Calls Try.prog 45 #[.slice (some b) n c] w (Ret fun v w' => w'.ownsRow w.heap.size 33 1 v n xs ∧ Grow w w') := by
 have G := Grow.rfl' w
 refine calls_ret Try.func45 Try.ntmps45 Try.results45 rfl rfl ?_
 refine W_seq (W_region rfl ?_)
 refine stp (r_assign_slice rfl ?_)
 refine WL_nil ?_
 refine W_seq ?_
 refine W_seq (W_region rfl ?_)
 refine stp (r_move_slice rfl ?_)
 refine stp (r_eqlNil rfl rfl ?_)
 refine WL_nil ?_
 refine W_false rfl ?_
 refine W_skip ?_
 refine W_seq (W_region rfl ?_)
 refine stp (r_buildSlice (cs := #[]) (el := 33) (fun w => by kernel_rfl) ?_)
 intro bs_ w5_ hbs_ hcs_ g5_
 replace G := G.tr g5_
 clear g5_
 have own0 := own_lit0 (base := w.heap.size) (sz := 1) hcs_ (by have := G.size; omega)
 refine stp (r_move_slice rfl ?_)
 refine stp (r_append rfl rfl rfl rfl own0 ⟨_, c, rfl, hc, hc2, R.grow G⟩ h1 (by simp only [maxLen]; omega) (by omega) G.size ?_)
 intro v6 w6 own6 gr6
 have G6 := G.grown gr6 (own_ge own0)
 rw [Nat.zero_add, List.nil_append] at own6
 refine stp (r_assign (v := v6) rfl ?_)
 refine WL_nil ?_
 refine W_ret ?_
 exact ret1 (res_tmp rfl) ⟨own6, G6⟩

set_option maxRecDepth 100000 in
theorem cloneN_calls (w : World) {b : Addr} {n c : Nat} {xs : List Value} (hc : n ≤ c) (hc2 : c ≤ maxLen) (R : RowAt w 1 (some b) n xs) (h1 : ∀ q ∈ xs, q.oneCell' = true) (hb : n ≤ 17592186044416) : Calls Try.prog 47 #[.slice (some b) n c] w (Ret fun v w' => w'.ownsRow w.heap.size 3 1 v n xs ∧ Grow w w') := by
 have G := Grow.rfl' w
 refine calls_ret Try.func47 Try.ntmps47 Try.results47 rfl rfl ?_
 refine W_seq (W_region rfl ?_)
 refine stp (r_assign_slice rfl ?_)
 refine WL_nil ?_
 refine W_seq ?_
 refine W_seq (W_region rfl ?_)
 refine stp (r_move_slice rfl ?_)
 refine stp (r_eqlNil rfl rfl ?_)
 refine WL_nil ?_
 refine W_false rfl ?_
 refine W_skip ?_
 refine W_seq (W_region rfl ?_)
 refine stp (r_buildSlice (cs := #[]) (el := 3) (fun w => by kernel_rfl) ?_)
 intro bs_ w5_ hbs_ hcs_ g5_
 replace G := G.tr g5_
 clear g5_
 have own0 := own_lit0 (base := w.heap.size) (sz := 1) hcs_ (by have := G.size; omega)
 refine stp (r_move_slice rfl ?_)
 refine stp (r_append rfl rfl rfl rfl own0 ⟨_, c, rfl, hc, hc2, R.grow G⟩ h1 (by simp only [maxLen]; omega) (by omega) G.size ?_)
 intro v6 w6 own6 gr6
 have G6 := G.grown gr6 (own_ge own0)
 rw [Nat.zero_add, List.nil_append] at own6
 refine stp (r_assign (v := v6) rfl ?_)
 refine WL_nil ?_
 refine W_ret ?_
 exact ret1 (res_tmp rfl) ⟨own6, G6⟩

set_option maxRecDepth 100000 in
theorem rput_calls (w : World) {x : Int} (h0 : 0 ≤ x) (h1 : x ≤ 18446744073709551615) {k : Nat} (hk : k ≤ 8) : Calls Try.prog 34 #[.int .u64 x, .int .i64 (k : Int)] w (Ret fun v w' => w'.ownsRow w.heap.size 5 1 v k (((List.range k).map (byt1 x)).map (.int .u8)) ∧ Grow w w') := by
 have G := Grow.rfl' w
 refine calls_ret Try.func34 Try.ntmps34 Try.results34 rfl rfl ?_
 refine W_seq (W_region rfl ?_)
 refine stp (r_assign_slice rfl ?_)
 refine WL_nil ?_
 refine W_seq (W_region rfl ?_)
 refine stp (r_assign_slice rfl ?_)
 refine WL_nil ?_
 refine W_seq ?_
 refine W_seq (W_region rfl ?_)
 refine stp (r_assign_int rfl ?_)
 refine WL_nil ?_
 refine W_block ?_
 refine W_loop (fun m_ e_ w_ => ∃ (m : Nat) (ad3 : Option Addr) (n3 : Nat) (c3 : Nat), m_ = k - m ∧ Fr [(1, .int .i64 (k : Int)), (4, .slice none 0 0), (0, .int .u64 (x / 2 ^ (8 * m))), (5, .slice ad3 n3 c3), (6, .int .i64 (m : Int))] e_ ∧ (m ≤ k) ∧ (w_.ownsRow w.heap.size 5 1 (.slice ad3 n3 c3) m (((List.range m).map (byt1 x)).map (.int .u8))) ∧ Grow w w_) _ ⟨0, none, 0, 0, rfl, fr_of ⟨rfl, rfl, congrArg (Value.int .u64) (by simp), rfl, rfl, trivial⟩, by omega, World.ownsRow_nil _ _ _ _, G⟩ ?_
 clear G
 rintro m_ e_ w1 ⟨m, ad3, n3, c3, rfl, ⟨e2, rfl⟩, hm, own, G⟩
 have hxq := shr_range x m h0 h1
 refine W_seq ?_
 refine W_seq (W_region rfl ?_)
 refine stp (r_move_int rfl ?_)
 refine stp (r_move_int rfl ?_)
 refine stp (r_lss rfl rfl ?_)
 refine stp (r_move_bool rfl ?_)
 refine WL_some (og_if (s := .bool (decide ((m : Int) < (k : Int)))) (b := true) (v := .int .i64 (m : Int)) rfl (wgb_t _) (fun hc3 => ?_) ?_)
 ·
  have hc3_ := of_decide_eq_true hc3
  refine r_move_int rfl ?_
  exact ⟨rfl, rfl⟩
 refine WL_some (og_if (s := .bool (decide ((m : Int) < (k : Int)))) (b := true) (v := .bool (decide ((m : Int) < 8))) rfl (wgb_t _) (fun hc4 => ?_) ?_)
 ·
  have hc4_ := of_decide_eq_true hc4
  refine r_lss (gvt hc4) rfl ?_
  exact ⟨rfl, rfl⟩
 refine stp (r_and2 rfl rfl rfl ?_)
 refine WL_nil ?_
 refine W_cond2 (b := ((decide ((m : Int) < (k : Int))) && (decide ((m : Int) < 8)))) rfl (fun hlt => ?_) (fun hlt => ?_)
 ·-- true
  simp only [sb] at hlt
  refine W_skip ?_
  refine W_seq ?_
  refine W_block ?_
  refine W_seq (W_region rfl ?_)
  refine stp (r_move_slice rfl ?_)
  refine stp (r_move_int rfl ?_)
  refine stp (r_rem rfl rfl ?_ ?_ ?_); omega; omega
  refine stp (r_conv rfl ?_ ?_); constructor <;> omega
  refine stp (r_buildSlice (cs := #[.int .u8 ((x / 2 ^ (8 * m)) % 256)]) (el := 5) (fun w => by kernel_rfl) ?_)
  intro bs5 w6 hb7 hc8 g9
  have hge10 := Nat.le_trans G.size hb7
  replace own := own_grow own g9
  replace G := G.tr g9
  clear g9
  refine stp (r_append rfl rfl rfl rfl own (Row.of_block (n := 1) hc8 rfl rfl (by omega)) (fun q_ hq_ => by simp at hq_; subst hq_; rfl) (by simp only [maxLen]; omega) (by omega) G.size ?_)
  intro v11 w12 own6 gr6
  replace G := G.grown gr6 (own_ge own)
  clear own gr6
  obtain ⟨ad4, n4, c4, rfl⟩ := own_slice own6
  refine stp (r_assign_slice rfl ?_)
  refine WL_nil ?_
  refine W_region rfl ?_
  refine stp (r_move_int rfl ?_)
  refine stp (r_quo rfl rfl ?_ ?_ ?_ ?_); omega; omega; (constructor <;> omega)
  refine stp (r_assign_int rfl ?_)
  refine WL_nil ?_
  refine W_region rfl ?_
  refine stp (r_move_int rfl ?_)
  refine stp (r_add rfl rfl ?_ ?_); constructor <;> omega
  refine stp (r_assign_int rfl ?_)
  refine WL_nil ?_
  refine ⟨_, ?_, m + 1, ad4, n4, c4, rfl, fr_of ⟨rfl, rfl, congrArg (Value.int .u64) (shr_step x m), rfl, congrArg (Value.int .i64) (by omega), trivial⟩, by omega, (by rw [List.range_succ, List.map_append, List.map_append]; exact own6), G⟩
  omega
 ·-- false
  simp only [sb] at hlt
  have hm9 : m = k := by omega
  rw [hm9] at own
  refine W_exit ?_
  refine W_seq (W_region rfl ?_)
  refine stp (r_move_slice rfl ?_)
  refine stp (r_assign_slice rfl ?_)
  refine WL_nil ?_
  refine W_ret ?_
  refine ret1 (res_tmp (v := .slice ad3 n3 c3) rfl) ⟨own, G⟩

set_option maxRecDepth 100000 in
theorem rbytes_calls (w : World) {u : Value} {A : List (List Int)} (hA : ArenaR w u A) (hx : ∀ q ∈ A, ∀ x ∈ q, inR .u64 x) (hn : A.length ≤ 1000) (hl : ∀ i, len2 A i ≤ 100000) : Calls Try.prog 35 #[u] w (Ret fun v w' => w'.ownsRow w.heap.size 5 1 v (bytesA A).length ((bytesA A).map (.int .u8)) ∧ Grow w w') := by
 obtain ⟨ada, ca, segs, sa, sc, rfl, hca, hca2, RA, hsf, hrf⟩ := hA.fn
 have G := Grow.rfl' w
 refine calls_ret Try.func35 Try.ntmps35 Try.results35 rfl rfl ?_
 refine W_seq (W_region rfl ?_)
 refine stp (r_assign_slice rfl ?_)
 refine WL_nil ?_
 refine W_seq (W_region rfl ?_)
 refine stp (r_assign_slice rfl ?_)
 refine WL_nil ?_
 refine W_seq ?_
 refine W_seq (W_region rfl ?_)
 refine stp (r_assign_int rfl ?_)
 refine WL_nil ?_
 refine W_block ?_
 refine W_loop (fun m_ e_ w_ => ∃ (i : Nat) (ad3 : Option Addr) (n3 : Nat) (c3 : Nat), m_ = A.length - i ∧ Fr [(0, .slice ada A.length ca), (2, .slice none 0 0), (3, .slice ad3 n3 c3), (4, .int .i64 (i : Int))] e_ ∧ (i ≤ A.length) ∧ (w_.ownsRow w.heap.size 5 1 (.slice ad3 n3 c3) (bytesA (A.take i)).length ((bytesA (A.take i)).map (.int .u8))) ∧ Grow w w_) _ ⟨0, none, 0, 0, rfl, fr_of ⟨rfl, rfl, rfl, rfl, trivial⟩, by omega, World.ownsRow_nil _ _ _ _, G⟩ ?_
 clear G
 rintro m_ e_ w1 ⟨i, ad3, n3, c3, rfl, ⟨e2, rfl⟩, hi0, own, G⟩
 refine W_seq ?_
 refine W_seq (W_region rfl ?_)
 refine stp (r_move_int rfl ?_)
 refine stp (r_move_slice rfl ?_)
 refine stp (r_len rfl rfl rfl ?_)
 refine stp (r_lss rfl rfl ?_)
 refine WL_nil ?_
 refine W_cond2 (b := (decide ((i : Int) < (A.length : Int)))) rfl (fun hlt => ?_) (fun hlt => ?_)
 ·-- true
  replace hlt := of_decide_eq_true hlt
  have hi : i < A.length := by omega
  have hli := hl i
  obtain ⟨-, -, Rk⟩ := hrf i hi
  have lk := Rk.lim
  refine W_skip ?_
  refine W_seq ?_
  refine W_block ?_
  refine W_seq (W_region rfl ?_)
  refine stp (r_assign_int rfl ?_)
  refine WL_nil ?_
  refine W_block ?_
  have hbl := bytesA_len (A.take i)
  have htl := totalP_small (A := A) hn hl i
  refine W_loop (fun m_ e_ w_ => ∃ (k : Nat) (ad3 : Option Addr) (n3 : Nat) (c3 : Nat), m_ = len2 A i - k ∧ Fr [(0, .slice ada A.length ca), (2, .slice none 0 0), (4, .int .i64 (i : Int)), (3, .slice ad3 n3 c3), (5, .int .i64 (k : Int))] e_ ∧ (k ≤ len2 A i) ∧ (w_.ownsRow w.heap.size 5 1 (.slice ad3 n3 c3) (bytesA (A.take i) ++ ((A.getD i []).take k).flatMap byt8).length ((bytesA (A.take i) ++ ((A.getD i []).take k).flatMap byt8).map (.int .u8))) ∧ Grow w w_) _ ⟨0, ad3, n3, c3, rfl, fr_of ⟨rfl, rfl, rfl, rfl, rfl, trivial⟩, by omega, (by simpa using own), G⟩ ?_
  clear own
  clear G
  rintro m_ e_ w3 ⟨k, ad3, n3, c3, rfl, ⟨e4, rfl⟩, hk2, own, G⟩
  refine W_seq ?_
  refine W_seq (W_region rfl ?_)
  refine stp (r_move_int rfl ?_)
  refine stp (r_move_slice rfl ?_)
  refine stp (r_move_int rfl ?_)
  refine stp (r_indexN (RA.grow G) rfl rfl ?_ ?_); omega
  refine stp (r_loadR (v := .slice (sa i) (len2 A i) (sc i)) (m := 0) (RA.grow G) rfl (by rw [Nat.mul_one]; exact hsf _ (by omega)) ?_)
  refine stp (r_len rfl rfl rfl ?_)
  refine stp (r_lss rfl rfl ?_)
  refine WL_nil ?_
  refine W_cond2 (b := (decide ((k : Int) < ((len2 A i) : Int)))) rfl (fun hlk => ?_) (fun hlk => ?_)
  ·-- true
   replace hlk := of_decide_eq_true hlk
   have hk : k < (A.getD i []).length := by have e_ : len2 A i = (A.getD i []).length := rfl; omega
   have hxk := getD2_u64 hx i hk
   have hLn : (bytesA (A.take i) ++ ((A.getD i []).take k).flatMap byt8).length ≤ 900000000 := by rw [List.length_append, flat8_len, List.length_take]; omega
   refine W_skip ?_
   refine W_seq ?_
   refine W_block ?_
   refine W_seq (W_region rfl ?_)
   refine stp (r_move_slice rfl ?_)
   refine stp (r_move_int rfl ?_)
   refine stp (r_indexN (RA.grow G) rfl rfl ?_ ?_); omega
   refine stp (r_loadR (v := .slice (sa i) (len2 A i) (sc i)) (m := 0) (RA.grow G) rfl (by rw [Nat.mul_one]; exact hsf _ (by omega)) ?_)
   refine stp (r_move_int rfl ?_)
   refine stp (r_indexN (Rk.grow G) rfl rfl ?_ ?_); omega
   refine stp (r_loadR (v := .int .u64 ((A.getD i []).getD k 0)) (m := 0) (Rk.grow G) rfl (map_get1 0 (by simp only [len2] at *; omega)) ?_)
   refine WL_some (og rfl ?_)
   refine r_call rfl (rput_calls _ hxk.1 hxk.2 (k := 8) (by decide)) ?_
   rintro v8 w5 ⟨o8, g_⟩
   replace own := own_grow own g_
   replace G := G.tr g_
   clear g_
   have R8 := own_row o8 (by decide)
   clear o8
   refine stp (r_assign (v := v8) rfl ?_)
   refine WL_nil ?_
   refine W_region rfl ?_
   refine stp (r_move_slice rfl ?_)
   refine stp (r_move (v := v8) rfl ?_)
   refine stp (r_append rfl rfl rfl rfl own R8 (fun q_ hq_ => by obtain ⟨z_, -, rfl⟩ := List.mem_map.1 hq_; rfl) (by simp only [maxLen]; omega) (by omega) G.size ?_)
   intro v6 w7 own6 gr6
   replace G := G.grown gr6 (own_ge own)
   clear own gr6
   obtain ⟨ad4, n4, c4, rfl⟩ := own_slice own6
   refine stp (r_assign_slice rfl ?_)
   refine WL_nil ?_
   refine W_region rfl ?_
   refine stp (r_move_int rfl ?_)
   refine stp (r_add rfl rfl ?_ ?_); constructor <;> omega
   refine stp (r_assign_int rfl ?_)
   refine WL_nil ?_
   refine ⟨_, ?_, k + 1, ad4, n4, c4, rfl, fr_of ⟨rfl, rfl, rfl, rfl, congrArg (Value.int .i64) (by omega), trivial⟩, by omega, (by rw [show bytesA (A.take i) ++ ((A.getD i []).take (k + 1)).flatMap byt8 = (bytesA (A.take i) ++ ((A.getD i []).take k).flatMap byt8) ++ byt8 ((A.getD i []).getD k 0) from by rw [flat8_take hk, List.append_assoc], List.length_append, List.map_append, byt8_len]; exact own6), G⟩
   omega
  ·-- false
   replace hlk := of_decide_eq_false hlk
   have hk9 : k = (A.getD i []).length := by have e_ : len2 A i = (A.getD i []).length := rfl; omega
   rw [hk9, List.take_length, ← bytesA_take hi] at own
   refine W_exit ?_
   refine W_region rfl ?_
   refine stp (r_move_int rfl ?_)
   refine stp (r_add rfl rfl ?_ ?_); constructor <;> omega
   refine stp (r_assign_int rfl ?_)
   refine WL_nil ?_
   refine ⟨_, ?_, i + 1, ad3, n3, c3, rfl, fr_of ⟨rfl, rfl, rfl, congrArg (Value.int .i64) (by omega), trivial⟩, by omega, own, G⟩
   omega
 ·-- false
  replace hlt := of_decide_eq_false hlt
  have hi9 : i = A.length := by omega
  rw [hi9, List.take_length] at own
  refine W_exit ?_
  refine W_seq (W_region rfl ?_)
  refine stp (r_move_slice rfl ?_)
  refine stp (r_assign_slice rfl ?_)
  refine WL_nil ?_
  refine W_ret ?_
  refine ret1 (res_tmp (v := .slice ad3 n3 c3) rfl) ⟨own, G⟩

set_option maxRecDepth 100000 in
theorem rsizesO_calls (w : World) {u : Value} {A : List (List Int)} (hA : ArenaR w u A) (hn : A.length ≤ 8796093022208) : Calls Try.prog 33 #[u] w (Ret fun v w' => ∃ ad c, v = .slice ad A.length c ∧ A.length ≤ c ∧ w'.ownsRow w.heap.size 3 1 (.slice ad A.length c) A.length ((sizesP A).map (.int .i64)) ∧ Grow w w') := by
 obtain ⟨ada, ca, segs, sa, sc, rfl, hca, hca2, RA, hsf, hrf⟩ := hA.fn
 have G := Grow.rfl' w
 refine calls_ret Try.func33 Try.ntmps33 Try.results33 rfl rfl ?_
 refine W_seq (W_region rfl ?_)
 refine stp (r_assign_slice rfl ?_)
 refine WL_nil ?_
 refine W_seq (W_region rfl ?_)
 refine stp (r_assign_slice rfl ?_)
 refine WL_nil ?_
 refine W_seq ?_
 refine W_seq (W_region rfl ?_)
 refine stp (r_assign_int rfl ?_)
 refine WL_nil ?_
 refine W_block ?_
 refine W_loop (fun m_ e_ w_ => ∃ (k : Nat) (ad3 : Option Addr) (n3 : Nat) (c3 : Nat), m_ = A.length - k ∧ Fr [(0, .slice ada A.length ca), (2, .slice none 0 0), (3, .slice ad3 n3 c3), (4, .int .i64 (k : Int))] e_ ∧ (k ≤ A.length) ∧ (w_.ownsRow w.heap.size 3 1 (.slice ad3 n3 c3) k ((sizesP (A.take k)).map (.int .i64))) ∧ Grow w w_) _ ⟨0, none, 0, 0, rfl, fr_of ⟨rfl, rfl, rfl, rfl, trivial⟩, by omega, World.ownsRow_nil _ _ _ _, G⟩ ?_
 clear G
 rintro m_ e_ w1 ⟨k, ad3, n3, c3, rfl, ⟨e2, rfl⟩, hk, own, G⟩
 refine W_seq ?_
 refine W_seq (W_region rfl ?_)
 refine stp (r_move_int rfl ?_)
 refine stp (r_move_slice rfl ?_)
 refine stp (r_len rfl rfl rfl ?_)
 refine stp (r_lss rfl rfl ?_)
 refine WL_nil ?_
 refine W_cond2 (b := (decide ((k : Int) < (A.length : Int)))) rfl (fun hlt => ?_) (fun hlt => ?_)
 ·-- true
  replace hlt := of_decide_eq_true hlt
  have hi : k < A.length := by omega
  have hlk := (hrf k hi).2.2.lim
  refine W_skip ?_
  refine W_seq ?_
  refine W_block ?_
  refine W_region rfl ?_
  refine stp (r_move_slice rfl ?_)
  refine stp (r_move_slice rfl ?_)
  refine stp (r_move_int rfl ?_)
  refine stp (r_indexN (RA.grow G) rfl rfl ?_ ?_); omega
  refine stp (r_loadR (v := .slice (sa k) (len2 A k) (sc k)) (m := 0) (RA.grow G) rfl (by rw [Nat.mul_one]; exact hsf _ (by omega)) ?_)
  refine stp (r_len rfl rfl rfl ?_)
  refine stp (r_buildSlice (cs := #[.int .i64 ((len2 A k) : Int)]) (el := 3) (fun w => by kernel_rfl) ?_)
  intro bs3 w4 hb5 hc6 g7
  have hge8 := Nat.le_trans G.size hb5
  replace own := own_grow own g7
  replace G := G.tr g7
  clear g7
  refine stp (r_append rfl rfl rfl rfl own (Row.of_block (n := 1) hc6 rfl rfl (by omega)) (fun q_ hq_ => by simp at hq_; subst hq_; rfl) (by simp only [maxLen]; omega) (by omega) G.size ?_)
  intro v9 w10 own6 gr6
  replace G := G.grown gr6 (own_ge own)
  clear own gr6
  obtain ⟨ad4, n4, c4, rfl⟩ := own_slice own6
  refine stp (r_assign_slice rfl ?_)
  refine WL_nil ?_
  refine W_region rfl ?_
  refine stp (r_move_int rfl ?_)
  refine stp (r_add rfl rfl ?_ ?_); constructor <;> omega
  refine stp (r_assign_int rfl ?_)
  refine WL_nil ?_
  refine ⟨_, ?_, k + 1, ad4, n4, c4, rfl, fr_of ⟨rfl, rfl, rfl, congrArg (Value.int .i64) (by omega), trivial⟩, by omega, (by rw [sizesP_take hi, List.map_append]; exact own6), G⟩
  omega
 ·-- false
  replace hlt := of_decide_eq_false hlt
  have hk2 : k = A.length := by omega
  subst hk2
  rw [List.take_length] at own
  have hn9 := own_len own
  subst hn9
  obtain ⟨_, _, hs9, hc9⟩ := own_shape own
  cases hs9
  refine W_exit ?_
  refine W_seq (W_region rfl ?_)
  refine stp (r_move_slice rfl ?_)
  refine stp (r_assign_slice rfl ?_)
  refine WL_nil ?_
  refine W_ret ?_
  refine ret1 (res_tmp (v := .slice ad3 A.length c3) rfl) ⟨_, _, rfl, hc9, own, G⟩

set_option maxRecDepth 100000 in
theorem rrightO_calls (w : World) {u : Value} {A : List (List Int)} (hA : ArenaR w u A) (hn : A.length ≤ 8796093022208) : Gives Try.prog 32 #[u] w (.bool (rightB A)) := by
 have hA0 := hA
 obtain ⟨ada, ca, segs, sa, sc, rfl, hca, hca2, RA, hsf, hrf⟩ := hA.fn
 have hr : ∀ x ∈ sizesP A, inR .i64 x := sizesP_rng (fun i hi => (hrf i hi).2.2.lim)
 have G := Grow.rfl' w
 refine gives_of Try.func32 Try.ntmps32 Try.results32 rfl rfl ?_
 refine W_seq (W_region rfl ?_)
 refine stp (r_assign (v := .bool false) rfl ?_)
 refine WL_nil ?_
 refine W_seq (W_region rfl ?_)
 refine stp (r_move_slice rfl ?_)
 refine WL_some (og rfl ?_)
 refine r_call rfl (rsizesO_calls _ (hA0.grow G) hn) ?_
 rintro v_ w1 ⟨ad9, c9, rfl, -, oZ, g_⟩
 replace G := G.tr g_
 clear g_
 obtain ⟨_, _, hs9, -, -, RZ⟩ := own_row oZ (by omega)
 cases hs9
 rw [← sizesP_len A] at RZ
 clear oZ
 refine stp (r_gives (v := .bool (rightB A)) rfl ((by have h_ := rfitsL_calls w1 (c := c9) RZ hr; rw [sizesP_len, fits_right] at h_; exact h_)) ?_)
 intro w2 g3
 replace RZ := RZ.grow g3
 replace G := G.tr g3
 clear g3
 refine stp (r_assign_bool rfl ?_)
 refine WL_nil ?_
 refine W_ret ?_
 refine ret1 (res_tmp (v := .bool (rightB A)) rfl) ⟨?_, G⟩
 rfl

set_option maxRecDepth 100000 in
theorem rof_calls (w : World) {u : Value} {A : List (List Int)} {ses : Int} (hA : ArenaR w u A) (hr : rightB A = true) (hx : ∀ q ∈ A, ∀ x ∈ q, inR .u64 x) (s0 : 0 ≤ ses) (s1 : ses ≤ 18446744073709551615) : Calls Try.prog 15 #[.int .u64 ses, u] w (Ret fun v w' => ∃ ad c, v = .tuple #[.agg #[.int .u64 ses, .slice ad A.length c, .int .u32 (sumA ses A)], .int .i64 0] ∧ A.length ≤ c ∧ w'.ownsRow w.heap.size 3 1 (.slice ad A.length c) A.length ((sizesP A).map (.int .i64)) ∧ Grow w w') := by
 have hA0 := hA
 obtain ⟨r1, r2, r3, r4⟩ := of_decide_eq_true hr
 have hl : ∀ i, len2 A i ≤ 4096 := fun i => by have := seg_le_total A i; omega
 have G := Grow.rfl' w
 refine calls_ret Try.func15 Try.ntmps15 Try.results15 rfl rfl ?_
 refine W_seq (W_region rfl ?_)
 refine stp (r_alloc ?_)
 intro b1 w2 hb3 hc4 g5
 refine stp (r_assign_int rfl ?_)
 refine WL_nil ?_
 refine W_seq ?_
 refine W_seq (W_region rfl ?_)
 refine stp (r_move (v := u) rfl ?_)
 have hge6 := Nat.le_trans G.size hb3
 replace G := G.tr g5
 clear g5 hb3
 refine stp (r_gives (v := .bool true) rfl (gives_eq (rrightO_calls _ (hA0.grow G) (by omega)) (y := .bool true) (by rw [hr])) ?_)
 intro w7 g8
 replace hc4 := g8.heap hc4
 replace G := G.tr g8
 clear g8
 refine stp (r_not_f rfl rfl ?_)
 refine WL_nil ?_
 refine W_false rfl ?_
 refine W_skip ?_
 refine W_seq (W_region rfl ?_)
 refine stp (r_move_int rfl ?_)
 refine stp (r_move (v := u) rfl ?_)
 refine WL_some (og rfl ?_)
 have hG3 := G.size
 refine r_call rfl (rsizesO_calls _ (hA0.grow G) (by omega)) ?_
 rintro v_ w9 ⟨adz, cz, rfl, hcz, oZ_, g_⟩
 have oZ := own_base oZ_ hG3
 clear oZ_
 replace hc4 := g_.heap hc4
 replace G := G.tr g_
 clear g_
 refine stp (r_build (v := .agg #[.int .u64 ses, .slice adz A.length cz, .int .u32 0]) (fun w => by kernel_rfl) ?_)
 refine stp (r_alloc ?_)
 intro b10 w11 hb12 hc13 g14
 refine stn (r_storeAll rfl rfl hc13 (by rfl) (by rfl) (by rfl) ?_)
 intro w15 hc16 u17
 have g18 := g14.upd u17 hb12
 have hge19 := Nat.le_trans G.size hb12
 have ne20 := Nat.ne_of_lt (Nat.lt_of_lt_of_le (lt_of_heap hc4) hb12)
 replace hc4 := g18.heap hc4
 replace oZ := own_grow oZ g18
 replace G := G.tr g18
 clear u17 g14 hb12 hc13
 refine WL_nil ?_
 refine W_seq (W_region rfl ?_)
 refine stp (r_move_int rfl ?_)
 refine WL_some (og rfl ?_)
 have hG4 := G.size
 refine r_call rfl (rput_calls _ s0 s1 (k := 8) (by decide)) ?_
 rintro v_ w21 ⟨o8_, g_⟩
 have o8 := own_base o8_ hG4
 clear o8_
 replace hc4 := g_.heap hc4
 replace oZ := own_grow oZ g_
 replace hc16 := g_.heap hc16
 replace G := G.tr g_
 clear g_
 obtain ⟨ad8, n8, c8, rfl⟩ := own_slice o8
 refine stp (r_assign_slice rfl ?_)
 refine WL_nil ?_
 refine W_seq ?_
 refine W_seq (W_region rfl ?_)
 refine stp (r_assign_int rfl ?_)
 refine WL_nil ?_
 refine W_block ?_
 refine W_loop (fun m_ e_ w_ => ∃ (i : Nat) (ad3 : Option Addr) (n3 : Nat) (c3 : Nat), m_ = A.length - i ∧ Fr [(1, u), (4, .pointer (some ⟨b1, 0, none⟩)), (5, .int .i64 0), (6, .pointer (some ⟨b10, 0, none⟩)), (7, .slice ad3 n3 c3), (8, .int .i64 (i : Int))] e_ ∧ (i ≤ A.length) ∧ (w_.heap[b1]? = some (.cells #[.int .u64 0, .slice none 0 0, .int .u32 0] 46 (0, 0))) ∧ (w_.ownsRow w.heap.size 3 1 (.slice adz A.length cz) A.length ((sizesP A).map (.int .i64))) ∧ (w_.heap[b10]? = some (.cells #[.int .u64 ses, .slice adz A.length cz, .int .u32 0] 46 (0, 0))) ∧ (w_.ownsRow w.heap.size 5 1 (.slice ad3 n3 c3) (((List.range 8).map (byt1 ses)) ++ ((sizesP A).take i).flatMap fun n => ((List.range 2).map (byt1 n))).length ((((List.range 8).map (byt1 ses)) ++ ((sizesP A).take i).flatMap fun n => ((List.range 2).map (byt1 n))).map (.int .u8))) ∧ Grow w w_) _ ⟨0, ad8, n8, c8, rfl, fr_of ⟨rfl, rfl, rfl, rfl, rfl, rfl, trivial⟩, by omega, hc4, oZ, hc16, (by simpa using o8), G⟩ ?_
 clear hc4 oZ hc16 o8
 clear G
 rintro m_ e_ w22 ⟨i, ad3, n3, c3, rfl, ⟨e23, rfl⟩, hi0, hc4, oZ, hc16, own, G⟩
 obtain ⟨_, _, hs9, -, -, RZ⟩ := own_row oZ (by omega)
 cases hs9
 refine W_seq ?_
 refine W_seq (W_region rfl ?_)
 refine stp (r_move_int rfl ?_)
 refine stp (r_fieldAddr rfl ?_)
 refine stp (r_load (v := .slice adz A.length cz) rfl hc16 rfl ?_)
 refine stp (r_len rfl rfl rfl ?_)
 refine stp (r_lss rfl rfl ?_)
 refine WL_nil ?_
 refine W_cond2 (b := (decide ((i : Int) < (A.length : Int)))) rfl (fun hlt => ?_) (fun hlt => ?_)
 ·-- true
  replace hlt := of_decide_eq_true hlt
  have hi : i < A.length := by omega
  have hsl := sizesP_len A
  have hzi := sizesP_at A i
  have hli := hl i
  have hle := pre_len ses (sizesP A) i
  refine W_skip ?_
  refine W_seq ?_
  refine W_block ?_
  refine W_seq (W_region rfl ?_)
  refine stp (r_fieldAddr rfl ?_)
  refine stp (r_load (v := .slice adz A.length cz) rfl hc16 rfl ?_)
  refine stp (r_move_int rfl ?_)
  refine stp (r_indexN RZ rfl rfl ?_ ?_); omega
  refine stp (r_loadR (v := .int .i64 ((sizesP A).getD i 0)) (m := 0) RZ rfl (map_get1 0 (by rw [sizesP_len]; omega)) ?_)
  refine stp (r_conv rfl ?_ ?_); constructor <;> omega
  refine WL_some (og rfl ?_)
  refine r_call rfl (rput_calls _ (x := (sizesP A).getD i 0) (by omega) (by omega) (k := 2) (by decide)) ?_
  rintro v8 w24 ⟨o2, g_⟩
  replace hc4 := g_.heap hc4
  replace oZ := own_grow oZ g_
  replace hc16 := g_.heap hc16
  replace own := own_grow own g_
  replace RZ := RZ.grow g_
  replace G := G.tr g_
  clear g_
  have R2 := own_row o2 (by decide)
  clear o2
  refine stp (r_assign (v := v8) rfl ?_)
  refine WL_nil ?_
  refine W_region rfl ?_
  refine stp (r_move_slice rfl ?_)
  refine stp (r_move (v := v8) rfl ?_)
  refine stp (r_append rfl rfl rfl rfl own R2 (fun q_ hq_ => by obtain ⟨z_, -, rfl⟩ := List.mem_map.1 hq_; rfl) (by simp only [maxLen]; omega) (by omega) G.size ?_)
  intro v25 w26 own6 gr6
  replace G := G.grown gr6 (own_ge own)
  replace hc4 := gr_heap gr6 hc4 (own_ne own hc4 (by decide))
  replace oZ := own_gr oZ own (by decide) gr6
  replace hc16 := gr_heap gr6 hc16 (own_ne own hc16 (by decide))
  clear own gr6
  obtain ⟨ad4, n4, c4, rfl⟩ := own_slice own6
  refine stp (r_assign_slice rfl ?_)
  refine WL_nil ?_
  refine W_region rfl ?_
  refine stp (r_move_int rfl ?_)
  refine stp (r_add rfl rfl ?_ ?_); constructor <;> omega
  refine stp (r_assign_int rfl ?_)
  refine WL_nil ?_
  refine ⟨_, ?_, i + 1, ad4, n4, c4, rfl, fr_of ⟨rfl, rfl, rfl, rfl, rfl, congrArg (Value.int .i64) (by omega), trivial⟩, by omega, hc4, oZ, hc16, (by rw [pre_step (by rw [sizesP_len]; exact hi), List.length_append, List.map_append]; simpa using own6), G⟩
  omega
 ·-- false
  replace hlt := of_decide_eq_false hlt
  clear RZ
  have hi9 : i = (sizesP A).length := by rw [sizesP_len]; omega
  rw [hi9, List.take_length] at own
  have hle := pre_len ses (sizesP A) (sizesP A).length
  rw [List.take_length] at hle
  have hsl := sizesP_len A
  have hbl := bytesA_len A
  refine W_exit ?_
  refine W_seq (W_region rfl ?_)
  refine stp (r_move (v := u) rfl ?_)
  refine WL_some (og rfl ?_)
  refine r_call rfl (rbytes_calls _ (hA0.grow G) hx (by omega) (fun i => by have := hl i; omega)) ?_
  rintro vb w27 ⟨oB, g_⟩
  replace hc4 := g_.heap hc4
  replace oZ := own_grow oZ g_
  replace hc16 := g_.heap hc16
  replace own := own_grow own g_
  replace G := G.tr g_
  clear g_
  have RB := own_row oB (by omega)
  clear oB
  refine stp (r_assign (v := vb) rfl ?_)
  refine WL_nil ?_
  refine W_seq (W_region rfl ?_)
  refine stp (r_move_slice rfl ?_)
  refine stp (r_move (v := vb) rfl ?_)
  refine stp (r_append rfl rfl rfl rfl own RB (fun q_ hq_ => by obtain ⟨z_, -, rfl⟩ := List.mem_map.1 hq_; rfl) (by simp only [maxLen]; omega) (by omega) G.size ?_)
  intro v28 w29 own6 gr6
  replace G := G.grown gr6 (own_ge own)
  replace hc4 := gr_heap gr6 hc4 (own_ne own hc4 (by decide))
  replace oZ := own_gr oZ own (by decide) gr6
  replace hc16 := gr_heap gr6 hc16 (own_ne own hc16 (by decide))
  clear own gr6
  obtain ⟨ad4, n4, c4, rfl⟩ := own_slice own6
  refine stp (r_assign_slice rfl ?_)
  refine WL_nil ?_
  refine W_seq (W_region rfl ?_)
  refine stp (r_move_slice rfl ?_)
  refine WL_some (og rfl ?_)
  have own7 := own6
  rw [← List.map_append, ← List.length_append] at own7
  obtain ⟨_, _, hs9, -, -, RS⟩ := own_row own7 (by rw [List.length_append]; omega)
  have hnl := own_len own7
  subst hnl
  cases hs9
  refine r_gives (v := .int .u32 (sumA ses A)) rfl (crcP_calls _ RS (sumA_isB ses A)) ?_
  intro w30 g31
  replace hc4 := g31.heap hc4
  replace oZ := own_grow oZ g31
  replace hc16 := g31.heap hc16
  replace own6 := own_grow own6 g31
  replace G := G.tr g31
  clear g31
  refine stp (r_fieldAddr rfl ?_)
  refine stn (r_store1 (v := .int .u32 (sumA ses A)) rfl rfl (by rfl) hc16 (by rfl) (by rfl) ?_)
  intro w32 hc33 u34
  replace hc4 := u34.heap hc4 ne20
  replace oZ := own_upd oZ u34 (own_ne oZ hc16 (by decide))
  replace own6 := own_upd own6 u34 (own_ne own6 hc16 (by decide))
  replace G := G.upd u34 hge19
  clear u34 hc16
  refine WL_nil ?_
  refine W_seq (W_region rfl ?_)
  refine stp (r_loadAll rfl hc33 (by rfl) ?_)
  refine stn (r_storeAll rfl rfl hc4 (by rfl) (by rfl) (by rfl) ?_)
  intro w35 hc36 u37
  replace oZ := own_upd oZ u37 (own_ne oZ hc4 (by decide))
  replace own6 := own_upd own6 u37 (own_ne own6 hc4 (by decide))
  replace hc33 := u37.heap hc33 ne20.symm
  replace G := G.upd u37 hge6
  clear u37 hc4
  refine stp (r_assign_int rfl ?_)
  refine WL_nil ?_
  refine W_ret ?_
  refine ret2 (res_all rfl hc36 (by rfl)) (res_tmp (v := .int .i64 0) rfl) ⟨adz, cz, rfl, hcz, oZ, G⟩

set_option maxRecDepth 100000 in
theorem rchunk_calls (w : World) {u : Value} {A : List (List Int)} (hA : ArenaR w u A) (hr : rightB A = true) (hx : ∀ q ∈ A, ∀ x ∈ q, inR .u64 x) {i : Nat} (hi : i ≤ 1000000) : Calls Try.prog 19 #[u, .int .i64 (i : Int)] w (Ret fun v w' => ∃ ad c, v = .slice ad (chunkA A i).length c ∧ (chunkA A i).length ≤ c ∧ c ≤ maxLen ∧ RowAt w' 1 ad (chunkA A i).length ((chunkA A i).map (.int .u8)) ∧ (0 < (chunkA A i).length → ∃ g q cs, ad = some ⟨g, q, none⟩ ∧ w.heap.size ≤ g ∧ w'.heap[g]? = some (.cells cs 5 (0, 0)) ∧ q + (chunkA A i).length ≤ cs.size) ∧ Grow w w') := by
 have hA0 := hA
 obtain ⟨r1, r2, r3, r4⟩ := of_decide_eq_true hr
 have hl : ∀ i, len2 A i ≤ 100000 := fun i => by have := seg_le_total A i; omega
 have hbl := bytesA_len A
 have hcl := chunkA_len A i
 have G := Grow.rfl' w
 refine calls_ret Try.func19 Try.ntmps19 Try.results19 rfl rfl ?_
 refine W_seq (W_region rfl ?_)
 refine stp (r_assign_slice rfl ?_)
 refine WL_nil ?_
 refine W_seq (W_region rfl ?_)
 refine stp (r_move (v := u) rfl ?_)
 refine WL_some (og rfl ?_)
 have hG4 := G.size
 refine r_call rfl (rbytes_calls _ (hA0.grow G) hx (by omega) hl) ?_
 rintro vb w1 ⟨oB_, g_⟩
 have oB := own_base oB_ hG4
 clear oB_
 replace G := G.tr g_
 clear g_
 have hs0 := seg_le_total A 0
 obtain ⟨g5, cb, cur5, rfl, hg5b, hg5, hcb, hcb2, hc53, hc54⟩ := own_pos oB (by omega)
 refine stp (r_assign_slice rfl ?_)
 refine WL_nil ?_
 refine W_seq ?_
 refine W_seq (W_region rfl ?_)
 refine stp (r_move (v := u) rfl ?_)
 refine stp (r_gives (v := .bool true) rfl (gives_eq (rrightO_calls _ (hA0.grow G) (by omega)) (y := .bool true) (by rw [hr])) ?_)
 intro w2 g3
 replace oB := own_grow oB g3
 replace hg5 := g3.heap hg5
 replace G := G.tr g3
 clear g3
 refine stp (r_not_f rfl rfl ?_)
 refine stp (r_move (v := .bool false) rfl ?_)
 refine stp (r_move_int rfl ?_)
 refine stp (r_lss rfl rfl ?_)
 refine stp (r_pick_f (v := .bool (decide ((i : Int) < 0))) rfl rfl rfl ?_)
 refine stp (r_move_bool rfl ?_)
 refine WL_some (og_if (s := .bool (decide ((i : Int) < 0))) (b := false) (v := .int .i64 (i : Int)) rfl (wgb_f _) (fun hc4 => ?_) ?_)
 ·
  have hc4_ := hc4
  try simp only [sb] at hc4_
  refine r_move_int rfl ?_
  exact ⟨rfl, rfl⟩
 refine WL_some (og_if (s := .bool (decide ((i : Int) < 0))) (b := false) (v := .slice (some ⟨g5, 0, none⟩) ((bytesA A).length) cb) rfl (wgb_f _) (fun hc5 => ?_) ?_)
 ·
  have hc5_ := hc5
  try simp only [sb] at hc5_
  refine r_move_slice rfl ?_
  exact ⟨rfl, rfl⟩
 refine WL_some (og_if (s := .bool (decide ((i : Int) < 0))) (b := false) (v := .int .i64 ((bytesA A).length : Int)) rfl (wgb_f _) (fun hc6 => ?_) ?_)
 ·
  have hc6_ := hc6
  try simp only [sb] at hc6_
  refine r_len rfl rfl (gvt hc6) ?_
  exact ⟨rfl, rfl⟩
 refine WL_some (og_if (s := .bool (decide ((i : Int) < 0))) (b := false) (v := .int .i64 (((bytesA A).length : Int) + 63)) rfl (wgb_f _) (fun hc7 => ?_) ?_)
 ·
  have hc7_ := hc7
  try simp only [sb] at hc7_
  refine r_add (gvt hc7) rfl ?_ ?_; constructor <;> omega
  exact ⟨rfl, rfl⟩
 refine WL_some (og_if (s := .bool (decide ((i : Int) < 0))) (b := false) (v := .int .i64 ((((bytesA A).length : Int) + 63) / 64)) rfl (wgb_f _) (fun hc8 => ?_) ?_)
 ·
  have hc8_ := hc8
  try simp only [sb] at hc8_
  refine r_quo (gvt hc8) rfl ?_ ?_ ?_ ?_; omega; omega; (constructor <;> omega)
  exact ⟨rfl, rfl⟩
 refine WL_some (og_if (s := .bool (decide ((i : Int) < 0))) (b := false) (v := .bool (decide ((i : Int) ≥ ((((bytesA A).length : Int) + 63) / 64)))) rfl (wgb_f _) (fun hc9 => ?_) ?_)
 ·
  have hc9_ := hc9
  try simp only [sb] at hc9_
  refine r_geq (gvt hc9) (gvt hc9) ?_
  exact ⟨rfl, rfl⟩
 refine stp (r_or2 rfl rfl rfl ?_)
 refine WL_nil ?_
 refine W_cond2 (b := ((decide ((i : Int) < 0)) || (decide ((i : Int) ≥ ((((bytesA A).length : Int) + 63) / 64))))) rfl (fun h1 => ?_) (fun h1 => ?_)
 ·-- true
  simp only [sb] at h1
  have h0 : chunkA A i = [] := List.eq_nil_of_length_eq_zero (by omega)
  refine W_seq (W_region rfl ?_)
  refine stp (r_assign_slice rfl ?_)
  refine WL_nil ?_
  refine W_ret ?_
  rw [h0]
  refine ret1 (res_tmp (v := .slice none 0 0) rfl) ⟨none, 0, rfl, Nat.le_refl _, Nat.zero_le _, RowAt.empty _ _ _, fun h_ => by simp at h_, G⟩
 ·-- false
  simp only [sb] at h1
  refine W_skip ?_
  refine W_seq (W_region rfl ?_)
  refine stp (r_move_slice rfl ?_)
  refine stp (r_move_int rfl ?_)
  refine stp (r_mul rfl rfl ?_ ?_); constructor <;> omega
  refine stp (r_move_int rfl ?_)
  refine stp (r_mul rfl rfl ?_ ?_); constructor <;> omega
  refine stp (r_add rfl rfl ?_ ?_); constructor <;> omega
  refine stp (r_move_slice rfl ?_)
  refine stp (r_len rfl rfl rfl ?_)
  refine WL_some (og rfl ?_)
  refine r_min rfl rfl rfl ?_
  rw [show (if ((bytesA A).length : Int) < 64 * (i : Int) + 64 then ((bytesA A).length : Int) else 64 * (i : Int) + 64) = ((64 * i + (chunkA A i).length : Nat) : Int) from by split <;> omega]
  refine WL_some (og rfl ?_)
  refine r_sliceLH (l := 64 * (i : Int)) rfl rfl rfl (by omega) (by omega) (by omega) ?_
  rw [show (64 * (i : Int)).toNat = 64 * i from by omega, Int.toNat_natCast, show 64 * i + (chunkA A i).length - 64 * i = (chunkA A i).length from by omega]
  refine stp (r_assign_slice rfl ?_)
  refine WL_nil ?_
  refine W_ret ?_
  obtain ⟨_, _, hs9, hcc, hcm, RB⟩ := own_row oB (by omega)
  cases hs9
  have RC := RB.sliceLH (l := 64 * i) (m := (chunkA A i).length) hcb (by omega) (by decide)
  have he9 : (((bytesA A).map (Value.int .u8)).drop (64 * i * 1)).take ((chunkA A i).length * 1) = (chunkA A i).map (.int .u8) := by rw [Nat.mul_one, Nat.mul_one, ← List.map_drop, ← List.map_take, chunkA_eq]
  rw [he9] at RC
  refine ret1 (res_tmp (v := .slice (if cb = 64 * i then some ⟨g5, 0, none⟩ else (some ⟨g5, 0, none⟩ : Option Addr).map (·.add (64 * i * 1))) ((chunkA A i).length) (cb - 64 * i)) rfl) ⟨_, _, rfl, by omega, by omega, RC, fun hp_ => ⟨g5, 64 * i, cur5, by rw [if_neg (by omega)]; show some (Addr.add _ _) = _; rw [add_lit, Nat.mul_one, Nat.zero_add], hg5b, hg5, by omega⟩, G⟩

set_option maxRecDepth 100000 in
theorem bmake_calls (w : World) {n : Nat} (hn : n ≤ 65536) : Calls Try.prog 49 #[.int .i64 (n : Int)] w (Ret fun v w' => ∃ b, v = .slice (some ⟨b, 0, none⟩) ((n + 7) / 8) ((n + 7) / 8) ∧ w.heap.size ≤ b ∧ w'.ownsRow w.heap.size 5 1 (.slice (some ⟨b, 0, none⟩) ((n + 7) / 8) ((n + 7) / 8)) ((n + 7) / 8) ((List.replicate ((n + 7) / 8) (0 : Int)).map (.int .u8)) ∧ Grow w w') := by
 have G := Grow.rfl' w
 refine calls_ret Try.func49 Try.ntmps49 Try.results49 rfl rfl ?_
 refine W_seq (W_region rfl ?_)
 refine stp (r_assign_slice rfl ?_)
 refine WL_nil ?_
 refine W_seq (W_region rfl ?_)
 refine stp (r_move_int rfl ?_)
 refine WL_some (og rfl ?_)
 refine r_min rfl rfl rfl ?_
 rw [if_neg (by omega)]
 refine WL_some (og rfl ?_)
 refine r_max rfl rfl rfl ?_
 rw [show (if (n : Int) > 0 then (n : Int) else 0) = (n : Int) from by split <;> omega]
 refine stp (r_gives (v := .int .i64 (((n + 7) / 8 : Nat) : Int)) rfl (gives_eq (ceil_calls _ _ (by omega) (by omega)) (y := .int .i64 (((n + 7) / 8 : Nat) : Int)) (by congr 1 <;> omega)) ?_)
 intro w1 g2
 replace G := G.tr g2
 clear g2
 refine stp (r_make (n := ((n + 7) / 8)) (base := w.heap.size) rfl rfl (by first | omega | (simp only [maxLen]; omega)) (by first | omega | (simp only [maxLen]; omega)) G.size ?_)
 intro bm6 w3 hb4 own7 g5
 rw [show (madeCells (Value.cells (.int .u8 0 : Value)) (((n + 7) / 8) * 1)).toList = List.replicate ((n + 7) / 8) (.int .u8 0) from by rw [Nat.mul_one]; exact toList_madeCells_one _ _] at own7
 replace G := G.tr g5
 clear g5
 refine stp (r_assign_slice rfl ?_)
 refine WL_nil ?_
 refine W_ret ?_
 refine ret1 (res_tmp (v := .slice (some ⟨bm6, 0, none⟩) ((n + 7) / 8) ((n + 7) / 8)) rfl) ⟨bm6, rfl, (own_ge own7 _ rfl), by rw [List.map_replicate]; exact own7, G⟩

set_option maxRecDepth 100000 in
theorem bset_calls (w : World) {b : Addr} {c : Nat} {xs : List Int} (hc : xs.length ≤ c) (hc2 : c ≤ maxLen) (R : RowAt w 1 (some b) xs.length (xs.map (.int .u8))) (hx : isB xs) {i : Nat} (hi : i / 8 < xs.length) (hl : xs.length ≤ 100000) : Calls Try.prog 43 #[.slice (some b) xs.length c, .int .i64 (i : Int)] w (Ret fun v w' => ∃ h c', v = .slice (some ⟨h, 0, none⟩) xs.length c' ∧ w.heap.size ≤ h ∧ w'.ownsRow w.heap.size 5 1 (.slice (some ⟨h, 0, none⟩) xs.length c') xs.length ((setQ xs i).map (.int .u8)) ∧ Grow w w') := by
 have G := Grow.rfl' w
 refine calls_ret Try.func43 Try.ntmps43 Try.results43 rfl rfl ?_
 refine W_seq (W_region rfl ?_)
 refine stp (r_assign_slice rfl ?_)
 refine WL_nil ?_
 refine W_seq (W_region rfl ?_)
 refine stp (r_move_slice rfl ?_)
 refine WL_some (og rfl ?_)
 refine r_call rfl (cloneB_calls _ hc hc2 (R.grow G) (fun q_ hq_ => by obtain ⟨z_, -, rfl⟩ := List.mem_map.1 hq_; rfl) (by omega)) ?_
 rintro vb w1 ⟨oB_, g_⟩
 have oB := own_base oB_ G.size
 clear oB_
 replace G := G.tr g_
 clear g_
 obtain ⟨g5, c5, cur5, rfl, hg5b, hg5, hc51, hc52, hc53, hc54⟩ := own_pos oB (by omega)
 obtain ⟨_, _, hs9, -, -, R5⟩ := own_row oB (by omega)
 cases hs9
 refine stp (r_assign_slice rfl ?_)
 refine WL_nil ?_
 refine W_seq ?_
 refine W_seq (W_region rfl ?_)
 refine stp (r_move_int rfl ?_)
 refine stp (r_geq rfl rfl ?_)
 refine stp (r_move_bool rfl ?_)
 refine WL_some (og_if (s := .bool (decide ((i : Int) ≥ 0))) (b := true) (v := .int .i64 (i : Int)) rfl (wgb_t _) (fun hc2 => ?_) ?_)
 ·
  have hc2_ := of_decide_eq_true hc2
  refine r_move_int rfl ?_
  exact ⟨rfl, rfl⟩
 refine WL_some (og_if (s := .bool (decide ((i : Int) ≥ 0))) (b := true) (v := .int .i64 ((i / 8 : Nat) : Int)) rfl (wgb_t _) (fun hc3 => ?_) ?_)
 ·
  have hc3_ := of_decide_eq_true hc3
  refine r_quo (gvt hc3) rfl ?_ ?_ ?_ ?_; omega; omega; (constructor <;> omega)
  rw [show (i : Int) / 8 = ((i / 8 : Nat) : Int) from by omega]
  exact ⟨rfl, rfl⟩
 refine WL_some (og_if (s := .bool (decide ((i : Int) ≥ 0))) (b := true) (v := .slice (some ⟨g5, 0, none⟩) xs.length c5) rfl (wgb_t _) (fun hc4 => ?_) ?_)
 ·
  have hc4_ := of_decide_eq_true hc4
  refine r_move_slice rfl ?_
  exact ⟨rfl, rfl⟩
 refine WL_some (og_if (s := .bool (decide ((i : Int) ≥ 0))) (b := true) (v := .int .i64 (xs.length : Int)) rfl (wgb_t _) (fun hc5 => ?_) ?_)
 ·
  have hc5_ := of_decide_eq_true hc5
  refine r_len rfl rfl (gvt hc5) ?_
  exact ⟨rfl, rfl⟩
 refine WL_some (og_if (s := .bool (decide ((i : Int) ≥ 0))) (b := true) (v := .bool (decide (((i / 8 : Nat) : Int) < (xs.length : Int)))) rfl (wgb_t _) (fun hc6 => ?_) ?_)
 ·
  have hc6_ := of_decide_eq_true hc6
  refine r_lss (gvt hc6) (gvt hc6) ?_
  exact ⟨rfl, rfl⟩
 refine stp (r_and2 rfl rfl rfl ?_)
 refine WL_nil ?_
 refine W_true (show _ = Value.bool true from congrArg Value.bool (by rw [decide_eq_true (show (i : Int) ≥ 0 by omega), decide_eq_true (show ((i / 8 : Nat) : Int) < (xs.length : Int) by omega)]; rfl)) ?_
 refine W_any 9 [[], [], [0], [2, 1, 0], [3, 2, 1, 0], [], [0], [1, 0], [7, 6, 5, 4, 3, 2, 1, 0]] mixed (by kernel_rfl) (by kernel_rfl) (by kernel_rfl) ?_
 intro w7 g8
 replace oB := own_grow oB g8
 replace hg5 := g8.heap hg5
 replace R5 := R5.grow g8
 replace G := G.tr g8
 clear g8
 apply AO_ex
 ·intro w_ g_; refine og rfl ?_; refine r_move_slice rfl ?_; exact ⟨Grow.rfl' _, rfl⟩
 apply AO_ex
 ·intro w_ g_; refine og rfl ?_; refine r_move_int rfl ?_; exact ⟨Grow.rfl' _, rfl⟩
 apply AO_ex
 ·intro w_ g_; refine og rfl ?_; refine r_quo rfl rfl ?_ ?_ ?_ ?_; omega; omega; (constructor <;> omega); rw [show (i : Int) / 8 = ((i / 8 : Nat) : Int) from by omega]; exact ⟨Grow.rfl' _, rfl⟩
 apply AO_ex
 ·intro w_ g_; refine og rfl ?_; refine r_indexN (R5.grow g_) rfl rfl ?_ ?_; omega; exact ⟨Grow.rfl' _, rfl⟩
 apply AO_ex
 ·intro w_ g_; refine og rfl ?_; refine r_loadR (v := .int .u8 (xs.getD (i / 8) 0)) (m := 0) (R5.grow g_) rfl (map_get1 0 (by omega)) ?_; exact ⟨Grow.rfl' _, rfl⟩
 apply AO_ex
 ·intro w_ g_; refine og rfl ?_; refine r_move_int rfl ?_; exact ⟨Grow.rfl' _, rfl⟩
 apply AO_ex
 ·intro w_ g_; refine og rfl ?_; refine r_rem rfl rfl ?_ ?_ ?_; omega; omega; rw [show (i : Int) % 8 = ((i % 8 : Nat) : Int) from by omega]; exact ⟨Grow.rfl' _, rfl⟩
 apply AO_ex
 ·intro w_ g_; refine og rfl ?_; refine r_shl rfl rfl ?_ ?_; omega; rw [show min ((i % 8 : Nat) : Int).toNat (IntKind.bits .u8) = i % 8 from by simp only [IntKind.bits]; omega]; exact ⟨Grow.rfl' _, rfl⟩
 apply AO_ex
 ·intro w_ g_; refine og rfl ?_; refine r_or rfl rfl ?_; exact ⟨Grow.rfl' _, rfl⟩
 refine AO_nil ?_
 intro w9 g10
 replace oB := own_grow oB g10
 replace hg5 := g10.heap hg5
 replace R5 := R5.grow g10
 replace G := G.tr g10
 clear g10
 refine WL_some (og rfl ?_)
 refine r_indexAddr (b := g5) (o := 0) rfl rfl (by omega) (by omega) ?_
 rw [Int.toNat_natCast, Nat.zero_add, Nat.mul_one]
 refine stn (r_store1 (v := .int .u8 (orB (xs.getD (i / 8) 0) (i % 8))) rfl rfl rfl hg5 (Nat.ble_eq_true_of_le (by omega)) rfl ?_)
 intro w7 hs6 u7
 have o7 := own_setcell (i := i / 8) (x := .int .u8 (orB (xs.getD (i / 8) 0) (i % 8))) oB hg5 hs6 (by simp)
 replace G := G.upd u7 hg5b
 rw [← List.map_set] at o7
 refine WL_nil ?_
 refine W_seq (W_region rfl ?_)
 refine stp (r_move_slice rfl ?_)
 refine stp (r_assign_slice rfl ?_)
 refine WL_nil ?_
 refine W_ret ?_
 refine ret1 (res_tmp (v := .slice (some ⟨g5, 0, none⟩) xs.length c5) rfl) ⟨g5, c5, rfl, hg5b, o7, G⟩
end Go.Proofs.Ytifhcfhdajkhlaa.K

namespace Go.Proofs.Ytifhcfhdajkhlaa.K
open Go Go.RowKit
/-- A part: its box, the blocks of its words and of what is known. -/
structure PartR (TP TI TW TB : TypeId) (w : World) (base b g h : Nat) (ses sum : Int) (sz wl kb : List Int) : Prop where
  fit : fitsL sz = true
  lw : wl.length = wordsM sz
  lk : kb.length = (chunksM sz + 7) / 8
  ub : isB kb
  uw : ∀ x ∈ wl, inR .u64 x
  hb : base ≤ b
  mem : ∃ ads cs cw ck, w.heap[b]? = some (.cells #[.int .u64 ses, .slice ads sz.length cs, .int .u32 sum, .slice ads sz.length cs, .slice (some ⟨g, 0, none⟩) wl.length cw, .slice (some ⟨h, 0, none⟩) kb.length ck] TP (0, 0)) ∧
    w.ownsRow base TI 1 (.slice ads sz.length cs) sz.length (sz.map (.int .i64)) ∧ w.ownsRow base TW 1 (.slice (some ⟨g, 0, none⟩) wl.length cw) wl.length (wordsV wl) ∧ w.ownsRow base TB 1 (.slice (some ⟨h, 0, none⟩) kb.length ck) kb.length (kb.map (.int .u8))
section
variable {TP TI TW TB : TypeId} {w w' : World} {base b g h : Nat} {ses sum : Int} {sz wl kb : List Int}
theorem PartR.keep {F : List Nat} (H : PartR TP TI TW TB w base b g h ses sum sz wl kb) (k : Kp F w w') (hF : ∀ x ∈ F, x ≠ b ∧ x ≠ g ∧ x ≠ h ∧ ∃ cs T fr, w.heap[x]? = some (.cells cs T fr) ∧ TI ≠ T) : PartR TP TI TW TB w' base b g h ses sum sz wl kb := by
  obtain ⟨h1, h2, h3, h4, h5, h6, ads, cs, cw, ck, hB, oS, oW, oK⟩ := H
  refine ⟨h1, h2, h3, h4, h5, h6, ads, cs, cw, ck, k.heap hB (fun hm => (hF b hm).1 rfl), own_keepB oS k (fun q hq hm => ?_), own_keepB oW k (fun q hq hm => ?_), own_keepB oK k (fun q hq hm => ?_)⟩
  · obtain ⟨-, -, -, cs, T, fr, hc, hT⟩ := hF q hm
    exact own_ne oS hc hT hq
  · simp only [Value.ownBlock, Option.some.injEq] at hq; exact (hF q hm).2.1 hq.symm
  · simp only [Value.ownBlock, Option.some.injEq] at hq; exact (hF q hm).2.2.1 hq.symm
theorem PartR.grow (H : PartR TP TI TW TB w base b g h ses sum sz wl kb) (k : Grow w w') : PartR TP TI TW TB w' base b g h ses sum sz wl kb := H.keep (F := []) (Kp.of_grow k) (fun x hx => by simp at hx)
theorem PartR.words (H : PartR TP TI TW TB w base b g h ses sum sz wl kb) : ∃ cur, w.heap[g]? = some (.cells cur TW (0, 0)) := by
  obtain ⟨h1, h2, h3, h4, h5, h6, ads, cs, cw, ck, hB, oS, oW, oK⟩ := H
  obtain ⟨g5, c5, cur5, he, -, hg, -⟩ := own_pos oW (by have := (wordsM_fit h1).2; omega)
  simp only [Value.slice.injEq, Option.some.injEq, Addr.mk.injEq, and_true, true_and] at he
  obtain ⟨rfl, -⟩ := he
  exact ⟨_, hg⟩
theorem PartR.bases (H : PartR TP TI TW TB w base b g h ses sum sz wl kb) : base ≤ b ∧ base ≤ g ∧ base ≤ h := by
  obtain ⟨h1, h2, h3, h4, h5, h6, ads, cs, cw, ck, hB, oS, oW, oK⟩ := H
  exact ⟨h6, own_ge oW _ rfl, own_ge oK _ rfl⟩
end
theorem fits_rng {sz : List Int} (h : fitsL sz = true) : ∀ x ∈ sz, inR .i64 x := fun x hx => by
  obtain ⟨i, hi, rfl⟩ := List.getElem_of_mem hx
  have := fitsL_size h i
  rw [List.getD_eq_getElem?_getD, List.getElem?_eq_getElem hi] at this
  simp only [Option.getD_some] at this
  simp only [inR]; omega
/-! ### what a part answers -/
def ovl (wl : List Int) (a : Nat) (l : List Int) : List Int := wl.take a ++ l ++ wl.drop (a + l.length)
theorem ovl_len {wl l : List Int} {a : Nat} (h : a + l.length ≤ wl.length) : (ovl wl a l).length = wl.length := by
  unfold ovl
  simp only [List.length_append, List.length_take, List.length_drop]
  omega
theorem ovl_get {wl l : List Int} {a : Nat} (h : a + l.length ≤ wl.length) (j : Nat) : (ovl wl a l).getD j 0 = if a ≤ j ∧ j < a + l.length then l.getD (j - a) 0 else wl.getD j 0 := by
  unfold ovl
  simp only [List.getD_eq_getElem?_getD]
  by_cases h1 : j < a
  · rw [if_neg (by omega), List.append_assoc, List.getElem?_append_left (by rw [List.length_take]; omega), List.getElem?_take_of_lt h1]
  · rw [List.append_assoc, List.getElem?_append_right (by rw [List.length_take]; omega), List.length_take, show min a wl.length = a from by omega]
    by_cases h2 : j < a + l.length
    · rw [if_pos (by omega), List.getElem?_append_left (by omega)]
    · rw [if_neg (by omega), List.getElem?_append_right (by omega), List.getElem?_drop]
      congr 2; omega
theorem ovl_nil (wl : List Int) (a : Nat) : ovl wl a [] = wl := by unfold ovl; simp
theorem ovl_snoc {wl l : List Int} {a : Nat} {x : Int} (h : a + l.length < wl.length) : ovl wl a (l ++ [x]) = (ovl wl a l).set (a + l.length) x := by
  unfold ovl
  have hl : (wl.take a ++ l).length = a + l.length := by rw [List.length_append, List.length_take]; omega
  rw [List.set_append_right _ _ (by omega), hl, Nat.sub_self, List.length_append, List.length_singleton]
  have hd : wl.drop (a + l.length) = wl[a + l.length] :: wl.drop (a + l.length + 1) := List.drop_eq_getElem_cons h
  rw [hd, List.set_cons_zero, ← List.append_assoc, Nat.add_assoc]
  simp
theorem ovl_mem {wl l : List Int} {a : Nat} {Q : Int → Prop} (h1 : ∀ x ∈ wl, Q x) (h2 : ∀ x ∈ l, Q x) : ∀ x ∈ ovl wl a l, Q x := by
  intro x hx
  unfold ovl at hx
  rcases List.mem_append.1 hx with hx | hx
  · rcases List.mem_append.1 hx with hx | hx
    · exact h1 x (List.mem_of_mem_take hx)
    · exact h2 x hx
  · exact h1 x (List.mem_of_mem_drop hx)
def putOk (sz : List Int) (i : Int) (n : Nat) : Bool := decide (0 ≤ i ∧ i < (chunksM sz : Int) ∧ (n : Int) = sizeM sz i)
def putDo (sz kb : List Int) (i : Int) (n : Nat) : Bool := putOk sz i n && !bitQ kb i.toNat
def putW (sz wl kb : List Int) (i : Int) (xs : List Int) : List Int := if putDo sz kb i xs.length then ovl wl (8 * i.toNat) (chunksP xs) else wl
def putK (sz kb : List Int) (i : Int) (n : Nat) : List Int := if putDo sz kb i n then setQ kb i.toNat else kb
theorem chunksP_len (xs : List Int) : (chunksP xs).length = (xs.length + 7) / 8 := by simp [chunksP]
theorem put_fits {sz : List Int} {i : Nat} {n : Nat} (h : putOk sz i n = true) : i < chunksM sz ∧ (n : Int) = sizeM sz i ∧ 8 * i + (n + 7) / 8 ≤ wordsM sz ∧ 1 ≤ (n + 7) / 8 ∧ n ≤ 64 := by
  obtain ⟨h1, h2, h3⟩ := of_decide_eq_true h
  have hle := wordsM_le sz
  have hc : chunksM sz = (wordsM sz + 7) / 8 := rfl
  have hs : sizeM sz i = min 64 (8 * (wordsM sz : Int) - 64 * i) := by unfold sizeM; rw [if_neg (by omega)]
  rw [hs] at h3
  omega
theorem putDo_of {sz kb : List Int} {i : Int} {n : Nat} (h1 : putOk sz i n = true) (h2 : bitQ kb i.toNat = false) : putDo sz kb i n = true := by unfold putDo; rw [h1, h2]; rfl
theorem putDo_no {sz kb : List Int} {i : Int} {n : Nat} (h : putOk sz i n = false ∨ bitQ kb i.toNat = true) : putDo sz kb i n = false := by
  unfold putDo
  rcases h with h | h
  · rw [h]; rfl
  · rw [h]; simp
theorem chunksP_u64 {xs : List Int} (h : isB xs) : ∀ x ∈ chunksP xs, inR .u64 x := fun x hx => by
  obtain ⟨j, _, rfl⟩ := List.mem_map.1 hx
  have := getP_range ((xs.drop (8 * j)).take 8) (fun y hy => h y (List.mem_of_mem_drop (List.mem_of_mem_take hy)))
  have hl : ((xs.drop (8 * j)).take 8).length ≤ 8 := by rw [List.length_take]; omega
  have hp : ∀ n : Nat, n ≤ 8 → (256 : Int) ^ n ≤ 18446744073709551616 := fun n hn => by
    by_cases h7 : n ≤ 7
    · have := pow_le8 h7; omega
    · have e : n = 8 := by omega
      subst e; decide
  have := hp _ hl
  unfold chunkP
  simp only [inR]
  omega
theorem keepX {w w' : World} {g n : Nat} {ad : Option Addr} {xs : List Value} (R : RowAt w 1 ad n xs) (k : Kp [g] w w') (h : 0 < n → ∀ q o, ad = some ⟨q, o, none⟩ → q ≠ g) : RowAt w' 1 ad n xs :=
  ⟨R.len, R.lim, fun hn => by
    obtain ⟨b, o, cs, T, fr, rfl, hb, hx⟩ := R.at_ hn
    exact ⟨b, o, cs, T, fr, rfl, k.heap hb (by simpa using h hn b o rfl), hx⟩⟩
/-- The source of a part. -/
def srcW (sz wl kb : List Int) (seg a : Int) : Int × Int := if placeM sz seg a < 0 then (0, 20) else if bitQ kb ((placeM sz seg a).toNat / 8) then (wl.getD (placeM sz seg a).toNat 0, 0) else (0, 30)
def srcP (sz wl kb : List Int) : Src := ⟨sz, srcW sz wl kb⟩
theorem placeM_lt {sz : List Int} {seg a : Int} (h : 0 ≤ placeM sz seg a) : fitsL sz = true ∧ 0 ≤ seg ∧ seg < sz.length ∧ 0 ≤ a ∧ a < sz.getD seg.toNat 0 ∧ placeM sz seg a = a + sumL (sz.take seg.toNat) ∧ placeM sz seg a < (wordsM sz : Int) := by
  unfold placeM at h ⊢
  split at h
  · rename_i hc
    rw [if_pos hc]
    obtain ⟨h1, h2, h3, h4, h5⟩ := hc
    have hf := fitsL_of h1
    have h6 := sumL_take (sz := sz) (k := seg.toNat) (by omega)
    have h7 := (sumL_take_le hf.2.2.2.1 (seg.toNat + 1)).2
    have h8 := (wordsM_fit h1).1
    exact ⟨h1, h2, h3, h4, h5, rfl, by omega⟩
  · omega
theorem srcW_num {sz wl kb : List Int} (hu : ∀ x ∈ wl, inR .u64 x) (seg a : Int) : 0 ≤ (srcW sz wl kb seg a).1 ∧ (srcW sz wl kb seg a).1 ≤ 18446744073709551615 ∧ 0 ≤ (srcW sz wl kb seg a).2 ∧ (srcW sz wl kb seg a).2 ≤ 65535 := by
  unfold srcW
  split
  · simp
  · split
    · have : inR .u64 (wl.getD (placeM sz seg a).toNat 0) := by
        rw [List.getD_eq_getElem?_getD]
        cases hi : wl[(placeM sz seg a).toNat]? with
        | none => simp [inR]
        | some x => exact hu x (List.mem_of_getElem? hi)
      simp only [inR] at this
      exact ⟨this.1, this.2, by show (0 : Int) ≤ 0; decide, by show (0 : Int) ≤ 65535; decide⟩
    · simp
theorem part_src {P : Program} {w : World} {t : TypeId} {u : Value} {fw fs : FuncId} {sz wl kb : List Int} (hf : fitsL sz = true) (hu : ∀ x ∈ wl, inR .u64 x) (mw : MethI P t "Word" fw) (ms : MethI P t "Sizes" fs)
    (hw : ∀ w', Grow w w' → ∀ seg a : Int, Gives P fw #[u, .int .i64 seg, .int .i64 a] w' (.tuple #[.int .u64 (srcW sz wl kb seg a).1, .int .u16 (srcW sz wl kb seg a).2]))
    (hs : ∀ w', Grow w w' → Calls P fs #[u] w' (Ret fun r w2 => ∃ ad c, r = .slice ad sz.length c ∧ RowAt w2 1 ad sz.length (sz.map (.int .i64)) ∧ Grow w' w2)) : SrcOk P w (.iface t u) (srcP sz wl kb) := by
  refine ⟨⟨t, _, fw, rfl, mw, hw⟩, ⟨t, _, fs, rfl, ms, hs⟩, srcW_num hu, ?_, by have := (fitsL_of hf).2.1; show sz.length ≤ _; omega, fun i _ => by have := fitsL_size hf i; show 0 ≤ sz.getD i 0 ∧ sz.getD i 0 ≤ _; omega⟩
  intro seg a h
  show 0 ≤ seg ∧ seg < sz.length ∧ 0 ≤ a ∧ a ≤ 140737488355328
  have h2 : (srcW sz wl kb seg a).2 = 0 := h
  unfold srcW at h2
  split at h2
  · simp at h2
  · rename_i hp
    obtain ⟨-, g1, g2, g3, g4, -, -⟩ := placeM_lt (sz := sz) (seg := seg) (a := a) (by omega)
    have := fitsL_size hf seg.toNat
    omega
/-- The segments of sizes, out of words. -/
def cutW : List Int → List Int → List (List Int)
  | [], _ => []
  | n :: sz, wl => wl.take n.toNat :: cutW sz (wl.drop n.toNat)
theorem cutW_snoc : ∀ (sz : List Int) (n : Int) (wl : List Int), (∀ x ∈ sz, 0 ≤ x) → cutW (sz ++ [n]) wl = cutW sz wl ++ [(wl.drop (sumL sz).toNat).take n.toNat]
  | [], n, wl, _ => by simp [cutW, sumL]
  | m :: sz, n, wl, h => by
    have hm := h m (by simp)
    have hs := sumL_nn (sz := sz) (fun y hy => h y (by simp [hy]))
    rw [List.cons_append, cutW, cutW_snoc sz n (wl.drop m.toNat) (fun y hy => h y (by simp [hy])), cutW, List.drop_drop, sumL, List.cons_append]
    rw [show m.toNat + (sumL sz).toNat = (m + sumL sz).toNat from by omega]
theorem cutW_take {sz : List Int} {k : Nat} (h : k < sz.length) (hn : ∀ x ∈ sz, 0 ≤ x) (wl : List Int) : cutW (sz.take (k + 1)) wl = cutW (sz.take k) wl ++ [(wl.drop (sumL (sz.take k)).toNat).take (sz.getD k 0).toNat] := by
  rw [List.take_succ_eq_append_getElem h, cutW_snoc _ _ _ (fun x hx => hn x (List.mem_of_mem_take hx)), List.getD_eq_getElem?_getD, List.getElem?_eq_getElem h]
  rfl
theorem cutW_len : ∀ (sz wl : List Int), (cutW sz wl).length = sz.length
  | [], _ => rfl
  | n :: sz, wl => by rw [cutW, List.length_cons, cutW_len, List.length_cons]
def wholeB (sz kb : List Int) : Bool := decide (¬ cntQ kb (8 * kb.length) < chunksM sz)
/-- Cut by its sizes, the words of an arena are the arena. -/
theorem cutW_flat : ∀ (A : List (List Int)), cutW (sizesP A) A.flatten = A
  | [] => rfl
  | s :: A => by
    have ih := cutW_flat A
    simp only [sizesP] at ih
    simp only [sizesP, List.map_cons, cutW, List.flatten_cons, Int.toNat_natCast]
    rw [List.take_left' rfl, List.drop_left' rfl, ih]
theorem RowAt.sliceH3 {w : World} {n m : Nat} {ad : Option Addr} {xs : List Value} (h : RowAt w 1 ad n xs) (hm : m ≤ n) : RowAt w 1 (if m = 0 then ad else ad.map (·.add (0 * 1))) m (xs.take m) := by
  by_cases h0 : m = 0
  · subst h0; rw [List.take_zero]; exact RowAt.empty _ _ _
  · have h2 := h.part 0 m (by omega) (by decide)
    rw [if_neg h0]
    simpa using h2
theorem segs_snoc {w : World} {segs : List Value} {B C : List (List Int)} {wl : List Int} {o : Nat} {x : Int} {n k : Nat} {v : Value} (hS : ∀ (i : Nat) (s : List Int), B[i]? = some s → ∃ u, segs[i]? = some u ∧ Row w 1 u s.length (wordsV s)) (hC : C = B ++ [(wl.drop o).take x.toNat]) (hl : segs.length = k) (hB : B.length = k)
    (hv : Row w 1 v n (((wl.drop o).map (Value.int .u64)).take n)) (hx : x = (n : Int)) (hn : n ≤ wl.length - o) : ∀ (i : Nat) (s : List Int), C[i]? = some s → ∃ u, (segs ++ [v])[i]? = some u ∧ Row w 1 u s.length (wordsV s) := by
  intro i s hs
  rw [hC] at hs
  by_cases hi : i < B.length
  · rw [List.getElem?_append_left hi] at hs
    obtain ⟨u, h1, h2⟩ := hS i s hs
    exact ⟨u, by rw [List.getElem?_append_left (by omega)]; exact h1, h2⟩
  · have hlt := (List.getElem?_eq_some_iff.1 hs).1
    simp only [List.length_append, List.length_singleton] at hlt
    have he : i = B.length := by omega
    subst he
    rw [List.getElem?_append_right (Nat.le_refl _), Nat.sub_self] at hs
    simp only [List.getElem?_cons_zero, Option.some.injEq] at hs
    subst hs
    refine ⟨v, by rw [List.getElem?_append_right (by omega), hl, hB, Nat.sub_self]; rfl, ?_⟩
    have e : ((wl.drop o).take x.toNat).length = n := by rw [hx, Int.toNat_natCast, List.length_take, List.length_drop]; omega
    rw [e, wordsV, hx, Int.toNat_natCast, List.map_take]
    exact hv
end Go.Proofs.Ytifhcfhdajkhlaa.K

namespace Go.Proofs.Ytifhcfhdajkhlaa.K
open Go Go.RowKit
/-- What is found where something of its own kind lies. -/
inductive Own2 (k z : Int) (w b : List Int) (ks : List Nd) (q a : Int) : Prop where
  | st (h1 : k = 1) (h2 : z = 0) (h3 : b = []) (h4 : objP ((Nd.mk k z w b ks).ptr 0) q a = ⟨1, q, a, w.length, ks.length, 0, 0⟩) (h5 : (Nd.mk k z w b ks).need = (w.length : Int) + ks.length) (h6 : w.length ≤ 100 ∧ ks.length ≤ 100)
  | bt (h1 : k = 2) (h2 : z = 2) (h3 : w = []) (h4 : ks = []) (h5 : objP ((Nd.mk k z w b ks).ptr 0) q a = ⟨2, q, a, 0, 0, 2, b.length⟩) (h6 : (Nd.mk k z w b ks).need = ((b.length : Int) + 7) / 8) (h7 : b.length ≤ 4096)
  | wd (h1 : k = 2) (h2 : z = 5) (h3 : b = []) (h4 : ks = []) (h5 : objP ((Nd.mk k z w b ks).ptr 0) q a = ⟨2, q, a, 0, 0, 5, w.length⟩) (h6 : (Nd.mk k z w b ks).need = (w.length : Int)) (h7 : w.length ≤ 4096)
  | pt (h1 : k = 2) (h2 : z = 6) (h3 : w = []) (h4 : b = []) (h5 : objP ((Nd.mk k z w b ks).ptr 0) q a = ⟨2, q, a, 0, 0, 6, ks.length⟩) (h6 : (Nd.mk k z w b ks).need = (ks.length : Int)) (h7 : ks.length ≤ 4096)
theorem own2 {k z : Int} {w b : List Int} {ks : List Nd} (ho : (Nd.mk k z w b ks).own = true) (hk : ¬ k = 0) (q a : Int) : Own2 k z w b ks q a := by
  simp only [Nd.own, if_neg hk] at ho
  split at ho
  · rename_i h1
    simp only [Bool.and_eq_true, decide_eq_true_eq] at ho
    obtain ⟨h2, h3, h4⟩ := ho
    have hb : b = [] := List.eq_nil_of_length_eq_zero (by omega)
    have hm : w.length ≤ 100 ∧ ks.length ≤ 100 := by split at h4 <;> omega
    subst hb
    subst h1
    exact .st rfl h2 rfl (by simp [Nd.ptr, objP]) (by simp [Nd.need]) hm
  · split at ho
    · rename_i h1 h2
      subst h2
      split at ho
      · rename_i h3
        simp only [Bool.and_eq_true, decide_eq_true_eq] at ho
        have hw : w = [] := List.eq_nil_of_length_eq_zero (by omega)
        have hks : ks = [] := List.eq_nil_of_length_eq_zero (by omega)
        subst hw; subst hks; subst h3
        exact .bt rfl rfl rfl rfl (by simp [Nd.ptr, objP]) (by simp [Nd.need]) (by omega)
      · split at ho
        · rename_i h3
          simp only [Bool.and_eq_true, decide_eq_true_eq] at ho
          have hb : b = [] := List.eq_nil_of_length_eq_zero (by omega)
          have hks : ks = [] := List.eq_nil_of_length_eq_zero (by omega)
          subst hb; subst hks; subst h3
          exact .wd rfl rfl rfl rfl (by simp [Nd.ptr, objP]) (by simp [Nd.need]) (by omega)
        · split at ho
          · rename_i h3
            simp only [Bool.and_eq_true, decide_eq_true_eq] at ho
            have hb : b = [] := List.eq_nil_of_length_eq_zero (by omega)
            have hw : w = [] := List.eq_nil_of_length_eq_zero (by omega)
            subst hb; subst hw; subst h3
            exact .pt rfl rfl rfl rfl (by simp [Nd.ptr, objP]) (by simp [Nd.need]) (by omega)
          · cases ho
    · cases ho
end Go.Proofs.Ytifhcfhdajkhlaa.K

namespace Go.Proofs.Ytifhcfhdajkhlaa.K
open Go Go.RowKit
abbrev w2 (A : List (List Int)) (s i : Nat) : Int := (A.getD s []).getD i 0
/-! ### decoding it -/
/-! ### words and bytes as they lie -/
/-! ### what is built are words -/
def AllU (A : List (List Int)) : Prop := ∀ q ∈ A, ∀ x ∈ q, inR .u64 x
end Go.Proofs.Ytifhcfhdajkhlaa.K

namespace Go.Proofs.Ytifhcfhdajkhlaa.K
open Go Go.RowKit
/-- One more segment. -/
theorem OwnA.push {TO TW : TypeId} {w w' : World} {base : Nat} {so so' v : Value} {segs : List Value} {A : List (List Int)} {ws : List Int} (hOW : TO ≠ TW) (h : OwnA TO TW w base so segs A) (hv : w.ownsRow base TW 1 v ws.length (wordsV ws)) (hd : ∀ (i : Nat) (u : Value) (b : Nat), segs[i]? = some u → u.ownBlock = some b → v.ownBlock ≠ some b)
    (gr : w.grownBy w' so.ownBlock) (ho : w'.ownsRow base TO 1 so' (A.length + 1) (segs ++ [v])) : OwnA TO TW w' base so' (segs ++ [v]) (A ++ [ws]) := by
  have hl := h.len
  refine ⟨by rw [List.length_append]; exact ho, fun i u wi hu hw => ?_, fun i j u u' b hu hu' hb hb' => ?_⟩
  · by_cases hi : i < A.length
    · rw [List.getElem?_append_left (by omega)] at hu
      rw [List.getElem?_append_left hi] at hw
      exact own_gr (h.seg i u wi hu hw) h.out hOW.symm gr
    · have hb := (List.getElem?_eq_some_iff.1 hw).1
      simp only [List.length_append, List.length_singleton] at hb
      have hie : i = A.length := by omega
      subst hie
      rw [List.getElem?_append_right (by omega), hl, Nat.sub_self] at hu
      rw [List.getElem?_append_right (Nat.le_refl _), Nat.sub_self] at hw
      simp only [List.getElem?_cons_zero, Option.some.injEq] at hu hw
      subst hu; subst hw
      exact own_gr hv h.out hOW.symm gr
  · have key : ∀ k (x : Value), (segs ++ [v])[k]? = some x → (k < segs.length ∧ segs[k]? = some x) ∨ (k = segs.length ∧ x = v) := fun k x hx => by
      by_cases hk : k < segs.length
      · rw [List.getElem?_append_left hk] at hx; exact .inl ⟨hk, hx⟩
      · have hb := (List.getElem?_eq_some_iff.1 hx).1
        simp only [List.length_append, List.length_singleton] at hb
        have hke : k = segs.length := by omega
        subst hke
        rw [List.getElem?_append_right (Nat.le_refl _), Nat.sub_self] at hx
        simp only [List.getElem?_cons_zero, Option.some.injEq] at hx
        exact .inr ⟨rfl, hx.symm⟩
    rcases key i u hu with ⟨hi, hui⟩ | ⟨hi, rfl⟩
    · rcases key j u' hu' with ⟨hj, huj⟩ | ⟨hj, rfl⟩
      · exact h.dis i j u u' b hui huj hb hb'
      · exact absurd hb' (hd i u b hui hb)
    · rcases key j u' hu' with ⟨hj, huj⟩ | ⟨hj, rfl⟩
      · exact absurd hb (hd j u' b huj hb')
      · rw [hi, hj]
theorem OwnA.low {TO TW : TypeId} {w : World} {base : Nat} {so : Value} {segs : List Value} {A : List (List Int)} (h : OwnA TO TW w base so segs A) (i : Nat) (u : Value) (b : Nat) (hu : segs[i]? = some u) (hb : u.ownBlock = some b) : b < w.heap.size := by
  have hi := (List.getElem?_eq_some_iff.1 hu).1
  rw [h.len] at hi
  exact ((h.seg i u _ hu (List.getElem?_eq_getElem hi)).lt b hb).2
/-- What law07.Arena makes of choices. -/
structure Aren7 (n : Int) (A : List (List Int)) : Prop where
  len : (A.length : Int) = 1 + n % 5
  first : 1 ≤ len2 A 0
  seg : ∀ j, len2 A j ≤ 13
  u64 : AllU A
theorem AllU.push {A : List (List Int)} (h : AllU A) {l : List Int} (hl : ∀ x ∈ l, inR .u64 x) : AllU (A ++ [l]) := by
  intro q hq x hx
  rcases List.mem_append.1 hq with hq | hq
  · exact h q hq x hx
  · simp only [List.mem_singleton] at hq; subst hq; exact hl x hx
theorem len2_push (A : List (List Int)) (l : List Int) (j : Nat) : len2 (A ++ [l]) j = if j < A.length then len2 A j else if j = A.length then l.length else 0 := by
  unfold len2
  rw [List.getD_eq_getElem?_getD, List.getD_eq_getElem?_getD]
  split
  · rename_i h; rw [List.getElem?_append_left h]
  · rename_i h
    rw [List.getElem?_append_right (by omega)]
    split
    · rename_i h2; subst h2; simp
    · rw [List.getElem?_eq_none (by simp; omega)]; rfl
theorem small_mem {A : List (List Int)} {m : Nat} (h : ∀ j, len2 A j ≤ m) : ∀ s ∈ A, s.length ≤ m := fun s hs => by
  obtain ⟨i, hi, rfl⟩ := List.getElem_of_mem hs
  have := h i
  rw [len2, getD_at hi] at this
  exact this
end Go.Proofs.Ytifhcfhdajkhlaa.K

namespace Go.Proofs.Ytifhcfhdajkhlaa.K
open Go Go.RowKit
/-- A segment is appended to, and laid in its place. -/
theorem OwnA.app {TO TW : TypeId} {w w' w'' : World} {base q g n c : Nat} {segs : List Value} {A : List (List Int)} {ws : List Int} {x : Int} {v v' : Value} {cur cur' : Array Value} (hOW : TO ≠ TW) (h : OwnA TO TW w base (.slice (some ⟨g, 0, none⟩) n c) segs A) (hn : n = A.length) (hs : segs[q]? = some v) (hA : A[q]? = some ws)
    (ho : w'.ownsRow base TW 1 v' (ws.length + 1) (wordsV ws ++ [.int .u64 x])) (gr : w.grownBy w' v.ownBlock) (hbk : v'.ownBlock = v.ownBlock ∨ v'.ownBlock = some w.heap.size) (hcur : w'.heap[g]? = some (.cells cur TO (0, 0))) (hcur' : w''.heap[g]? = some (.cells cur' TO (0, 0))) (hset : cur'.toList = cur.toList.set q v') (u : Upd g w' w'') :
    OwnA TO TW w'' base (.slice (some ⟨g, 0, none⟩) n c) (segs.set q v') (A.set q (ws ++ [x])) := by
  subst hn
  have hqA : q < A.length := (List.getElem?_eq_some_iff.1 hA).1
  have hqs : q < segs.length := by rw [h.len]; exact hqA
  have hsq := h.seg q v ws hs hA
  have kp : Kp v.ownBlock.toList w w' := Kp.of_grownBy gr (fun k hk => by rw [Option.mem_toList]; exact hk)
  have o1 := own_gr h.out hsq hOW gr
  refine ⟨by rw [List.length_set]; exact own_setcell o1 hcur hcur' hset, fun j vj wj hv hw => ?_, fun i j a d b ha hd h1 h2 => ?_⟩
  · by_cases hj : j = q
    · subst hj
      rw [List.getElem?_set_self hqs] at hv
      rw [List.getElem?_set_self hqA] at hw
      obtain rfl := Option.some.inj hv
      obtain rfl := Option.some.inj hw
      have o2 := own_upd ho u (own_ne ho hcur hOW.symm)
      rw [List.length_append, List.length_singleton, wordsV, List.map_append]
      exact o2
    · rw [List.getElem?_set_ne (Ne.symm hj)] at hv hw
      have hsj := h.seg j vj wj hv hw
      have o2 := own_keepB hsj kp (fun k hk hm => hj (h.dis j q vj v k hv hs hk (Option.mem_toList.1 hm)))
      exact own_upd o2 u (own_ne o2 hcur hOW.symm)
  · have low : ∀ k (z : Value), k ≠ q → (segs.set q v')[k]? = some z → segs[k]? = some z := fun k z hk hz => by rwa [List.getElem?_set_ne (Ne.symm hk)] at hz
    have key : ∀ k (z : Value), k ≠ q → segs[k]? = some z → z.ownBlock = some b → v'.ownBlock = some b → k = q := fun k z hk hz hzb hvb => by
      rcases hbk with he | he
      · exact h.dis k q z v b hz hs hzb (he ▸ hvb)
      · rw [he] at hvb
        obtain rfl := Option.some.inj hvb
        have hkl := (List.getElem?_eq_some_iff.1 hz).1
        rw [h.len] at hkl
        have := ((h.seg k z _ hz (List.getElem?_eq_getElem hkl)).lt _ hzb).2
        omega
    by_cases hi : i = q
    · by_cases hj : j = q
      · rw [hi, hj]
      · subst hi
        rw [List.getElem?_set_self hqs] at ha
        obtain rfl := Option.some.inj ha
        exact (key j d hj (low j d hj hd) h2 h1).symm
    · by_cases hj : j = q
      · subst hj
        rw [List.getElem?_set_self hqs] at hd
        obtain rfl := Option.some.inj hd
        exact key i a hi (low i a hi ha) h1 h2
      · exact h.dis i j a d b (low i a hi ha) (low j d hj hd) h1 h2
theorem total_len {A : List (List Int)} {m : Nat} (h : ∀ j, len2 A j ≤ m) : totalP A ≤ (m : Int) * A.length := by
  have h1 : ∀ k, k ≤ A.length → totalP (A.take k) ≤ (m : Int) * k := fun k => by
    induction k with
    | zero => intro _; simp [totalP]
    | succ k ih =>
      intro hk
      have := ih (by omega)
      have h2 := totalP_take (A := A) (k := k) (by omega)
      have h3 := h k
      rw [len2, getD_at (show k < A.length by omega)] at h3
      have e : (m : Int) * ((k + 1 : Nat) : Int) = (m : Int) * k + m := by push_cast; rw [Int.mul_add, Int.mul_one]
      omega
  have := h1 A.length (Nat.le_refl _)
  rwa [List.take_length] at this
/-! ### chunks of an arena, as words -/
theorem getP_byt8 {x : Int} (h0 : 0 ≤ x) (h1 : x ≤ 18446744073709551615) : getP (byt8 x) = x := by
  have e : byt8 x = [x / 1 % 256, x / 256 % 256, x / 65536 % 256, x / 16777216 % 256, x / 4294967296 % 256, x / 1099511627776 % 256, x / 281474976710656 % 256, x / 72057594037927936 % 256] := by
    simp [byt8, byt1, List.range, List.range.loop]
  rw [e]
  simp only [getP]
  omega
theorem bytes_flat (A : List (List Int)) : bytesA A = A.flatten.flatMap byt8 := by
  unfold bytesA
  induction A with
  | nil => rfl
  | cons s A ih => rw [List.flatMap_cons, List.flatten_cons, List.flatMap_append, ih]
theorem flat8_drop : ∀ (l : List Int) (j : Nat), (l.flatMap byt8).drop (8 * j) = (l.drop j).flatMap byt8
  | l, 0 => by simp
  | [], j + 1 => by simp
  | x :: l, j + 1 => by
    rw [List.flatMap_cons, show 8 * (j + 1) = (byt8 x).length + 8 * j from by rw [byt8_len]; omega, ← List.drop_drop, List.drop_left, flat8_drop l j, List.drop_succ_cons]
theorem flat8_takes : ∀ (l : List Int) (j : Nat), (l.flatMap byt8).take (8 * j) = (l.take j).flatMap byt8
  | l, 0 => by simp
  | [], j + 1 => by simp
  | x :: l, j + 1 => by
    rw [List.flatMap_cons, show 8 * (j + 1) = (byt8 x).length + 8 * j from by rw [byt8_len]; omega, List.take_length_add_append, flat8_takes l j, List.take_succ_cons, List.flatMap_cons]
theorem chunksP_flat {l : List Int} (h : ∀ x ∈ l, inR .u64 x) : chunksP (l.flatMap byt8) = l := by
  refine List.ext_getElem (by rw [chunksP_len, flat8_len]; omega) fun j h1 h2 => ?_
  simp only [chunksP, List.getElem_map, List.getElem_range, chunkP]
  rw [flat8_drop, show 8 = 8 * 1 from rfl, flat8_takes, List.drop_eq_getElem_cons h2]
  simp only [List.take_succ_cons, List.take_zero, List.flatMap_cons, List.flatMap_nil, List.append_nil]
  have := h _ (List.getElem_mem h2)
  simp only [inR] at this
  exact getP_byt8 this.1 this.2
theorem flat_u64 {A : List (List Int)} (h : AllU A) : ∀ x ∈ A.flatten, inR .u64 x := fun x hx => by
  obtain ⟨s, hs, hx⟩ := List.mem_flatten.1 hx
  exact h s hs x hx
theorem flat_len : ∀ (A : List (List Int)), ((A.flatten.length : Nat) : Int) = totalP A
  | [] => rfl
  | s :: A => by have := flat_len A; rw [List.flatten_cons, List.length_append]; simp only [totalP]; omega
theorem chunk_words {A : List (List Int)} (h : AllU A) (i : Nat) : chunksP (chunkA A i) = (A.flatten.drop (8 * i)).take 8 := by
  unfold chunkA
  rw [bytes_flat, show 64 * i = 8 * (8 * i) from by omega, flat8_drop, show 64 = 8 * 8 from rfl, flat8_takes]
  exact chunksP_flat fun x hx => flat_u64 h x (List.mem_of_mem_drop (List.mem_of_mem_take hx))
theorem words_arena {A : List (List Int)} (h : rightB A = true) : wordsM (sizesP A) = A.flatten.length ∧ 1 ≤ chunksM (sizesP A) := by
  have hf : fitsL (sizesP A) = true := by rw [fits_right]; exact h
  have h1 := wordsM_fit hf
  rw [sumL_sizes] at h1
  have h2 := flat_len A
  have hc : chunksM (sizesP A) = (wordsM (sizesP A) + 7) / 8 := rfl
  omega
theorem size_chunk {A : List (List Int)} (h : rightB A = true) {i : Nat} (hi : i < chunksM (sizesP A)) : ((chunkA A i).length : Int) = sizeM (sizesP A) i ∧ putOk (sizesP A) i (chunkA A i).length = true := by
  have hw := (words_arena h).1
  have h1 := bytesA_len A
  have h2 := flat_len A
  have hc : chunksM (sizesP A) = (wordsM (sizesP A) + 7) / 8 := rfl
  have hs : sizeM (sizesP A) i = min 64 (8 * (wordsM (sizesP A) : Int) - 64 * i) := by unfold sizeM; rw [if_neg (by omega)]
  have hl : ((chunkA A i).length : Int) = sizeM (sizesP A) i := by rw [hs, chunkA_len, hw]; omega
  exact ⟨hl, decide_eq_true ⟨by omega, by omega, hl⟩⟩
/-- What a part holds that was filled out of an arena: the words of the chunks that are there. -/
structure InvA (A : List (List Int)) (wl kb : List Int) : Prop where
  len : wl.length = A.flatten.length
  lk : kb.length = (chunksM (sizesP A) + 7) / 8
  ub : isB kb
  low : ∀ c, bitQ kb c = true → c < chunksM (sizesP A)
  at_ : ∀ k, k < wl.length → wl.getD k 0 = if bitQ kb (k / 8) then A.flatten.getD k 0 else 0
theorem InvA.zero {A : List (List Int)} (h : rightB A = true) : InvA A (List.replicate (wordsM (sizesP A)) 0) (List.replicate ((chunksM (sizesP A) + 7) / 8) 0) := by
  have hb : ∀ c, bitQ (List.replicate ((chunksM (sizesP A) + 7) / 8) 0) c = false := fun c => by
    unfold bitQ
    have : (List.replicate ((chunksM (sizesP A) + 7) / 8) (0 : Int)).getD (c / 8) 0 = 0 := by
      rw [List.getD_eq_getElem?_getD, List.getElem?_replicate]; split <;> rfl
    rw [this]; simp
  refine ⟨by simp [(words_arena h).1], by simp, fun x hx => by rw [List.eq_of_mem_replicate hx]; simp [inR], fun c hc => (by rw [hb c] at hc; cases hc), fun k hk => ?_⟩
  rw [hb, if_neg (by simp), List.getD_eq_getElem?_getD, List.getElem?_replicate]
  split <;> rfl
theorem InvA.put {A : List (List Int)} {wl kb : List Int} (h : rightB A = true) (hu : AllU A) (H : InvA A wl kb) {i : Nat} (hi : i < chunksM (sizesP A)) : InvA A (putW (sizesP A) wl kb i (chunkA A i)) (putK (sizesP A) kb i (chunkA A i).length) ∧ ∀ c, bitQ (putK (sizesP A) kb i (chunkA A i).length) c = (decide (c = i) || bitQ kb c) := by
  obtain ⟨h1, h2⟩ := size_chunk h hi
  have hw := (words_arena h).1
  have hc : chunksM (sizesP A) = (wordsM (sizesP A) + 7) / 8 := rfl
  by_cases hb : bitQ kb i = true
  · have hd : putDo (sizesP A) kb i (chunkA A i).length = false := putDo_no (.inr hb)
    unfold putW putK
    rw [hd]
    refine ⟨H, fun c => ?_⟩
    by_cases hci : c = i
    · subst hci; simp [hb]
    · simp [hci]
  · have hb : bitQ kb i = false := by simpa using hb
    have hd : putDo (sizesP A) kb i (chunkA A i).length = true := putDo_of h2 hb
    unfold putW putK
    rw [hd, if_pos rfl, if_pos rfl, Int.toNat_natCast, chunk_words hu]
    have hi8 : i / 8 < kb.length := by rw [H.lk]; omega
    have hl8 : ((A.flatten.drop (8 * i)).take 8).length = min 8 (A.flatten.length - 8 * i) := by rw [List.length_take, List.length_drop]
    have hfit : 8 * i + ((A.flatten.drop (8 * i)).take 8).length ≤ wl.length := by rw [hl8, H.len]; omega
    have hbit := setQ_bit H.ub hi8
    refine ⟨⟨by rw [ovl_len hfit]; exact H.len, by rw [setQ_len]; exact H.lk, setQ_isB H.ub i, fun c hcb => ?_, fun k hk => ?_⟩, hbit⟩
    · rw [hbit] at hcb
      by_cases hci : c = i
      · omega
      · simp only [hci, decide_false, Bool.false_or] at hcb; exact H.low c hcb
    · rw [ovl_len hfit] at hk
      rw [ovl_get hfit, hbit]
      by_cases hki : k / 8 = i
      · rw [if_pos (by rw [hl8]; rw [H.len] at hk; omega), if_pos (by simp [hki])]
        simp only [List.getD_eq_getElem?_getD]
        rw [List.getElem?_take_of_lt (by omega), List.getElem?_drop, show 8 * i + (k - 8 * i) = k from by omega]
      · rw [if_neg (by rw [hl8]; omega), decide_eq_false hki, Bool.false_or]
        exact H.at_ k hk
theorem InvA.whole {A : List (List Int)} {wl kb : List Int} (h : rightB A = true) (H : InvA A wl kb) (hall : ∀ c, c < chunksM (sizesP A) → bitQ kb c = true) : wl = A.flatten ∧ wholeB (sizesP A) kb = true := by
  have hw := (words_arena h).1
  have hc : chunksM (sizesP A) = (wordsM (sizesP A) + 7) / 8 := rfl
  have hl := H.len
  refine ⟨lists_eq (d := 0) H.len fun k hk => by rw [H.at_ k hk, hall _ (by omega), if_pos rfl], ?_⟩
  have hlk := H.lk
  have h1 : cntQ kb (8 * kb.length) = chunksM (sizesP A) := by
    rw [show 8 * kb.length = chunksM (sizesP A) + (8 * kb.length - chunksM (sizesP A)) from by omega, cntQ_add _ _ _ (fun j hj => ?_), cntQ_all _ hall]
    cases hb : bitQ kb j with
    | false => rfl
    | true => have := H.low j hb; omega
  unfold wholeB
  exact decide_eq_true (by omega)
theorem bitQ_z (n c : Nat) : bitQ (List.replicate n 0) c = false := by
  unfold bitQ
  have : (List.replicate n (0 : Int)).getD (c / 8) 0 = 0 := by
    rw [List.getD_eq_getElem?_getD, List.getElem?_replicate]; split <;> rfl
  rw [this]; simp
theorem cntQ_z (n : Nat) : ∀ m, cntQ (List.replicate n 0) m = 0
  | 0 => rfl
  | m + 1 => by rw [cntQ, cntQ_z n m, bitQ_z]; rfl
/-- What a part knows into which chunks were put, as choices say. -/
structure FilA (A : List (List Int)) (xs wl kb : List Int) : Prop where
  inv : InvA A wl kb
  bits : ∀ c, bitQ kb c = true ↔ ∃ x ∈ xs, (c : Int) = x % (chunksM (sizesP A) : Int)
  cnt : cntQ kb (8 * kb.length) ≤ xs.length
theorem FilA.nil {A : List (List Int)} (h : rightB A = true) : FilA A [] (List.replicate (wordsM (sizesP A)) 0) (List.replicate ((chunksM (sizesP A) + 7) / 8) 0) :=
  ⟨.zero h, fun c => by rw [bitQ_z]; simp, by rw [cntQ_z]; simp⟩
theorem FilA.snoc {A : List (List Int)} {xs wl kb : List Int} (h : rightB A = true) (hu : AllU A) (F : FilA A xs wl kb) {x : Int} {q : Nat} (hq : (q : Int) = x % (chunksM (sizesP A) : Int)) (hl : q < chunksM (sizesP A)) :
    FilA A (xs ++ [x]) (putW (sizesP A) wl kb q (chunkA A q)) (putK (sizesP A) kb q (chunkA A q).length) := by
  obtain ⟨h1, h2⟩ := F.inv.put h hu hl
  refine ⟨h1, fun c => ?_, ?_⟩
  · rw [h2, Bool.or_eq_true, decide_eq_true_eq, F.bits]
    constructor
    · rintro (rfl | ⟨y, hy, he⟩)
      · exact ⟨x, by simp, hq⟩
      · exact ⟨y, by simp [hy], he⟩
    · rintro ⟨y, hy, he⟩
      rcases List.mem_append.1 hy with hy | hy
      · exact .inr ⟨y, hy, he⟩
      · simp only [List.mem_singleton] at hy
        subst hy
        exact .inl (by omega)
  · rw [List.length_append, List.length_singleton]
    have hc := F.cnt
    have hlk := F.inv.lk
    unfold putK
    split
    · rename_i hd
      have hb : bitQ kb q = false := by
        unfold putDo at hd
        simp only [Int.toNat_natCast, Bool.and_eq_true, Bool.not_eq_true'] at hd
        exact hd.2
      rw [Int.toNat_natCast, setQ_len, cntQ_set F.inv.ub (by omega) hb]
      split <;> omega
    · omega
theorem PartR.lower {TP TI TW TB : TypeId} {w : World} {base base' b g h : Nat} {ses sum : Int} {sz wl kb : List Int} (H : PartR TP TI TW TB w base b g h ses sum sz wl kb) (hl : base' ≤ base) : PartR TP TI TW TB w base' b g h ses sum sz wl kb := by
  obtain ⟨h1, h2, h3, h4, h5, h6, ads, cs, cw, ck, hB, oS, oW, oK⟩ := H
  exact ⟨h1, h2, h3, h4, h5, Nat.le_trans hl h6, ads, cs, cw, ck, hB, own_base oS hl, own_base oW hl, own_base oK hl⟩
/-! ### the chapter's example -/
def A16 : List (List Int) := [[0]]
theorem known16_a : walkS (srcP (sizesP A16) (List.replicate (wordsM (sizesP A16)) 0) (List.replicate ((chunksM (sizesP A16) + 7) / 8) 0)) [] 0 8192 = (Vl0, 30) := by decide +kernel
theorem known16_b : walkS (srcP (sizesP A16) (putW (sizesP A16) (List.replicate (wordsM (sizesP A16)) 0) (List.replicate ((chunksM (sizesP A16) + 7) / 8) 0) 0 (List.replicate 8 0)) (putK (sizesP A16) (List.replicate ((chunksM (sizesP A16) + 7) / 8) 0) 0 (List.replicate 8 (0 : Int)).length)) [] 0 8192 = (Vl0, 0) := by decide +kernel
theorem known16_c : putOk (sizesP A16) 0 (List.replicate 8 (0 : Int)).length = true := by decide +kernel
theorem known16_d : wordsM (sizesP A16) = 1 := by decide +kernel
theorem known16_e : rightB A16 = true := by decide +kernel
theorem known16_f : AllU A16 := fun q hq x hx => by simp only [A16, List.mem_singleton] at hq; subst hq; simp only [List.mem_singleton] at hx; subst hx; simp [inR]
/-! ### what law12.Arena makes of choices -/
theorem len2_set {A : List (List Int)} {q : Nat} {l : List Int} (hq : q < A.length) (j : Nat) : len2 (A.set q l) j = if j = q then l.length else len2 A j := by
  unfold len2
  rw [List.getD_eq_getElem?_getD, List.getD_eq_getElem?_getD]
  split
  · rename_i h; subst h; rw [List.getElem?_set_self hq]; rfl
  · rename_i h; rw [List.getElem?_set_ne (Ne.symm h)]
theorem AllU.seg {A : List (List Int)} (h : AllU A) {q : Nat} {l : List Int} (hl : ∀ x ∈ l, inR .u64 x) : AllU (A.set q l) := fun s hs x hx => by
  rcases List.mem_or_eq_of_mem_set hs with hs | hs
  · exact h s hs x hx
  · subst hs; exact hl x hx
structure Aren12 (A : List (List Int)) : Prop where
  right : rightB A = true
  u64 : AllU A
  len : 1 ≤ A.length ∧ A.length ≤ 16
  small : ∀ s ∈ A, s.length ≤ 100000
theorem Aren12.of {A : List (List Int)} (h1 : 1 ≤ A.length) (h2 : A.length ≤ 11) (hf : 1 ≤ len2 A 0) (hs : ∀ j, len2 A j ≤ 60) (hu : AllU A) : Aren12 A := by
  have ht := total_len hs
  exact ⟨decide_eq_true ⟨by omega, by omega, by omega, by omega⟩, hu, ⟨h1, by omega⟩, fun s hx => Nat.le_trans (small_mem hs s hx) (by decide)⟩
theorem bits_all {kb kb' : List Int} {i : Nat} (h : ∀ c, c < i → bitQ kb c = true) (h2 : ∀ c, bitQ kb' c = (decide (c = i) || bitQ kb c)) : ∀ c, c < i + 1 → bitQ kb' c = true := fun c hc => by
  rw [h2]
  by_cases he : c = i
  · simp [he]
  · rw [h c (by omega)]; simp
theorem put_none {sz wl kb : List Int} {i : Int} {xs : List Int} (h : putOk sz i xs.length = false ∨ bitQ kb i.toNat = true) : putW sz wl kb i xs = wl ∧ putK sz kb i xs.length = kb := by
  have h9 := putDo_no h
  unfold putW putK
  rw [h9]
  exact ⟨rfl, rfl⟩
end Go.Proofs.Ytifhcfhdajkhlaa.K

namespace Go.Proofs.Ytifhcfhdajkhlaa.K
open Go Go.RowKit Go.Proofs
attribute [local irreducible] Run1 OpG WL W AO Gives
theorem meth_srcWord : MethI Try.prog 76 "Word" 121 := ⟨fun v args w => by kernel_rfl⟩
theorem meth_srcSizes : MethI Try.prog 76 "Sizes" 120 := ⟨fun v args w => by kernel_rfl⟩
set_option maxRecDepth 100000 in
theorem srcSizes_calls (w : World) {base b g h : Nat} {ses sum : Int} {sz wl kb : List Int} (H : PartR 80 3 33 5 w base b g h ses sum sz wl kb) : Calls Try.prog 120 #[.pointer (some ⟨b, 3, none⟩)] w (Ret fun r w2 => ∃ ad c, r = .slice ad sz.length c ∧ RowAt w2 1 ad sz.length (sz.map (.int .i64)) ∧ Grow w w2) := by
 have H0 := H
 obtain ⟨hfit, hlw, hlk, hub, huw, hb0, ads, cs, cw, ck, hB, oS, oW, oK⟩ := H
 have hle := wordsM_le sz
 have hwf := wordsM_fit hfit
 have hch : chunksM sz = (wordsM sz + 7) / 8 := rfl
 have hf16 := fitsL_of hfit
 have hrz : ∀ x ∈ sz, inR .i64 x := fits_rng hfit
 have G := Grow.rfl' w
 refine calls_ret Try.func120 Try.ntmps120 Try.results120 rfl rfl ?_
 obtain ⟨_, _, hs9, hcs, hcs2, RS⟩ := own_row oS (by omega)
 cases hs9
 obtain ⟨_, _, hs9, hcw, hcw2, RW⟩ := own_row oW (by omega)
 cases hs9
 obtain ⟨_, _, hs9, hck, hck2, RK⟩ := own_row oK (by omega)
 cases hs9
 refine W_seq (W_region rfl ?_)
 refine stp (r_assign_slice rfl ?_)
 refine WL_nil ?_
 refine W_seq (W_region rfl ?_)
 refine stp (r_move_ptr rfl ?_)
 refine stp (r_nilCheck rfl ?_)
 refine stp (r_fieldAddr rfl ?_)
 refine stp (r_load (v := .slice ads sz.length cs) rfl hB rfl ?_)
 refine stp (r_assign_slice rfl ?_)
 refine WL_nil ?_
 refine W_ret ?_
 refine ret1 (res_tmp (v := .slice ads sz.length cs) rfl) ⟨_, _, rfl, RS.grow G, G⟩

set_option maxRecDepth 100000 in
theorem srcWord_calls (w : World) {base b g h : Nat} {ses sum : Int} {sz wl kb : List Int} (H : PartR 80 3 33 5 w base b g h ses sum sz wl kb) (seg a : Int) : Gives Try.prog 121 #[.pointer (some ⟨b, 3, none⟩), .int .i64 seg, .int .i64 a] w (.tuple #[.int .u64 ((srcW sz wl kb seg a).1), .int .u16 ((srcW sz wl kb seg a).2)]) := by
 have H0 := H
 obtain ⟨hfit, hlw, hlk, hub, huw, hb0, ads, cs, cw, ck, hB, oS, oW, oK⟩ := H
 have hle := wordsM_le sz
 have hwf := wordsM_fit hfit
 have hch : chunksM sz = (wordsM sz + 7) / 8 := rfl
 have hf16 := fitsL_of hfit
 have hrz : ∀ x ∈ sz, inR .i64 x := fits_rng hfit
 have G := Grow.rfl' w
 refine gives_of Try.func121 Try.ntmps121 Try.results121 rfl rfl ?_
 obtain ⟨_, _, hs9, hcs, hcs2, RS⟩ := own_row oS (by omega)
 cases hs9
 obtain ⟨_, _, hs9, hcw, hcw2, RW⟩ := own_row oW (by omega)
 cases hs9
 obtain ⟨_, _, hs9, hck, hck2, RK⟩ := own_row oK (by omega)
 cases hs9
 refine W_seq (W_region rfl ?_)
 refine stp (r_assign_int rfl ?_)
 refine stp (r_assign_int rfl ?_)
 refine WL_nil ?_
 refine W_seq (W_region rfl ?_)
 refine stp (r_move_ptr rfl ?_)
 refine stp (r_nilCheck rfl ?_)
 refine stp (r_fieldAddr rfl ?_)
 refine stp (r_load (v := .slice ads sz.length cs) rfl hB rfl ?_)
 refine stp (r_move_int rfl ?_)
 refine stp (r_move_int rfl ?_)
 refine stp (r_gives (v := .int .i64 (placeM sz seg a)) rfl (aplace_calls _ (RS.grow G) hrz hcs) ?_)
 intro w1 g2
 replace hB := g2.heap hB
 replace G := G.tr g2
 clear g2
 refine stp (r_assign_int rfl ?_)
 refine WL_nil ?_
 refine W_seq ?_
 refine W_block ?_
 refine W_seq (W_region rfl ?_)
 refine stp (r_move_int rfl ?_)
 refine stp (r_lss rfl rfl ?_)
 refine stp (r_assign_bool rfl ?_)
 refine WL_nil ?_
 refine W_cond2 (b := (decide ((placeM sz seg a) < 0))) rfl (fun h1 => ?_) (fun h1 => ?_)
 ·-- true
  replace h1 := of_decide_eq_true h1
  refine W_seq (W_region rfl ?_)
  refine stp (r_assign_int rfl ?_)
  refine stp (r_assign_int rfl ?_)
  refine WL_nil ?_
  refine W_ret ?_
  have h9 : srcW sz wl kb seg a = (0, 20) := by unfold srcW; rw [if_pos h1]
  refine ret2 (res_tmp (v := .int .u64 0) rfl) (res_tmp (v := .int .u16 20) rfl) ⟨?_, G⟩
  rw [h9]
 ·-- false
  replace h1 := of_decide_eq_false h1
  obtain ⟨k, hk⟩ : ∃ k : Nat, placeM sz seg a = (k : Int) := ⟨(placeM sz seg a).toNat, by omega⟩
  have hlt := (placeM_lt (sz := sz) (seg := seg) (a := a) (by omega)).2.2.2.2.2.2
  have hkn : (placeM sz seg a).toNat = k := by omega
  refine W_seq (W_region rfl ?_)
  refine stp (r_move_ptr rfl ?_)
  refine stp (r_nilCheck rfl ?_)
  refine stp (r_fieldAddr rfl ?_)
  refine stp (r_load (v := .slice (some ⟨h, 0, none⟩) kb.length ck) rfl hB rfl ?_)
  refine stp (r_move_int rfl ?_)
  refine WL_some (og rfl ?_)
  refine r_quo rfl rfl ?_ ?_ ?_ ?_; omega; omega; (constructor <;> omega)
  rw [show placeM sz seg a / 8 = ((k / 8 : Nat) : Int) from by omega]
  refine stp (r_gives (v := .bool (bitQ kb (k / 8))) rfl (bitget_calls _ (RK.grow G) hub (i := k / 8) (by omega)) ?_)
  intro w3 g4
  replace hB := g4.heap hB
  replace G := G.tr g4
  clear g4
  refine stp (r_not rfl ?_)
  refine stp (r_assign_bool rfl ?_)
  refine WL_nil ?_
  refine W_cond2 (b := (!(bitQ kb (k / 8)))) rfl (fun h2 => ?_) (fun h2 => ?_)
  ·-- true
   simp only [sb] at h2
   refine W_seq (W_region rfl ?_)
   refine stp (r_assign_int rfl ?_)
   refine stp (r_assign_int rfl ?_)
   refine WL_nil ?_
   refine W_ret ?_
   have h9 : srcW sz wl kb seg a = (0, 30) := by unfold srcW; rw [if_neg h1, hkn, if_neg (by simpa using h2)]
   refine ret2 (res_tmp (v := .int .u64 0) rfl) (res_tmp (v := .int .u16 30) rfl) ⟨?_, G⟩
   rw [h9]
  ·-- false
   simp only [sb] at h2
   refine W_skip ?_
   refine W_seq (W_region rfl ?_)
   refine stp (r_move_ptr rfl ?_)
   refine stp (r_nilCheck rfl ?_)
   refine stp (r_fieldAddr rfl ?_)
   refine stp (r_load (v := .slice (some ⟨g, 0, none⟩) wl.length cw) rfl hB rfl ?_)
   refine stp (r_move_int rfl ?_)
   refine stp (r_indexN (i := k) (RW.grow G) rfl (by rw [← hk]; rfl) ?_ ?_); omega
   refine stp (r_loadR (v := .int .u64 (wl.getD k 0)) (m := 0) (RW.grow G) rfl (map_get1 0 (by omega)) ?_)
   refine stp (r_assign_int rfl ?_)
   refine stp (r_assign_int rfl ?_)
   refine WL_nil ?_
   refine W_ret ?_
   have h9 : srcW sz wl kb seg a = (wl.getD k 0, 0) := by unfold srcW; rw [if_neg h1, hkn, if_pos (by simpa using h2)]
   refine ret2 (res_tmp (v := .int .u64 (wl.getD k 0)) rfl) (res_tmp (v := .int .u16 0) rfl) ⟨?_, G⟩
   rw [h9]

theorem part_srcOk {w : World} {base b g h : Nat} {ses sum : Int} {sz wl kb : List Int} (H : PartR 80 3 33 5 w base b g h ses sum sz wl kb) : SrcOk Try.prog w (.iface 76 (.pointer (some ⟨b, 3, none⟩))) (srcP sz wl kb) :=
  part_src H.fit H.uw meth_srcWord meth_srcSizes (fun w' g seg a => srcWord_calls w' (H.grow g) seg a) (fun w' g => srcSizes_calls w' (H.grow g))

set_option maxRecDepth 100000 in
theorem pread_calls (w : World) {base b g h : Nat} {ses sum : Int} {sz wl kb : List Int} (H : PartR 80 3 33 5 w base b g h ses sum sz wl kb) {ad : Option Addr} {c : Nat} {steps : List Int} {a : Int} (R : RowAt w 1 ad steps.length (steps.map (.int .i64))) (hR : ∀ x ∈ steps, inR .i64 x) (ha : inR .i64 a) : Gives Try.prog 11 #[.pointer (some ⟨b, 0, none⟩), .agg #[.slice ad steps.length c, .int .i64 a]] w (.tuple #[.agg #[.int .i64 ((walkS (srcP sz wl kb) steps a 8192).1.kind), .int .i64 ((walkS (srcP sz wl kb) steps a 8192).1.size), .int .i64 ((walkS (srcP sz wl kb) steps a 8192).1.words), .int .i64 ((walkS (srcP sz wl kb) steps a 8192).1.kids), .int .u64 ((walkS (srcP sz wl kb) steps a 8192).1.word)], .int .u16 ((walkS (srcP sz wl kb) steps a 8192).2)]) := by
 have H0 := H
 obtain ⟨hfit, hlw, hlk, hub, huw, hb0, ads, cs, cw, ck, hB, oS, oW, oK⟩ := H
 have hle := wordsM_le sz
 have hwf := wordsM_fit hfit
 have hch : chunksM sz = (wordsM sz + 7) / 8 := rfl
 have hf16 := fitsL_of hfit
 have hrz : ∀ x ∈ sz, inR .i64 x := fits_rng hfit
 have G := Grow.rfl' w
 refine gives_of Try.func11 Try.ntmps11 Try.results11 rfl rfl ?_
 refine W_seq (W_region rfl ?_)
 refine WL_some (og rfl ?_)
 (first | refine r_box_agg rfl ?_ | refine r_box_int rfl ?_ | refine r_box_slice rfl ?_ | refine r_box rfl rfl ?_)
 intro b1 w2 hb3 hc4 g5
 have hge6 := Nat.le_trans G.size hb3
 replace hB := g5.heap hB
 replace G := G.tr g5
 clear g5 hb3
 refine stp (r_alloc ?_)
 intro b7 w8 hb9 hc10 g11
 refine stp (r_assign_int rfl ?_)
 refine WL_nil ?_
 refine W_seq ?_
 refine W_seq (W_region rfl ?_)
 refine stp (r_move_ptr rfl ?_)
 refine stp (r_eqlP Try.underlying31 rfl rfl ?_)
 refine WL_nil ?_
 have hge12 := Nat.le_trans G.size hb9
 have ne13 := Nat.ne_of_lt (Nat.lt_of_lt_of_le (lt_of_heap hB) hb9)
 have ne14 := Nat.ne_of_lt (Nat.lt_of_lt_of_le (lt_of_heap hc4) hb9)
 replace hB := g11.heap hB
 replace hc4 := g11.heap hc4
 replace G := G.tr g11
 clear g11 hb9
 refine W_false rfl ?_
 refine W_skip ?_
 refine W_seq ?_
 refine W_any 8 [[], [0], [1, 0], [2, 1, 0], [], [4, 3, 2, 1, 0], [5, 4, 3, 2, 1, 0], [6, 5, 4, 3, 2, 1]] mixed (by kernel_rfl) (by kernel_rfl) (by kernel_rfl) ?_
 intro w15 g16
 replace hB := g16.heap hB
 replace hc4 := g16.heap hc4
 replace hc10 := g16.heap hc10
 replace G := G.tr g16
 clear g16
 apply AO_ex
 ·intro w_ g_; refine og rfl ?_; refine r_move_ptr rfl ?_; exact ⟨Grow.rfl' _, rfl⟩
 apply AO_ex
 ·intro w_ g_; refine og rfl ?_; refine r_nilCheck rfl ?_; exact ⟨Grow.rfl' _, rfl⟩
 apply AO_ex
 ·intro w_ g_; refine og rfl ?_; refine r_fieldAddr rfl ?_; exact ⟨Grow.rfl' _, rfl⟩
 apply AO_ex
 ·intro w_ g_; refine og rfl ?_; refine r_makeIface (v := .pointer (some ⟨b, 3, none⟩)) rfl ?_; exact ⟨Grow.rfl' _, rfl⟩
 apply AO_ex
 ·intro w_ g_; refine og rfl ?_; refine r_loadAll rfl (g_.heap hc4) (by rfl) ?_; exact ⟨Grow.rfl' _, rfl⟩
 apply AO_ex
 ·intro w_ g_; refine og rfl ?_; exact r_gives (v := .tuple #[.agg #[.int .i64 ((walkS (srcP sz wl kb) steps a 8192).1.kind), .int .i64 ((walkS (srcP sz wl kb) steps a 8192).1.size), .int .i64 ((walkS (srcP sz wl kb) steps a 8192).1.words), .int .i64 ((walkS (srcP sz wl kb) steps a 8192).1.kids), .int .u64 ((walkS (srcP sz wl kb) steps a 8192).1.word)], .int .u16 ((walkS (srcP sz wl kb) steps a 8192).2)]) rfl (walk_calls _ ((part_srcOk H0).grow (G.tr g_)) (R.grow (G.tr g_)) hR ha (by simp [inR])) (fun w2_ g2_ => ⟨g2_, rfl⟩)
 apply AO_ex
 ·intro w_ g_; refine og rfl ?_; refine r_extract (v := .agg #[.int .i64 ((walkS (srcP sz wl kb) steps a 8192).1.kind), .int .i64 ((walkS (srcP sz wl kb) steps a 8192).1.size), .int .i64 ((walkS (srcP sz wl kb) steps a 8192).1.words), .int .i64 ((walkS (srcP sz wl kb) steps a 8192).1.kids), .int .u64 ((walkS (srcP sz wl kb) steps a 8192).1.word)]) rfl rfl ?_; exact ⟨Grow.rfl' _, rfl⟩
 apply AO_ex
 ·intro w_ g_; refine og rfl ?_; refine r_extract (v := .int .u16 ((walkS (srcP sz wl kb) steps a 8192).2)) rfl rfl ?_; exact ⟨Grow.rfl' _, rfl⟩
 refine AO_nil ?_
 intro w17 g18
 replace hB := g18.heap hB
 replace hc4 := g18.heap hc4
 replace hc10 := g18.heap hc10
 replace G := G.tr g18
 clear g18
 refine stn (r_storeAll rfl rfl hc10 (by rfl) (by rfl) (by rfl) ?_)
 intro w19 hc20 u21
 replace hB := u21.heap hB ne13
 replace hc4 := u21.heap hc4 ne14
 replace G := G.upd u21 hge12
 clear u21 hc10
 refine stp (r_assign_int rfl ?_)
 refine WL_nil ?_
 refine W_ret ?_
 refine ret2 (res_all rfl hc20 (by rfl)) (res_tmp (v := .int .u16 ((walkS (srcP sz wl kb) steps a 8192).2)) rfl) ⟨?_, G⟩
 rfl

set_option maxRecDepth 100000 in
theorem pbytes_calls (w : World) {base b g h : Nat} {ses sum : Int} {sz wl kb : List Int} (H : PartR 80 3 33 5 w base b g h ses sum sz wl kb) : Gives Try.prog 24 #[.pointer (some ⟨b, 0, none⟩)] w (.int .i64 (8 * (wordsM sz : Int))) := by
 have H0 := H
 obtain ⟨hfit, hlw, hlk, hub, huw, hb0, ads, cs, cw, ck, hB, oS, oW, oK⟩ := H
 have hle := wordsM_le sz
 have hwf := wordsM_fit hfit
 have hch : chunksM sz = (wordsM sz + 7) / 8 := rfl
 have hf16 := fitsL_of hfit
 have hrz : ∀ x ∈ sz, inR .i64 x := fits_rng hfit
 have G := Grow.rfl' w
 refine gives_of Try.func24 Try.ntmps24 Try.results24 rfl rfl ?_
 obtain ⟨_, _, hs9, hcs, hcs2, RS⟩ := own_row oS (by omega)
 cases hs9
 obtain ⟨_, _, hs9, hcw, hcw2, RW⟩ := own_row oW (by omega)
 cases hs9
 obtain ⟨_, _, hs9, hck, hck2, RK⟩ := own_row oK (by omega)
 cases hs9
 refine W_seq (W_region rfl ?_)
 refine stp (r_assign_int rfl ?_)
 refine WL_nil ?_
 refine W_seq ?_
 refine W_seq (W_region rfl ?_)
 refine stp (r_move_ptr rfl ?_)
 refine stp (r_eqlP Try.underlying31 rfl rfl ?_)
 refine WL_nil ?_
 refine W_false rfl ?_
 refine W_skip ?_
 refine W_seq (W_region rfl ?_)
 refine stp (r_move_ptr rfl ?_)
 refine stp (r_nilCheck rfl ?_)
 refine stp (r_fieldAddr rfl ?_)
 refine stp (r_loadN rfl hB (by rfl) (by rfl) ?_)
 refine stp (r_gives (v := .int .i64 (wordsM sz : Int)) rfl (mwords_calls _ (RS.grow G) hrz) ?_)
 intro w1 g2
 replace hB := g2.heap hB
 replace G := G.tr g2
 clear g2
 refine stp (r_mul rfl rfl ?_ ?_); constructor <;> omega
 refine stp (r_assign_int rfl ?_)
 refine WL_nil ?_
 refine W_ret ?_
 refine ret1 (res_tmp (v := .int .i64 (8 * (wordsM sz : Int))) rfl) ⟨?_, G⟩
 rfl

set_option maxRecDepth 100000 in
theorem pnew_calls (w : World) {ses sum : Int} {ad : Option Addr} {c : Nat} {sz : List Int} (R : RowAt w 1 ad sz.length (sz.map (.int .i64))) (hc : sz.length ≤ c) (hc2 : c ≤ maxLen) (hf : fitsL sz = true) : Calls Try.prog 22 #[.agg #[.int .u64 ses, .slice ad sz.length c, .int .u32 sum]] w (Ret fun v w' => ∃ b g h, v = .tuple #[.pointer (some ⟨b, 0, none⟩), .int .u16 0] ∧ PartR 80 3 33 5 w' w.heap.size b g h ses sum sz (List.replicate (wordsM sz) 0) (List.replicate ((chunksM sz + 7) / 8) 0) ∧ Grow w w') := by
 have hrz : ∀ x ∈ sz, inR .i64 x := fits_rng hf
 have hf16 := fitsL_of hf
 have hle := wordsM_le sz
 have hwf := wordsM_fit hf
 have hch : chunksM sz = (wordsM sz + 7) / 8 := rfl
 obtain ⟨q0, o0, cs0, T0, fr0, rfl, -, -⟩ := R.at_ (by omega)
 have G := Grow.rfl' w
 refine calls_ret Try.func22 Try.ntmps22 Try.results22 rfl rfl ?_
 refine W_seq (W_region rfl ?_)
 refine WL_some (og rfl ?_)
 (first | refine r_box_agg rfl ?_ | refine r_box_int rfl ?_ | refine r_box_slice rfl ?_ | refine r_box rfl rfl ?_)
 intro b1 w2 hb3 hc4 g5
 have hge6 := Nat.le_trans G.size hb3
 replace G := G.tr g5
 clear g5 hb3
 refine stp (r_assign (v := .pointer none) rfl ?_)
 refine stp (r_assign_int rfl ?_)
 refine WL_nil ?_
 refine W_seq ?_
 refine W_seq (W_region rfl ?_)
 refine stp (r_loadAll rfl hc4 (by rfl) ?_)
 refine stp (r_gives (v := .bool true) rfl (gives_eq (mright_calls _ (R.grow G) hrz) (y := .bool true) (by rw [hf])) ?_)
 intro w7 g8
 replace hc4 := g8.heap hc4
 replace G := G.tr g8
 clear g8
 refine stp (r_not_f rfl rfl ?_)
 refine WL_nil ?_
 refine W_false rfl ?_
 refine W_skip ?_
 refine W_seq (W_region rfl ?_)
 refine stp (r_fieldAddr rfl ?_)
 refine stp (r_load (v := .slice (some ⟨q0, o0, none⟩) sz.length c) rfl hc4 rfl ?_)
 refine WL_some (og rfl ?_)
 have hG4 := G.size
 refine r_call rfl (cloneN_calls _ hc hc2 (R.grow G) (fun q_ hq_ => by obtain ⟨z_, -, rfl⟩ := List.mem_map.1 hq_; rfl) (by omega)) ?_
 rintro vb w9 ⟨oS_, g_⟩
 have oS := own_base oS_ hG4
 clear oS_
 replace hc4 := g_.heap hc4
 replace G := G.tr g_
 clear g_
 obtain ⟨ads, cs, rfl, hcs⟩ := own_shape oS
 refine stp (r_fieldAddr rfl ?_)
 refine stn (r_store1 (v := .slice ads sz.length cs) rfl rfl (by rfl) hc4 (by rfl) (by rfl) ?_)
 intro w10 hc11 u12
 replace oS := own_upd oS u12 (own_ne oS hc4 (by decide))
 replace G := G.upd u12 hge6
 clear u12 hc4
 refine WL_nil ?_
 have hM := G.size
 obtain ⟨M, hMe⟩ : ∃ M, M = w10.heap.size := ⟨_, rfl⟩
 have hMw : M ≤ w10.heap.size := by rw [hMe]; exact Nat.le_refl _
 have hwM : w.heap.size ≤ M := by rw [hMe]; exact hM
 obtain ⟨_, _, hs9, -, -, RS⟩ := own_row oS (by omega)
 cases hs9
 refine W_seq ?_
 refine W_any 12 [[], [], [0], [], [0], [1, 0], [], [3, 2, 0], [4, 3, 1, 0], [7, 6, 5, 4, 3, 2, 1, 0], [9, 8, 7, 6, 5, 4, 3, 2, 1, 0], [10, 9, 8, 7, 6, 5, 4, 3, 2, 1, 0]] mixed (by kernel_rfl) (by kernel_rfl) (by kernel_rfl) ?_
 intro w13 g14
 replace oS := own_grow oS g14
 replace hc11 := g14.heap hc11
 replace hMw := Nat.le_trans hMw g14.size
 replace RS := RS.grow g14
 replace G := G.tr g14
 clear g14
 apply AO_ex
 ·intro w_ g_; refine og rfl ?_; refine r_loadAll rfl (g_.heap hc11) (by rfl) ?_; exact ⟨Grow.rfl' _, rfl⟩
 apply AO_ex
 ·intro w_ g_; refine og rfl ?_; refine r_fieldAddr rfl ?_; exact ⟨Grow.rfl' _, rfl⟩
 apply AO_ex
 ·intro w_ g_; refine og rfl ?_; refine r_load (v := .slice ads sz.length cs) rfl (g_.heap hc11) rfl ?_; exact ⟨Grow.rfl' _, rfl⟩
 apply AO_ex
 ·intro w_ g_; refine og rfl ?_; refine r_loadAll rfl (g_.heap hc11) (by rfl) ?_; exact ⟨Grow.rfl' _, rfl⟩
 apply AO_ex
 ·intro w_ g_; refine og rfl ?_; exact r_gives (v := .int .i64 (wordsM sz : Int)) rfl (mwords_calls _ (RS.grow g_) hrz) (fun w2_ g2_ => ⟨g2_, rfl⟩)
 refine AO_so (fun w_ v_ => (∃ b c, v_ = .slice (some ⟨b, 0, none⟩) (wordsM sz) c ∧ M ≤ b ∧ w_.ownsRow M 33 1 (.slice (some ⟨b, 0, none⟩) (wordsM sz) c) (wordsM sz) ((List.replicate (wordsM sz) (0 : Int)).map (.int .u64)))) (fun _ _ _ g_ ⟨b, c, h1_, h2_, h3_⟩ => ⟨b, c, h1_, h2_, own_grow h3_ g_⟩) ?_ ?_
 ·intro w_ g_
  refine og rfl ?_
  refine r_make (n := wordsM sz) (base := M) rfl rfl (by first | omega | (simp only [maxLen]; omega)) (by first | omega | (simp only [maxLen]; omega)) (Nat.le_trans hMw g_.size) ?_
  intro b_ w2_ hb_ ho_ g2_
  rw [show (madeCells (Value.cells (.int .u64 0)) (wordsM sz * 1)).toList = List.replicate (wordsM sz) (.int .u64 0) from by rw [Nat.mul_one]; exact toList_madeCells_one _ _] at ho_
  exact ⟨g2_, b_, _, rfl, own_ge ho_ _ rfl, by rw [List.map_replicate]; exact ho_⟩
 apply AO_ex
 ·intro w_ g_; refine og rfl ?_; refine r_loadAll rfl (g_.heap hc11) (by rfl) ?_; exact ⟨Grow.rfl' _, rfl⟩
 apply AO_ex
 ·intro w_ g_; refine og rfl ?_; exact r_gives (v := .int .i64 (chunksM sz : Int)) rfl (mchunks_calls _ (RS.grow g_) hrz) (fun w2_ g2_ => ⟨g2_, rfl⟩)
 refine AO_so (fun w_ v_ => (∃ b c, v_ = .slice (some ⟨b, 0, none⟩) ((chunksM sz + 7) / 8) c ∧ M ≤ b ∧ w_.ownsRow M 5 1 (.slice (some ⟨b, 0, none⟩) ((chunksM sz + 7) / 8) c) ((chunksM sz + 7) / 8) ((List.replicate ((chunksM sz + 7) / 8) (0 : Int)).map (.int .u8)))) (fun _ _ _ g_ ⟨b, c, h1_, h2_, h3_⟩ => ⟨b, c, h1_, h2_, own_grow h3_ g_⟩) ?_ ?_
 ·intro w_ g_
  refine og rfl ?_
  refine r_call rfl (bmake_calls w_ (n := chunksM sz) (by omega)) ?_
  rintro v9_ w9_ ⟨b_, rfl, hb_, ho_, g9_⟩
  have hb2_ := Nat.le_trans hMw (Nat.le_trans g_.size hb_)
  exact ⟨g9_, b_, _, rfl, hb2_, own_base ho_ (Nat.le_trans hMw g_.size)⟩
 refine AO_so (fun w_ v_ => ∃ x5 x8, (∃ b c, x5 = .slice (some ⟨b, 0, none⟩) (wordsM sz) c ∧ M ≤ b ∧ w_.ownsRow M 33 1 (.slice (some ⟨b, 0, none⟩) (wordsM sz) c) (wordsM sz) ((List.replicate (wordsM sz) (0 : Int)).map (.int .u64))) ∧ (∃ b c, x8 = .slice (some ⟨b, 0, none⟩) ((chunksM sz + 7) / 8) c ∧ M ≤ b ∧ w_.ownsRow M 5 1 (.slice (some ⟨b, 0, none⟩) ((chunksM sz + 7) / 8) c) ((chunksM sz + 7) / 8) ((List.replicate ((chunksM sz + 7) / 8) (0 : Int)).map (.int .u8))) ∧ v_ = .agg #[.slice ads sz.length cs, x5, x8]) (fun _ _ _ g_ h_ => by obtain ⟨x5, x8, ⟨b, c, h1_, h2_, h3_⟩, ⟨b', c', h4_, h5_, h6_⟩, h7_⟩ := h_; exact ⟨x5, x8, ⟨b, c, h1_, h2_, own_grow h3_ g_⟩, ⟨b', c', h4_, h5_, own_grow h6_ g_⟩, h7_⟩) ?_ ?_
 ·intro w_ g_
  intro v5_ hv5_; intro v8_ hv8_; show OpG _ _ _ _ _ _
  refine og rfl ?_
  obtain ⟨b5, c5, rfl, h51, h52⟩ := hv5_
  obtain ⟨b8, c8, rfl, h81, h82⟩ := hv8_
  refine r_build (v := .agg #[.slice ads sz.length cs, .slice (some ⟨b5, 0, none⟩) (wordsM sz) c5, .slice (some ⟨b8, 0, none⟩) ((chunksM sz + 7) / 8) c8]) (fun w => by kernel_rfl) ?_
  exact ⟨Grow.rfl' _, _, _, ⟨b5, c5, rfl, h51, h52⟩, ⟨b8, c8, rfl, h81, h82⟩, rfl⟩
 refine AO_so (fun w_ v_ => ∃ x5 x8, (∃ b c, x5 = .slice (some ⟨b, 0, none⟩) (wordsM sz) c ∧ M ≤ b ∧ w_.ownsRow M 33 1 (.slice (some ⟨b, 0, none⟩) (wordsM sz) c) (wordsM sz) ((List.replicate (wordsM sz) (0 : Int)).map (.int .u64))) ∧ (∃ b c, x8 = .slice (some ⟨b, 0, none⟩) ((chunksM sz + 7) / 8) c ∧ M ≤ b ∧ w_.ownsRow M 5 1 (.slice (some ⟨b, 0, none⟩) ((chunksM sz + 7) / 8) c) ((chunksM sz + 7) / 8) ((List.replicate ((chunksM sz + 7) / 8) (0 : Int)).map (.int .u8))) ∧ v_ = .agg #[.int .u64 ses, .slice ads sz.length cs, .int .u32 sum, .slice ads sz.length cs, x5, x8]) (fun _ _ _ g_ h_ => by obtain ⟨x5, x8, ⟨b, c, h1_, h2_, h3_⟩, ⟨b', c', h4_, h5_, h6_⟩, h7_⟩ := h_; exact ⟨x5, x8, ⟨b, c, h1_, h2_, own_grow h3_ g_⟩, ⟨b', c', h4_, h5_, own_grow h6_ g_⟩, h7_⟩) ?_ ?_
 ·intro w_ g_
  intro v5_ hv5_; intro v8_ hv8_; intro v9_ hv9_; show OpG _ _ _ _ _ _
  refine og rfl ?_
  obtain ⟨x5, x8, ⟨b5, c5, rfl, h51, h52⟩, ⟨b8, c8, rfl, h81, h82⟩, rfl⟩ := hv9_
  refine r_build (v := .agg #[.int .u64 ses, .slice ads sz.length cs, .int .u32 sum, .slice ads sz.length cs, .slice (some ⟨b5, 0, none⟩) (wordsM sz) c5, .slice (some ⟨b8, 0, none⟩) ((chunksM sz + 7) / 8) c8]) (fun w => by kernel_rfl) ?_
  exact ⟨Grow.rfl' _, _, _, ⟨b5, c5, rfl, h51, h52⟩, ⟨b8, c8, rfl, h81, h82⟩, rfl⟩
 refine AO_so (fun w_ v_ => ∃ x5 x8, (∃ b c, x5 = .slice (some ⟨b, 0, none⟩) (wordsM sz) c ∧ M ≤ b ∧ w_.ownsRow M 33 1 (.slice (some ⟨b, 0, none⟩) (wordsM sz) c) (wordsM sz) ((List.replicate (wordsM sz) (0 : Int)).map (.int .u64))) ∧ (∃ b c, x8 = .slice (some ⟨b, 0, none⟩) ((chunksM sz + 7) / 8) c ∧ M ≤ b ∧ w_.ownsRow M 5 1 (.slice (some ⟨b, 0, none⟩) ((chunksM sz + 7) / 8) c) ((chunksM sz + 7) / 8) ((List.replicate ((chunksM sz + 7) / 8) (0 : Int)).map (.int .u8))) ∧ ∃ b, v_ = .pointer (some ⟨b, 0, none⟩) ∧ M ≤ b ∧ w_.heap[b]? = some (.cells #[.int .u64 ses, .slice ads sz.length cs, .int .u32 sum, .slice ads sz.length cs, x5, x8] 80 (0, 0))) (fun _ _ _ g_ h_ => by obtain ⟨x5, x8, ⟨b, c, h1_, h2_, h3_⟩, ⟨b', c', h4_, h5_, h6_⟩, ⟨b9, h7_, h8_, h9_⟩⟩ := h_; exact ⟨x5, x8, ⟨b, c, h1_, h2_, own_grow h3_ g_⟩, ⟨b', c', h4_, h5_, own_grow h6_ g_⟩, ⟨b9, h7_, h8_, g_.heap h9_⟩⟩) ?_ ?_
 ·intro w_ g_
  intro v5_ hv5_; intro v8_ hv8_; intro v9_ hv9_; intro v10_ hv10_; show OpG _ _ _ _ _ _
  refine og rfl ?_
  obtain ⟨x5, x8, ⟨b5, c5, rfl, h51, h52⟩, ⟨b8, c8, rfl, h81, h82⟩, rfl⟩ := hv10_
  refine r_box_agg rfl ?_
  intro b_ w2_ hb_ hc_ g2_
  exact ⟨g2_, _, _, ⟨b5, c5, rfl, h51, own_grow h52 g2_⟩, ⟨b8, c8, rfl, h81, own_grow h82 g2_⟩, b_, rfl, Nat.le_trans hMw (Nat.le_trans g_.size hb_), hc_⟩
 refine AO_nil ?_
 intro w15 g16
 replace oS := own_grow oS g16
 replace hc11 := g16.heap hc11
 replace hMw := Nat.le_trans hMw g16.size
 replace RS := RS.grow g16
 replace G := G.tr g16
 clear g16
 intro v_w hv_w
 intro v_k hv_k
 intro v_s hv_s
 intro v_p hv_p
 intro v_b hv_b
 obtain ⟨x5, x8, ⟨g, cw, rfl, hgM, oW⟩, ⟨h, ck, rfl, hhM, oK⟩, b, rfl, hbM, hcb⟩ := hv_b
 refine stp (r_assign (v := .pointer (some ⟨b, 0, none⟩)) rfl ?_)
 refine stp (r_assign_int rfl ?_)
 refine WL_nil ?_
 refine W_ret ?_
 refine ret2 (res_tmp (v := .pointer (some ⟨b, 0, none⟩)) rfl) (res_tmp (v := .int .u16 0) rfl) ⟨b, g, h, rfl, ⟨hf, by simp, by simp, fun x hx_ => by rw [List.eq_of_mem_replicate hx_]; simp [inR], fun x hx_ => by rw [List.eq_of_mem_replicate hx_]; simp [inR], Nat.le_trans hwM hbM, ads, cs, cw, ck, by simpa using hcb, oS, by simpa [wordsV] using own_base oW hwM, by simpa using own_base oK hwM⟩, G⟩
end Go.Proofs.Ytifhcfhdajkhlaa.K

namespace Go.Proofs.Ytifhcfhdajkhlaa.K
open Go Go.RowKit Go.Proofs
attribute [local irreducible] Run1 OpG WL W AO Gives
set_option maxRecDepth 100000 in
theorem pput_calls (w : World) {base b g h : Nat} {ses sum : Int} {sz wl kb : List Int} (H : PartR 80 3 33 5 w base b g h ses sum sz wl kb) {adb : Option Addr} {cb : Nat} {xs : List Int} (RX : RowAt w 1 adb xs.length (xs.map (.int .u8))) (hxx : isB xs) (hcb : xs.length ≤ cb) (hdis : 0 < xs.length → ∀ q o, adb = some ⟨q, o, none⟩ → q ≠ g) {i : Int} (gi : inR .i64 i) : Calls Try.prog 18 #[.pointer (some ⟨b, 0, none⟩), .int .i64 i, .slice adb xs.length cb] w (Ret fun v w' => ∃ h', v = .bool (putOk sz i xs.length) ∧ PartR 80 3 33 5 w' base b g h' ses sum sz (putW sz wl kb i xs) (putK sz kb i xs.length) ∧ Kp [b, g] w w' ∧ (h' = h ∨ w.heap.size ≤ h')) := by
 have H0 := H
 obtain ⟨hfit, hlw, hlk, hub, huw, hb0, ads, cs, cw, ck, hB, oS, oW, oK⟩ := H
 have hle := wordsM_le sz
 have hwf := wordsM_fit hfit
 have hch : chunksM sz = (wordsM sz + 7) / 8 := rfl
 have hf16 := fitsL_of hfit
 have hrz : ∀ x ∈ sz, inR .i64 x := fits_rng hfit
 have hB0 := hB
 have lX := RX.lim
 obtain ⟨curg, hg0⟩ := H0.words
 have hltg := lt_of_heap hg0
 have hltb := lt_of_heap hB
 have hbg : b ≠ g := fun he => by rw [he, hg0] at hB; simp at hB
 have G := Grow.rfl' w
 refine calls_ret Try.func18 Try.ntmps18 Try.results18 rfl rfl ?_
 obtain ⟨_, _, hs9, hcs, hcs2, RS⟩ := own_row oS (by omega)
 cases hs9
 obtain ⟨_, _, hs9, hcw, hcw2, RW⟩ := own_row oW (by omega)
 cases hs9
 obtain ⟨_, _, hs9, hck, hck2, RK⟩ := own_row oK (by omega)
 cases hs9
 refine W_seq (W_region rfl ?_)
 refine stp (r_assign (v := .bool false) rfl ?_)
 refine WL_nil ?_
 refine W_seq ?_
 refine W_seq (W_region rfl ?_)
 refine stp (r_move_ptr rfl ?_)
 refine stp (r_eqlP Try.underlying31 rfl rfl ?_)
 refine stp (r_move (v := .bool false) rfl ?_)
 refine stp (r_move_int rfl ?_)
 refine stp (r_lss rfl rfl ?_)
 refine stp (r_pick_f (v := .bool (decide (i < 0))) rfl rfl rfl ?_)
 refine stp (r_move_bool rfl ?_)
 refine WL_some (og_if (s := .bool (decide (i < 0))) (b := false) (v := .int .i64 i) rfl (wgb_f _) (fun hc1 => ?_) ?_)
 ·
  have hc1_ := hc1
  try simp only [sb] at hc1_
  refine r_move_int rfl ?_
  exact ⟨rfl, rfl⟩
 refine WL_some (og_if (s := .bool (decide (i < 0))) (b := false) (v := .pointer (some ⟨b, 0, none⟩)) rfl (wgb_f _) (fun hc2 => ?_) ?_)
 ·
  have hc2_ := hc2
  try simp only [sb] at hc2_
  refine r_move_ptr rfl ?_
  exact ⟨rfl, rfl⟩
 refine WL_some (og_if (s := .bool (decide (i < 0))) (b := false) (v := .pointer (some ⟨b, 0, none⟩)) rfl (wgb_f _) (fun hc3 => ?_) ?_)
 ·
  have hc3_ := hc3
  try simp only [sb] at hc3_
  refine r_nilCheck (gvt hc3) ?_
  exact ⟨rfl, rfl⟩
 refine WL_some (og_if (s := .bool (decide (i < 0))) (b := false) (v := .pointer (some ⟨b, 0, none⟩)) rfl (wgb_f _) (fun hc4 => ?_) ?_)
 ·
  have hc4_ := hc4
  try simp only [sb] at hc4_
  refine r_fieldAddr (gvt hc4) ?_
  exact ⟨rfl, rfl⟩
 refine WL_some (og_if (s := .bool (decide (i < 0))) (b := false) (v := .agg #[.int .u64 ses, .slice ads sz.length cs, .int .u32 sum]) rfl (wgb_f _) (fun hc5 => ?_) ?_)
 ·
  have hc5_ := hc5
  try simp only [sb] at hc5_
  refine r_loadN (gvt hc5) hB (by rfl) (by rfl) ?_
  exact ⟨rfl, rfl⟩
 refine WL_some (og_ifg (s := .bool (decide (i < 0))) (b := false) (v := .int .i64 (chunksM sz : Int)) rfl (wgb_f _) (fun hc6 => ?_) ?_)
 ·
  have hc6_ := hc6
  try simp only [sb] at hc6_
  exact r_givesA (l := ([.agg #[.int .u64 ses, .slice ads sz.length cs, .int .u32 sum]] : List Value)) rfl (by show ([gv (!(decide (i < 0))) (.agg #[.int .u64 ses, .slice ads sz.length cs, .int .u32 sum])] : List Value) = _; rw [gvt hc6]) (mchunks_calls _ (RS.grow G) hrz) (fun w2_ g2_ => ⟨rfl, g2_⟩)
 intro w7 g8
 replace hB := g8.heap hB
 replace G := G.tr g8
 clear g8
 refine WL_some (og_if (s := .bool (decide (i < 0))) (b := false) (v := .bool (decide (i ≥ (chunksM sz : Int)))) rfl (wgb_f _) (fun hc9 => ?_) ?_)
 ·
  have hc9_ := hc9
  try simp only [sb] at hc9_
  refine r_geq (gvt hc9) (gvt hc9) ?_
  exact ⟨rfl, rfl⟩
 refine stp (r_or2 rfl rfl rfl ?_)
 refine stp (r_move_bool rfl ?_)
 refine WL_some (og_if (s := .bool ((decide (i < 0)) || (decide (i ≥ (chunksM sz : Int))))) (b := false) (v := .slice adb xs.length cb) rfl (wgb_f _) (fun hc10 => ?_) ?_)
 ·
  have hc10_ := hc10
  try simp only [sb] at hc10_
  refine r_move_slice rfl ?_
  exact ⟨rfl, rfl⟩
 refine WL_some (og_if (s := .bool ((decide (i < 0)) || (decide (i ≥ (chunksM sz : Int))))) (b := false) (v := .int .i64 (xs.length : Int)) rfl (wgb_f _) (fun hc11 => ?_) ?_)
 ·
  have hc11_ := hc11
  try simp only [sb] at hc11_
  refine r_len rfl rfl (gvt hc11) ?_
  exact ⟨rfl, rfl⟩
 refine WL_some (og_if (s := .bool ((decide (i < 0)) || (decide (i ≥ (chunksM sz : Int))))) (b := false) (v := .pointer (some ⟨b, 0, none⟩)) rfl (wgb_f _) (fun hc12 => ?_) ?_)
 ·
  have hc12_ := hc12
  try simp only [sb] at hc12_
  refine r_move_ptr rfl ?_
  exact ⟨rfl, rfl⟩
 refine WL_some (og_if (s := .bool ((decide (i < 0)) || (decide (i ≥ (chunksM sz : Int))))) (b := false) (v := .pointer (some ⟨b, 0, none⟩)) rfl (wgb_f _) (fun hc13 => ?_) ?_)
 ·
  have hc13_ := hc13
  try simp only [sb] at hc13_
  refine r_nilCheck (gvt hc13) ?_
  exact ⟨rfl, rfl⟩
 refine WL_some (og_if (s := .bool ((decide (i < 0)) || (decide (i ≥ (chunksM sz : Int))))) (b := false) (v := .pointer (some ⟨b, 0, none⟩)) rfl (wgb_f _) (fun hc14 => ?_) ?_)
 ·
  have hc14_ := hc14
  try simp only [sb] at hc14_
  refine r_fieldAddr (gvt hc14) ?_
  exact ⟨rfl, rfl⟩
 refine WL_some (og_if (s := .bool ((decide (i < 0)) || (decide (i ≥ (chunksM sz : Int))))) (b := false) (v := .agg #[.int .u64 ses, .slice ads sz.length cs, .int .u32 sum]) rfl (wgb_f _) (fun hc15 => ?_) ?_)
 ·
  have hc15_ := hc15
  try simp only [sb] at hc15_
  refine r_loadN (gvt hc15) hB (by rfl) (by rfl) ?_
  exact ⟨rfl, rfl⟩
 refine WL_some (og_if (s := .bool ((decide (i < 0)) || (decide (i ≥ (chunksM sz : Int))))) (b := false) (v := .int .i64 i) rfl (wgb_f _) (fun hc16 => ?_) ?_)
 ·
  have hc16_ := hc16
  try simp only [sb] at hc16_
  refine r_move_int rfl ?_
  exact ⟨rfl, rfl⟩
 refine WL_some (og_ifg (s := .bool ((decide (i < 0)) || (decide (i ≥ (chunksM sz : Int))))) (b := false) (v := .int .i64 (sizeM sz i)) rfl (wgb_f _) (fun hc17 => ?_) ?_)
 ·
  have hc17_ := hc17
  try simp only [sb] at hc17_
  exact r_givesA (l := ([.agg #[.int .u64 ses, .slice ads sz.length cs, .int .u32 sum], .int .i64 i] : List Value)) rfl (by show ([gv (!((decide (i < 0)) || (decide (i ≥ (chunksM sz : Int))))) (.agg #[.int .u64 ses, .slice ads sz.length cs, .int .u32 sum]), gv (!((decide (i < 0)) || (decide (i ≥ (chunksM sz : Int))))) (.int .i64 i)] : List Value) = _; rw [gvt hc17, gvt hc17]) (msize_calls _ (RS.grow G) hrz gi) (fun w2_ g2_ => ⟨rfl, g2_⟩)
 intro w18 g19
 replace hB := g19.heap hB
 replace G := G.tr g19
 clear g19
 refine WL_some (og_if (s := .bool ((decide (i < 0)) || (decide (i ≥ (chunksM sz : Int))))) (b := false) (v := .bool (decide ((xs.length : Int) ≠ (sizeM sz i)))) rfl (wgb_f _) (fun hc20 => ?_) ?_)
 ·
  have hc20_ := hc20
  try simp only [sb] at hc20_
  refine r_neq (gvt hc20) (gvt hc20) ?_
  exact ⟨rfl, rfl⟩
 refine stp (r_or2 rfl rfl rfl ?_)
 refine WL_nil ?_
 refine W_cond2 (b := (((decide (i < 0)) || (decide (i ≥ (chunksM sz : Int)))) || (decide ((xs.length : Int) ≠ (sizeM sz i))))) rfl (fun h1 => ?_) (fun h1 => ?_)
 ·-- true
  simp only [sb] at h1
  have hno : putOk sz i xs.length = false := by unfold putOk; exact decide_eq_false (by omega)
  have hd : putDo sz kb i xs.length = false := putDo_no (.inl hno)
  refine W_seq (W_region rfl ?_)
  refine stp (r_assign (v := .bool false) rfl ?_)
  refine WL_nil ?_
  refine W_ret ?_
  refine ret1 (res_tmp (v := .bool false) rfl) ⟨h, by rw [hno], by unfold putW putK; rw [hd]; exact H0.grow G, Kp.of_grow G, .inl rfl⟩
 ·-- false
  simp only [sb] at h1
  have hyes : putOk sz i xs.length = true := by unfold putOk; exact decide_eq_true (by omega)
  obtain ⟨m, rfl⟩ : ∃ m : Nat, i = (m : Int) := ⟨i.toNat, by omega⟩
  obtain ⟨hm1, hm2, hm3, hm4, hm5⟩ := put_fits hyes
  refine W_skip ?_
  refine W_seq ?_
  refine W_seq (W_region rfl ?_)
  refine stp (r_move_ptr rfl ?_)
  refine stp (r_nilCheck rfl ?_)
  refine stp (r_fieldAddr rfl ?_)
  refine stp (r_fieldAddr rfl ?_)
  refine stp (r_load (v := .slice (some ⟨h, 0, none⟩) kb.length ck) rfl hB rfl ?_)
  refine stp (r_move_int rfl ?_)
  refine stp (r_gives (v := .bool (bitQ kb m)) rfl (bitget_calls _ (RK.grow G) hub (i := m) (by omega)) ?_)
  intro w21 g22
  replace hB := g22.heap hB
  replace G := G.tr g22
  clear g22
  refine WL_nil ?_
  refine W_cond2 (b := (bitQ kb m)) rfl (fun h2 => ?_) (fun h2 => ?_)
  ·-- true
   have hd : putDo sz kb m xs.length = false := putDo_no (.inr h2)
   refine W_seq (W_region rfl ?_)
   refine stp (r_assign (v := .bool true) rfl ?_)
   refine WL_nil ?_
   refine W_ret ?_
   refine ret1 (res_tmp (v := .bool true) rfl) ⟨h, by rw [hyes], by unfold putW putK; rw [hd]; exact H0.grow G, Kp.of_grow G, .inl rfl⟩
  ·-- false
   have hd : putDo sz kb m xs.length = true := putDo_of hyes h2
   refine W_skip ?_
   refine W_seq (W_region rfl ?_)
   refine stp (r_move_ptr rfl ?_)
   refine stp (r_nilCheck rfl ?_)
   refine stp (r_fieldAddr rfl ?_)
   refine stp (r_fieldAddr rfl ?_)
   refine stp (r_load (v := .slice (some ⟨g, 0, none⟩) wl.length cw) rfl hB rfl ?_)
   refine stp (r_move_int rfl ?_)
   refine stp (r_mul rfl rfl ?_ ?_); constructor <;> omega
   refine WL_some (og rfl ?_)
   refine r_sliceL rfl rfl (by omega) (by omega) ?_
   rw [show ((m : Int) * 8).toNat = 8 * m from by omega, if_neg (by omega), show (Option.map (fun x => x.add (8 * m * 1)) (some (⟨g, 0, none⟩ : Addr))) = some ⟨g, 8 * m, none⟩ from by rw [Option.map_some, add_lit, Nat.zero_add, Nat.mul_one]]
   refine stp (r_alloc ?_)
   intro b23 w24 hb25 hc26 g27
   refine stn (r_store1 (v := .slice (some ⟨g, 8 * m, none⟩) (wl.length - 8 * m) (cw - 8 * m)) rfl rfl (by rfl) hc26 (by rfl) (by rfl) ?_)
   intro w28 hc29 u30
   have g31 := g27.upd u30 hb25
   have hge32 := Nat.le_trans G.size hb25
   have ne33 := Nat.ne_of_lt (Nat.lt_of_lt_of_le (lt_of_heap hB) hb25)
   replace hB := g31.heap hB
   replace G := G.tr g31
   clear u30 g27 hb25 hc26
   refine WL_nil ?_
   refine W_seq (W_region rfl ?_)
   refine stp (r_alloc ?_)
   intro b34 w35 hb36 hc37 g38
   refine stn (r_store1 (v := .int .i64 0) rfl rfl (by rfl) hc37 (by rfl) (by rfl) ?_)
   intro w39 hc40 u41
   have g42 := g38.upd u41 hb36
   have hge43 := Nat.le_trans G.size hb36
   have ne44 := Nat.ne_of_lt (Nat.lt_of_lt_of_le (lt_of_heap hB) hb36)
   have ne45 := Nat.ne_of_lt (Nat.lt_of_lt_of_le (lt_of_heap hc29) hb36)
   replace hB := g42.heap hB
   replace hc29 := g42.heap hc29
   replace G := G.tr g42
   clear u41 g38 hb36 hc37
   refine WL_nil ?_
   refine W_seq ?_
   refine W_seq (W_region rfl ?_)
   refine stp (r_move_slice rfl ?_)
   refine WL_some (og rfl ?_)
   refine r_call rfl (chunk_calls _) ?_
   rintro v_ w46 ⟨q1, q2, rfl, hq1, hq2, hc1, hc2, g_⟩
   have hq1b := Nat.lt_of_lt_of_le (lt_of_heap hc40) hq1
   have hq2b := Nat.lt_of_lt_of_le (lt_of_heap hc40) hq2
   have hq1w := Nat.le_trans G.size hq1
   have hq2w := Nat.le_trans G.size hq2
   replace hB := g_.heap hB
   replace hc29 := g_.heap hc29
   replace hc40 := g_.heap hc40
   replace G := G.tr g_
   clear g_
   refine WL_nil ?_
   refine W_block ?_
   refine W_rangeC rfl rfl ?_
   intro rc hst hpd hps has hbd hsz hge l w6 hl hlp hmk g6 hw6
   have lt_hc29 := lt_of_heap hc29
   have lt_hc40 := lt_of_heap hc40
   have lt_hc1 := lt_of_heap hc1
   have lt_hc2 := lt_of_heap hc2
   replace hB := g6.heap hB
   replace hc29 := g6.heap hc29
   replace hc40 := g6.heap hc40
   replace hc1 := g6.heap hc1
   replace hc2 := g6.heap hc2
   have hGs := G.size
   have hg7 := hge32
   have hg8 := hge43
   have hn78 := ne45
   replace G := G.tr g6
   generalize hmm : w46.heap.size = mk at *
   obtain ⟨N, hN⟩ : ∃ N, N = (xs.length + 7) / 8 := ⟨_, rfl⟩
   refine Calls.mono (chunk1_calls w6 (l := l) hcb lX (fun j W => W.ownsRow base 33 1 (.slice (some ⟨g, 0, none⟩) wl.length cw) wl.length (wordsV (ovl wl (8 * m) ((List.range j).map (chunkP xs)))) ∧ W.heap[b23]? = some (.cells #[.slice (some ⟨g, 8 * m, none⟩) (wl.length - 8 * m) (cw - 8 * m)] 63 (0, 0)) ∧ W.heap[b34]? = some (.cells #[.int .i64 (j : Int)] 3 (0, 0)) ∧ W.heap[q1]? = some (.cells #[.slice adb xs.length cb] 22 (0, 0)) ∧ W.heap[q2]? = some (.cells #[.int .i64 8] 3 (0, 0)) ∧ W.heap[l]? = some (.loop rc) ∧ W.heap[mk]? = some (.deferred (some [])) ∧ Kp [g] w W) (fun i w' h => ⟨h.2.2.2.1, h.2.2.2.2.1⟩) (fun i w' w'' g ⟨o1, o2, o3, o4, o5, o6, o7, o8⟩ => ⟨own_grow o1 g, g.heap o2, g.heap o3, g.heap o4, g.heap o5, g.heap o6, g.heap o7, o8.tr g.kp⟩) ?_ ⟨by rw [List.range_zero, List.map_nil, ovl_nil]; exact own_grow oW G, hc29, hc40, hc1, hc2, hlp, hmk, Kp.of_grow G⟩) ?_
   ·rintro j w7 hj ⟨own2, h1, h3, h4, h5, h6, h7, K7⟩
    refine yields_of_W (ps := [54]) (vs := [_]) (n := 75) h6 hps rfl hsz (by rfl) hge ?_
    rw [has, hbd]
    refine W_region rfl ?_
    refine stp (r_assign_slice rfl ?_)
    refine WL_nil ?_
    refine ⟨rc, h6, hst, ?_⟩
    have u1 := upd_put (o' := .loop { rc with state := .busy }) h6
    have k6 := put_same (o' := .loop { rc with state := .busy }) h6
    have k2 := own_upd own2 u1 (own_ne_loop own2 h6)
    have k1 := u1.heap h1 (fun he_ => by rw [he_, h6] at h1; cases h1)
    have k3 := u1.heap h3 (fun he_ => by rw [he_, h6] at h3; cases h3)
    have k4 := u1.heap h4 (fun he_ => by rw [he_, h6] at h4; cases h4)
    have k5 := u1.heap h5 (fun he_ => by rw [he_, h6] at h5; cases h5)
    have k7 := u1.heap h7 (by omega)
    have K8 := K7.upd_new u1 (by omega)
    generalize w7.putObj l (.loop { rc with state := .busy }) = w8 at *
    clear u1 h1 own2 h3 h4 h5 h7 K7
    have hcn : chunkN xs.length j ≤ 8 := by unfold chunkN; omega
    have Rj : RowAt w8 1 (if 8 * j + chunkN xs.length j = 8 * j then adb else adb.map (·.add (8 * j * 1))) (chunkN xs.length j) (((xs.drop (8 * j)).take 8).map (.int .u8)) := by
     have h_ := (keepX RX K8 hdis).chunk (l := 8 * j) (m := chunkN xs.length j) (by unfold chunkN; omega)
     rwa [← List.map_drop, ← List.map_take, drop_chunk] at h_
    have hlenj : chunkN xs.length j = ((xs.drop (8 * j)).take 8).length := by rw [List.length_take, List.length_drop, chunkN]
    have hxj : ∀ x ∈ (xs.drop (8 * j)).take 8, inR .u8 x := fun x hx_ => hxx x (List.mem_of_mem_drop (List.mem_of_mem_take hx_))
    have hjn : j < (xs.length + 7) / 8 := by omega
    refine W_block ?_
    refine W_seq (W_region rfl ?_)
    refine stp (r_load (v := .slice (some ⟨g, 8 * m, none⟩) (wl.length - 8 * m) (cw - 8 * m)) rfl k1 rfl ?_)
    refine stp (r_load (v := .int .i64 (j : Int)) rfl k3 rfl ?_)
    refine WL_some (og rfl ?_)
    refine r_indexAddr (b := g) (o := 8 * m) rfl rfl (by omega) (by omega) ?_
    rw [show 8 * m + ((j : Int)).toNat * 1 = 8 * m + j from by omega]
    refine stp (r_assign_ptr rfl ?_)
    refine WL_nil ?_
    refine W_seq (W_region rfl ?_)
    refine stp (r_move_ptr rfl ?_)
    refine stp (r_move_slice rfl ?_)
    refine stp (r_gives (v := .int .u64 (chunkP xs j)) rfl (gives_eq (get8_calls _ hlenj (Nat.le_refl _) Rj hxj) (y := .int .u64 (chunkP xs j)) (by rw [List.take_take]; rfl)) ?_)
    intro w47 g48
    replace k1 := g48.heap k1
    replace k3 := g48.heap k3
    replace k4 := g48.heap k4
    replace k5 := g48.heap k5
    replace k6 := g48.heap k6
    replace k7 := g48.heap k7
    replace k2 := own_grow k2 g48
    replace K8 := K8.tr g48.kp
    replace Rj := Rj.grow g48
    clear g48
    refine stp (r_nilCheck rfl ?_)
    refine WL_none (og rfl ?_)
    obtain ⟨g5, c5, cur5, he5, hg5b, hg5, hc51, hc52, hc53, hc54⟩ := own_pos k2 (by omega)
    simp only [Value.slice.injEq, Option.some.injEq, Addr.mk.injEq, and_true, true_and] at he5
    obtain ⟨he5, he6⟩ := he5
    subst he5
    subst he6
    refine r_store1 (v := .int .u64 (chunkP xs j)) rfl rfl rfl hg5 (Nat.ble_eq_true_of_le (by omega)) rfl ?_
    intro w9 hs9 u9
    have m2 := own_setcell (i := 8 * m + j) (x := .int .u64 (chunkP xs j)) k2 hg5 hs9 (by simp)
    have hgl := lt_of_heap hg0
    have m1 := u9.heap k1 (by omega)
    have m3 := u9.heap k3 (by omega)
    have m4 := u9.heap k4 (by omega)
    have m5 := u9.heap k5 (by omega)
    have m6 := u9.heap k6 (by omega)
    have m7 := u9.heap k7 (by omega)
    have K9 := K8.tr (Kp.of_upd u9 (by simp))
    clear k1 k3 k4 k5 k6 k7 k2 K8 Rj u9 hs9 hg5
    refine WL_nil ?_
    refine W_region rfl ?_
    refine stp (r_load (v := .int .i64 (j : Int)) rfl m3 rfl ?_)
    refine stp (r_add rfl rfl ?_ ?_); constructor <;> omega
    refine stn (r_store1 (v := .int .i64 ((j : Int) + 1)) rfl rfl (by rfl) m3 (by rfl) (by rfl) ?_)
    intro w10 n3 u10
    have n6 := u10.heap m6 (fun he_ => by rw [he_, m3] at m6; cases m6)
    have n1 := u10.heap m1 (by omega)
    have n4 := u10.heap m4 (by omega)
    have n5 := u10.heap m5 (by omega)
    have n7 := u10.heap m7 (by omega)
    have n2 := own_upd m2 u10 (own_ne m2 m3 (by decide))
    have K10 := K9.upd_new u10 (by omega)
    clear m1 m3 m4 m5 m6 m7 m2 K9 u10
    refine WL_nil ?_
    have u2 := upd_put (o' := .loop rc) n6
    refine ⟨_, n6, ?_⟩
    rw [loop_again hst hpd]
    have hov : ovl wl (8 * m) ((List.range (j + 1)).map (chunkP xs)) = (ovl wl (8 * m) ((List.range j).map (chunkP xs))).set (8 * m + j) (chunkP xs j) := by rw [List.range_succ, List.map_append]; have h_ := ovl_snoc (wl := wl) (l := ((List.range j).map (chunkP xs))) (a := 8 * m) (x := chunkP xs j) (by simp; omega); rw [List.length_map, List.length_range] at h_; exact h_
    refine ⟨rfl, by rw [hov, wordsV, List.map_set]; exact own_upd n2 u2 (own_ne_loop n2 n6), u2.heap n1 (fun he_ => by rw [he_, n6] at n1; cases n1), ?_, u2.heap n4 (fun he_ => by rw [he_, n6] at n4; cases n4), u2.heap n5 (fun he_ => by rw [he_, n6] at n5; cases n5), put_same n6, u2.heap n7 (by omega), K10.upd_new u2 (by omega)⟩
    have n3' := u2.heap n3 (fun he_ => by rw [he_, n6] at n3; cases n3)
    exact n3'
   ·rintro r_ w7 ⟨v_, rfl, own2, h1, h3, h4, h5, h6, h7, K7⟩
    refine ⟨_, rc, rfl, h6, by rw [hst]; simp, ?_⟩
    simp only [hpd]
    have u1 := upd_put (o' := .loop { rc with state := .exhausted, pending := none }) h6
    have k7 := u1.heap h7 (by omega)
    have k2 := own_upd own2 u1 (own_ne_loop own2 h6)
    have K8 := K7.upd_new u1 (by omega)
    generalize w7.putObj l _ = w8 at *
    clear u1 h1 h3 h4 h5 own2 K7
    have kB := K8.heap hB0 (by simpa using hbg)
    have oK8 := own_keepB oK K8 (fun q hq hm_ => by simp only [List.mem_singleton] at hm_; simp only [Value.ownBlock, Option.some.injEq] at hq; exact own_ne oK hg0 (by decide) (by rw [hm_] at hq; simp [Value.ownBlock, hq]))
    obtain ⟨_, _, hs9, -, -, RK8⟩ := own_row oK8 (by omega)
    cases hs9
    refine W_seq (W_region rfl ?_)
    refine stp (r_move_ptr rfl ?_)
    refine stp (r_move_ptr rfl ?_)
    refine stp (r_nilCheck rfl ?_)
    refine stp (r_fieldAddr rfl ?_)
    refine stp (r_fieldAddr rfl ?_)
    refine stp (r_load (v := .slice (some ⟨h, 0, none⟩) kb.length ck) rfl kB rfl ?_)
    refine stp (r_move_int rfl ?_)
    refine WL_some (og rfl ?_)
    have hsz8 := K8.size
    refine r_call rfl (bset_calls _ hck hck2 RK8 hub (i := m) (by omega) (by omega)) ?_
    rintro vb w9 ⟨h9, c9, rfl, hh9, oK9, g_⟩
    replace k7 := g_.heap k7
    replace k2 := own_grow k2 g_
    replace K8 := K8.tr g_.kp
    replace kB := g_.heap kB
    replace RK8 := RK8.grow g_
    clear g_
    refine stp (r_nilCheck rfl ?_)
    refine stp (r_fieldAddr rfl ?_)
    refine stp (r_fieldAddr rfl ?_)
    refine stn (r_store1 (v := .slice (some ⟨h9, 0, none⟩) kb.length c9) rfl rfl (by rfl) kB (by rfl) (by rfl) ?_)
    intro w10 n1 u10
    have n7 := u10.heap k7 (by omega)
    have n2 := own_upd k2 u10 (own_ne k2 kB (by decide))
    have n3 := own_upd oK9 u10 (own_ne oK9 kB (by decide))
    have K10 : Kp [b, g] w w10 := (K8.mono (F' := [b, g]) (fun x hx => by simp only [List.mem_singleton] at hx; subst hx; simp)).tr (Kp.of_upd u10 (by simp))
    refine WL_nil ?_
    refine W_seq (W_region rfl ?_)
    refine stp (r_assign (v := .bool true) rfl ?_)
    refine WL_nil ?_
    refine W_ret ?_
    have u2 := upd_put (o' := .deferred none) n7
    have K11 := K10.upd_new u2 (by omega)
    have p1 := u2.heap n1 (by omega)
    have p2 := own_upd n2 u2 (own_ne_def n2 n7)
    have p3 := own_upd n3 u2 (own_ne_def n3 n7)
    have p4 := own_keepB oS K11 (fun q hq hm_ => by simp only [List.mem_cons, List.not_mem_nil, or_false] at hm_; rcases hm_ with rfl | rfl; exact own_ne oS hB0 (by decide) hq; exact own_ne oS hg0 (by decide) hq)
    have hol : (ovl wl (8 * m) (chunksP xs)).length = wl.length := ovl_len (by rw [chunksP_len]; omega)
    have hsl := setQ_len kb m
    refine retM (vs := [_]) ⟨mk, _, rfl, run_takeDeferred n7, rfl⟩ ⟨rfl, trivial⟩ ⟨h9, by rw [hyes]; rfl, ?_, K11, .inr (Nat.le_trans hsz8 hh9)⟩
    unfold putW putK; rw [hd, if_pos rfl, if_pos rfl, Int.toNat_natCast]
    refine ⟨hfit, by rw [hol]; exact hlw, by rw [hsl]; exact hlk, setQ_isB hub m, ovl_mem huw (chunksP_u64 hxx), hb0, ads, cs, cw, c9, ?_, p4, ?_, ?_⟩
    ·rw [hol, hsl]; exact p1
    ·rw [hol]; exact p2
    ·rw [hsl]; exact own_base p3 (Nat.le_trans (Nat.le_trans hb0 (Nat.le_of_lt hltb)) hsz8)
end Go.Proofs.Ytifhcfhdajkhlaa.K

namespace Go.Proofs.Ytifhcfhdajkhlaa.K
open Go Go.RowKit Go.Proofs
attribute [local irreducible] Run1 OpG WL W AO Gives
set_option maxRecDepth 100000 in
theorem filled_calls (w : World) {u : Value} {A : List (List Int)} (hA : ArenaR w u A) (hr : rightB A = true) (hx : AllU A) {ad : Option Addr} {c : Nat} {xs : List Int} (R : RowAt w 1 ad xs.length (xs.map (.int .u8))) (hxx : isU8 xs) : Calls Try.prog 10 #[u, .slice ad xs.length c] w (Ret fun v w' => ∃ b g h wl kb, v = .pointer (some ⟨b, 0, none⟩) ∧ PartR 80 3 33 5 w' w.heap.size b g h 9 (sumA 9 A) (sizesP A) wl kb ∧ FilA A xs wl kb ∧ Grow w w') := by
 have hA0 := hA
 have lR := R.lim
 obtain ⟨r1, r2, r3, r4⟩ := of_decide_eq_true hr
 obtain ⟨hw1, hch1⟩ := words_arena hr
 have hfit : fitsL (sizesP A) = true := by rw [fits_right]; exact hr
 have hrz : ∀ x ∈ sizesP A, inR .i64 x := fits_rng hfit
 have hle := wordsM_le (sizesP A)
 have hch : chunksM (sizesP A) = (wordsM (sizesP A) + 7) / 8 := rfl
 have G := Grow.rfl' w
 refine calls_ret Try.func10 Try.ntmps10 Try.results10 rfl rfl ?_
 refine W_seq (W_region rfl ?_)
 refine stp (r_assign (v := .pointer none) rfl ?_)
 refine WL_nil ?_
 refine W_seq (W_region rfl ?_)
 refine stp (r_move (v := u) rfl ?_)
 refine WL_some (og rfl ?_)
 have hGo := G.size
 have hszl := (sizesP_len A).symm
 refine r_call rfl (rof_calls _ (hA0.grow G) hr hx (ses := 9) (by decide) (by decide)) ?_
 rintro v_ w1 ⟨adz, cz, hv_, hcz, oS_, g_⟩
 have oS := own_base oS_ hGo
 clear oS_
 replace G := G.tr g_
 clear g_
 rw [hszl] at oS hcz
 rw [hszl] at hv_
 subst hv_
 refine stp (r_move (v := .tuple #[.agg #[.int .u64 9, .slice adz ((sizesP A).length) cz, .int .u32 (sumA 9 A)], .int .i64 0]) rfl ?_)
 refine stp (r_extract (v := .agg #[.int .u64 9, .slice adz ((sizesP A).length) cz, .int .u32 (sumA 9 A)]) rfl rfl ?_)
 refine stp (r_extract (v := .int .i64 0) rfl rfl ?_)
 refine stp (r_alloc ?_)
 intro b2 w3 hb4 hc5 g6
 refine stn (r_storeAll rfl rfl hc5 (by rfl) (by rfl) (by rfl) ?_)
 intro w7 hc8 u9
 have g10 := g6.upd u9 hb4
 have hge11 := Nat.le_trans G.size hb4
 replace oS := own_grow oS g10
 replace G := G.tr g10
 clear u9 g6 hb4 hc5
 refine stp (r_assign_int rfl ?_)
 refine WL_nil ?_
 refine W_seq (W_region rfl ?_)
 refine stp (r_loadAll rfl hc8 (by rfl) ?_)
 refine WL_some (og rfl ?_)
 obtain ⟨_, _, hs9, hcs, hcs2, RS⟩ := own_row oS (by rw [sizesP_len]; omega)
 cases hs9
 have hM := G.size
 refine r_call rfl (pnew_calls _ RS hcs hcs2 hfit (ses := 9) (sum := sumA 9 A)) ?_
 rintro v_ w12 ⟨b, g, h, rfl, HP, g_⟩
 have GM := g_
 have hB0 := hc8
 have RS0 := RS
 replace oS := own_grow oS g_
 replace G := G.tr g_
 clear g_
 refine stp (r_move (v := .tuple #[.pointer (some ⟨b, 0, none⟩), .int .u16 0]) rfl ?_)
 refine stp (r_extract (v := .pointer (some ⟨b, 0, none⟩)) rfl rfl ?_)
 refine stp (r_extract (v := .int .u16 0) rfl rfl ?_)
 refine stp (r_assign (v := .pointer (some ⟨b, 0, none⟩)) rfl ?_)
 refine stp (r_assign_int rfl ?_)
 refine WL_nil ?_
 refine W_seq ?_
 refine W_seq (W_region rfl ?_)
 refine stp (r_assign_int rfl ?_)
 refine WL_nil ?_
 refine W_block ?_
 refine W_loop (fun m_ e_ w_ => ∃ (j : Nat) (h : Nat) (wl : List Int) (kb : List Int), m_ = xs.length - j ∧ Fr [(0, u), (1, .slice ad xs.length c), (4, .pointer none), (5, .pointer (some ⟨b2, 0, none⟩)), (7, .pointer (some ⟨b, 0, none⟩)), (9, .int .i64 (j : Int))] e_ ∧ (j ≤ xs.length) ∧ (FilA A (xs.take j) wl kb) ∧ (Grow w7 w_) ∧ (PartR 80 3 33 5 w_ w7.heap.size b g h 9 (sumA 9 A) (sizesP A) wl kb) ∧ Grow w w_) _ ⟨0, h, _, _, rfl, fr_of ⟨rfl, rfl, rfl, rfl, rfl, rfl, trivial⟩, by omega, by rw [List.take_zero]; exact FilA.nil hr, GM, HP, G⟩ ?_
 clear oS GM HP
 clear G
 rintro m_ e_ w13 ⟨j, h, wl, kb, rfl, ⟨e14, rfl⟩, hj, hF, GM, HP, G⟩
 refine W_seq ?_
 refine W_seq (W_region rfl ?_)
 refine stp (r_move_int rfl ?_)
 refine stp (r_move_slice rfl ?_)
 refine stp (r_len rfl rfl rfl ?_)
 refine stp (r_lss rfl rfl ?_)
 refine WL_nil ?_
 refine W_cond2 (b := (decide ((j : Int) < (xs.length : Int)))) rfl (fun hlt => ?_) (fun hlt => ?_)
 ·-- true
  replace hlt := of_decide_eq_true hlt
  have hi : j < xs.length := by omega
  have hu := getD_u8 hxx j
  obtain ⟨q, hq⟩ : ∃ q : Nat, (q : Int) = xs.getD j 0 % (chunksM (sizesP A) : Int) := ⟨(xs.getD j 0 % (chunksM (sizesP A) : Int)).toNat, by have := Int.emod_nonneg (xs.getD j 0) (show (chunksM (sizesP A) : Int) ≠ 0 by omega); omega⟩
  have hql : q < chunksM (sizesP A) := by have := Int.emod_lt_of_pos (xs.getD j 0) (show 0 < (chunksM (sizesP A) : Int) by omega); omega
  obtain ⟨hcl, hok⟩ := size_chunk hr hql
  have hcp : 0 < (chunkA A q).length := by have := (put_fits hok).2.2.2.1; omega
  refine W_skip ?_
  refine W_seq ?_
  refine W_block ?_
  refine W_seq ?_
  refine W_any 10 [[], [], [1, 0], [2, 1, 0], [3, 2, 1, 0], [], [0], [1, 0], [7, 6, 5, 4, 3, 2, 1, 0], [8, 7, 6, 5, 4, 3, 2, 1, 0]] mixed (by kernel_rfl) (by kernel_rfl) (by kernel_rfl) ?_
  intro w15 g16
  replace GM := GM.tr g16
  replace HP := HP.grow g16
  replace G := G.tr g16
  clear g16
  apply AO_ex
  ·intro w_ g_; refine og rfl ?_; refine r_move_slice rfl ?_; exact ⟨Grow.rfl' _, rfl⟩
  apply AO_ex
  ·intro w_ g_; refine og rfl ?_; refine r_move_int rfl ?_; exact ⟨Grow.rfl' _, rfl⟩
  apply AO_ex
  ·intro w_ g_; refine og rfl ?_; refine r_indexN (R.grow (G.tr g_)) rfl rfl ?_ ?_; omega; exact ⟨Grow.rfl' _, rfl⟩
  apply AO_ex
  ·intro w_ g_; refine og rfl ?_; refine r_loadR (v := .int .u8 (xs.getD j 0)) (m := 0) (R.grow (G.tr g_)) rfl (map_get1 0 (by omega)) ?_; exact ⟨Grow.rfl' _, rfl⟩
  apply AO_ex
  ·intro w_ g_; refine og rfl ?_; refine r_conv rfl ?_ ?_; constructor <;> omega; exact ⟨Grow.rfl' _, rfl⟩
  apply AO_ex
  ·intro w_ g_; refine og rfl ?_; refine r_loadAll rfl (g_.heap (GM.heap hB0)) (by rfl) ?_; exact ⟨Grow.rfl' _, rfl⟩
  apply AO_ex
  ·intro w_ g_; refine og rfl ?_; exact r_gives (v := .int .i64 (chunksM (sizesP A) : Int)) rfl (rmchunks_calls _ (RS0.grow (GM.tr g_)) hrz) (fun w2_ g2_ => ⟨g2_, rfl⟩)
  apply AO_ex
  ·intro w_ g_; refine og rfl ?_; refine r_max rfl rfl rfl ?_; rw [if_neg (by omega)]; exact ⟨Grow.rfl' _, rfl⟩
  apply AO_ex
  ·intro w_ g_; refine og rfl ?_; refine r_rem rfl rfl ?_ ?_ ?_; omega; omega; rw [← hq]; exact ⟨Grow.rfl' _, rfl⟩
  apply AO_ex
  ·intro w_ g_; refine og rfl ?_; refine r_assign_int rfl ?_; exact ⟨Grow.rfl' _, rfl⟩
  refine AO_nil ?_
  intro w17 g18
  replace GM := GM.tr g18
  replace HP := HP.grow g18
  replace G := G.tr g18
  clear g18
  refine WL_nil ?_
  refine W_region rfl ?_
  refine stp (r_move (v := .pointer (some ⟨b, 0, none⟩)) rfl ?_)
  refine stp (r_move_int rfl ?_)
  refine stp (r_move (v := u) rfl ?_)
  refine stp (r_move_int rfl ?_)
  refine WL_some (og rfl ?_)
  obtain ⟨_, hgw_HP⟩ := HP.words
  have hgl_HP := lt_of_heap hgw_HP
  clear hgw_HP
  refine r_call rfl (rchunk_calls _ (hA0.grow G) hr hx (i := q) (by omega)) ?_
  rintro v_ w19 ⟨ad9, c9, rfl, hc9, hcm9, R9, hfr9, g_⟩
  replace GM := GM.tr g_
  replace HP := HP.grow g_
  replace G := G.tr g_
  clear g_
  refine WL_some (og rfl ?_)
  have hdis : 0 < (chunkA A q).length → ∀ q_ o_, ad9 = some ⟨q_, o_, none⟩ → q_ ≠ g := fun _ q_ o_ he_ => by obtain ⟨g_, q2_, cs_, he2_, hge_, -, -⟩ := hfr9 (by omega); rw [he2_] at he_; simp only [Option.some.injEq, Addr.mk.injEq] at he_; omega
  have hbs := HP.bases
  refine r_call rfl (pput_calls _ HP (xs := chunkA A q) R9 (chunkA_isB A q) hc9 hdis (i := (q : Int)) (by simp only [inR]; omega)) ?_
  rintro v_ w21 ⟨h2, rfl, HP2, K2, hh2⟩
  have hbg2 := HP.bases
  replace G := G.trK K2 (fun x_ hx_ => by simp only [List.mem_cons, List.not_mem_nil, or_false] at hx_; omega)
  replace GM := GM.trK K2 (fun x_ hx_ => by simp only [List.mem_cons, List.not_mem_nil, or_false] at hx_; omega)
  clear K2
  refine WL_nil ?_
  refine W_region rfl ?_
  refine stp (r_move_int rfl ?_)
  refine stp (r_add rfl rfl ?_ ?_); constructor <;> omega
  refine stp (r_assign_int rfl ?_)
  refine WL_nil ?_
  refine ⟨_, ?_, j + 1, h2, _, _, rfl, fr_of ⟨rfl, rfl, rfl, rfl, rfl, congrArg (Value.int .i64) (by omega), trivial⟩, by omega, by rw [List.take_add_one, List.getElem?_eq_getElem hi, Option.toList_some, ← getD_at hi]; exact hF.snoc hr hx hq hql, GM, HP2, G⟩
  omega
 ·-- false
  replace hlt := of_decide_eq_false hlt
  have hj9 : j = xs.length := by omega
  rw [hj9, List.take_length] at hF
  refine W_exit ?_
  refine W_seq (W_region rfl ?_)
  refine stp (r_move (v := .pointer (some ⟨b, 0, none⟩)) rfl ?_)
  refine stp (r_assign (v := .pointer (some ⟨b, 0, none⟩)) rfl ?_)
  refine WL_nil ?_
  refine W_ret ?_
  refine ret1 (res_tmp (v := .pointer (some ⟨b, 0, none⟩)) rfl) ⟨b, g, h, wl, kb, rfl, HP.lower hM, hF, G⟩
end Go.Proofs.Ytifhcfhdajkhlaa.K

namespace Go.Proofs.Ytifhcfhdajkhlaa.K
open Go Go.RowKit Go.Proofs
attribute [local irreducible] Run1 OpG WL W AO Gives
set_option maxRecDepth 100000 in
theorem known16_calls (w : World)  : Gives Try.prog 7 #[] w (.bool true) := by
 have hr : rightB A16 = true := known16_e
 have hx : AllU A16 := known16_f
 have hfit : fitsL (sizesP A16) = true := by rw [fits_right]; exact hr
 have hrz : ∀ x ∈ sizesP A16, inR .i64 x := fits_rng hfit
 have hch : chunksM (sizesP A16) = 1 := by unfold chunksM; rw [known16_d]
 have hal : A16.length = 1 := rfl
 have G := Grow.rfl' w
 refine gives_of Try.func7 Try.ntmps7 Try.results7 rfl rfl ?_
 refine W_seq (W_region rfl ?_)
 refine stp (r_assign (v := .bool false) rfl ?_)
 refine WL_nil ?_
 refine W_seq (W_region rfl ?_)
 refine stp (r_buildSlice (cs := #[.int .u64 0]) (el := 33) (fun w => by kernel_rfl) ?_)
 intro bs1 w2 hb3 hc4 g5
 have hge6 := Nat.le_trans G.size hb3
 replace G := G.tr g5
 clear g5
 refine stp (r_buildSlice (cs := #[.slice (some ⟨bs1, 0, none⟩) 1 1]) (el := 63) (fun w => by kernel_rfl) ?_)
 intro bs7 w8 hb9 hc10 g11
 have hge12 := Nat.le_trans G.size hb9
 replace hc4 := g11.heap hc4
 replace G := G.tr g11
 clear g11
 refine WL_some (og rfl ?_)
 have hA0 : ArenaR w8 (.slice (some ⟨bs7, 0, none⟩) 1 1) A16 := arena_one hc10 (q := [0]) (Row.of_block (n := 1) hc4 rfl rfl (by decide))
 have hGo := G.size
 have hszl := (sizesP_len A16).symm
 refine r_call rfl (rof_calls _ hA0 hr hx (ses := 1) (by decide) (by decide)) ?_
 rintro v_ w13 ⟨adz, cz, hv_, hcz, oS_, g_⟩
 have oS := own_base oS_ hGo
 clear oS_
 replace hc4 := g_.heap hc4
 replace hc10 := g_.heap hc10
 replace G := G.tr g_
 clear g_
 rw [hszl] at oS hcz
 rw [hszl] at hv_
 subst hv_
 refine stp (r_move (v := .tuple #[.agg #[.int .u64 1, .slice adz ((sizesP A16).length) cz, .int .u32 (sumA 1 A16)], .int .i64 0]) rfl ?_)
 refine stp (r_extract (v := .agg #[.int .u64 1, .slice adz ((sizesP A16).length) cz, .int .u32 (sumA 1 A16)]) rfl rfl ?_)
 refine stp (r_extract (v := .int .i64 0) rfl rfl ?_)
 refine stp (r_alloc ?_)
 intro b14 w15 hb16 hc17 g18
 refine stn (r_storeAll rfl rfl hc17 (by rfl) (by rfl) (by rfl) ?_)
 intro w19 hc20 u21
 have g22 := g18.upd u21 hb16
 have hge23 := Nat.le_trans G.size hb16
 have ne24 := Nat.ne_of_lt (Nat.lt_of_lt_of_le (lt_of_heap hc4) hb16)
 have ne25 := Nat.ne_of_lt (Nat.lt_of_lt_of_le (lt_of_heap hc10) hb16)
 replace hc4 := g22.heap hc4
 replace hc10 := g22.heap hc10
 replace oS := own_grow oS g22
 replace G := G.tr g22
 clear u21 g18 hb16 hc17
 refine stp (r_assign_int rfl ?_)
 refine WL_nil ?_
 refine W_seq (W_region rfl ?_)
 refine stp (r_loadAll rfl hc20 (by rfl) ?_)
 refine WL_some (og rfl ?_)
 obtain ⟨_, _, hs9, hcs, hcs2, RS⟩ := own_row oS (by rw [sizesP_len]; omega)
 cases hs9
 have hM := G.size
 refine r_call rfl (pnew_calls _ RS hcs hcs2 hfit (ses := 1) (sum := sumA 1 A16)) ?_
 rintro v_ w26 ⟨b, g, h, rfl, HP, g_⟩
 have GM := g_
 have hB0 := hc20
 have RS0 := RS
 replace hc4 := g_.heap hc4
 replace hc10 := g_.heap hc10
 replace oS := own_grow oS g_
 replace G := G.tr g_
 clear g_
 refine stp (r_move (v := .tuple #[.pointer (some ⟨b, 0, none⟩), .int .u16 0]) rfl ?_)
 refine stp (r_extract (v := .pointer (some ⟨b, 0, none⟩)) rfl rfl ?_)
 refine stp (r_extract (v := .int .u16 0) rfl rfl ?_)
 refine stp (r_assign (v := .pointer (some ⟨b, 0, none⟩)) rfl ?_)
 refine stp (r_assign_int rfl ?_)
 refine WL_nil ?_
 refine W_seq (W_region rfl ?_)
 refine stp (r_move (v := .pointer (some ⟨b, 0, none⟩)) rfl ?_)
 refine stp (r_build (v := .agg #[.slice none 0 0, .int .i64 0]) (fun w => by kernel_rfl) ?_)
 refine stp (r_gives (v := .tuple #[.agg #[.int .i64 0, .int .i64 0, .int .i64 0, .int .i64 0, .int .u64 0], .int .u16 30]) rfl (gives_eq (pread_calls _ (HP) (rowat_nil _ 1) (steps := []) (a := 0) (c := 0) (by simp) (by simp [inR])) (y := .tuple #[.agg #[.int .i64 0, .int .i64 0, .int .i64 0, .int .i64 0, .int .u64 0], .int .u16 30]) (by rw [known16_a]; rfl)) ?_)
 intro w27 g28
 replace hc4 := g28.heap hc4
 replace hc10 := g28.heap hc10
 replace oS := own_grow oS g28
 replace GM := GM.tr g28
 replace HP := HP.grow g28
 replace G := G.tr g28
 clear g28
 refine stp (r_move (v := .tuple #[.agg #[.int .i64 0, .int .i64 0, .int .i64 0, .int .i64 0, .int .u64 0], .int .u16 30]) rfl ?_)
 refine stp (r_extract (v := .agg #[.int .i64 0, .int .i64 0, .int .i64 0, .int .i64 0, .int .u64 0]) rfl rfl ?_)
 refine stp (r_extract (v := .int .u16 30) rfl rfl ?_)
 refine stp (r_alloc ?_)
 intro b29 w30 hb31 hc32 g33
 refine stn (r_storeAll rfl rfl hc32 (by rfl) (by rfl) (by rfl) ?_)
 intro w34 hc35 u36
 have g37 := g33.upd u36 hb31
 have hge38 := Nat.le_trans G.size hb31
 have ne39 := Nat.ne_of_lt (Nat.lt_of_lt_of_le (lt_of_heap hc4) hb31)
 have ne40 := Nat.ne_of_lt (Nat.lt_of_lt_of_le (lt_of_heap hc10) hb31)
 replace hc4 := g37.heap hc4
 replace hc10 := g37.heap hc10
 replace oS := own_grow oS g37
 replace GM := GM.tr g37
 replace HP := HP.grow g37
 replace G := G.tr g37
 clear u36 g33 hb31 hc32
 refine stp (r_assign_int rfl ?_)
 refine WL_nil ?_
 obtain ⟨_, hgw⟩ := HP.words
 have hgl := lt_of_heap hgw
 have hgl2 := hgl
 refine W_seq (W_region rfl ?_)
 refine stp (r_move (v := .pointer (some ⟨b, 0, none⟩)) rfl ?_)
 refine stp (r_make (n := 8) (base := w.heap.size) rfl rfl (by first | omega | (simp only [maxLen]; omega)) (by first | omega | (simp only [maxLen]; omega)) G.size ?_)
 intro bm44 w41 hb42 own45 g43
 rw [show (madeCells (Value.cells (.int .u8 0 : Value)) (8 * 1)).toList = List.replicate 8 (.int .u8 0) from by rw [Nat.mul_one]; exact toList_madeCells_one _ _] at own45
 replace hc4 := g43.heap hc4
 replace hc10 := g43.heap hc10
 replace oS := own_grow oS g43
 replace GM := GM.tr g43
 replace HP := HP.grow g43
 replace hc35 := g43.heap hc35
 replace G := G.tr g43
 clear g43
 refine WL_some (og rfl ?_)
 obtain ⟨_, _, hs9, -, -, R9⟩ := own_row own45 (by decide)
 cases hs9
 rw [show List.replicate 8 (Value.int .u8 0) = (List.replicate 8 (0 : Int)).map (.int .u8) from rfl] at R9
 have hbs := HP.bases
 have hdis : 0 < (List.replicate 8 (0 : Int)).length → ∀ q_ o_, some (Addr.mk bm44 0 none) = some ⟨q_, o_, none⟩ → q_ ≠ g := fun _ q_ o_ he_ => by simp only [Option.some.injEq, Addr.mk.injEq] at he_; omega
 refine r_call rfl (pput_calls _ HP (xs := List.replicate 8 0) R9 (fun x_ hx_ => by rw [List.eq_of_mem_replicate hx_]; simp [inR]) (by decide) hdis (i := (0 : Int)) (by simp only [inR]; omega)) ?_
 rintro v_ w46 ⟨h2, rfl, HP2, K2, hh2⟩
 have hbg2 := HP.bases
 replace G := G.trK K2 (fun x_ hx_ => by simp only [List.mem_cons, List.not_mem_nil, or_false] at hx_; omega)
 clear K2
 rw [known16_c]
 refine stp (r_assign (v := .bool true) rfl ?_)
 refine WL_nil ?_
 refine W_seq (W_region rfl ?_)
 refine stp (r_move (v := .pointer (some ⟨b, 0, none⟩)) rfl ?_)
 refine stp (r_build (v := .agg #[.slice none 0 0, .int .i64 0]) (fun w => by kernel_rfl) ?_)
 refine stp (r_gives (v := .tuple #[.agg #[.int .i64 0, .int .i64 0, .int .i64 0, .int .i64 0, .int .u64 0], .int .u16 0]) rfl (gives_eq (pread_calls _ (HP2) (rowat_nil _ 1) (steps := []) (a := 0) (c := 0) (by simp) (by simp [inR])) (y := .tuple #[.agg #[.int .i64 0, .int .i64 0, .int .i64 0, .int .i64 0, .int .u64 0], .int .u16 0]) (by rw [known16_b]; rfl)) ?_)
 intro w47 g48
 replace HP2 := HP2.grow g48
 replace G := G.tr g48
 clear g48
 refine stp (r_move (v := .tuple #[.agg #[.int .i64 0, .int .i64 0, .int .i64 0, .int .i64 0, .int .u64 0], .int .u16 0]) rfl ?_)
 refine stp (r_extract (v := .agg #[.int .i64 0, .int .i64 0, .int .i64 0, .int .i64 0, .int .u64 0]) rfl rfl ?_)
 refine stp (r_extract (v := .int .u16 0) rfl rfl ?_)
 refine stp (r_alloc ?_)
 intro b49 w50 hb51 hc52 g53
 refine stn (r_storeAll rfl rfl hc52 (by rfl) (by rfl) (by rfl) ?_)
 intro w54 hc55 u56
 have g57 := g53.upd u56 hb51
 have hge58 := Nat.le_trans G.size hb51
 replace HP2 := HP2.grow g57
 replace G := G.tr g57
 clear u56 g53 hb51 hc52
 refine stp (r_assign_int rfl ?_)
 refine WL_nil ?_
 refine W_seq (W_region rfl ?_)
 refine stp (r_move_int rfl ?_)
 refine stp (r_eql_t rfl rfl (by decide) ?_)
 refine stp (r_move (v := .bool true) rfl ?_)
 refine stp (r_move_int rfl ?_)
 refine stp (r_eql_t rfl rfl (by decide) ?_)
 refine stp (r_pick_t (v := .bool true) rfl rfl rfl ?_)
 refine stp (r_move (v := .bool true) rfl ?_)
 refine stp (r_move (v := .bool true) rfl ?_)
 refine stp (r_pick_t (v := .bool true) rfl rfl rfl ?_)
 refine stp (r_move (v := .bool true) rfl ?_)
 refine stp (r_move_int rfl ?_)
 refine stp (r_eql_t rfl rfl (by decide) ?_)
 refine stp (r_pick_t (v := .bool true) rfl rfl rfl ?_)
 refine stp (r_move (v := .bool true) rfl ?_)
 refine stp (r_move (v := .pointer (some ⟨b, 0, none⟩)) rfl ?_)
 refine stp (r_gives (v := .int .i64 8) rfl (gives_eq (pbytes_calls _ (HP2)) (y := .int .i64 8) (by rw [known16_d]; rfl)) ?_)
 intro w59 g60
 replace HP2 := HP2.grow g60
 replace hc55 := g60.heap hc55
 replace G := G.tr g60
 clear g60
 refine stp (r_eql_t rfl rfl (by decide) ?_)
 refine stp (r_pick_t (v := .bool true) rfl rfl rfl ?_)
 refine stp (r_assign (v := .bool true) rfl ?_)
 refine WL_nil ?_
 refine W_ret ?_
 refine ret1 (res_tmp (v := .bool true) rfl) ⟨?_, G⟩
 rfl
end Go.Proofs.Ytifhcfhdajkhlaa.K

namespace Go.Proofs.Ytifhcfhdajkhlaa.K
open Go Go.RowKit Go.Proofs
attribute [local irreducible] Run1 OpG WL W AO Gives
set_option maxRecDepth 100000 in
theorem pwhole_calls (w : World) {base b g h : Nat} {ses sum : Int} {sz wl kb : List Int} (H : PartR 80 3 33 5 w base b g h ses sum sz wl kb) : Calls Try.prog 20 #[.pointer (some ⟨b, 0, none⟩)] w (Ret fun v w' => ∃ ad n c, v = .tuple #[.slice ad n c, .bool (wholeB sz kb)] ∧ (wholeB sz kb = true → ArenaR w' (.slice ad n c) (cutW sz wl)) ∧ (wholeB sz kb = false → ArenaR w' (.slice ad n c) []) ∧ Grow w w') := by
 have H0 := H
 obtain ⟨hfit, hlw, hlk, hub, huw, hb0, ads, cs, cw, ck, hB, oS, oW, oK⟩ := H
 have hle := wordsM_le sz
 have hwf := wordsM_fit hfit
 have hch : chunksM sz = (wordsM sz + 7) / 8 := rfl
 have hf16 := fitsL_of hfit
 have hrz : ∀ x ∈ sz, inR .i64 x := fits_rng hfit
 have G := Grow.rfl' w
 refine calls_ret Try.func20 Try.ntmps20 Try.results20 rfl rfl ?_
 obtain ⟨_, _, hs9, hcs, hcs2, RS⟩ := own_row oS (by omega)
 cases hs9
 obtain ⟨_, _, hs9, hcw, hcw2, RW⟩ := own_row oW (by omega)
 cases hs9
 obtain ⟨_, _, hs9, hck, hck2, RK⟩ := own_row oK (by omega)
 cases hs9
 have hcq := cntQ_le kb (8 * kb.length)
 refine W_seq (W_region rfl ?_)
 refine stp (r_assign_slice rfl ?_)
 refine stp (r_assign (v := .bool false) rfl ?_)
 refine WL_nil ?_
 refine W_seq ?_
 refine W_seq ?_
 refine W_any 16 [[], [0], [1, 0], [2, 1, 0], [3, 2, 1, 0], [4, 3, 2, 1, 0], [5, 4, 3, 2, 1, 0], [6, 5, 4, 3, 2, 1, 0], [7, 6, 5, 4, 3, 2, 1, 0], [8, 7, 6], [9, 8, 7, 0], [10, 9, 8, 1, 0], [11, 10, 9, 2, 1, 0], [12, 11, 10, 9, 8, 7, 6, 5, 4, 3, 2, 1, 0], [13, 12, 11, 10, 9, 8, 7, 6, 5, 4, 3, 2, 1, 0], [14, 13, 12, 11, 10, 9, 8, 7, 6, 5, 4, 3, 2, 1, 0]] mixed (by kernel_rfl) (by kernel_rfl) (by kernel_rfl) ?_
 intro w1 g2
 replace hB := g2.heap hB
 replace G := G.tr g2
 clear g2
 apply AO_ex
 ·intro w_ g_; refine og rfl ?_; refine r_move_ptr rfl ?_; exact ⟨Grow.rfl' _, rfl⟩
 apply AO_ex
 ·intro w_ g_; refine og rfl ?_; refine r_eqlP Try.underlying31 rfl rfl ?_; exact ⟨Grow.rfl' _, rfl⟩
 apply AO_ex
 ·intro w_ g_; refine og rfl ?_; refine r_move (v := .bool false) rfl ?_; exact ⟨Grow.rfl' _, rfl⟩
 apply AO_ex
 ·intro w_ g_; refine og rfl ?_; refine r_move_ptr rfl ?_; exact ⟨Grow.rfl' _, rfl⟩
 apply AO_ex
 ·intro w_ g_; refine og rfl ?_; refine r_nilCheck rfl ?_; exact ⟨Grow.rfl' _, rfl⟩
 apply AO_ex
 ·intro w_ g_; refine og rfl ?_; refine r_fieldAddr rfl ?_; exact ⟨Grow.rfl' _, rfl⟩
 apply AO_ex
 ·intro w_ g_; refine og rfl ?_; refine r_fieldAddr rfl ?_; exact ⟨Grow.rfl' _, rfl⟩
 apply AO_ex
 ·intro w_ g_; refine og rfl ?_; refine r_load (v := .slice (some ⟨h, 0, none⟩) kb.length ck) rfl (g_.heap hB) rfl ?_; exact ⟨Grow.rfl' _, rfl⟩
 apply AO_ex
 ·intro w_ g_; refine og rfl ?_; exact r_gives (v := .int .i64 (cntQ kb (8 * kb.length) : Int)) rfl (bcount_calls _ (RK.grow (G.tr g_)) hub (by omega)) (fun w2_ g2_ => ⟨g2_, rfl⟩)
 apply AO_ex
 ·intro w_ g_; refine og rfl ?_; refine r_move_ptr rfl ?_; exact ⟨Grow.rfl' _, rfl⟩
 apply AO_ex
 ·intro w_ g_; refine og rfl ?_; refine r_nilCheck rfl ?_; exact ⟨Grow.rfl' _, rfl⟩
 apply AO_ex
 ·intro w_ g_; refine og rfl ?_; refine r_fieldAddr rfl ?_; exact ⟨Grow.rfl' _, rfl⟩
 apply AO_ex
 ·intro w_ g_; refine og rfl ?_; refine r_loadN rfl (g_.heap hB) (by rfl) (by rfl) ?_; exact ⟨Grow.rfl' _, rfl⟩
 apply AO_ex
 ·intro w_ g_; refine og rfl ?_; exact r_gives (v := .int .i64 (chunksM sz : Int)) rfl (mchunks_calls _ (RS.grow (G.tr g_)) hrz) (fun w2_ g2_ => ⟨g2_, rfl⟩)
 apply AO_ex
 ·intro w_ g_; refine og rfl ?_; refine r_lss rfl rfl ?_; exact ⟨Grow.rfl' _, rfl⟩
 apply AO_ex
 ·intro w_ g_; refine og rfl ?_; refine r_pick_f (v := .bool (decide ((cntQ kb (8 * kb.length) : Int) < (chunksM sz : Int)))) rfl rfl rfl ?_; exact ⟨Grow.rfl' _, rfl⟩
 refine AO_nil ?_
 intro w3 g4
 replace hB := g4.heap hB
 replace G := G.tr g4
 clear g4
 refine WL_nil ?_
 refine W_cond2 (b := (decide ((cntQ kb (8 * kb.length) : Int) < (chunksM sz : Int)))) rfl (fun h1 => ?_) (fun h1 => ?_)
 ·-- true
  replace h1 := of_decide_eq_true h1
  have h9 : wholeB sz kb = false := by unfold wholeB; exact decide_eq_false (by omega)
  refine W_seq (W_region rfl ?_)
  refine stp (r_assign_slice rfl ?_)
  refine stp (r_assign (v := .bool false) rfl ?_)
  refine WL_nil ?_
  refine W_ret ?_
  refine ret2 (res_tmp (v := .slice none 0 0) rfl) (res_tmp (v := .bool false) rfl) ⟨none, 0, 0, by rw [h9], fun h_ => (by rw [h9] at h_; cases h_), fun _ => ⟨[], Row.nil _ _, fun i s h_ => by simp at h_⟩, G⟩
 ·-- false
  replace h1 := of_decide_eq_false h1
  have h9 : wholeB sz kb = true := by unfold wholeB; exact decide_eq_true (by omega)
  refine W_skip ?_
  refine W_seq (W_region rfl ?_)
  refine stp (r_assign_slice rfl ?_)
  refine WL_nil ?_
  refine W_seq (W_region rfl ?_)
  refine stp (r_move_ptr rfl ?_)
  refine stp (r_nilCheck rfl ?_)
  refine stp (r_fieldAddr rfl ?_)
  refine stp (r_fieldAddr rfl ?_)
  refine stp (r_load (v := .slice (some ⟨g, 0, none⟩) wl.length cw) rfl hB rfl ?_)
  refine WL_some (og rfl ?_)
  have hG4 := G.size
  refine r_call rfl (cloneW_calls _ hcw hcw2 (RW.grow G) (fun q_ hq_ => by obtain ⟨z_, -, rfl⟩ := List.mem_map.1 hq_; rfl) (by omega)) ?_
  rintro vb w5 ⟨oB, g_⟩
  replace hB := g_.heap hB
  replace G := G.tr g_
  clear g_
  obtain ⟨g5, c5, cur5, rfl, hg5b, hg5, hc51, hc52, hc53, hc54⟩ := own_pos oB (by omega)
  obtain ⟨_, _, hs9, -, -, RC⟩ := own_row oB (by omega)
  cases hs9
  refine stp (r_assign_slice rfl ?_)
  refine WL_nil ?_
  refine W_seq ?_
  refine W_seq (W_region rfl ?_)
  refine stp (r_move_ptr rfl ?_)
  refine stp (r_nilCheck rfl ?_)
  refine stp (r_fieldAddr rfl ?_)
  refine stp (r_fieldAddr rfl ?_)
  refine stp (r_load (v := .slice ads sz.length cs) rfl hB rfl ?_)
  refine stp (r_len rfl rfl rfl ?_)
  refine stp (r_move_int rfl ?_)
  refine WL_nil ?_
  refine W_block ?_
  have GC0 := G
  refine W_loop (fun m_ e_ w_ => ∃ (k : Nat) (ado : Option Addr) (no : Nat) (co : Nat) (segs : List Value) (adr : Option Addr) (cr : Nat), m_ = sz.length - k ∧ Fr [(2, .slice none 0 0), (3, .bool false), (34, .slice ads sz.length cs), (35, .int .i64 (sz.length : Int)), (36, .int .i64 (k : Int)), (4, .slice ado no co), (5, .slice adr (wl.length - (sumL (sz.take k)).toNat) cr)] e_ ∧ (k ≤ sz.length) ∧ (wl.length - (sumL (sz.take k)).toNat ≤ cr) ∧ (RowAt w5 1 adr (wl.length - (sumL (sz.take k)).toNat) ((wl.drop (sumL (sz.take k)).toNat).map (.int .u64))) ∧ (∀ (i : Nat) (s : List Int), (cutW (sz.take k) wl)[i]? = some s → ∃ u, segs[i]? = some u ∧ Row w5 1 u s.length (wordsV s)) ∧ (segs.length = k) ∧ (Grow w5 w_) ∧ (w_.ownsRow w5.heap.size 63 1 (.slice ado no co) k segs) ∧ Grow w w_) _ ⟨0, none, 0, 0, [], (some ⟨g5, 0, none⟩), c5, rfl, fr_of ⟨rfl, rfl, rfl, rfl, rfl, rfl, congrArg (fun n_ => Value.slice (some ⟨g5, 0, none⟩) n_ c5) (by simp [sumL]), trivial⟩, by omega, by simp [sumL]; omega, by simpa [sumL, wordsV] using RC, fun i s h_ => by simp [cutW] at h_, rfl, Grow.rfl' _, World.ownsRow_nil _ _ _ _, G⟩ ?_
  clear hB
  clear G
  rintro m_ e_ w6 ⟨k, ado, no, co, segs, adr, cr, rfl, ⟨e7, rfl⟩, hk, hcr, hRr, hS, hsl, GC, oO, G⟩
  have hsk := sumL_take_le hf16.2.2.2.1 k
  have hsk1 := sumL_take_le hf16.2.2.2.1 (k + 1)
  refine W_seq (W_region rfl ?_)
  refine stp (r_lss rfl rfl ?_)
  refine WL_nil ?_
  refine W_seq ?_
  refine W_cond2 (b := (decide ((k : Int) < (sz.length : Int)))) rfl (fun hlt => ?_) (fun hlt => ?_)
  ·-- true
   replace hlt := of_decide_eq_true hlt
   have hi : k < sz.length := by omega
   have hst := sumL_take hi
   have hzk := fitsL_size hfit k
   obtain ⟨n, hn⟩ : ∃ n : Nat, sz.getD k 0 = (n : Int) := ⟨(sz.getD k 0).toNat, by omega⟩
   refine W_skip ?_
   refine W_seq ?_
   refine W_block ?_
   refine W_seq (W_region rfl ?_)
   refine stp (r_indexN (RS.grow G) rfl rfl ?_ ?_); omega
   refine stp (r_loadR (v := .int .i64 (n : Int)) (m := 0) (RS.grow G) rfl (by have h_ := (map_get1 0 (by omega) : (sz.map (Value.int .i64))[k * 1]? = some (.int .i64 (sz.getD k 0))); rw [hn] at h_; exact h_) ?_)
   refine stp (r_assign_int rfl ?_)
   refine WL_nil ?_
   refine W_seq (W_region rfl ?_)
   refine stp (r_move_slice rfl ?_)
   refine stp (r_move_slice rfl ?_)
   refine stp (r_move_int rfl ?_)
   refine stp (r_move_int rfl ?_)
   refine WL_some (og rfl ?_)
   refine r_sliceHM rfl rfl rfl (by omega) (by omega) (by omega) ?_
   rw [Int.toNat_natCast]
   refine stp (r_buildSlice (cs := #[.slice (if n = 0 then adr else adr.map (·.add (0 * 1))) n n]) (el := 63) (fun w => by kernel_rfl) ?_)
   intro bs8 w9 hb10 hc11 g12
   have hge13 := Nat.le_trans G.size hb10
   replace GC := GC.tr g12
   replace oO := own_grow oO g12
   replace G := G.tr g12
   clear g12
   refine stp (r_append rfl rfl rfl rfl oO (Row.of_block (n := 1) hc11 rfl rfl (by omega)) (fun q_ hq_ => by simp at hq_; subst hq_; rfl) (by simp only [maxLen]; omega) (by omega) GC.size ?_)
   intro v14 w15 own6 gr6
   replace G := G.grown gr6 (fun k_ hk_ => Nat.le_trans GC0.size (own_ge oO k_ hk_))
   replace GC := GC.grown gr6 (own_ge oO)
   clear oO gr6
   obtain ⟨ad4, n4, c4, rfl⟩ := own_slice own6
   refine stp (r_assign_slice rfl ?_)
   refine WL_nil ?_
   refine W_region rfl ?_
   refine stp (r_move_slice rfl ?_)
   refine stp (r_move_int rfl ?_)
   refine WL_some (og rfl ?_)
   refine r_sliceL rfl rfl (by omega) (by omega) ?_
   rw [Int.toNat_natCast]
   refine stp (r_assign_slice rfl ?_)
   refine WL_nil ?_
   refine W_region rfl ?_
   refine stp (r_add rfl rfl ?_ ?_); constructor <;> omega
   refine stp (r_move_int rfl ?_)
   refine WL_nil ?_
   have ho : (sumL (sz.take (k + 1))).toNat = (sumL (sz.take k)).toNat + n := by omega
   have R1 := hRr.sliceH3 (m := n) (by omega)
   have R2 := hRr.sliceLH (c := cr) (l := n) (m := wl.length - (sumL (sz.take k)).toNat - n) (by omega) (by omega) (by decide)
   have e9 : (((wl.drop (sumL (sz.take k)).toNat).map (Value.int .u64)).drop (n * 1)).take ((wl.length - (sumL (sz.take k)).toNat - n) * 1) = (wl.drop (sumL (sz.take (k + 1))).toNat).map (.int .u64) := by rw [Nat.mul_one, Nat.mul_one, ← List.map_drop, List.drop_drop, ← ho]; exact List.take_of_length_le (by rw [List.length_map, List.length_drop]; omega)
   have e8 : wl.length - (sumL (sz.take (k + 1))).toNat = wl.length - (sumL (sz.take k)).toNat - n := by omega
   have R3 : RowAt w5 1 (if cr = n then adr else adr.map (·.add (n * 1))) (wl.length - (sumL (sz.take (k + 1))).toNat) ((wl.drop (sumL (sz.take (k + 1))).toNat).map (.int .u64)) := by rw [e9] at R2; rw [e8]; exact R2
   refine ⟨_, ?_, k + 1, ad4, n4, c4, segs ++ [_], (if cr = n then adr else adr.map (·.add (n * 1))), cr - n, rfl, fr_of ⟨rfl, rfl, rfl, rfl, congrArg (Value.int .i64) (by omega), rfl, by rw [show wl.length - (sumL (sz.take (k + 1))).toNat = wl.length - (sumL (sz.take k)).toNat - n from by omega]; rfl, trivial⟩, by omega, by omega, R3, segs_snoc hS (cutW_take hi hf16.2.2.2.1 wl) hsl (by rw [cutW_len, List.length_take]; omega) ⟨_, _, rfl, Nat.le_refl _, by simp only [maxLen]; omega, R1⟩ hn (by omega), by simp [hsl], GC, own6, G⟩
   omega
  ·-- false
   replace hlt := of_decide_eq_false hlt
   have hk9 : k = sz.length := by omega
   rw [hk9, List.take_length] at hS
   refine W_exit ?_
   refine W_seq (W_region rfl ?_)
   refine stp (r_move_slice rfl ?_)
   refine stp (r_assign_slice rfl ?_)
   refine stp (r_assign (v := .bool true) rfl ?_)
   refine WL_nil ?_
   refine W_ret ?_
   have hno := own_len oO
   obtain ⟨_, _, hs9, hca9, hcb9, RO9⟩ := own_row oO (by omega)
   simp only [Value.slice.injEq] at hs9
   obtain ⟨rfl, -, rfl⟩ := hs9
   refine ret2 (res_tmp (v := .slice ado no co) rfl) (res_tmp (v := .bool true) rfl) ⟨ado, no, co, by rw [h9], fun _ => ⟨segs, ⟨ado, co, by rw [cutW_len]; rw [hno, hk9], by rw [cutW_len, ← hk9]; exact hca9, hcb9, by rw [cutW_len, ← hk9]; exact RO9⟩, fun i s h_ => let ⟨u, h1_, h2_⟩ := hS i s h_; ⟨u, h1_, h2_.grow GC⟩⟩, fun h_ => (by rw [h9] at h_; cases h_), G⟩
end Go.Proofs.Ytifhcfhdajkhlaa.K

namespace Go.Proofs.Ytifhcfhdajkhlaa.K
open Go Go.RowKit

section
variable {P : Program} {ops : Array Oper} {Q : Ex → Env → World → Prop} {e : Env} {w : World} {K : Value → World → Prop} {r : List Oper}
variable {d : Option Nat} {ty : TypeId} {pos : String} {af : Array Edge} {g : Option (Nat × Bool)}
variable {t u : TypeId} {x y z : Operand}
end
end Go.Proofs.Ytifhcfhdajkhlaa.K

namespace Go.Proofs.Ytifhcfhdajkhlaa.K
open Go Go.RowKit Go.Proofs
attribute [local irreducible] Run1 OpG WL W AO Gives
set_option maxRecDepth 100000 in
theorem arena7_calls (w : World) {ad : Option Addr} {cp : Nat} {xs : List Int} (R : RowAt w 1 ad xs.length (xs.map (.int .u8))) (hx : ∀ x ∈ xs, inR .u8 x) {n : Int} (n0 : 0 ≤ n) (n1 : n ≤ 255) : Calls Try.prog 31 #[.slice ad xs.length cp, .int .u8 n] w (Ret fun v w' => ∃ ado co segs A, v = .slice ado A.length co ∧ OwnA 63 33 w' w.heap.size (.slice ado A.length co) segs A ∧ Aren7 n A ∧ Grow w w') := by
 have lR := R.lim
 have hOn := OwnA.nil 63 33 w w.heap.size
 have G := Grow.rfl' w
 refine calls_ret Try.func31 Try.ntmps31 Try.results31 rfl rfl ?_
 refine W_seq (W_region rfl ?_)
 refine stp (r_assign_slice rfl ?_)
 refine WL_nil ?_
 refine W_seq (W_region rfl ?_)
 refine stp (r_assign_slice rfl ?_)
 refine WL_nil ?_
 refine W_seq (W_region rfl ?_)
 refine stp (r_assign_int rfl ?_)
 refine WL_nil ?_
 refine W_seq ?_
 refine W_seq (W_region rfl ?_)
 refine stp (r_assign_int rfl ?_)
 refine WL_nil ?_
 refine W_block ?_
 refine W_loop (fun m_ e_ w_ => ∃ (ado : Option Addr) (co : Nat) (segs : List Value) (A : List (List Int)) (k0_ : Int), m_ = 5 - A.length ∧ Fr [(0, .slice ad xs.length cp), (1, .int .u8 n), (4, .slice none 0 0), (7, .int .i64 (A.length : Int)), (6, .int .i64 k0_), (5, .slice ado A.length co)] e_ ∧ ((A.length : Int) ≤ 1 + n % 5) ∧ (0 ≤ k0_ ∧ k0_ ≤ 13 * (A.length : Int)) ∧ (0 < A.length → 1 ≤ len2 A 0) ∧ (∀ j, len2 A j ≤ 13) ∧ (AllU A) ∧ (OwnA 63 33 w_ w.heap.size (.slice ado A.length co) segs A) ∧ Grow w w_) _ ⟨none, 0, [], [], 0, rfl, fr_of ⟨rfl, rfl, rfl, rfl, rfl, rfl, trivial⟩, by simp; omega, by simp, fun h_ => by simp at h_, fun j => by simp [len2], fun q hq => by simp at hq, hOn, G⟩ ?_
 clear G
 rintro m_ e_ w1 ⟨ado, co, segs, A, k0_, rfl, ⟨e2, rfl⟩, hA, hk0, hA1, hA3, hA4, hO, G⟩
 refine W_seq ?_
 refine W_seq (W_region rfl ?_)
 refine stp (r_move_int rfl ?_)
 refine stp (r_move_int rfl ?_)
 refine stp (r_rem rfl rfl ?_ ?_ ?_); omega; omega
 refine stp (r_conv rfl ?_ ?_); constructor <;> omega
 refine stp (r_add rfl rfl ?_ ?_); constructor <;> omega
 refine stp (r_lss rfl rfl ?_)
 refine WL_nil ?_
 refine W_cond2 (b := (decide ((A.length : Int) < (1 + (n % 5))))) rfl (fun hlt => ?_) (fun hlt => ?_)
 ·-- true
  replace hlt := of_decide_eq_true hlt
  have hdi := getD_u8 hx A.length
  refine W_skip ?_
  refine W_seq ?_
  refine W_block ?_
  refine W_seq (W_region rfl ?_)
  refine stp (r_assign_slice rfl ?_)
  refine WL_nil ?_
  refine W_seq (W_region rfl ?_)
  refine stp (r_assign_int rfl ?_)
  refine WL_nil ?_
  refine W_cut2 (fun e_ w_ => ∃ (z : Nat), Fr [(0, .slice ad xs.length cp), (1, .int .u8 n), (4, .slice none 0 0), (5, .slice ado A.length co), (6, .int .i64 k0_), (7, .int .i64 (A.length : Int)), (8, .slice none 0 0), (9, .int .i64 (z : Int))] e_ ∧ (z ≤ 13) ∧ (A.length = 0 → 1 ≤ z) ∧ (OwnA 63 33 w_ w.heap.size (.slice ado A.length co) segs A) ∧ Grow w w_) ?_ ?_
  ·-- the parts
   refine W_seq (W_region rfl ?_)
   refine stp (r_move_int rfl ?_)
   refine stp (r_move_slice rfl ?_)
   refine stp (r_len rfl rfl rfl ?_)
   refine stp (r_lss rfl rfl ?_)
   refine WL_nil ?_
   refine W_cond2 (b := (decide ((A.length : Int) < (xs.length : Int)))) rfl (fun h4 => ?_) (fun h4 => ?_)
   ·-- true
    replace h4 := of_decide_eq_true h4
    refine W_region rfl ?_
    refine stp (r_move_slice rfl ?_)
    refine stp (r_move_int rfl ?_)
    refine stp (r_indexN (R.grow G) rfl rfl ?_ ?_); omega
    refine stp (r_loadR (v := .int .u8 (xs.getD A.length 0)) (m := 0) (R.grow G) rfl (map_get1 0 (by omega)) ?_)
    refine stp (r_rem rfl rfl ?_ ?_ ?_); omega; omega
    refine stp (r_conv rfl ?_ ?_); constructor <;> omega
    refine stp (r_assign_int rfl ?_)
    refine WL_nil ?_
    refine W_seq (W_region rfl ?_)
    refine stp (r_move_int rfl ?_)
    refine stp (r_eql rfl rfl ?_)
    refine WL_nil ?_
    refine W_cond2 (b := (decide ((A.length : Int) = 0))) rfl (fun h5 => ?_) (fun h5 => ?_)
    ·-- true
     replace h5 := of_decide_eq_true h5
     refine W_region rfl ?_
     refine stp (r_move_int rfl ?_)
     refine stp (r_add rfl rfl ?_ ?_); constructor <;> omega
     refine stp (r_assign_int rfl ?_)
     refine WL_nil ?_
     exact ⟨(xs.getD A.length 0 % 12 + 1).toNat, fr_of ⟨rfl, rfl, rfl, rfl, rfl, rfl, rfl, congrArg (Value.int .i64) (by omega), trivial⟩, by omega, by omega, hO, G⟩
    ·-- false
     replace h5 := of_decide_eq_false h5
     refine W_skip ?_
     exact ⟨(xs.getD A.length 0 % 12).toNat, fr_of ⟨rfl, rfl, rfl, rfl, rfl, rfl, rfl, congrArg (Value.int .i64) (by omega), trivial⟩, by omega, by omega, hO, G⟩
   ·-- false
    replace h4 := of_decide_eq_false h4
    refine W_skip ?_
    refine W_seq (W_region rfl ?_)
    refine stp (r_move_int rfl ?_)
    refine stp (r_eql rfl rfl ?_)
    refine WL_nil ?_
    refine W_cond2 (b := (decide ((A.length : Int) = 0))) rfl (fun h5 => ?_) (fun h5 => ?_)
    ·-- true
     replace h5 := of_decide_eq_true h5
     refine W_region rfl ?_
     refine stp (r_move_int rfl ?_)
     refine stp (r_add rfl rfl ?_ ?_); constructor <;> omega
     refine stp (r_assign_int rfl ?_)
     refine WL_nil ?_
     exact ⟨((1 : Int) + 1).toNat, fr_of ⟨rfl, rfl, rfl, rfl, rfl, rfl, rfl, congrArg (Value.int .i64) (by omega), trivial⟩, by omega, by omega, hO, G⟩
    ·-- false
     replace h5 := of_decide_eq_false h5
     refine W_skip ?_
     exact ⟨((1 : Int)).toNat, fr_of ⟨rfl, rfl, rfl, rfl, rfl, rfl, rfl, congrArg (Value.int .i64) (by omega), trivial⟩, by omega, by omega, hO, G⟩
  ·-- behind them
   clear hO
   clear G
   rintro e_ w3 ⟨z, ⟨e4, rfl⟩, hz, hz0, hO, G⟩
   refine W_seq ?_
   refine W_seq (W_region rfl ?_)
   refine stp (r_assign_int rfl ?_)
   refine WL_nil ?_
   refine W_block ?_
   have hO0 := hO
   have G00 := G
   have hlow := hO.low
   refine W_loop (fun m_ e_ w_ => ∃ (j : Nat) (kk : Int) (ws : List Int) (ad3 : Option Addr) (n3 : Nat) (c3 : Nat), m_ = z - j ∧ Fr [(0, .slice ad xs.length cp), (1, .int .u8 n), (4, .slice none 0 0), (5, .slice ado A.length co), (7, .int .i64 (A.length : Int)), (9, .int .i64 (z : Int)), (10, .int .i64 (j : Int)), (6, .int .i64 kk), (8, .slice ad3 n3 c3)] e_ ∧ (j ≤ z) ∧ (0 ≤ kk ∧ kk ≤ 13 * (A.length : Int) + j) ∧ (ws.length = j) ∧ (∀ x ∈ ws, inR .u64 x) ∧ (Grow w3 w_) ∧ (w_.ownsRow w3.heap.size 33 1 (.slice ad3 n3 c3) j (wordsV ws)) ∧ Grow w w_) _ ⟨0, k0_, [], none, 0, 0, rfl, fr_of ⟨rfl, rfl, rfl, rfl, rfl, rfl, rfl, rfl, rfl, trivial⟩, by omega, by omega, rfl, by simp, Grow.rfl' _, World.ownsRow_nil _ _ _ _, G⟩ ?_
   clear G
   rintro m_ e_ w5 ⟨j, kk, ws, ad3, n3, c3, rfl, ⟨e6, rfl⟩, hj, hkk, hwl, hwu, G0, ownS, G⟩
   refine W_seq ?_
   refine W_seq (W_region rfl ?_)
   refine stp (r_move_int rfl ?_)
   refine stp (r_move_int rfl ?_)
   refine stp (r_lss rfl rfl ?_)
   refine WL_nil ?_
   refine W_cond2 (b := (decide ((j : Int) < (z : Int)))) rfl (fun hlj => ?_) (fun hlj => ?_)
   ·-- true
    replace hlj := of_decide_eq_true hlj
    have hgd := getD_u8 hx (kk % (xs.length : Int)).toNat
    have hmd : xs.length ≠ 0 → 0 ≤ kk % (xs.length : Int) ∧ kk % (xs.length : Int) < xs.length := fun h_ => ⟨Int.emod_nonneg _ (by omega), Int.emod_lt_of_pos _ (by omega)⟩
    refine W_skip ?_
    refine W_seq ?_
    refine W_block ?_
    refine W_cut2 (fun e_ w_ => ∃ (x : Int), Fr [(0, .slice ad xs.length cp), (1, .int .u8 n), (4, .slice none 0 0), (5, .slice ado A.length co), (6, .int .i64 kk), (7, .int .i64 (A.length : Int)), (8, .slice ad3 n3 c3), (9, .int .i64 (z : Int)), (10, .int .i64 (j : Int)), (11, .int .u64 x)] e_ ∧ (inR .u64 x) ∧ (Grow w3 w_) ∧ (w_.ownsRow w3.heap.size 33 1 (.slice ad3 n3 c3) j (wordsV ws)) ∧ Grow w w_) ?_ ?_
    ·-- the parts
     refine W_region rfl ?_
     refine stp (r_move_int rfl ?_)
     refine stp (r_conv rfl ?_ ?_); constructor <;> omega
     refine stp (r_assign_int rfl ?_)
     refine WL_nil ?_
     refine W_seq (W_region rfl ?_)
     refine stp (r_move_slice rfl ?_)
     refine stp (r_len rfl rfl rfl ?_)
     refine stp (r_gtr rfl rfl ?_)
     refine WL_nil ?_
     refine W_cond2 (b := (decide ((xs.length : Int) > 0))) rfl (fun h7 => ?_) (fun h7 => ?_)
     ·-- true
      replace h7 := of_decide_eq_true h7
      refine W_region rfl ?_
      refine stp (r_move_slice rfl ?_)
      refine stp (r_move_int rfl ?_)
      refine stp (r_move_slice rfl ?_)
      refine stp (r_len rfl rfl rfl ?_)
      refine stp (r_rem rfl rfl ?_ ?_ ?_); omega; omega
      refine stp (r_indexR (R.grow G) rfl rfl ?_ ?_ ?_); omega; omega
      refine stp (r_loadR (v := .int .u8 (xs.getD ((kk % (xs.length : Int)).toNat) 0)) (m := 0) (R.grow G) rfl (map_get1 0 (by omega)) ?_)
      refine stp (r_conv rfl ?_ ?_); constructor <;> omega
      refine stp (r_mulw rfl rfl ?_)
      refine stp (r_move_int rfl ?_)
      refine stp (r_conv rfl ?_ ?_); constructor <;> omega
      refine stp (r_addw rfl rfl ?_)
      refine stp (r_assign_int rfl ?_)
      refine WL_nil ?_
      exact ⟨IntKind.u64.wrap (IntKind.u64.wrap (xs.getD (kk % (xs.length : Int)).toNat 0 * 4311810305) + kk), fr_of ⟨rfl, rfl, rfl, rfl, rfl, rfl, rfl, rfl, rfl, rfl, trivial⟩, wrap_u64R _, G0, ownS, G⟩
     ·-- false
      replace h7 := of_decide_eq_false h7
      refine W_skip ?_
      exact ⟨kk, fr_of ⟨rfl, rfl, rfl, rfl, rfl, rfl, rfl, rfl, rfl, rfl, trivial⟩, by simp only [inR]; omega, G0, ownS, G⟩
    ·-- behind them
     clear G0 ownS
     clear G
     rintro e_ w7 ⟨x, ⟨e8, rfl⟩, hxr, G0, ownS, G⟩
     refine W_seq (W_region rfl ?_)
     refine stp (r_move_slice rfl ?_)
     refine stp (r_move_int rfl ?_)
     refine stp (r_buildSlice (cs := #[.int .u64 x]) (el := 33) (fun w => by kernel_rfl) ?_)
     intro bs9 w10 hb11 hc12 g13
     have hge14 := Nat.le_trans G.size hb11
     replace G0 := G0.tr g13
     replace ownS := own_grow ownS g13
     replace G := G.tr g13
     clear g13
     refine stp (r_append rfl rfl rfl rfl ownS (Row.of_block (n := 1) hc12 rfl rfl (by omega)) (fun q_ hq_ => by simp at hq_; subst hq_; rfl) (by simp only [maxLen]; omega) (by omega) G0.size ?_)
     intro v15 w16 own6 gr6
     replace G := G.grown gr6 (fun k_ hk_ => Nat.le_trans G00.size (own_ge ownS k_ hk_))
     replace G0 := G0.grown gr6 (own_ge ownS)
     clear ownS gr6
     obtain ⟨ad4, n4, c4, rfl⟩ := own_slice own6
     refine stp (r_assign_slice rfl ?_)
     refine WL_nil ?_
     refine W_region rfl ?_
     refine stp (r_move_int rfl ?_)
     refine stp (r_add rfl rfl ?_ ?_); constructor <;> omega
     refine stp (r_assign_int rfl ?_)
     refine WL_nil ?_
     refine W_region rfl ?_
     refine stp (r_move_int rfl ?_)
     refine stp (r_add rfl rfl ?_ ?_); constructor <;> omega
     refine stp (r_assign_int rfl ?_)
     refine WL_nil ?_
     refine ⟨_, ?_, j + 1, kk + 1, ws ++ [x], ad4, n4, c4, rfl, fr_of ⟨rfl, rfl, rfl, rfl, rfl, rfl, congrArg (Value.int .i64) (by omega), rfl, rfl, trivial⟩, by omega, by omega, by simp [hwl], fun y hy_ => by rcases List.mem_append.1 hy_ with h_ | h_; exact hwu y h_; (simp only [List.mem_singleton] at h_; subst h_; exact hxr), G0, (by rw [wordsV, List.map_append]; exact own6), G⟩
     omega
   ·-- false
    replace hlj := of_decide_eq_false hlj
    have hjz : j = z := by omega
    have hO := hO0.grow G0
    refine W_exit ?_
    refine W_region rfl ?_
    refine stp (r_move_slice rfl ?_)
    refine stp (r_move_slice rfl ?_)
    refine stp (r_buildSlice (cs := #[.slice ad3 n3 c3]) (el := 63) (fun w => by kernel_rfl) ?_)
    intro bs17 w18 hb19 hc20 g21
    have hge22 := Nat.le_trans G.size hb19
    replace G0 := G0.tr g21
    replace ownS := own_grow ownS g21
    replace hO := hO.grow g21
    replace G := G.tr g21
    clear g21
    refine WL_some (og rfl ?_)
    have ownS2 := ownS
    rw [← hwl] at ownS2
    have hout := hO.out
    refine r_append rfl rfl rfl rfl hout (Row.of_block (n := 1) hc20 rfl rfl (by omega)) (fun q_ hq_ => by simp at hq_; subst hq_; rfl) (by simp only [maxLen]; omega) (by omega) G.size ?_
    intro v23 w24 own6 gr6
    have hO6 := OwnA.push (by decide) hO (own_base ownS2 G00.size) (fun i u b hu hb he_ => by have := hlow i u b hu hb; have := own_ge ownS b he_; omega) gr6 own6
    replace G := G.grown gr6 (own_ge hout)
    obtain ⟨ad9, n9, c9, rfl⟩ := own_slice own6
    have hn9 := own_len own6
    subst hn9
    refine stp (r_assign_slice rfl ?_)
    refine WL_nil ?_
    refine W_region rfl ?_
    refine stp (r_move_int rfl ?_)
    refine stp (r_add rfl rfl ?_ ?_); constructor <;> omega
    refine stp (r_assign_int rfl ?_)
    refine WL_nil ?_
    have hpl : (A ++ [ws]).length = A.length + 1 := by simp
    rw [← hpl] at hO6
    refine ⟨_, ?_, ad9, c9, _, A ++ [ws], kk, rfl, fr_of ⟨rfl, rfl, rfl, congrArg (Value.int .i64) (by omega), rfl, by rw [hpl]; rfl, trivial⟩, by omega, by omega, fun _ => by have hp := len2_push A ws 0; by_cases h0_ : 0 < A.length; (rw [if_pos h0_] at hp; have := hA1 h0_; omega); (rw [if_neg h0_, if_pos (by omega)] at hp; have := hz0 (by omega); omega), fun j_ => by have hp := len2_push A ws j_; have := hA3 j_; (repeat' split at hp) <;> omega, hA4.push hwu, hO6, G⟩
    omega
 ·-- false
  replace hlt := of_decide_eq_false hlt
  have hAn : (A.length : Int) = 1 + n % 5 := by omega
  refine W_exit ?_
  refine W_seq (W_region rfl ?_)
  refine stp (r_move_slice rfl ?_)
  refine stp (r_assign_slice rfl ?_)
  refine WL_nil ?_
  refine W_ret ?_
  refine ret1 (res_tmp (v := .slice ado A.length co) rfl) ⟨ado, co, segs, A, rfl, hO, ⟨hAn, hA1 (by omega), hA3, hA4⟩, G⟩
end Go.Proofs.Ytifhcfhdajkhlaa.K

namespace Go.Proofs.Ytifhcfhdajkhlaa.K
open Go Go.RowKit Go.Proofs
attribute [local irreducible] Run1 OpG WL W AO Gives
set_option maxRecDepth 100000 in
theorem arena12_calls (w : World) {ad : Option Addr} {cp : Nat} {xs : List Int} (R : RowAt w 1 ad xs.length (xs.map (.int .u8))) (hx : ∀ x ∈ xs, inR .u8 x) {n m : Int} (n0 : 0 ≤ n) (n1 : n ≤ 255) (m0 : 0 ≤ m) (m1 : m ≤ 255) : Calls Try.prog 14 #[.slice ad xs.length cp, .int .u8 n, .int .u8 m] w (Ret fun v w' => ∃ ado co segs A, v = .slice ado A.length co ∧ OwnA 63 33 w' w.heap.size (.slice ado A.length co) segs A ∧ Aren12 A ∧ Grow w w') := by
 have lR := R.lim
 have G := Grow.rfl' w
 refine calls_ret Try.func14 Try.ntmps14 Try.results14 rfl rfl ?_
 refine W_seq (W_region rfl ?_)
 refine stp (r_assign_slice rfl ?_)
 refine WL_nil ?_
 refine W_seq (W_region rfl ?_)
 refine stp (r_move_slice rfl ?_)
 refine stp (r_move_int rfl ?_)
 refine WL_some (og rfl ?_)
 refine r_call rfl (arena7_calls _ (R.grow G) hx n0 n1) ?_
 rintro v_ w1 ⟨ado, co, segs, A, rfl, hO_, hB, g_⟩
 have hO := hO_.lower G.size
 clear hO_
 replace G := G.tr g_
 clear g_
 obtain ⟨hAl, hA1, hA3, hA4⟩ := hB
 refine stp (r_assign_slice rfl ?_)
 refine WL_nil ?_
 refine W_seq ?_
 refine W_seq (W_region rfl ?_)
 refine stp (r_assign_int rfl ?_)
 refine WL_nil ?_
 refine W_block ?_
 refine W_loop (fun m_ e_ w_ => ∃ (k : Nat) (ado : Option Addr) (co : Nat) (segs : List Value) (A : List (List Int)), m_ = 40 - k ∧ Fr [(1, .int .u8 n), (2, .int .u8 m), (6, .slice none 0 0), (8, .int .i64 (k : Int)), (7, .slice ado A.length co)] e_ ∧ (k ≤ 40) ∧ ((A.length : Int) = 1 + n % 5) ∧ (1 ≤ len2 A 0) ∧ (∀ j, len2 A j ≤ 13 + k) ∧ (AllU A) ∧ (OwnA 63 33 w_ w.heap.size (.slice ado A.length co) segs A) ∧ Grow w w_) _ ⟨0, ado, co, segs, A, rfl, fr_of ⟨rfl, rfl, rfl, rfl, rfl, trivial⟩, by omega, hAl, hA1, fun j => by have := hA3 j; omega, hA4, hO, G⟩ ?_
 clear hO
 clear G
 rintro m_ e_ w2 ⟨k, ado, co, segs, A, rfl, ⟨e3, rfl⟩, hk, hAl, hA1, hA3, hA4, hO, G⟩
 refine W_seq ?_
 refine W_seq (W_region rfl ?_)
 refine stp (r_move_int rfl ?_)
 refine stp (r_move_int rfl ?_)
 refine stp (r_rem rfl rfl ?_ ?_ ?_); omega; omega
 refine stp (r_conv rfl ?_ ?_); constructor <;> omega
 refine stp (r_lss rfl rfl ?_)
 refine WL_nil ?_
 refine W_cond2 (b := (decide ((k : Int) < (m % 40)))) rfl (fun hlt => ?_) (fun hlt => ?_)
 ·-- true
  replace hlt := of_decide_eq_true hlt
  obtain ⟨q, hq⟩ : ∃ q : Nat, A.length = q + 1 := ⟨A.length - 1, by omega⟩
  have hqA : q < A.length := by omega
  obtain ⟨ado1, co1, sa, sc, hso, hco1, hco2, RO, hsf⟩ := hO.fn (by omega)
  simp only [Value.slice.injEq, true_and] at hso
  obtain ⟨rfl, rfl⟩ := hso
  obtain ⟨hss, hos⟩ := hsf q hqA
  have hl3 := hA3 q
  obtain ⟨g, c0, cur0, he0, hgb, hg0, -, -, hcl0, hct0⟩ := own_pos hO.out (by omega)
  simp only [Value.slice.injEq] at he0
  obtain ⟨rfl, -, rfl⟩ := he0
  refine W_skip ?_
  refine W_seq ?_
  refine W_block ?_
  refine W_region rfl ?_
  refine stp (r_move_slice rfl ?_)
  refine stp (r_move_slice rfl ?_)
  refine stp (r_len rfl rfl rfl ?_)
  refine WL_some (og rfl ?_)
  refine r_sub rfl rfl ?_ ?_; constructor <;> omega
  rw [show (A.length : Int) - 1 = (q : Int) from by omega]
  refine stp (r_move_slice rfl ?_)
  refine stp (r_move_slice rfl ?_)
  refine stp (r_len rfl rfl rfl ?_)
  refine WL_some (og rfl ?_)
  refine r_sub rfl rfl ?_ ?_; constructor <;> omega
  rw [show (A.length : Int) - 1 = (q : Int) from by omega]
  refine stp (r_indexN RO rfl rfl ?_ ?_); omega
  refine stp (r_loadR (v := .slice (sa q) (len2 A q) (sc q)) (m := 0) RO rfl (by rw [Nat.mul_one]; exact hss) ?_)
  refine stp (r_move_int rfl ?_)
  refine stp (r_conv rfl ?_ ?_); constructor <;> omega
  refine stp (r_move_int rfl ?_)
  refine stp (r_conv rfl ?_ ?_); constructor <;> omega
  refine stp (r_mulw rfl rfl ?_)
  refine stp (r_buildSlice (cs := #[.int .u64 (IntKind.u64.wrap ((k : Int) * n))]) (el := 33) (fun w => by kernel_rfl) ?_)
  intro bs4 w5 hb6 hc7 g8
  have hge9 := Nat.le_trans G.size hb6
  replace hO := hO.grow g8
  replace RO := RO.grow g8
  replace hos := own_grow hos g8
  replace hg0 := g8.heap hg0
  replace G := G.tr g8
  clear g8
  refine stp (r_appendB rfl rfl rfl rfl hos (Row.of_block (n := 1) hc7 rfl rfl (by omega)) (fun q_ hq_ => by simp at hq_; subst hq_; rfl) (by simp only [maxLen]; omega) (by omega) G.size ?_)
  intro v5 w5 own6 gr6 hbk6
  have hg1 := gr_heap gr6 hg0 (own_ne hos hg0 (by decide))
  have G5 := G.grown gr6 (own_ge hos)
  obtain ⟨ad4, n4, c4, rfl⟩ := own_slice own6
  refine WL_some (og rfl ?_)
  refine r_indexAddr (b := g) (o := 0) (n := A.length) (c := co) (i := (q : Int)) rfl rfl (by omega) (by omega) ?_
  rw [Int.toNat_natCast, Nat.zero_add, Nat.mul_one]
  refine WL_none (og rfl ?_)
  have hsz0 := congrArg List.length hct0
  refine r_store1 (v := .slice ad4 n4 c4) rfl rfl rfl hg1 (Nat.ble_eq_true_of_le (by simp only [List.length_take, Array.length_toList, hO.len] at hsz0; omega)) rfl ?_
  intro w7 hs7 u7
  have hAq : A[q]? = some (A.getD q []) := by rw [getD_at hqA]; exact List.getElem?_eq_getElem hqA
  have hO7 := OwnA.app (by decide) hO rfl hss hAq own6 gr6 hbk6 hg1 hs7 (by simp) u7
  have G7 := G5.upd u7 hgb
  replace G := G7
  refine WL_nil ?_
  refine W_region rfl ?_
  refine stp (r_move_int rfl ?_)
  refine stp (r_add rfl rfl ?_ ?_); constructor <;> omega
  refine stp (r_assign_int rfl ?_)
  refine WL_nil ?_
  have hls : (A.set q (A.getD q [] ++ [(IntKind.u64.wrap ((k : Int) * n))])).length = A.length := by simp
  rw [← hls] at hO7
  have hlq : len2 A q = (A.getD q []).length := rfl
  refine ⟨_, ?_, k + 1, (some ⟨g, 0, none⟩), co, _, A.set q (A.getD q [] ++ [(IntKind.u64.wrap ((k : Int) * n))]), rfl, fr_of ⟨rfl, rfl, rfl, congrArg (Value.int .i64) (by omega), by rw [hls]; rfl, trivial⟩, by omega, by rw [hls]; exact hAl, by rw [len2_set hqA, List.length_append, List.length_singleton]; split <;> omega, fun j => by rw [len2_set hqA, List.length_append, List.length_singleton]; have := hA3 j; split <;> omega, hA4.seg (fun y hy_ => by rcases List.mem_append.1 hy_ with h_ | h_; (exact hA4 _ (List.mem_of_getElem? hAq) y h_); (simp only [List.mem_singleton] at h_; subst h_; exact wrap_u64R _)), hO7, G⟩
  omega
 ·-- false
  replace hlt := of_decide_eq_false hlt
  refine W_exit ?_
  refine W_seq ?_
  refine W_seq (W_region rfl ?_)
  refine stp (r_assign_int rfl ?_)
  refine WL_nil ?_
  refine W_block ?_
  refine W_loop (fun m_ e_ w_ => ∃ (i : Nat) (ado : Option Addr) (co : Nat) (segs : List Value) (A : List (List Int)), m_ = 6 - i ∧ Fr [(2, .int .u8 m), (6, .slice none 0 0), (9, .int .i64 (i : Int)), (7, .slice ado A.length co)] e_ ∧ (i ≤ 6) ∧ ((A.length : Int) = 1 + n % 5 + i) ∧ (1 ≤ len2 A 0) ∧ (∀ j, len2 A j ≤ 60) ∧ (AllU A) ∧ (OwnA 63 33 w_ w.heap.size (.slice ado A.length co) segs A) ∧ Grow w w_) _ ⟨0, ado, co, segs, A, rfl, fr_of ⟨rfl, rfl, rfl, rfl, trivial⟩, by omega, by omega, hA1, fun j => by have := hA3 j; omega, hA4, hO, G⟩ ?_
  clear hO
  clear G
  rintro m_ e_ w10 ⟨i, ado, co, segs, A, rfl, ⟨e11, rfl⟩, hi, hAl, hA1, hA3, hA4, hO, G⟩
  refine W_seq ?_
  refine W_seq (W_region rfl ?_)
  refine stp (r_move_int rfl ?_)
  refine stp (r_move_int rfl ?_)
  refine stp (r_rem rfl rfl ?_ ?_ ?_); omega; omega
  refine stp (r_conv rfl ?_ ?_); constructor <;> omega
  refine stp (r_lss rfl rfl ?_)
  refine WL_nil ?_
  refine W_cond2 (b := (decide ((i : Int) < (m % 7)))) rfl (fun hlt2 => ?_) (fun hlt2 => ?_)
  ·-- true
   replace hlt2 := of_decide_eq_true hlt2
   have hlow := hO.low
   refine W_skip ?_
   refine W_seq ?_
   refine W_block ?_
   refine W_region rfl ?_
   refine stp (r_move_slice rfl ?_)
   refine stp (r_move_int rfl ?_)
   refine stp (r_make (n := i) (base := w.heap.size) rfl rfl (by first | omega | (simp only [maxLen]; omega)) (by first | omega | (simp only [maxLen]; omega)) G.size ?_)
   intro bm15 w12 hb13 own16 g14
   rw [show (madeCells (Value.cells (.int .u64 0 : Value)) (i * 1)).toList = List.replicate i (.int .u64 0) from by rw [Nat.mul_one]; exact toList_madeCells_one _ _] at own16
   replace hO := hO.grow g14
   replace G := G.tr g14
   clear g14
   refine stp (r_buildSlice (cs := #[.slice (some ⟨bm15, 0, none⟩) i i]) (el := 63) (fun w => by kernel_rfl) ?_)
   intro bs17 w18 hb19 hc20 g21
   have hge22 := Nat.le_trans G.size hb19
   replace hO := hO.grow g21
   replace own16 := own_grow own16 g21
   replace G := G.tr g21
   clear g21
   refine WL_some (og rfl ?_)
   have hout := hO.out
   refine r_append rfl rfl rfl rfl hout (Row.of_block (n := 1) hc20 rfl rfl (by omega)) (fun q_ hq_ => by simp at hq_; subst hq_; rfl) (by simp only [maxLen]; omega) (by omega) G.size ?_
   intro v5 w5 own6 gr6
   have hO6 := OwnA.push (ws := List.replicate i 0) (by decide) hO (by rw [List.length_replicate, wordsV, List.map_replicate]; exact own16) (fun i_ u b_ hu_ hb_ he_ => by have := hlow i_ u b_ hu_ hb_; simp only [Value.ownBlock, Option.some.injEq] at he_; omega) gr6 own6
   replace G := G.grown gr6 (own_ge hout)
   obtain ⟨ad9, n9, c9, rfl⟩ := own_slice own6
   have hn9 := own_len own6
   subst hn9
   refine stp (r_assign_slice rfl ?_)
   refine WL_nil ?_
   refine W_region rfl ?_
   refine stp (r_move_int rfl ?_)
   refine stp (r_add rfl rfl ?_ ?_); constructor <;> omega
   refine stp (r_assign_int rfl ?_)
   refine WL_nil ?_
   have hpl : (A ++ [List.replicate i (0 : Int)]).length = A.length + 1 := by simp
   rw [← hpl] at hO6
   refine ⟨_, ?_, i + 1, ad9, c9, _, A ++ [List.replicate i 0], rfl, fr_of ⟨rfl, rfl, congrArg (Value.int .i64) (by omega), by rw [hpl]; rfl, trivial⟩, by omega, by rw [hpl]; omega, by rw [len2_push]; split <;> omega, fun j => by rw [len2_push, List.length_replicate]; have := hA3 j; (repeat' split) <;> omega, hA4.push (fun y hy_ => by rw [List.eq_of_mem_replicate hy_]; simp [inR]), hO6, G⟩
   omega
  ·-- false
   replace hlt2 := of_decide_eq_false hlt2
   refine W_exit ?_
   refine W_seq (W_region rfl ?_)
   refine stp (r_move_slice rfl ?_)
   refine stp (r_assign_slice rfl ?_)
   refine WL_nil ?_
   refine W_ret ?_
   refine ret1 (res_tmp (v := .slice ado A.length co) rfl) ⟨ado, co, segs, A, rfl, hO, Aren12.of (by omega) (by omega) hA1 hA3 hA4, G⟩
end Go.Proofs.Ytifhcfhdajkhlaa.K

namespace Go.Proofs.Ytifhcfhdajkhlaa.K
open Go Go.RowKit Go.Proofs
attribute [local irreducible] Run1 OpG WL W AO Gives
set_option maxRecDepth 100000 in
theorem rsame_calls (w : World) {u v : Value} {A B : List (List Int)} (hA : ArenaR w u A) (hB : ArenaR w v B) : Gives Try.prog 21 #[u, v] w (.bool (decide (A = B))) := by
 obtain ⟨ada, ca, segsa, sa, sca, rfl, -, -, RA, hsa, hra⟩ := hA.fn
 obtain ⟨adb, cb, segsb, sb, scb, rfl, -, -, RB, hsb, hrb⟩ := hB.fn
 have la := RA.lim
 have lb := RB.lim
 have G := Grow.rfl' w
 refine gives_of Try.func21 Try.ntmps21 Try.results21 rfl rfl ?_
 refine W_seq (W_region rfl ?_)
 refine stp (r_assign (v := .bool false) rfl ?_)
 refine WL_nil ?_
 refine W_seq ?_
 refine W_seq (W_region rfl ?_)
 refine stp (r_move_slice rfl ?_)
 refine stp (r_len rfl rfl rfl ?_)
 refine stp (r_move_slice rfl ?_)
 refine stp (r_len rfl rfl rfl ?_)
 refine stp (r_neq rfl rfl ?_)
 refine WL_nil ?_
 refine W_cond2 (b := (decide ((A.length : Int) ≠ (B.length : Int)))) rfl (fun h1 => ?_) (fun h1 => ?_)
 ·-- true
  replace h1 := of_decide_eq_true h1
  refine W_seq (W_region rfl ?_)
  refine stp (r_assign (v := .bool false) rfl ?_)
  refine WL_nil ?_
  refine W_ret ?_
  refine ret1 (res_tmp (v := .bool false) rfl) ⟨?_, G⟩
  congr 1; exact (decide_eq_false (fun he => h1 (by rw [he]))).symm
 ·-- false
  replace h1 := of_decide_eq_false h1
  have hl : A.length = B.length := by omega
  refine W_skip ?_
  refine W_seq ?_
  refine W_seq (W_region rfl ?_)
  refine stp (r_assign_int rfl ?_)
  refine WL_nil ?_
  refine W_block ?_
  refine W_loop (fun m_ e_ w_ => ∃ (k : Nat), m_ = A.length - k ∧ Fr [(0, .slice ada A.length ca), (1, .slice adb B.length cb), (5, .int .i64 (k : Int))] e_ ∧ (k ≤ A.length) ∧ (∀ j, j < k → A.getD j [] = B.getD j []) ∧ Grow w w_) _ ⟨0, rfl, fr_of ⟨rfl, rfl, rfl, trivial⟩, by omega, fun j hj => by omega, G⟩ ?_
  clear G
  rintro m_ e_ w1 ⟨k, rfl, ⟨e2, rfl⟩, hk2, hk, G⟩
  refine W_seq ?_
  refine W_seq (W_region rfl ?_)
  refine stp (r_move_int rfl ?_)
  refine stp (r_move_slice rfl ?_)
  refine stp (r_len rfl rfl rfl ?_)
  refine stp (r_lss rfl rfl ?_)
  refine WL_nil ?_
  refine W_cond2 (b := (decide ((k : Int) < (A.length : Int)))) rfl (fun hlt => ?_) (fun hlt => ?_)
  ·-- true
   replace hlt := of_decide_eq_true hlt
   have hi : k < A.length := by omega
   have hi2 : k < B.length := by omega
   obtain ⟨-, -, Rk⟩ := hra k hi
   obtain ⟨-, -, Qk⟩ := hrb k hi2
   have lk := Rk.lim
   have mk := Qk.lim
   refine W_skip ?_
   refine W_seq ?_
   refine W_block ?_
   refine W_seq ?_
   refine W_seq ?_
   refine W_any 11 [[], [], [1, 0], [2, 1, 0], [3, 2, 1, 0], [], [], [1, 0], [2, 1, 0], [3, 2, 1, 0], [9, 8, 7, 6, 5, 4, 3, 2, 1, 0]] mixed (by kernel_rfl) (by kernel_rfl) (by kernel_rfl) ?_
   intro w3 g4
   replace G := G.tr g4
   clear g4
   apply AO_ex
   ·intro w_ g_; refine og rfl ?_; refine r_move_slice rfl ?_; exact ⟨Grow.rfl' _, rfl⟩
   apply AO_ex
   ·intro w_ g_; refine og rfl ?_; refine r_move_int rfl ?_; exact ⟨Grow.rfl' _, rfl⟩
   apply AO_ex
   ·intro w_ g_; refine og rfl ?_; refine r_indexN (RA.grow (G.tr g_)) rfl rfl ?_ ?_; omega; exact ⟨Grow.rfl' _, rfl⟩
   apply AO_ex
   ·intro w_ g_; refine og rfl ?_; refine r_loadR (v := .slice (sa k) (len2 A k) (sca k)) (m := 0) (RA.grow (G.tr g_)) rfl (by rw [Nat.mul_one]; exact hsa _ (by omega)) ?_; exact ⟨Grow.rfl' _, rfl⟩
   apply AO_ex
   ·intro w_ g_; refine og rfl ?_; refine r_len rfl rfl rfl ?_; exact ⟨Grow.rfl' _, rfl⟩
   apply AO_ex
   ·intro w_ g_; refine og rfl ?_; refine r_move_slice rfl ?_; exact ⟨Grow.rfl' _, rfl⟩
   apply AO_ex
   ·intro w_ g_; refine og rfl ?_; refine r_move_int rfl ?_; exact ⟨Grow.rfl' _, rfl⟩
   apply AO_ex
   ·intro w_ g_; refine og rfl ?_; refine r_indexN (RB.grow (G.tr g_)) rfl rfl ?_ ?_; omega; exact ⟨Grow.rfl' _, rfl⟩
   apply AO_ex
   ·intro w_ g_; refine og rfl ?_; refine r_loadR (v := .slice (sb k) (len2 B k) (scb k)) (m := 0) (RB.grow (G.tr g_)) rfl (by rw [Nat.mul_one]; exact hsb _ (by omega)) ?_; exact ⟨Grow.rfl' _, rfl⟩
   apply AO_ex
   ·intro w_ g_; refine og rfl ?_; refine r_len rfl rfl rfl ?_; exact ⟨Grow.rfl' _, rfl⟩
   apply AO_ex
   ·intro w_ g_; refine og rfl ?_; refine r_neq rfl rfl ?_; exact ⟨Grow.rfl' _, rfl⟩
   refine AO_nil ?_
   intro w5 g6
   replace G := G.tr g6
   clear g6
   refine WL_nil ?_
   refine W_cond2 (b := (decide (((len2 A k) : Int) ≠ ((len2 B k) : Int)))) rfl (fun h3 => ?_) (fun h3 => ?_)
   ·-- true
    replace h3 := of_decide_eq_true h3
    refine W_seq (W_region rfl ?_)
    refine stp (r_assign (v := .bool false) rfl ?_)
    refine WL_nil ?_
    refine W_ret ?_
    refine ret1 (res_tmp (v := .bool false) rfl) ⟨?_, G⟩
    congr 1; exact (decide_eq_false (fun he => h3 (by rw [he]))).symm
   ·-- false
    replace h3 := of_decide_eq_false h3
    have hl2 : (A.getD k []).length = (B.getD k []).length := by simp only [len2] at h3; omega
    refine W_skip ?_
    refine W_seq (W_region rfl ?_)
    refine stp (r_assign_int rfl ?_)
    refine WL_nil ?_
    refine W_block ?_
    refine W_loop (fun m_ e_ w_ => ∃ (m : Nat), m_ = len2 A k - m ∧ Fr [(0, .slice ada A.length ca), (1, .slice adb B.length cb), (5, .int .i64 (k : Int)), (6, .int .i64 (m : Int))] e_ ∧ (m ≤ len2 A k) ∧ (∀ j, j < m → (A.getD k []).getD j 0 = (B.getD k []).getD j 0) ∧ Grow w w_) _ ⟨0, rfl, fr_of ⟨rfl, rfl, rfl, rfl, trivial⟩, by omega, fun j hj => by omega, G⟩ ?_
    clear G
    rintro m_ e_ w7 ⟨m, rfl, ⟨e8, rfl⟩, hm2, hm, G⟩
    refine W_seq ?_
    refine W_seq (W_region rfl ?_)
    refine stp (r_move_int rfl ?_)
    refine stp (r_move_slice rfl ?_)
    refine stp (r_move_int rfl ?_)
    refine stp (r_indexN (RA.grow G) rfl rfl ?_ ?_); omega
    refine stp (r_loadR (v := .slice (sa k) (len2 A k) (sca k)) (m := 0) (RA.grow G) rfl (by rw [Nat.mul_one]; exact hsa _ (by omega)) ?_)
    refine stp (r_len rfl rfl rfl ?_)
    refine stp (r_lss rfl rfl ?_)
    refine WL_nil ?_
    refine W_cond2 (b := (decide ((m : Int) < ((len2 A k) : Int)))) rfl (fun hlt2 => ?_) (fun hlt2 => ?_)
    ·-- true
     replace hlt2 := of_decide_eq_true hlt2
     have hm3 : m < (A.getD k []).length := by simp only [len2] at hlt2 hm2; omega
     have hm4 : m < (B.getD k []).length := by omega
     refine W_skip ?_
     refine W_seq ?_
     refine W_block ?_
     refine W_seq ?_
     refine W_any 15 [[], [], [1, 0], [2, 1, 0], [], [4, 3, 2, 1, 0], [5, 4, 3, 2, 1, 0], [], [], [1, 0], [2, 1, 0], [], [4, 3, 2, 1, 0], [5, 4, 3, 2, 1, 0], [13, 12, 11, 10, 9, 8, 7, 6, 5, 4, 3, 2, 1, 0]] mixed (by kernel_rfl) (by kernel_rfl) (by kernel_rfl) ?_
     intro w9 g10
     replace G := G.tr g10
     clear g10
     apply AO_ex
     ·intro w_ g_; refine og rfl ?_; refine r_move_slice rfl ?_; exact ⟨Grow.rfl' _, rfl⟩
     apply AO_ex
     ·intro w_ g_; refine og rfl ?_; refine r_move_int rfl ?_; exact ⟨Grow.rfl' _, rfl⟩
     apply AO_ex
     ·intro w_ g_; refine og rfl ?_; refine r_indexN (RA.grow (G.tr g_)) rfl rfl ?_ ?_; omega; exact ⟨Grow.rfl' _, rfl⟩
     apply AO_ex
     ·intro w_ g_; refine og rfl ?_; refine r_loadR (v := .slice (sa k) (len2 A k) (sca k)) (m := 0) (RA.grow (G.tr g_)) rfl (by rw [Nat.mul_one]; exact hsa _ (by omega)) ?_; exact ⟨Grow.rfl' _, rfl⟩
     apply AO_ex
     ·intro w_ g_; refine og rfl ?_; refine r_move_int rfl ?_; exact ⟨Grow.rfl' _, rfl⟩
     apply AO_ex
     ·intro w_ g_; refine og rfl ?_; refine r_indexN (Rk.grow (G.tr g_)) rfl rfl ?_ ?_; omega; exact ⟨Grow.rfl' _, rfl⟩
     apply AO_ex
     ·intro w_ g_; refine og rfl ?_; refine r_loadR (v := .int .u64 ((A.getD k []).getD m 0)) (m := 0) (Rk.grow (G.tr g_)) rfl (map_get1 0 (by omega)) ?_; exact ⟨Grow.rfl' _, rfl⟩
     apply AO_ex
     ·intro w_ g_; refine og rfl ?_; refine r_move_slice rfl ?_; exact ⟨Grow.rfl' _, rfl⟩
     apply AO_ex
     ·intro w_ g_; refine og rfl ?_; refine r_move_int rfl ?_; exact ⟨Grow.rfl' _, rfl⟩
     apply AO_ex
     ·intro w_ g_; refine og rfl ?_; refine r_indexN (RB.grow (G.tr g_)) rfl rfl ?_ ?_; omega; exact ⟨Grow.rfl' _, rfl⟩
     apply AO_ex
     ·intro w_ g_; refine og rfl ?_; refine r_loadR (v := .slice (sb k) (len2 B k) (scb k)) (m := 0) (RB.grow (G.tr g_)) rfl (by rw [Nat.mul_one]; exact hsb _ (by omega)) ?_; exact ⟨Grow.rfl' _, rfl⟩
     apply AO_ex
     ·intro w_ g_; refine og rfl ?_; refine r_move_int rfl ?_; exact ⟨Grow.rfl' _, rfl⟩
     apply AO_ex
     ·intro w_ g_; refine og rfl ?_; refine r_indexN (Qk.grow (G.tr g_)) rfl rfl ?_ ?_; omega; exact ⟨Grow.rfl' _, rfl⟩
     apply AO_ex
     ·intro w_ g_; refine og rfl ?_; refine r_loadR (v := .int .u64 ((B.getD k []).getD m 0)) (m := 0) (Qk.grow (G.tr g_)) rfl (map_get1 0 (by omega)) ?_; exact ⟨Grow.rfl' _, rfl⟩
     apply AO_ex
     ·intro w_ g_; refine og rfl ?_; refine r_neq rfl rfl ?_; exact ⟨Grow.rfl' _, rfl⟩
     refine AO_nil ?_
     intro w11 g12
     replace G := G.tr g12
     clear g12
     refine WL_nil ?_
     refine W_cond2 (b := (decide (((A.getD k []).getD m 0) ≠ ((B.getD k []).getD m 0)))) rfl (fun h5 => ?_) (fun h5 => ?_)
     ·-- true
      replace h5 := of_decide_eq_true h5
      refine W_seq (W_region rfl ?_)
      refine stp (r_assign (v := .bool false) rfl ?_)
      refine WL_nil ?_
      refine W_ret ?_
      refine ret1 (res_tmp (v := .bool false) rfl) ⟨?_, G⟩
      congr 1; exact (decide_eq_false (fun he => h5 (by rw [he]))).symm
     ·-- false
      replace h5 := of_decide_eq_false h5
      refine W_skip ?_
      refine W_region rfl ?_
      refine stp (r_move_int rfl ?_)
      refine stp (r_add rfl rfl ?_ ?_); constructor <;> omega
      refine stp (r_assign_int rfl ?_)
      refine WL_nil ?_
      refine ⟨_, ?_, m + 1, rfl, fr_of ⟨rfl, rfl, rfl, rfl, trivial⟩, by omega, fun j hj => by rcases Nat.lt_succ_iff_lt_or_eq.1 hj with h_ | h_; exact hm j h_; subst h_; omega, G⟩
      omega
    ·-- false
     replace hlt2 := of_decide_eq_false hlt2
     have hm5 : m = (A.getD k []).length := by simp only [len2] at hlt2 hm2; omega
     have hk9 : A.getD k [] = B.getD k [] := lists_eq hl2 (fun j hj => hm j (by omega))
     refine W_exit ?_
     refine W_region rfl ?_
     refine stp (r_move_int rfl ?_)
     refine stp (r_add rfl rfl ?_ ?_); constructor <;> omega
     refine stp (r_assign_int rfl ?_)
     refine WL_nil ?_
     refine ⟨_, ?_, k + 1, rfl, fr_of ⟨rfl, rfl, rfl, trivial⟩, by omega, fun j hj => by rcases Nat.lt_succ_iff_lt_or_eq.1 hj with h_ | h_; exact hk j h_; subst h_; exact hk9, G⟩
     omega
  ·-- false
   replace hlt := of_decide_eq_false hlt
   have hk3 : k = A.length := by omega
   refine W_exit ?_
   refine W_seq (W_region rfl ?_)
   refine stp (r_assign (v := .bool true) rfl ?_)
   refine WL_nil ?_
   refine W_ret ?_
   refine ret1 (res_tmp (v := .bool true) rfl) ⟨?_, G⟩
   congr 1; exact (decide_eq_true (lists_eq hl (fun j hj => hk j (by omega)))).symm
end Go.Proofs.Ytifhcfhdajkhlaa.K

namespace Go.Proofs.Ytifhcfhdajkhlaa.K
open Go Go.RowKit Go.Proofs
attribute [local irreducible] Run1 OpG WL W AO Gives
set_option maxRecDepth 100000 in
theorem PartStays_calls (w : World) {ad0 : Option Addr} {c0 : Nat} {xs0 : List Int} (R0 : RowAt w 1 ad0 xs0.length (xs0.map (.int .u8))) (hx0 : isU8 xs0) (hc0 : xs0.length ≤ c0) (hm0 : c0 ≤ maxLen) {n m : Int} (n0 : 0 ≤ n) (n1 : n ≤ 255) (m0 : 0 ≤ m) (m1 : m ≤ 255) {ii : Int} (i0 : 0 ≤ ii) (i1 : ii ≤ 255) {ad4 : Option Addr} {c4 : Nat} {xs4 : List Int} (R4 : RowAt w 1 ad4 xs4.length (xs4.map (.int .u8))) (hx4 : isU8 xs4) (hc4 : xs4.length ≤ c4) (hm4 : c4 ≤ maxLen) : Gives Try.prog 4 #[.slice ad0 xs0.length c0, .int .u8 n, .int .u8 m, .int .u8 ii, .slice ad4 xs4.length c4] w (.bool true) := by
 have lR := R0.lim
 have l4 := R4.lim
 have G := Grow.rfl' w
 refine gives_of Try.func4 Try.ntmps4 Try.results4 rfl rfl ?_
 refine W_seq (W_region rfl ?_)
 refine stp (r_assign (v := .bool false) rfl ?_)
 refine WL_nil ?_
 refine W_seq ?_
 refine W_seq (W_region rfl ?_)
 refine stp (r_move_slice rfl ?_)
 refine stp (r_len rfl rfl rfl ?_)
 refine stp (r_gtr rfl rfl ?_)
 refine WL_nil ?_
 refine W_cond2 (b := (decide ((xs4.length : Int) > 100))) rfl (fun h1 => ?_) (fun h1 => ?_)
 ·-- true
  replace h1 := of_decide_eq_true h1
  refine W_seq (W_region rfl ?_)
  refine stp (r_gives (v := .bool true) rfl (known16_calls _) ?_)
  intro w1 g2
  replace G := G.tr g2
  clear g2
  refine stp (r_assign (v := .bool true) rfl ?_)
  refine WL_nil ?_
  refine W_ret ?_
  refine ret1 (res_tmp (v := .bool true) rfl) ⟨?_, G⟩
  rfl
 ·-- false
  replace h1 := of_decide_eq_false h1
  refine W_skip ?_
  refine W_seq (W_region rfl ?_)
  refine stp (r_move_slice rfl ?_)
  refine stp (r_move_int rfl ?_)
  refine stp (r_move_int rfl ?_)
  refine WL_some (og rfl ?_)
  refine r_call rfl (arena12_calls _ (R0.grow G) hx0 n0 n1 m0 m1) ?_
  rintro v_ w3 ⟨adA, cA, sgA, A, rfl, hO, ⟨hr, hx, ⟨h1A, h16A⟩, hsA⟩, g_⟩
  replace G := G.tr g_
  clear g_
  have zhA := hO.arena (by omega) hsA
  clear hO
  have GA := Grow.rfl' w3
  have hwA := G.size
  obtain ⟨hw1, hch1⟩ := words_arena hr
  have hfit : fitsL (sizesP A) = true := by rw [fits_right]; exact hr
  have hrz : ∀ x ∈ sizesP A, inR .i64 x := fits_rng hfit
  have hle := wordsM_le (sizesP A)
  have hch : chunksM (sizesP A) = (wordsM (sizesP A) + 7) / 8 := rfl
  refine stp (r_assign_slice rfl ?_)
  refine WL_nil ?_
  refine W_seq (W_region rfl ?_)
  refine stp (r_move_slice rfl ?_)
  refine WL_some (og rfl ?_)
  have hGo := G.size
  have hszl := (sizesP_len A).symm
  refine r_call rfl (rof_calls _ (zhA.grow GA) hr hx (ses := 9) (by decide) (by decide)) ?_
  rintro v_ w4 ⟨adz, cz, hv_, hcz, oS_, g_⟩
  have oS := own_base oS_ hGo
  clear oS_
  replace GA := GA.tr g_
  replace G := G.tr g_
  clear g_
  rw [hszl] at oS hcz
  rw [hszl] at hv_
  subst hv_
  refine stp (r_move (v := .tuple #[.agg #[.int .u64 9, .slice adz ((sizesP A).length) cz, .int .u32 (sumA 9 A)], .int .i64 0]) rfl ?_)
  refine stp (r_extract (v := .agg #[.int .u64 9, .slice adz ((sizesP A).length) cz, .int .u32 (sumA 9 A)]) rfl rfl ?_)
  refine stp (r_extract (v := .int .i64 0) rfl rfl ?_)
  refine stp (r_alloc ?_)
  intro b5 w6 hb7 hc8 g9
  refine stn (r_storeAll rfl rfl hc8 (by rfl) (by rfl) (by rfl) ?_)
  intro w10 hc11 u12
  have g13 := g9.upd u12 hb7
  have hge14 := Nat.le_trans G.size hb7
  replace GA := GA.tr g13
  replace oS := own_grow oS g13
  replace G := G.tr g13
  clear u12 g9 hb7 hc8
  refine stp (r_assign_int rfl ?_)
  refine WL_nil ?_
  refine W_seq (W_region rfl ?_)
  refine stp (r_loadAll rfl hc11 (by rfl) ?_)
  refine stp (r_gives (v := .int .i64 (chunksM (sizesP A) : Int)) rfl ((by obtain ⟨_, _, hs9, -, -, RS⟩ := own_row oS (by rw [sizesP_len]; omega); cases hs9; exact rmchunks_calls _ RS hrz)) ?_)
  intro w15 g16
  replace GA := GA.tr g16
  replace oS := own_grow oS g16
  replace hc11 := g16.heap hc11
  replace G := G.tr g16
  clear g16
  refine stp (r_assign_int rfl ?_)
  refine WL_nil ?_
  refine W_seq (W_region rfl ?_)
  refine stp (r_move_slice rfl ?_)
  refine WL_some (og rfl ?_)
  have hGp := GA.size
  refine r_call rfl (filled_calls _ (zhA.grow GA) hr hx (xs := []) (c := 0) (RowAt.empty _ _ _) (fun x_ hx_ => by simp at hx_)) ?_
  rintro v_ w17 ⟨bp, gp, hp, wlp, kbp, rfl, HPp, hFp, g_⟩
  replace GA := GA.tr g_
  replace oS := own_grow oS g_
  replace hc11 := g_.heap hc11
  replace G := G.tr g_
  clear g_
  refine stp (r_assign (v := .pointer (some ⟨bp, 0, none⟩)) rfl ?_)
  refine WL_nil ?_
  obtain ⟨q, hq⟩ : ∃ q : Nat, (q : Int) = ii % (chunksM (sizesP A) : Int) := ⟨(ii % (chunksM (sizesP A) : Int)).toNat, by have := Int.emod_nonneg ii (show (chunksM (sizesP A) : Int) ≠ 0 by omega); omega⟩
  have hql : q < chunksM (sizesP A) := by have := Int.emod_lt_of_pos ii (show 0 < (chunksM (sizesP A) : Int) by omega); omega
  obtain ⟨hcl, hok⟩ := size_chunk hr hql
  have hcp : 0 < (chunkA A q).length := by have := (put_fits hok).2.2.2.1; omega
  have hc64 : (chunkA A q).length ≤ 64 := (put_fits hok).2.2.2.2
  obtain ⟨L, hL⟩ : ∃ L, L = (chunkA A q).length := ⟨_, rfl⟩
  have hLs : sizeM (sizesP A) (q : Int) = (L : Int) := by rw [hL, hcl]
  obtain ⟨zs, hzs, hzl, hzb⟩ : ∃ zs : List Int, zs.map (Value.int .u8) = List.replicate zs.length (.int .u8 0) ∧ zs.length = L + 1 ∧ isB zs := ⟨List.replicate (L + 1) 0, by rw [List.map_replicate, List.length_replicate], by simp, fun x_ hx_ => by rw [List.eq_of_mem_replicate hx_]; simp [inR]⟩
  refine W_seq (W_region rfl ?_)
  refine stp (r_move_int rfl ?_)
  refine stp (r_conv rfl ?_ ?_); constructor <;> omega
  refine stp (r_move_int rfl ?_)
  refine WL_some (og rfl ?_)
  refine r_rem rfl rfl ?_ ?_ ?_; omega; omega
  rw [← hq]
  refine stp (r_assign_int rfl ?_)
  refine WL_nil ?_
  refine W_seq (W_region rfl ?_)
  refine stp (r_loadAll rfl hc11 (by rfl) ?_)
  refine stp (r_move_int rfl ?_)
  refine stp (r_gives (v := .int .i64 (L : Int)) rfl ((by obtain ⟨_, _, hs9, -, -, RS⟩ := own_row oS (by rw [sizesP_len]; omega); cases hs9; exact gives_eq (rmsize_calls _ RS hrz (i := (q : Int)) (by simp only [inR]; omega)) (y := .int .i64 (L : Int)) (by rw [hLs]))) ?_)
  intro w18 g19
  replace GA := GA.tr g19
  replace oS := own_grow oS g19
  replace hc11 := g19.heap hc11
  replace HPp := HPp.grow g19
  replace G := G.tr g19
  clear g19
  refine stp (r_assign_int rfl ?_)
  refine WL_nil ?_
  have hIp := hFp.inv
  have hbz : ∀ c, bitQ kbp c = false := fun c => by simpa using hFp.bits c
  obtain ⟨_, hgw⟩ := HPp.words
  have hgl := lt_of_heap hgw
  clear hgw
  have hbzp := HPp.bases
  have hok0 : putOk (sizesP A) (q : Int) zs.length = false := decide_eq_false (by omega)
  refine W_seq (W_region rfl ?_)
  refine stp (r_move (v := .pointer (some ⟨bp, 0, none⟩)) rfl ?_)
  refine stp (r_move_int rfl ?_)
  refine stp (r_move_int rfl ?_)
  refine WL_some (og rfl ?_)
  refine r_add rfl rfl ?_ ?_; constructor <;> omega
  rw [show (L : Int) + 1 = (zs.length : Int) from by omega]
  refine stp (r_make (n := zs.length) (base := w.heap.size) rfl rfl (by first | omega | (simp only [maxLen]; omega)) (by first | omega | (simp only [maxLen]; omega)) G.size ?_)
  intro bm23 w20 hb21 own24 g22
  rw [show (madeCells (Value.cells (.int .u8 0 : Value)) (zs.length * 1)).toList = List.replicate zs.length (.int .u8 0) from by rw [Nat.mul_one]; exact toList_madeCells_one _ _] at own24
  replace GA := GA.tr g22
  replace oS := own_grow oS g22
  replace hc11 := g22.heap hc11
  replace HPp := HPp.grow g22
  replace G := G.tr g22
  clear g22
  refine WL_some (og rfl ?_)
  obtain ⟨_, _, hs9, -, -, R9⟩ := own_row own24 (by omega)
  cases hs9
  rw [← hzs] at R9
  have hdis : 0 < zs.length → ∀ q_ o_, some (Addr.mk bm23 0 none) = some ⟨q_, o_, none⟩ → q_ ≠ gp := fun _ q_ o_ he_ => by simp only [Option.some.injEq, Addr.mk.injEq] at he_; omega
  refine r_call rfl (pput_calls _ HPp (xs := zs) R9 (hzb) (Nat.le_refl _) hdis (i := (q : Int)) (by simp only [inR]; omega)) ?_
  rintro v_ w25 ⟨h2, rfl, HP2, K2, hh2⟩
  have hbg2 := HPp.bases
  replace G := G.trK K2 (fun x_ hx_ => by simp only [List.mem_cons, List.not_mem_nil, or_false] at hx_; omega)
  replace GA := GA.trK K2 (fun x_ hx_ => by simp only [List.mem_cons, List.not_mem_nil, or_false] at hx_; omega)
  clear K2
  obtain ⟨en1, en2⟩ := put_none (wl := wlp) (kb := kbp) (xs := zs) (.inl hok0)
  rw [en1, en2] at HP2
  rw [hok0]
  clear HPp
  have HPp := HP2
  clear HP2
  refine stp (r_assign (v := .bool false) rfl ?_)
  refine WL_nil ?_
  refine W_seq (W_region rfl ?_)
  refine stp (r_move (v := .pointer (some ⟨bp, 0, none⟩)) rfl ?_)
  refine stp (r_move_int rfl ?_)
  refine stp (r_move_slice rfl ?_)
  refine stp (r_move_int rfl ?_)
  refine WL_some (og rfl ?_)
  obtain ⟨_, hgw_HPp⟩ := HPp.words
  have hgl_HPp := lt_of_heap hgw_HPp
  clear hgw_HPp
  refine r_call rfl (rchunk_calls _ (zhA.grow GA) hr hx (i := q) (by omega)) ?_
  rintro v_ w26 ⟨ad9, c9, rfl, hc9, hcm9, R9, hfr9, g_⟩
  replace GA := GA.tr g_
  replace HPp := HPp.grow g_
  replace G := G.tr g_
  clear g_
  refine WL_some (og rfl ?_)
  have hdis : 0 < (chunkA A q).length → ∀ q_ o_, ad9 = some ⟨q_, o_, none⟩ → q_ ≠ gp := fun _ q_ o_ he_ => by obtain ⟨g_, q2_, cs_, he2_, hge_, -, -⟩ := hfr9 (by omega); rw [he2_] at he_; simp only [Option.some.injEq, Addr.mk.injEq] at he_; omega
  have hbs := HPp.bases
  refine r_call rfl (pput_calls _ HPp (xs := chunkA A q) R9 (chunkA_isB A q) hc9 hdis (i := (q : Int)) (by simp only [inR]; omega)) ?_
  rintro v_ w28 ⟨h2, rfl, HP2, K2, hh2⟩
  have hbg2 := HPp.bases
  replace G := G.trK K2 (fun x_ hx_ => by simp only [List.mem_cons, List.not_mem_nil, or_false] at hx_; omega)
  replace GA := GA.trK K2 (fun x_ hx_ => by simp only [List.mem_cons, List.not_mem_nil, or_false] at hx_; omega)
  clear K2
  rw [hok]
  clear HPp
  have HPp := HP2
  clear HP2
  obtain ⟨hIp2, hbp2⟩ := hIp.put hr hx hql
  refine stp (r_assign (v := .bool true) rfl ?_)
  refine WL_nil ?_
  refine W_seq (W_region rfl ?_)
  refine stp (r_move (v := .pointer (some ⟨bp, 0, none⟩)) rfl ?_)
  refine stp (r_move_int rfl ?_)
  refine stp (r_move_slice rfl ?_)
  refine WL_some (og rfl ?_)
  have hdis : 0 < xs4.length → ∀ q_ o_, ad4 = some ⟨q_, o_, none⟩ → q_ ≠ gp := fun h0_ q_ o_ he_ => by obtain ⟨b_, o2_, cs_, T_, fr_, he2_, hb_, -⟩ := R4.at_ h0_; have := lt_of_heap hb_; rw [he2_] at he_; simp only [Option.some.injEq, Addr.mk.injEq] at he_; omega
  have hbq : bitQ (putK (sizesP A) kbp (q : Int) (chunkA A q).length) ((q : Int)).toNat = true := by rw [Int.toNat_natCast, hbp2]; simp
  refine r_call rfl (pput_calls _ HPp (xs := xs4) (R4.grow G) (hx4) hc4 hdis (i := (q : Int)) (by simp only [inR]; omega)) ?_
  rintro v_ w29 ⟨h2, rfl, HP2, K2, hh2⟩
  have hbg2 := HPp.bases
  replace G := G.trK K2 (fun x_ hx_ => by simp only [List.mem_cons, List.not_mem_nil, or_false] at hx_; omega)
  replace GA := GA.trK K2 (fun x_ hx_ => by simp only [List.mem_cons, List.not_mem_nil, or_false] at hx_; omega)
  clear K2
  obtain ⟨en1, en2⟩ := put_none (sz := sizesP A) (wl := putW (sizesP A) wlp kbp q (chunkA A q)) (xs := xs4) (.inr hbq)
  rw [en1, en2] at HP2
  clear HPp
  have HPp := HP2
  clear HP2
  refine stp (r_assign_bool rfl ?_)
  refine WL_nil ?_
  refine W_seq ?_
  refine W_seq (W_region rfl ?_)
  refine stp (r_assign_int rfl ?_)
  refine WL_nil ?_
  refine W_block ?_
  refine W_loop (fun m_ e_ w_ => ∃ (i : Nat) (hp : Nat) (wlp : List Int) (kbp : List Int), m_ = chunksM (sizesP A) - i ∧ Fr [(4, .slice ad4 xs4.length c4), (10, .bool false), (11, .slice adA A.length cA), (14, .int .i64 (chunksM (sizesP A) : Int)), (15, .pointer (some ⟨bp, 0, none⟩)), (17, .int .i64 (L : Int)), (18, .bool false), (19, .bool true), (20, .bool (putOk (sizesP A) (q : Int) (xs4).length)), (21, .int .i64 (i : Int))] e_ ∧ (i ≤ chunksM (sizesP A)) ∧ (InvA A wlp kbp) ∧ (∀ c, c < i → bitQ kbp c = true) ∧ (Grow w3 w_) ∧ (PartR 80 3 33 5 w_ w15.heap.size bp gp hp 9 (sumA 9 A) (sizesP A) wlp kbp) ∧ Grow w w_) _ ⟨0, _, _, _, rfl, fr_of ⟨rfl, rfl, rfl, rfl, rfl, rfl, rfl, rfl, rfl, rfl, trivial⟩, by omega, hIp2, fun c h_ => by omega, GA, HPp, G⟩ ?_
  clear GA HPp
  clear G
  rintro m_ e_ w30 ⟨i, hp, wlp, kbp, rfl, ⟨e31, rfl⟩, hi, hIj, hbj, GA, HPp, G⟩
  refine W_seq ?_
  refine W_seq (W_region rfl ?_)
  refine stp (r_move_int rfl ?_)
  refine stp (r_move_int rfl ?_)
  refine stp (r_lss rfl rfl ?_)
  refine WL_nil ?_
  refine W_cond2 (b := (decide ((i : Int) < (chunksM (sizesP A) : Int)))) rfl (fun hlt => ?_) (fun hlt => ?_)
  ·-- true
   replace hlt := of_decide_eq_true hlt
   have hik : i < chunksM (sizesP A) := by omega
   obtain ⟨hclj, hokj⟩ := size_chunk hr hik
   have hcpj : 0 < (chunkA A i).length := by have := (put_fits hokj).2.2.2.1; omega
   obtain ⟨hIj2, hbj2⟩ := hIj.put hr hx hik
   refine W_skip ?_
   refine W_seq ?_
   refine W_block ?_
   refine W_region rfl ?_
   refine stp (r_move (v := .pointer (some ⟨bp, 0, none⟩)) rfl ?_)
   refine stp (r_move_int rfl ?_)
   refine stp (r_move_slice rfl ?_)
   refine stp (r_move_int rfl ?_)
   refine WL_some (og rfl ?_)
   obtain ⟨_, hgw_HPp⟩ := HPp.words
   have hgl_HPp := lt_of_heap hgw_HPp
   clear hgw_HPp
   refine r_call rfl (rchunk_calls _ (zhA.grow GA) hr hx (i := i) (by omega)) ?_
   rintro v_ w32 ⟨ad9, c9, rfl, hc9, hcm9, R9, hfr9, g_⟩
   replace GA := GA.tr g_
   replace HPp := HPp.grow g_
   replace G := G.tr g_
   clear g_
   refine WL_some (og rfl ?_)
   have hdis : 0 < (chunkA A i).length → ∀ q_ o_, ad9 = some ⟨q_, o_, none⟩ → q_ ≠ gp := fun _ q_ o_ he_ => by obtain ⟨g_, q2_, cs_, he2_, hge_, -, -⟩ := hfr9 (by omega); rw [he2_] at he_; simp only [Option.some.injEq, Addr.mk.injEq] at he_; omega
   have hbs := HPp.bases
   refine r_call rfl (pput_calls _ HPp (xs := chunkA A i) R9 (chunkA_isB A i) hc9 hdis (i := (i : Int)) (by simp only [inR]; omega)) ?_
   rintro v_ w34 ⟨h2, rfl, HP2, K2, hh2⟩
   have hbg2 := HPp.bases
   replace G := G.trK K2 (fun x_ hx_ => by simp only [List.mem_cons, List.not_mem_nil, or_false] at hx_; omega)
   replace GA := GA.trK K2 (fun x_ hx_ => by simp only [List.mem_cons, List.not_mem_nil, or_false] at hx_; omega)
   clear K2
   refine WL_nil ?_
   refine W_region rfl ?_
   refine stp (r_move_int rfl ?_)
   refine stp (r_add rfl rfl ?_ ?_); constructor <;> omega
   refine stp (r_assign_int rfl ?_)
   refine WL_nil ?_
   refine ⟨_, ?_, i + 1, _, _, _, rfl, fr_of ⟨rfl, rfl, rfl, rfl, rfl, rfl, rfl, rfl, rfl, congrArg (Value.int .i64) (by omega), trivial⟩, by omega, hIj2, bits_all hbj hbj2, GA, HP2, G⟩
   omega
  ·-- false
   replace hlt := of_decide_eq_false hlt
   have hWp := hIj.whole hr (fun c hc_ => hbj c (by omega))
   have h3 : putOk (sizesP A) (q : Int) xs4.length = decide ((xs4.length : Int) = (L : Int)) := by unfold putOk; exact decide_eq_decide.2 (by omega)
   refine W_exit ?_
   refine W_seq (W_region rfl ?_)
   refine stp (r_move (v := .pointer (some ⟨bp, 0, none⟩)) rfl ?_)
   refine WL_some (og rfl ?_)
   refine r_call rfl (pwhole_calls _ HPp) ?_
   rintro v_ w35 ⟨adw, nw, cw, rfl, hy, hn, g_⟩
   replace GA := GA.tr g_
   replace HPp := HPp.grow g_
   replace G := G.tr g_
   clear g_
   have hAw := hy hWp.2
   rw [hWp.1, cutW_flat] at hAw
   rw [hWp.2]
   refine stp (r_move (v := .tuple #[.slice adw nw cw, .bool true]) rfl ?_)
   refine stp (r_extract (v := .slice adw nw cw) rfl rfl ?_)
   refine stp (r_extract (v := .bool true) rfl rfl ?_)
   refine stp (r_assign_slice rfl ?_)
   refine stp (r_assign (v := .bool true) rfl ?_)
   refine WL_nil ?_
   refine W_seq (W_region rfl ?_)
   refine stp (r_gives (v := .bool true) rfl (known16_calls _) ?_)
   intro w36 g37
   replace GA := GA.tr g37
   replace HPp := HPp.grow g37
   replace hAw := hAw.grow g37
   replace G := G.tr g37
   clear g37
   refine stp (r_move (v := .bool true) rfl ?_)
   refine stp (r_move (v := .bool false) rfl ?_)
   refine stp (r_not_t rfl rfl ?_)
   refine stp (r_pick_t (v := .bool true) rfl rfl rfl ?_)
   refine stp (r_move (v := .bool true) rfl ?_)
   refine stp (r_move (v := .bool true) rfl ?_)
   refine stp (r_pick_t (v := .bool true) rfl rfl rfl ?_)
   refine stp (r_move (v := .bool true) rfl ?_)
   refine stp (r_move_bool rfl ?_)
   refine stp (r_move_slice rfl ?_)
   refine stp (r_len rfl rfl rfl ?_)
   refine stp (r_move_int rfl ?_)
   refine stp (r_eql rfl rfl ?_)
   refine stp (r_beq' (r := true) rfl rfl (by rw [h3]; simp) ?_)
   refine stp (r_pick_t (v := .bool true) rfl rfl rfl ?_)
   refine stp (r_move (v := .bool true) rfl ?_)
   refine stp (r_move (v := .bool true) rfl ?_)
   refine stp (r_pick_t (v := .bool true) rfl rfl rfl ?_)
   refine stp (r_move (v := .bool true) rfl ?_)
   refine stp (r_move_slice rfl ?_)
   refine stp (r_move_slice rfl ?_)
   refine stp (r_gives (v := .bool true) rfl (gives_eq (rsame_calls _ hAw (zhA.grow GA)) (y := .bool true) (by rw [decide_eq_true rfl])) ?_)
   intro w38 g39
   replace GA := GA.tr g39
   replace HPp := HPp.grow g39
   replace hAw := hAw.grow g39
   replace G := G.tr g39
   clear g39
   refine stp (r_pick_t (v := .bool true) rfl rfl rfl ?_)
   refine stp (r_assign (v := .bool true) rfl ?_)
   refine WL_nil ?_
   refine W_ret ?_
   refine ret1 (res_tmp (v := .bool true) rfl) ⟨?_, G⟩
   rfl
end Go.Proofs.Ytifhcfhdajkhlaa.K

namespace Go.Proofs.Ytifhcfhdajkhlaa.K
open Go Go.RowKit Go.ChangeShapes Go.WideShapes

section
variable {H : Type} {enc : TypeId × Value → H} {P : Program} {w : World}
/-- What is told of an argument, or of a part of it: it is read so, and is no greater than memory is. -/
structure Told (enc : TypeId × Value → H) (P : Program) (w : World) (fuel : Nat) (t : TypeId) (cs : List Value) : Prop where
  h : ∃ d p, DataW.trod enc P w 0 (fun _ => true) true fuel t cs = some (d, p) ∧ ∀ n ∈ d.weights P t, n ≤ reachBytes
theorem told_of {ts : List TypeId} {ds : List (DataW H)} {j : Nat} {t : TypeId} {d : DataW H} {v : Value} {p : List MemPlace} (h : DataW.Trod enc P w 0 (fun _ => true) true t v d p) (hz : (DataW.weightsEach P ts ds).all (· ≤ reachBytes) = true) (ht : ts[j]? = some t) (hd : ds[j]? = some d) : ∃ fuel, Told enc P w fuel t v.cells.toList := by
  obtain ⟨fuel, hf⟩ := h
  exact ⟨fuel, ⟨d, p, hf, fun n hn => by simpa using List.all_eq_true.1 hz n (DataW.weights_mem_each ht hd n hn)⟩⟩
theorem mapM_ex {α β : Type} {f : α → Option β} : ∀ {l : List α} {r : List β}, l.mapM f = some r → ∀ (i : Nat) (x : α), l[i]? = some x → ∃ y, f x = some y ∧ r[i]? = some y := by
  intro l r h i x hx
  have h1 := mapM_some_get h i x hx
  have hl := mapM_some_length h
  have hi : i < r.length := by rw [hl]; exact (List.getElem?_eq_some_iff.1 hx).1
  rw [List.getElem?_eq_getElem hi] at h1
  exact ⟨_, h1, List.getElem?_eq_getElem hi⟩
theorem weightsAll_mem {e : TypeId} : ∀ {ds : List (DataW H)} {i : Nat} {d : DataW H}, ds[i]? = some d → ∀ n ∈ d.weights P e, n ∈ DataW.weightsAll P e ds
  | [], i, d, h, _, _ => by simp at h
  | x :: ds, 0, d, h, n, hn => by
    simp only [List.getElem?_cons_zero, Option.some.injEq] at h
    subst h
    simp only [DataW.weightsAll, List.mem_append]; exact .inl hn
  | x :: ds, i + 1, d, h, n, hn => by
    simp only [DataW.weightsAll, List.mem_append]; exact .inr (weightsAll_mem (by simpa using h) n hn)
/-- A slice, opened: what it holds, and each element. -/
theorem told_slice {t e : TypeId} {sz by_ fuel : Nat} {cs : List Value} (ht : P.underlying t = some (.slice e)) (hc : P.cellsOf e = sz) (hsz : 0 < sz) (hby : P.bytesOf e = by_) (hby1 : 1 ≤ by_) (h : Told enc P w fuel t cs) :
    ∃ f ad n c xs, fuel = f + 1 ∧ cs = [.slice ad n c] ∧ n ≤ c ∧ c ≤ maxLen ∧ RowAt w sz ad n xs ∧ ∀ i, i < n → Told enc P w f e ((xs.drop (i * sz)).take sz) := by
  obtain ⟨d, p, hd, hw⟩ := h
  rcases DataW.trod_slice ht hd with ⟨rfl, hx⟩ | ⟨a, len, cap, elems, rest, n, rfl, rfl, hx, _, hl, hm, hlen, hel, _, _⟩
  · cases fuel with
    | zero => simp [DataW.trod] at hd
    | succ f => exact ⟨f, none, 0, 0, [], rfl, rfl, Nat.le_refl _, Nat.zero_le _, RowAt.empty _ _ _, fun i hi => by omega⟩
  · simp only [Prod.mk.injEq] at hx
    obtain ⟨rfl, _⟩ := hx
    have hwt : ∀ n ∈ DataW.weightsAll P e (elems.map (·.1)), n ≤ reachBytes := fun n hn => hw n (by simp only [DataW.weights, ht, List.mem_cons, List.mem_append]; exact .inr (.inl hn))
    have hlim : len * by_ ≤ reachBytes := by
      have := hw (((elems.map (·.1)).length + (rest.map (·.1)).length) * P.bytesOf e) (by simp only [DataW.weights, ht, List.mem_cons, true_or])
      rw [hby, List.length_map, hlen, List.length_map, Nat.add_mul] at this
      omega
    have hlen2 : len ≤ 140737488355328 := by
      have h1 : len * 1 ≤ len * by_ := Nat.mul_le_mul_left _ hby1
      have h2 : reachBytes ≤ 140737488355328 := by decide
      omega
    -- each element
    have each : ∀ i, i < len → ∃ ys x, w.cells? 0 (a.add (i * sz)) sz = some ys ∧ DataW.trod enc P w 0 (fun _ => true) true n e ys = some x ∧ elems[i]? = some x := by
      intro i hi
      have hh := hel i hi
      have hi2 : i < elems.length := by omega
      rw [List.getElem?_eq_getElem hi2, hc] at hh
      simp only [Option.bind_eq_some_iff] at hh
      obtain ⟨ys, h1, h2⟩ := hh
      exact ⟨ys, _, h1, h2, List.getElem?_eq_getElem hi2⟩
    rcases Nat.eq_zero_or_pos len with h0 | h0
    · subst h0
      exact ⟨n, some a, 0, cap, [], rfl, rfl, hl, hm, RowAt.empty _ _ _, fun i hi => by omega⟩
    · -- the block
      have cell : ∀ i j, i < len → j < sz → ∃ v, w.cell? ((a.add (i * sz)).add j) = some v := by
        intro i j hi hj
        obtain ⟨ys, x, h1, _, _⟩ := each i hi
        unfold World.cells? at h1
        rw [if_pos (Nat.zero_le _)] at h1
        obtain ⟨y, hy, _⟩ := mapM_ex h1 j j (by simp [hj])
        exact ⟨y, hy⟩
      obtain ⟨blk, off, spot⟩ := a
      obtain ⟨v0, hv0⟩ := cell 0 0 h0 hsz
      have hadd0 : ((⟨blk, off, spot⟩ : Addr).add (0 * sz)).add 0 = ⟨blk, off, spot⟩ := by simp [Addr.add]
      rw [hadd0] at hv0
      unfold World.cell? at hv0
      cases hb : w.heap[blk]? with
      | none => rw [hb] at hv0; cases hv0
      | some o =>
        rw [hb] at hv0
        cases o with
        | cells c T fr =>
          simp only at hv0
          have hspot : spot = none := by
            cases spot with
            | none => rfl
            | some _ => simp at hv0
          subst hspot
          have hcell : ∀ k, k < len * sz → ∃ v, c[off + k]? = some v := by
            intro k hk
            have hdm := Nat.div_add_mod k sz
            have h1 : k / sz < len := (Nat.div_lt_iff_lt_mul hsz).2 hk
            obtain ⟨v, hv⟩ := cell (k / sz) (k % sz) h1 (Nat.mod_lt _ hsz)
            rw [add_lit, add_lit, cell_of_row w blk _ c T fr hb] at hv
            refine ⟨v, ?_⟩
            have : off + k / sz * sz + k % sz = off + k := by rw [Nat.mul_comm]; omega
            rwa [this] at hv
          have hsize : off + len * sz ≤ c.size := by
            have hp : 0 < len * sz := Nat.mul_pos h0 hsz
            obtain ⟨v, hv⟩ := hcell (len * sz - 1) (by omega)
            have := (Array.getElem?_eq_some_iff.1 hv).1
            omega
          refine ⟨n, some ⟨blk, off, none⟩, len, cap, (c.toList.drop off).take (len * sz), rfl, rfl, hl, hm, ⟨by rw [List.length_take, List.length_drop, Array.length_toList]; omega, hlen2, fun _ => ⟨blk, off, c, T, fr, rfl, hb, rfl⟩⟩, fun i hi => ?_⟩
          obtain ⟨ys, x, h1, h2, h3⟩ := each i hi
          have hys : ys = (((c.toList.drop off).take (len * sz)).drop (i * sz)).take sz := by
            unfold World.cells? at h1
            rw [if_pos (Nat.zero_le _)] at h1
            have hl2 := mapM_some_length h1
            simp only [List.length_range] at hl2
            have hle : (i + 1) * sz ≤ len * sz := Nat.mul_le_mul_right _ hi
            rw [Nat.add_mul, Nat.one_mul] at hle
            apply List.ext_getElem?
            intro j
            by_cases hj : j < sz
            · obtain ⟨y, hy, hy2⟩ := mapM_ex h1 j j (by simp [hj])
              rw [add_lit, add_lit, cell_of_row w blk _ c T fr hb] at hy
              rw [hy2, List.getElem?_take, if_pos hj, List.getElem?_drop, List.getElem?_take, if_pos (by omega), List.getElem?_drop, Array.getElem?_toList, ← Nat.add_assoc, hy]
            · rw [List.getElem?_eq_none (by omega), List.getElem?_eq_none (by rw [List.length_take]; omega)]
          rw [← hys]
          exact ⟨⟨x.1, x.2, h2, fun m hm_ => hwt m (weightsAll_mem (i := i) (by rw [List.getElem?_map, h3]; rfl) m hm_)⟩⟩
        | _ => cases hv0
theorem told_int {t : TypeId} {k : IntKind} {fuel : Nat} {cs : List Value} (ht : P.underlying t = some (.int k)) (h : Told enc P w fuel t cs) : ∃ n, cs = [.int k n] ∧ inR k n := by
  obtain ⟨d, p, hd, _⟩ := h
  obtain ⟨n, h1, _, hw⟩ := DataW.trod_int ht hd
  refine ⟨n, h1, ?_⟩
  cases k <;> simpa [Lit.wf, IntKind.min, IntKind.max, IntKind.bits, IntKind.signed, inR] using hw
/-- A row of which each element is one cell, told by a function. -/
theorem row_map {α : Type} {sz n : Nat} {xs : List Value} {f : α → Value} (hl : xs.length = n) (h : ∀ i, i < n → ∃ a, (xs.drop (i * 1)).take 1 = [f a]) : ∃ l : List α, l.length = n ∧ xs = l.map f := by
  induction xs generalizing n with
  | nil => exact ⟨[], by simpa using hl, rfl⟩
  | cons x xs ih =>
    obtain ⟨a, ha⟩ := h 0 (by simp at hl; omega)
    simp at ha
    obtain ⟨l, h1, h2⟩ := ih (n := n - 1) (by simp at hl; omega) fun i hi => by
      obtain ⟨b, hb⟩ := h (i + 1) (by omega)
      exact ⟨b, by simpa using hb⟩
    exact ⟨a :: l, by simp at hl ⊢; omega, by simp [ha, h2]⟩
theorem told_ints {t e : TypeId} {k : IntKind} {fuel by_ : Nat} {cs : List Value} (ht : P.underlying t = some (.slice e)) (he : P.underlying e = some (.int k)) (hc : P.cellsOf e = 1) (hby : P.bytesOf e = by_) (hby1 : 1 ≤ by_) (h : Told enc P w fuel t cs) :
    ∃ ad n c, ∃ zs : List Int, cs = [.slice ad n c] ∧ n = zs.length ∧ n ≤ c ∧ c ≤ maxLen ∧ RowAt w 1 ad n (zs.map (.int k)) ∧ ∀ z ∈ zs, inR k z := by
  obtain ⟨f, ad, n, c, xs, rfl, rfl, h1, h2, R, hel⟩ := told_slice ht hc (by omega) hby hby1 h
  obtain ⟨l, hl, rfl⟩ := row_map (sz := 1) (f := fun a : { z : Int // inR k z } => Value.int k a.1) (by rw [R.len, Nat.mul_one]) fun i hi => by
    obtain ⟨z, hz, hr⟩ := told_int he (hel i hi)
    exact ⟨⟨z, hr⟩, hz⟩
  refine ⟨ad, n, c, l.map (·.1), rfl, by simp [hl], h1, h2, by rw [List.map_map]; exact R, fun z hz => ?_⟩
  obtain ⟨a, _, rfl⟩ := List.mem_map.1 hz
  exact a.2
theorem cells_slice {t e : TypeId} {r : Reach} {b0 : Nat} {v : Value} (ht : P.underlying t = some (.slice e)) (hv : Value.okWide P w r b0 t v) {ad : Option Addr} {n c : Nat} (h : v.cells.toList = [.slice ad n c]) : v = .slice ad n c := by
  unfold Value.okWide at hv
  rw [ht] at hv
  unfold Cell.okWide at hv
  rw [ht] at hv
  cases v <;> first | (simp only [Cell.ok, ht] at hv; done) | (simp [Value.cells] at h; try (obtain ⟨rfl, rfl, rfl⟩ := h); try rfl) | skip
end
end Go.Proofs.Ytifhcfhdajkhlaa.K

