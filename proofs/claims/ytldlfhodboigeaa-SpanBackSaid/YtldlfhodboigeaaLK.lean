/- the statements of chapter 04 (printed by lw04.py). -/
import Derived.Test.YtldlfhodboigeaaLA
set_option linter.unusedVariables false
set_option linter.unusedSimpArgs false
namespace Go.Proofs.Ytldlfhodboigeaa.K
open Go Go.RowKit Go.Proofs
attribute [local irreducible] Run1 OpG WL W AO Gives
set_option maxRecDepth 100000 in
theorem SpanBack_calls (w : World) {ad0 : Option Addr} {c0 n0 : Nat} {xs0 : List Int} (hx0 : ∀ x ∈ xs0, 0 ≤ x ∧ x < 256) (hcc0 : n0 ≤ c0) (hm0 : c0 ≤ maxLen) (R0 : RowAt w 1 ad0 n0 (xs0.map (.int .u8))) {a1 : Int} (p1 : 0 ≤ a1) (q1 : a1 ≤ 255) {a2 : Int} (p2 : 0 ≤ a2) (q2 : a2 ≤ 255) : Gives Try.prog 5 #[.slice ad0 n0 c0, .int .u8 a1, .int .u8 a2] w (.bool true) := by
 have G := Grow.rfl' w
 refine gives_of Try.func5 Try.ntmps5 Try.results5 rfl rfl ?_
 have hlA := rowS_len xs0
 have hrA := rowS_rng xs0
 have hn0 := nrm_len (rowS xs0)
 have hlH := hls_len (rowS xs0) (a1 % 80, a2 % 80)
 have hn1 := nrm_len (hls (rowS xs0) (a1 % 80, a2 % 80))
 have hlX := hls_len (hls (rowS xs0) (a1 % 80, a2 % 80)) (a1 % 80, a2 % 80)
 have hn2 := nrm_len (hls (hls (rowS xs0) (a1 % 80, a2 % 80)) (a1 % 80, a2 % 80))
 have hlY := hls_len (hls (hls (rowS xs0) (a1 % 80, a2 % 80)) (a1 % 80, a2 % 80)) (a1 % 80, a2 % 80)
 have hrH : ∀ t ∈ hls (rowS xs0) (a1 % 80, a2 % 80), (0 : Int) ≤ t.1 ∧ t.2 ≤ 80 := hls_rng (by simp only []; omega) (by simp only []; omega)
 have hrX : ∀ t ∈ hls (hls (rowS xs0) (a1 % 80, a2 % 80)) (a1 % 80, a2 % 80), (0 : Int) ≤ t.1 ∧ t.2 ≤ 80 := hls_rng (by simp only []; omega) (by simp only []; omega)
 refine W_seq (W_region rfl ?_)
 refine stp (r_assign (v := .bool false) rfl ?_)
 refine WL_nil ?_
 refine W_seq (W_region rfl ?_)
 refine stp (r_move_slice rfl ?_)
 refine WL_some (og rfl ?_)
 refine r_call rfl (rowc_calls _ hx0 hcc0 hm0 (R0.grow G)) ?_
 rintro v1 w1 ⟨own1, g1⟩
 replace G := G.tr g1
 clear g1
 obtain ⟨adM1, cM1, rfl, hcM1, hmM1, RM1⟩ := own_row own1 (by omega)
 refine stp (r_assign_slice rfl ?_)
 refine WL_nil ?_
 refine W_seq (W_region rfl ?_)
 refine stp (r_move_int rfl ?_)
 refine stp (r_rem rfl rfl ?_ ?_ ?_); omega; omega
 refine stp (r_conv rfl ?_ ?_); constructor <;> omega
 refine stp (r_move_int rfl ?_)
 refine stp (r_rem rfl rfl ?_ ?_ ?_); omega; omega
 refine stp (r_conv rfl ?_ ?_); constructor <;> omega
 refine stp (r_build (v := .agg #[.int .i64 (a1 % 80), .int .i64 (a2 % 80)]) (fun w => by kernel_rfl) ?_)
 refine stp (r_alloc ?_)
 intro b2 w3 hb4 hc5 g6
 refine stn (r_storeAll rfl rfl hc5 (by rfl) (by rfl) (by rfl) ?_)
 intro w7 hc8 u9
 have g10 := g6.upd u9 hb4
 have hge11 := Nat.le_trans G.size hb4
 replace RM1 := RM1.grow g10
 replace G := G.tr g10
 clear u9 g6 hb4 hc5
 refine WL_nil ?_
 refine W_seq (W_region rfl ?_)
 refine stp (r_move_slice rfl ?_)
 refine stp (r_loadAll rfl hc8 (by rfl) ?_)
 refine WL_some (og rfl ?_)
 refine r_call rfl (holes_calls _ (a1 % 80) (a2 % 80) hcM1 hmM1 RM1 (by omega)) ?_
 rintro v12 w12 ⟨own12, g12⟩
 replace RM1 := RM1.grow g12
 replace hc8 := g12.heap hc8
 replace G := G.tr g12
 clear g12
 obtain ⟨adM12, cM12, rfl, hcM12, hmM12, RM12⟩ := own_row own12 (by omega)
 refine stp (r_assign_slice rfl ?_)
 refine WL_nil ?_
 refine W_seq (W_region rfl ?_)
 refine stp (r_move_slice rfl ?_)
 refine stp (r_loadAll rfl hc8 (by rfl) ?_)
 refine WL_some (og rfl ?_)
 refine r_call rfl (holes_calls _ (a1 % 80) (a2 % 80) hcM12 hmM12 RM12 (by omega)) ?_
 rintro v13 w13 ⟨own13, g13⟩
 replace RM1 := RM1.grow g13
 replace hc8 := g13.heap hc8
 replace RM12 := RM12.grow g13
 replace G := G.tr g13
 clear g13
 obtain ⟨adM13, cM13, rfl, hcM13, hmM13, RM13⟩ := own_row own13 (by omega)
 refine stp (r_assign_slice rfl ?_)
 refine WL_nil ?_
 refine W_seq ?_
 refine W_seq (W_region rfl ?_)
 refine stp (r_assign_int rfl ?_)
 refine WL_nil ?_
 refine W_block ?_
 refine W_loop (fun m_ e_ w_ => ∃ (k : Nat), m_ = (hls (hls (rowS xs0) (a1 % 80, a2 % 80)) (a1 % 80, a2 % 80)).length - k ∧ Fr [(7, .slice adM1 ((rowS xs0).length) cM1), (8, .pointer (some ⟨b2, 0, none⟩)), (9, .slice adM12 ((hls (rowS xs0) (a1 % 80, a2 % 80)).length) cM12), (10, .slice adM13 ((hls (hls (rowS xs0) (a1 % 80, a2 % 80)) (a1 % 80, a2 % 80)).length) cM13), (11, .int .i64 (k : Int))] e_ ∧ (k ≤ (hls (hls (rowS xs0) (a1 % 80, a2 % 80)) (a1 % 80, a2 % 80)).length) ∧ (RowAt w_ 2 adM1 (rowS xs0).length (encL (rowS xs0))) ∧ (w_.heap[b2]? = some (.cells #[.int .i64 (a1 % 80), .int .i64 (a2 % 80)] 26 (0, 0))) ∧ (RowAt w_ 2 adM12 (hls (rowS xs0) (a1 % 80, a2 % 80)).length (encL (hls (rowS xs0) (a1 % 80, a2 % 80)))) ∧ (RowAt w_ 2 adM13 (hls (hls (rowS xs0) (a1 % 80, a2 % 80)) (a1 % 80, a2 % 80)).length (encL (hls (hls (rowS xs0) (a1 % 80, a2 % 80)) (a1 % 80, a2 % 80)))) ∧ Grow w w_) _ ⟨0, rfl, fr_of ⟨rfl, rfl, rfl, rfl, rfl, trivial⟩, by omega, RM1, hc8, RM12, RM13, G⟩ ?_
 clear RM1 hc8 RM12 RM13
 clear G
 rintro m_ e_ w14 ⟨k, rfl, ⟨e15, rfl⟩, hk, RM1, hc8, RM12, RM13, G⟩
 refine W_seq ?_
 refine W_seq (W_region rfl ?_)
 refine stp (r_move_int rfl ?_)
 refine stp (r_move_slice rfl ?_)
 refine stp (r_len rfl rfl rfl ?_)
 refine stp (r_lss rfl rfl ?_)
 refine WL_nil ?_
 refine W_cond2 (b := (decide ((k : Int) < ((hls (hls (rowS xs0) (a1 % 80, a2 % 80)) (a1 % 80, a2 % 80)).length : Int)))) rfl (fun hlt => ?_) (fun hlt => ?_)
 ·-- true
  replace hlt := of_decide_eq_true hlt
  refine W_skip ?_
  refine W_seq ?_
  refine W_block ?_
  refine W_seq (W_region rfl ?_)
  refine stp (r_move_slice rfl ?_)
  refine stp (r_move_slice rfl ?_)
  refine stp (r_move_int rfl ?_)
  refine stp (r_indexN RM13 rfl rfl ?_ ?_); omega
  refine stp (r_loadNR RM13 rfl (by decide) (by rw [(RM13).len]; omega) (row_gS RM13 (by omega)) ?_)
  refine stp (r_gives (v := .bool true) rfl ((by have h_ := has_calls w14 (gS (hls (hls (rowS xs0) (a1 % 80, a2 % 80)) (a1 % 80, a2 % 80)) k).1 (gS (hls (hls (rowS xs0) (a1 % 80, a2 % 80)) (a1 % 80, a2 % 80)) k).2 hcM1 hmM1 RM1 (by omega); rw [back_has (L := rowS xs0) (s := (a1 % 80, a2 % 80)) (i := k) (by omega)] at h_; exact h_)) ?_)
  intro w16 g17
  replace RM1 := RM1.grow g17
  replace hc8 := g17.heap hc8
  replace RM12 := RM12.grow g17
  replace RM13 := RM13.grow g17
  replace G := G.tr g17
  clear g17
  refine stp (r_not_f rfl rfl ?_)
  refine WL_nil ?_
  refine W_false rfl ?_
  refine W_skip ?_
  refine W_region rfl ?_
  refine stp (r_move_int rfl ?_)
  refine stp (r_add rfl rfl ?_ ?_); constructor <;> omega
  refine stp (r_assign_int rfl ?_)
  refine WL_nil ?_
  refine ⟨_, ?_, k + 1, rfl, fr_of ⟨rfl, rfl, rfl, rfl, rfl, trivial⟩, by omega, RM1, hc8, RM12, RM13, G⟩
  omega
 ·-- false
  replace hlt := of_decide_eq_false hlt
  have hbl := back_long (L := rowS xs0) (s := (a1 % 80, a2 % 80)) (k := 80) (by simp only []; omega) (by simp only []; omega) (by simp only []; omega) (by omega)
  simp only [] at hbl
  have hx1 := longS_rng _ (nrm_of (hls (hls (rowS xs0) (a1 % 80, a2 % 80)) (a1 % 80, a2 % 80))).right
  have hx2 := longS_rng _ (nrm_of (hls (rowS xs0) (a1 % 80, a2 % 80))).right
  refine W_exit ?_
  refine W_seq ?_
  refine W_any 22 [[], [0], [1, 0], [2, 1, 0], [3, 2], [4, 3, 2, 1, 0], [5, 4, 3, 2, 1, 0], [6, 5], [7, 6, 0], [8, 7], [9, 8, 0], [10, 9, 3, 2, 1, 0], [11, 10, 4, 3, 2, 1, 0], [12, 11, 10, 9, 8, 7, 6, 5, 4, 3, 2, 1, 0], [13, 12, 11, 10, 9, 8, 7, 6, 5, 4, 3, 2, 1, 0], [14, 13, 12, 11, 10, 9, 8, 7, 6, 5, 4, 3, 2, 1, 0], [15, 14, 13, 12, 11, 10, 9, 8, 7, 6, 5, 4, 3, 2, 1, 0], [16, 15, 14, 13, 12, 11, 10, 9, 8, 7, 6, 5, 4, 3, 2, 1], [17, 16, 15, 14, 13, 12, 11, 10, 9, 8, 7, 6, 5, 4, 3, 2, 1, 0], [18, 17, 16, 15, 14, 13, 12, 11, 10, 9, 8, 7, 6, 5, 4, 3], [19, 18, 17, 16, 15, 14, 13, 12, 11, 10, 9, 8, 7, 6, 5, 4, 3, 2, 1, 0], [20, 19, 18, 17, 16, 15, 14, 13, 12, 11, 10, 9, 8, 7, 6, 5, 4, 3, 2, 1, 0]] mixed (by kernel_rfl) (by kernel_rfl) (by kernel_rfl) ?_
  intro w18 g19
  replace RM1 := RM1.grow g19
  replace hc8 := g19.heap hc8
  replace RM12 := RM12.grow g19
  replace RM13 := RM13.grow g19
  replace G := G.tr g19
  clear g19
  apply AO_ex
  ·intro w_ g_; refine og rfl ?_; exact r_gives (v := .bool true) rfl (known_calls _) (fun w2_ g2_ => ⟨g2_, rfl⟩)
  apply AO_ex
  ·intro w_ g_; refine og rfl ?_; refine r_move (v := .bool true) rfl ?_; exact ⟨Grow.rfl' _, rfl⟩
  apply AO_ex
  ·intro w_ g_; refine og rfl ?_; refine r_move_slice rfl ?_; exact ⟨Grow.rfl' _, rfl⟩
  apply AO_ex
  ·intro w_ g_; refine og rfl ?_; exact r_gives (v := .int .i64 (longS (nrm (hls (hls (rowS xs0) (a1 % 80, a2 % 80)) (a1 % 80, a2 % 80))))) rfl (long_calls _ hcM13 hmM13 (RM13.grow g_) (by omega) (fun s hs => by have := hrX s hs; omega)) (fun w2_ g2_ => ⟨g2_, rfl⟩)
  apply AO_ex
  ·intro w_ g_; refine og rfl ?_; refine r_move_slice rfl ?_; exact ⟨Grow.rfl' _, rfl⟩
  apply AO_ex
  ·intro w_ g_; refine og rfl ?_; exact r_gives (v := .int .i64 (longS (nrm (hls (rowS xs0) (a1 % 80, a2 % 80))))) rfl (long_calls _ hcM12 hmM12 (RM12.grow g_) (by omega) (fun s hs => by have := hrH s hs; omega)) (fun w2_ g2_ => ⟨g2_, rfl⟩)
  apply AO_ex
  ·intro w_ g_; refine og rfl ?_; refine r_add rfl rfl ?_ ?_; constructor <;> omega; exact ⟨Grow.rfl' _, rfl⟩
  apply AO_ex
  ·intro w_ g_; refine og rfl ?_; refine r_fieldAddr rfl ?_; exact ⟨Grow.rfl' _, rfl⟩
  apply AO_ex
  ·intro w_ g_; refine og rfl ?_; refine r_load (v := .int .i64 (a2 % 80)) rfl (g_.heap hc8) rfl ?_; exact ⟨Grow.rfl' _, rfl⟩
  apply AO_ex
  ·intro w_ g_; refine og rfl ?_; refine r_fieldAddr rfl ?_; exact ⟨Grow.rfl' _, rfl⟩
  apply AO_ex
  ·intro w_ g_; refine og rfl ?_; refine r_load (v := .int .i64 (a1 % 80)) rfl (g_.heap hc8) rfl ?_; exact ⟨Grow.rfl' _, rfl⟩
  apply AO_ex
  ·intro w_ g_; refine og rfl ?_; refine r_sub rfl rfl ?_ ?_; constructor <;> omega; exact ⟨Grow.rfl' _, rfl⟩
  apply AO_ex
  ·intro w_ g_; refine og rfl ?_; refine r_max rfl rfl rfl ?_; exact ⟨Grow.rfl' _, rfl⟩
  apply AO_ex
  ·intro w_ g_; refine og rfl ?_; refine r_eql_t rfl rfl (by split <;> omega) ?_; exact ⟨Grow.rfl' _, rfl⟩
  apply AO_ex
  ·intro w_ g_; refine og rfl ?_; refine r_pick_t (v := .bool true) rfl rfl rfl ?_; exact ⟨Grow.rfl' _, rfl⟩
  apply AO_ex
  ·intro w_ g_; refine og rfl ?_; refine r_move (v := .bool true) rfl ?_; exact ⟨Grow.rfl' _, rfl⟩
  apply AO_ex
  ·intro w_ g_; refine og rfl ?_; refine r_move_slice rfl ?_; exact ⟨Grow.rfl' _, rfl⟩
  apply AO_ex
  ·intro w_ g_; refine og rfl ?_; refine r_loadAll rfl (g_.heap hc8) (by rfl) ?_; exact ⟨Grow.rfl' _, rfl⟩
  refine AO_so (fun w_ v_ => Row w_ 2 v_ (hls (rowS xs0) (a1 % 80, a2 % 80)).length (encL (hls (rowS xs0) (a1 % 80, a2 % 80)))) (fun _ _ _ g_ h_ => h_.grow g_) ?_ ?_
  ·intro w_ g_
   refine og rfl ?_
   refine r_call rfl (holes_calls w_ (a1 % 80) (a2 % 80) hcM13 hmM13 (RM13.grow g_) (by omega)) ?_
   rintro v9_ w9_ ⟨own9_, g9_⟩
   rw [back_same] at own9_
   exact ⟨g9_, own_row own9_ (by omega)⟩
  apply AO_ex
  ·intro w_ g_; refine og rfl ?_; refine r_move_slice rfl ?_; exact ⟨Grow.rfl' _, rfl⟩
  apply AO_ex
  ·intro w_ g_; intro v18_ hv18_; show OpG _ _ _ _ _ _; refine og rfl ?_; obtain ⟨ay_, cy_, rfl, -, -, Ry_⟩ := hv18_; exact r_gives (v := .bool true) rfl (by have h_ := same_calls w_ Ry_ (RM12.grow g_) (c := cy_) (d := cM12); rw [decide_eq_true rfl] at h_; exact h_) (fun w2_ g2_ => ⟨g2_, rfl⟩)
  apply AO_ex
  ·intro w_ g_; intro v18_ hv18_; show OpG _ _ _ _ _ _; refine og rfl ?_; refine r_pick_t (v := .bool true) rfl rfl rfl ?_; exact ⟨Grow.rfl' _, rfl⟩
  refine AO_nil ?_
  intro w20 g21
  replace RM1 := RM1.grow g21
  replace hc8 := g21.heap hc8
  replace RM12 := RM12.grow g21
  replace RM13 := RM13.grow g21
  replace G := G.tr g21
  clear g21
  intro v_y hv_y
  refine stp (r_assign (v := .bool true) rfl ?_)
  refine WL_nil ?_
  refine W_ret ?_
  refine ret1 (res_tmp (v := .bool true) rfl) ⟨?_, G⟩
  rfl
end Go.Proofs.Ytldlfhodboigeaa.K
