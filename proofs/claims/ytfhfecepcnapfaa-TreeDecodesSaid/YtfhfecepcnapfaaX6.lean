/- Laid together: RN, CB, CG, CD, CK, WD, Ro, Ra. Each part is plain law, a rule, or a walk of the functions that its names tell. -/
import Derived.Test.YtfhfecepcnapfaaX5
import Derived.WalkKit
import Derived.ProofKit
import Derived.OpenShut
import Derived.ChangeOld
import Derived.Carry
import Derived.SizedLaws
set_option linter.unusedVariables false
set_option linter.unusedSimpArgs false
namespace Go.Proofs.Ytfhfecepcnapfaa.K
open Go Go.RowKit Go.Proofs
attribute [local irreducible] Run1 OpG WL W AO Gives
set_option maxHeartbeats 2000000 in
set_option maxRecDepth 100000 in
theorem rnode_calls : ∀ (n_ : Nat) (w : World) {ada adh : Option Addr} {na ca nh ch : Nat} {b : Bool} {A : List (List Int)} {s : Src} (H : SrcR Try.prog 82 w (.slice ada na ca) b (.slice adh nh ch) A s) {seg a paid : Int} (g1 : inR .i64 seg) (a0 : 0 ≤ a) (a1 : a ≤ 140737488455328) (hp0 : 0 ≤ paid) (hp1 : paid ≤ 8192) {d : Nat} (hd : d ≤ 32), d + 1 ≤ n_ → Calls Try.prog 50 #[.agg #[.slice ada na ca, .bool b, .slice adh nh ch, .int .i64 paid, .int .i64 0], .int .i64 seg, .int .i64 a, .int .i64 (32 - (d : Int))] w (Ret fun v w' => ∃ pd9 cells t9, v = .tuple #[.agg #[.slice ada na ca, .bool b, .slice adh nh ch, .int .i64 pd9, .int .i64 (nodeD s d seg a paid).2.2], .agg cells.toArray] ∧ NodeR (hide w.heap.size w') cells t9 ∧ ((nodeD s d seg a paid).2.2 = 0 → pd9 = (nodeD s d seg a paid).1 ∧ t9 = (nodeD s d seg a paid).2.1) ∧ Grow w w') := by
 intro n_
 induction n_ with
 | zero => intro w ada adh na ca nh ch b A s H seg a paid g1 a0 a1 hp0 hp1 d hd hm_; exact absurd hm_ (by have := Nat.succ_pos d; omega)
 | succ n_ ih_ =>
 intro w ada adh na ca nh ch b A s H seg a paid g1 a0 a1 hp0 hp1 d hd hm_
 have g1' := g1
 simp only [inR] at g1
 have hor := H.follow_range seg a
 have hok := followS_kind s seg a
 obtain ⟨hw0, hw1⟩ := wordsO_range hor
 obtain ⟨rk, rs, ra, rd, rp, rz, rc⟩ := hor
 have hls := ob_lists hok
 have hun : ∀ seg a : Int, inR .u64 (s.word seg a).1 := fun seg a => ⟨(H.num seg a).1, (H.num seg a).2.1⟩
 obtain ⟨er1, er2, er3⟩ := @nodeK_err s d seg a paid
 have G := Grow.rfl' w
 refine calls_ret Try.func50 Try.ntmps50 Try.results50 rfl rfl ?_
 refine W_seq (W_region rfl ?_)
 refine WL_some (og rfl ?_)
 (first | refine r_box_agg rfl ?_ | refine r_box_int rfl ?_ | refine r_box_slice rfl ?_ | refine r_box rfl rfl ?_)
 intro b1 w2 hb3 hc4 g5
 have hge6 := Nat.le_trans G.size hb3
 replace G := G.tr g5
 clear g5 hb3
 refine stp (r_alloc ?_)
 intro b7 w8 hb9 hc10 g11
 have hge12 := Nat.le_trans G.size hb9
 have ne13 := Nat.ne_of_lt (Nat.lt_of_lt_of_le (lt_of_heap hc4) hb9)
 replace hc4 := g11.heap hc4
 replace G := G.tr g11
 clear g11 hb9
 refine stp (r_alloc ?_)
 intro b14 w15 hb16 hc17 g18
 refine WL_nil ?_
 refine W_seq (W_region rfl ?_)
 refine stp (r_fieldAddr rfl ?_)
 have hge19 := Nat.le_trans G.size hb16
 have ne20 := Nat.ne_of_lt (Nat.lt_of_lt_of_le (lt_of_heap hc4) hb16)
 have ne21 := Nat.ne_of_lt (Nat.lt_of_lt_of_le (lt_of_heap hc10) hb16)
 replace hc4 := g18.heap hc4
 replace hc10 := g18.heap hc10
 replace G := G.tr g18
 clear g18 hb16
 refine stp (r_loadN rfl hc4 (by rfl) (by rfl) ?_)
 refine stp (r_move_int rfl ?_)
 refine stp (r_move_int rfl ?_)
 refine stp (r_gives (v := .tuple #[.agg #[.int .i64 ((followS s seg a).1.kind), .int .i64 ((followS s seg a).1.seg), .int .i64 ((followS s seg a).1.at_), .int .i64 ((followS s seg a).1.data), .int .i64 ((followS s seg a).1.ptrs), .int .i64 ((followS s seg a).1.size), .int .i64 ((followS s seg a).1.count)], .int .i64 ((followS s seg a).2)]) rfl (rfollow_calls _ (H.grow G) seg a g1' (by simp only [inR]; omega)) ?_)
 intro w22 g23
 replace hc4 := g23.heap hc4
 replace hc10 := g23.heap hc10
 replace hc17 := g23.heap hc17
 replace G := G.tr g23
 clear g23
 refine stp (r_move (v := .tuple #[.agg #[.int .i64 ((followS s seg a).1.kind), .int .i64 ((followS s seg a).1.seg), .int .i64 ((followS s seg a).1.at_), .int .i64 ((followS s seg a).1.data), .int .i64 ((followS s seg a).1.ptrs), .int .i64 ((followS s seg a).1.size), .int .i64 ((followS s seg a).1.count)], .int .i64 ((followS s seg a).2)]) rfl ?_)
 refine stp (r_extract (v := .agg #[.int .i64 ((followS s seg a).1.kind), .int .i64 ((followS s seg a).1.seg), .int .i64 ((followS s seg a).1.at_), .int .i64 ((followS s seg a).1.data), .int .i64 ((followS s seg a).1.ptrs), .int .i64 ((followS s seg a).1.size), .int .i64 ((followS s seg a).1.count)]) rfl rfl ?_)
 refine stp (r_extract (v := .int .i64 ((followS s seg a).2)) rfl rfl ?_)
 refine stp (r_alloc ?_)
 intro b24 w25 hb26 hc27 g28
 refine stn (r_storeAll rfl rfl hc27 (by rfl) (by rfl) (by rfl) ?_)
 intro w29 hc30 u31
 have g32 := g28.upd u31 hb26
 have hge33 := Nat.le_trans G.size hb26
 have ne34 := Nat.ne_of_lt (Nat.lt_of_lt_of_le (lt_of_heap hc4) hb26)
 have ne35 := Nat.ne_of_lt (Nat.lt_of_lt_of_le (lt_of_heap hc10) hb26)
 have ne36 := Nat.ne_of_lt (Nat.lt_of_lt_of_le (lt_of_heap hc17) hb26)
 replace hc4 := g32.heap hc4
 replace hc10 := g32.heap hc10
 replace hc17 := g32.heap hc17
 replace G := G.tr g32
 clear u31 g28 hb26 hc27
 refine stp (r_assign_int rfl ?_)
 refine WL_nil ?_
 refine W_seq ?_
 refine W_seq (W_region rfl ?_)
 refine stp (r_move_int rfl ?_)
 refine stp (r_eql rfl rfl ?_)
 refine stp (r_move_bool rfl ?_)
 refine WL_some (og_if (s := .bool (decide (((followS s seg a).2) = 0))) (b := true) (v := .pointer (some ⟨b24, 0, none⟩)) rfl (wgb_t _) (fun hc37 => ?_) ?_)
 ·
  have hc37_ := of_decide_eq_true hc37
  refine r_fieldAddr rfl ?_
  exact ⟨rfl, rfl⟩
 refine WL_some (og_if (s := .bool (decide (((followS s seg a).2) = 0))) (b := true) (v := .int .i64 ((followS s seg a).1.kind)) rfl (wgb_t _) (fun hc38 => ?_) ?_)
 ·
  have hc38_ := of_decide_eq_true hc38
  refine r_load (v := .int .i64 ((followS s seg a).1.kind)) (gvt hc38) hc30 rfl ?_
  exact ⟨rfl, rfl⟩
 refine WL_some (og_if (s := .bool (decide (((followS s seg a).2) = 0))) (b := true) (v := .bool (decide (((followS s seg a).1.kind) ≠ 0))) rfl (wgb_t _) (fun hc39 => ?_) ?_)
 ·
  have hc39_ := of_decide_eq_true hc39
  refine r_neq (gvt hc39) rfl ?_
  exact ⟨rfl, rfl⟩
 refine stp (r_and2 rfl rfl rfl ?_)
 refine stp (r_move_bool rfl ?_)
 refine WL_some (og_if (s := .bool ((decide (((followS s seg a).2) = 0)) && (decide (((followS s seg a).1.kind) ≠ 0)))) (b := true) (v := .int .i64 (32 - (d : Int))) rfl (wgb_t _) (fun hc40 => ?_) ?_)
 ·
  obtain ⟨hc40a, hc40b⟩ := and_t hc40
  have hc40a_ := of_decide_eq_true hc40a
  have hc40b_ := of_decide_eq_true hc40b
  refine r_move_int rfl ?_
  exact ⟨rfl, rfl⟩
 refine WL_some (og_if (s := .bool ((decide (((followS s seg a).2) = 0)) && (decide (((followS s seg a).1.kind) ≠ 0)))) (b := true) (v := .bool (decide ((32 - (d : Int)) ≥ 32))) rfl (wgb_t _) (fun hc41 => ?_) ?_)
 ·
  obtain ⟨hc41a, hc41b⟩ := and_t hc41
  have hc41a_ := of_decide_eq_true hc41a
  have hc41b_ := of_decide_eq_true hc41b
  refine r_geq (gvt hc41) rfl ?_
  exact ⟨rfl, rfl⟩
 refine stp (r_and2 rfl rfl rfl ?_)
 refine WL_nil ?_
 refine W_cond2 (b := (((decide (((followS s seg a).2) = 0)) && (decide (((followS s seg a).1.kind) ≠ 0))) && (decide ((32 - (d : Int)) ≥ 32)))) rfl (fun h1 => ?_) (fun h1 => ?_)
 ·-- true
  simp only [sb] at h1
  have h1a : (followS s seg a).2 = 0 := by omega
  have h1b : (followS s seg a).1.kind ≠ 0 := by omega
  have h1c : d = 0 := by omega
  refine W_region rfl ?_
  refine stp (r_assign_int rfl ?_)
  refine WL_nil ?_
  refine W_seq ?_
  refine W_any 6 [[], [0], [], [0], [1, 0], [4, 3, 2, 1, 0]] mixed (by kernel_rfl) (by kernel_rfl) (by kernel_rfl) ?_
  intro w42 g43
  replace hc4 := g43.heap hc4
  replace hc10 := g43.heap hc10
  replace hc17 := g43.heap hc17
  replace hc30 := g43.heap hc30
  replace G := G.tr g43
  clear g43
  apply AO_ex
  ·intro w_ g_; refine og rfl ?_; refine r_fieldAddr rfl ?_; exact ⟨Grow.rfl' _, rfl⟩
  apply AO_ex
  ·intro w_ g_; refine og rfl ?_; refine r_load (v := .int .i64 paid) rfl (g_.heap hc4) rfl ?_; exact ⟨Grow.rfl' _, rfl⟩
  apply AO_ex
  ·intro w_ g_; refine og rfl ?_; refine r_loadAll rfl (g_.heap hc30) (by rfl) ?_; exact ⟨Grow.rfl' _, rfl⟩
  apply AO_ex
  ·intro w_ g_; refine og rfl ?_; exact r_gives (v := .int .i64 (wordsO (followS s seg a).1)) rfl (rowords_calls _ (followS s seg a).1) (fun w2_ g2_ => ⟨g2_, rfl⟩)
  apply AO_ex
  ·intro w_ g_; refine og rfl ?_; refine r_add rfl rfl ?_ ?_; constructor <;> omega; exact ⟨Grow.rfl' _, rfl⟩
  apply AO_ex
  ·intro w_ g_; refine og rfl ?_; refine r_add rfl rfl ?_ ?_; constructor <;> omega; exact ⟨Grow.rfl' _, rfl⟩
  refine AO_nil ?_
  intro w44 g45
  replace hc4 := g45.heap hc4
  replace hc10 := g45.heap hc10
  replace hc17 := g45.heap hc17
  replace hc30 := g45.heap hc30
  replace G := G.tr g45
  clear g45
  refine stp (r_fieldAddr rfl ?_)
  refine stn (r_store1 (v := .int .i64 (paid + (1 + (wordsO (followS s seg a).1)))) rfl rfl (by rfl) hc4 (by rfl) (by rfl) ?_)
  intro w46 hc47 u48
  replace hc10 := u48.heap hc10 ne13.symm
  replace hc17 := u48.heap hc17 ne20.symm
  replace hc30 := u48.heap hc30 ne34.symm
  replace G := G.upd u48 hge6
  clear u48 hc4
  refine WL_nil ?_
  refine W_seq ?_
  refine W_seq (W_region rfl ?_)
  refine stp (r_move_int rfl ?_)
  refine stp (r_eql_f rfl rfl (by decide) ?_)
  refine stp (r_move (v := .bool false) rfl ?_)
  refine WL_some (og_no rfl ?_)
  refine WL_some (og_no rfl ?_)
  refine WL_some (og_no rfl ?_)
  refine stp (r_pick_f (v := .bool false) rfl rfl rfl ?_)
  refine WL_nil ?_
  refine W_false rfl ?_
  refine W_skip ?_
  refine W_seq ?_
  refine W_seq (W_region rfl ?_)
  refine stp (r_move_int rfl ?_)
  refine stp (r_neq_t rfl rfl (by decide) ?_)
  refine WL_nil ?_
  refine W_true rfl ?_
  refine W_seq (W_region rfl ?_)
  refine stp (r_move_int rfl ?_)
  refine stp (r_fieldAddr rfl ?_)
  refine stn (r_store1 (v := .int .i64 21) rfl rfl (by rfl) hc47 (by rfl) (by rfl) ?_)
  intro w49 hc50 u51
  replace hc10 := u51.heap hc10 ne13.symm
  replace hc17 := u51.heap hc17 ne20.symm
  replace hc30 := u51.heap hc30 ne34.symm
  replace G := G.upd u51 hge6
  clear u51 hc47
  refine WL_nil ?_
  refine W_seq (W_region rfl ?_)
  refine stp (r_loadAll rfl hc50 (by rfl) ?_)
  refine stp (r_build (v := .agg #[.int .i64 0, .int .i64 0, .slice none 0 0, .slice none 0 0, .slice none 0 0]) (fun w => by kernel_rfl) ?_)
  refine stn (r_storeAll rfl rfl hc10 (by rfl) (by rfl) (by rfl) ?_)
  intro w52 hc53 u54
  replace hc17 := u54.heap hc17 ne21.symm
  replace hc30 := u54.heap hc30 ne35.symm
  replace hc50 := u54.heap hc50 ne13
  replace G := G.upd u54 hge12
  clear u54 hc10
  refine stn (r_storeAll rfl rfl hc17 (by rfl) (by rfl) (by rfl) ?_)
  intro w55 hc56 u57
  replace hc30 := u57.heap hc30 ne36.symm
  replace hc50 := u57.heap hc50 ne20
  replace hc53 := u57.heap hc53 ne21
  replace G := G.upd u57 hge19
  clear u57 hc17
  refine WL_nil ?_
  refine W_ret ?_
  have h9 : (nodeD s d seg a paid).2.2 = 21 := er2 h1a h1b h1c
  rw [h9]
  refine ret2 (res_all rfl hc53 (by rfl)) (res_all rfl hc56 (by rfl)) ⟨_, [_, _, _, _, _], .nil, rfl, NodeR.zero _, fun h_ => by first | exact absurd (show (21 : Int) = 0 from h_) (by decide) | omega, G⟩
 ·-- false
  simp only [sb] at h1
  have h2n : (followS s seg a).2 = 0 → ¬ ((followS s seg a).1.kind ≠ 0 ∧ (d == 0) = true) := fun he_ h_ => by have := eq_of_beq h_.2; have := h_.1; omega
  refine W_skip ?_
  refine W_seq ?_
  refine W_any 6 [[], [0], [], [0], [1, 0], [4, 3, 2, 1, 0]] mixed (by kernel_rfl) (by kernel_rfl) (by kernel_rfl) ?_
  intro w58 g59
  replace hc4 := g59.heap hc4
  replace hc10 := g59.heap hc10
  replace hc17 := g59.heap hc17
  replace hc30 := g59.heap hc30
  replace G := G.tr g59
  clear g59
  apply AO_ex
  ·intro w_ g_; refine og rfl ?_; refine r_fieldAddr rfl ?_; exact ⟨Grow.rfl' _, rfl⟩
  apply AO_ex
  ·intro w_ g_; refine og rfl ?_; refine r_load (v := .int .i64 paid) rfl (g_.heap hc4) rfl ?_; exact ⟨Grow.rfl' _, rfl⟩
  apply AO_ex
  ·intro w_ g_; refine og rfl ?_; refine r_loadAll rfl (g_.heap hc30) (by rfl) ?_; exact ⟨Grow.rfl' _, rfl⟩
  apply AO_ex
  ·intro w_ g_; refine og rfl ?_; exact r_gives (v := .int .i64 (wordsO (followS s seg a).1)) rfl (rowords_calls _ (followS s seg a).1) (fun w2_ g2_ => ⟨g2_, rfl⟩)
  apply AO_ex
  ·intro w_ g_; refine og rfl ?_; refine r_add rfl rfl ?_ ?_; constructor <;> omega; exact ⟨Grow.rfl' _, rfl⟩
  apply AO_ex
  ·intro w_ g_; refine og rfl ?_; refine r_add rfl rfl ?_ ?_; constructor <;> omega; exact ⟨Grow.rfl' _, rfl⟩
  refine AO_nil ?_
  intro w60 g61
  replace hc4 := g61.heap hc4
  replace hc10 := g61.heap hc10
  replace hc17 := g61.heap hc17
  replace hc30 := g61.heap hc30
  replace G := G.tr g61
  clear g61
  refine stp (r_fieldAddr rfl ?_)
  refine stn (r_store1 (v := .int .i64 (paid + (1 + (wordsO (followS s seg a).1)))) rfl rfl (by rfl) hc4 (by rfl) (by rfl) ?_)
  intro w62 hc63 u64
  replace hc10 := u64.heap hc10 ne13.symm
  replace hc17 := u64.heap hc17 ne20.symm
  replace hc30 := u64.heap hc30 ne34.symm
  replace G := G.upd u64 hge6
  clear u64 hc4
  refine WL_nil ?_
  refine W_seq ?_
  refine W_seq (W_region rfl ?_)
  refine stp (r_move_int rfl ?_)
  refine stp (r_eql rfl rfl ?_)
  refine stp (r_move_bool rfl ?_)
  refine WL_some (og_if (s := .bool (decide (((followS s seg a).2) = 0))) (b := true) (v := .pointer (some ⟨b1, 3, none⟩)) rfl (wgb_t _) (fun hc65 => ?_) ?_)
  ·
   have hc65_ := of_decide_eq_true hc65
   refine r_fieldAddr rfl ?_
   exact ⟨rfl, rfl⟩
  refine WL_some (og_if (s := .bool (decide (((followS s seg a).2) = 0))) (b := true) (v := .int .i64 (paid + (1 + (wordsO (followS s seg a).1)))) rfl (wgb_t _) (fun hc66 => ?_) ?_)
  ·
   have hc66_ := of_decide_eq_true hc66
   refine r_load (v := .int .i64 (paid + (1 + (wordsO (followS s seg a).1)))) (gvt hc66) hc63 rfl ?_
   exact ⟨rfl, rfl⟩
  refine WL_some (og_if (s := .bool (decide (((followS s seg a).2) = 0))) (b := true) (v := .bool (decide ((paid + (1 + (wordsO (followS s seg a).1))) > 8192))) rfl (wgb_t _) (fun hc67 => ?_) ?_)
  ·
   have hc67_ := of_decide_eq_true hc67
   refine r_gtr (gvt hc67) rfl ?_
   exact ⟨rfl, rfl⟩
  refine stp (r_and2 rfl rfl rfl ?_)
  refine WL_nil ?_
  refine W_cond2 (b := ((decide (((followS s seg a).2) = 0)) && (decide ((paid + (1 + (wordsO (followS s seg a).1))) > 8192)))) rfl (fun h2 => ?_) (fun h2 => ?_)
  ·-- true
   simp only [sb] at h2
   have h2a : (followS s seg a).2 = 0 := by omega
   refine W_region rfl ?_
   refine stp (r_assign_int rfl ?_)
   refine WL_nil ?_
   refine W_seq ?_
   refine W_seq (W_region rfl ?_)
   refine stp (r_move_int rfl ?_)
   refine stp (r_neq_t rfl rfl (by decide) ?_)
   refine WL_nil ?_
   refine W_true rfl ?_
   refine W_seq (W_region rfl ?_)
   refine stp (r_move_int rfl ?_)
   refine stp (r_fieldAddr rfl ?_)
   refine stn (r_store1 (v := .int .i64 22) rfl rfl (by rfl) hc63 (by rfl) (by rfl) ?_)
   intro w68 hc69 u70
   replace hc10 := u70.heap hc10 ne13.symm
   replace hc17 := u70.heap hc17 ne20.symm
   replace hc30 := u70.heap hc30 ne34.symm
   replace G := G.upd u70 hge6
   clear u70 hc63
   refine WL_nil ?_
   refine W_seq (W_region rfl ?_)
   refine stp (r_loadAll rfl hc69 (by rfl) ?_)
   refine stp (r_build (v := .agg #[.int .i64 0, .int .i64 0, .slice none 0 0, .slice none 0 0, .slice none 0 0]) (fun w => by kernel_rfl) ?_)
   refine stn (r_storeAll rfl rfl hc10 (by rfl) (by rfl) (by rfl) ?_)
   intro w71 hc72 u73
   replace hc17 := u73.heap hc17 ne21.symm
   replace hc30 := u73.heap hc30 ne35.symm
   replace hc69 := u73.heap hc69 ne13
   replace G := G.upd u73 hge12
   clear u73 hc10
   refine stn (r_storeAll rfl rfl hc17 (by rfl) (by rfl) (by rfl) ?_)
   intro w74 hc75 u76
   replace hc30 := u76.heap hc30 ne36.symm
   replace hc69 := u76.heap hc69 ne20
   replace hc72 := u76.heap hc72 ne21
   replace G := G.upd u76 hge19
   clear u76 hc17
   refine WL_nil ?_
   refine W_ret ?_
   have h9 : (nodeD s d seg a paid).2.2 = 22 := er3 h2a (h2n h2a) (by omega)
   rw [h9]
   refine ret2 (res_all rfl hc72 (by rfl)) (res_all rfl hc75 (by rfl)) ⟨_, [_, _, _, _, _], .nil, rfl, NodeR.zero _, fun h_ => by first | exact absurd (show (22 : Int) = 0 from h_) (by decide) | omega, G⟩
  ·-- false
   simp only [sb] at h2
   refine W_skip ?_
   refine W_seq ?_
   refine W_seq (W_region rfl ?_)
   refine stp (r_move_int rfl ?_)
   refine stp (r_neq rfl rfl ?_)
   refine WL_nil ?_
   refine W_cond2 (b := (decide (((followS s seg a).2) ≠ 0))) rfl (fun h3 => ?_) (fun h3 => ?_)
   ·-- true
    replace h3 := of_decide_eq_true h3
    refine W_seq (W_region rfl ?_)
    refine stp (r_move_int rfl ?_)
    refine stp (r_fieldAddr rfl ?_)
    refine stn (r_store1 (v := .int .i64 ((followS s seg a).2)) rfl rfl (by rfl) hc63 (by rfl) (by rfl) ?_)
    intro w77 hc78 u79
    replace hc10 := u79.heap hc10 ne13.symm
    replace hc17 := u79.heap hc17 ne20.symm
    replace hc30 := u79.heap hc30 ne34.symm
    replace G := G.upd u79 hge6
    clear u79 hc63
    refine WL_nil ?_
    refine W_seq (W_region rfl ?_)
    refine stp (r_loadAll rfl hc78 (by rfl) ?_)
    refine stp (r_build (v := .agg #[.int .i64 0, .int .i64 0, .slice none 0 0, .slice none 0 0, .slice none 0 0]) (fun w => by kernel_rfl) ?_)
    refine stn (r_storeAll rfl rfl hc10 (by rfl) (by rfl) (by rfl) ?_)
    intro w80 hc81 u82
    replace hc17 := u82.heap hc17 ne21.symm
    replace hc30 := u82.heap hc30 ne35.symm
    replace hc78 := u82.heap hc78 ne13
    replace G := G.upd u82 hge12
    clear u82 hc10
    refine stn (r_storeAll rfl rfl hc17 (by rfl) (by rfl) (by rfl) ?_)
    intro w83 hc84 u85
    replace hc30 := u85.heap hc30 ne36.symm
    replace hc78 := u85.heap hc78 ne20
    replace hc81 := u85.heap hc81 ne21
    replace G := G.upd u85 hge19
    clear u85 hc17
    refine WL_nil ?_
    refine W_ret ?_
    have h9 : (nodeD s d seg a paid).2.2 = (followS s seg a).2 := er1 h3
    rw [h9]
    refine ret2 (res_all rfl hc81 (by rfl)) (res_all rfl hc84 (by rfl)) ⟨_, [_, _, _, _, _], .nil, rfl, NodeR.zero _, fun h_ => by first | exact absurd (show ((followS s seg a).2 : Int) = 0 from h_) (by decide) | omega, G⟩
   ·-- false
    replace h3 := of_decide_eq_false h3
    have h3n : ¬ (paid + (1 + wordsO (followS s seg a).1)) > 8192 := by omega
    replace h2n := h2n (by omega)
    obtain ⟨s1, s2, s3, s4, s5, s6⟩ := ob_small ⟨rk, rs, ra, rd, rp, rz, rc⟩ hok (by omega)
    refine W_skip ?_
    refine W_seq (W_region rfl ?_)
    refine stp (r_fieldAddr rfl ?_)
    refine stp (r_load (v := .int .i64 ((followS s seg a).1.kind)) rfl hc30 rfl ?_)
    refine stp (r_fieldAddr rfl ?_)
    refine stp (r_load (v := .int .i64 ((followS s seg a).1.size)) rfl hc30 rfl ?_)
    refine stp (r_build (v := .agg #[.int .i64 ((followS s seg a).1.kind), .int .i64 ((followS s seg a).1.size), .slice none 0 0, .slice none 0 0, .slice none 0 0]) (fun w => by kernel_rfl) ?_)
    refine stp (r_alloc ?_)
    intro b86 w87 hb88 hc89 g90
    refine stn (r_storeAll rfl rfl hc89 (by rfl) (by rfl) (by rfl) ?_)
    intro w91 hc92 u93
    have g94 := g90.upd u93 hb88
    have hge95 := Nat.le_trans G.size hb88
    have ne96 := Nat.ne_of_lt (Nat.lt_of_lt_of_le (lt_of_heap hc10) hb88)
    have ne97 := Nat.ne_of_lt (Nat.lt_of_lt_of_le (lt_of_heap hc17) hb88)
    have ne98 := Nat.ne_of_lt (Nat.lt_of_lt_of_le (lt_of_heap hc30) hb88)
    have ne99 := Nat.ne_of_lt (Nat.lt_of_lt_of_le (lt_of_heap hc63) hb88)
    replace hc10 := g94.heap hc10
    replace hc17 := g94.heap hc17
    replace hc30 := g94.heap hc30
    replace hc63 := g94.heap hc63
    replace G := G.tr g94
    clear u93 g90 hb88 hc89
    refine WL_nil ?_
    refine W_seq (W_region rfl ?_)
    refine stp (r_fieldAddr rfl ?_)
    refine stp (r_load (v := .int .i64 ((followS s seg a).1.data)) rfl hc30 rfl ?_)
    refine stp (r_assign_int rfl ?_)
    refine WL_nil ?_
    refine W_seq (W_region rfl ?_)
    refine stp (r_fieldAddr rfl ?_)
    refine stp (r_load (v := .int .i64 ((followS s seg a).1.ptrs)) rfl hc30 rfl ?_)
    refine stp (r_assign_int rfl ?_)
    refine WL_nil ?_
    have hk5 : (followS s seg a).1.size = 5 → (followS s seg a).1.kind = 2 := fun h_ => hls (.inl h_)
    have hk6 : (followS s seg a).1.size = 6 → (followS s seg a).1.kind = 2 := fun h_ => hls (.inr h_)
    clear er1 er2 er3 h1 h2 hls
    have hwn : 0 ≤ (if (followS s seg a).1.size = 5 then (followS s seg a).1.count else (followS s seg a).1.data) ∧ (if (followS s seg a).1.size = 5 then (followS s seg a).1.count else (followS s seg a).1.data) ≤ 8191 := by split <;> omega
    refine W_cut2 (fun e_ w_ => Fr [(3, .int .i64 (32 - (d : Int))), (4, .pointer (some ⟨b1, 0, none⟩)), (8, .pointer (some ⟨b7, 0, none⟩)), (9, .pointer (some ⟨b14, 0, none⟩)), (10, .pointer (some ⟨b24, 0, none⟩)), (12, .pointer (some ⟨b86, 0, none⟩)), (13, .int .i64 (if (followS s seg a).1.size = 5 then (followS s seg a).1.count else (followS s seg a).1.data)), (14, .int .i64 (kidN (followS s seg a).1))] e_ ∧ (w_.heap[b7]? = some (.cells #[.slice none 0 0, .bool false, .slice none 0 0, .int .i64 0, .int .i64 0] 104 (0, 0))) ∧ (w_.heap[b14]? = some (.cells #[.int .i64 0, .int .i64 0, .slice none 0 0, .slice none 0 0, .slice none 0 0] 37 (0, 0))) ∧ (w_.heap[b24]? = some (.cells #[.int .i64 ((followS s seg a).1.kind), .int .i64 ((followS s seg a).1.seg), .int .i64 ((followS s seg a).1.at_), .int .i64 ((followS s seg a).1.data), .int .i64 ((followS s seg a).1.ptrs), .int .i64 ((followS s seg a).1.size), .int .i64 ((followS s seg a).1.count)] 120 (0, 0))) ∧ (w_.heap[b1]? = some (.cells #[.slice ada na ca, .bool b, .slice adh nh ch, .int .i64 (paid + (1 + (wordsO (followS s seg a).1))), .int .i64 0] 104 (0, 0))) ∧ (w_.heap[b86]? = some (.cells #[.int .i64 ((followS s seg a).1.kind), .int .i64 ((followS s seg a).1.size), .slice none 0 0, .slice none 0 0, .slice none 0 0] 37 (0, 0))) ∧ Grow w w_) ?_ ?_
    ·-- the parts
     refine W_seq (W_region rfl ?_)
     refine stp (r_fieldAddr rfl ?_)
     refine stp (r_load (v := .int .i64 ((followS s seg a).1.kind)) rfl hc30 rfl ?_)
     refine stp (r_eql rfl rfl ?_)
     refine stp (r_move_bool rfl ?_)
     refine WL_some (og_if (s := .bool (decide (((followS s seg a).1.kind) = 2))) (b := true) (v := .pointer (some ⟨b24, 5, none⟩)) rfl (wgb_t _) (fun hc100 => ?_) ?_)
     ·
      have hc100_ := of_decide_eq_true hc100
      refine r_fieldAddr rfl ?_
      exact ⟨rfl, rfl⟩
     refine WL_some (og_if (s := .bool (decide (((followS s seg a).1.kind) = 2))) (b := true) (v := .int .i64 ((followS s seg a).1.size)) rfl (wgb_t _) (fun hc101 => ?_) ?_)
     ·
      have hc101_ := of_decide_eq_true hc101
      refine r_load (v := .int .i64 ((followS s seg a).1.size)) (gvt hc101) hc30 rfl ?_
      exact ⟨rfl, rfl⟩
     refine WL_some (og_if (s := .bool (decide (((followS s seg a).1.kind) = 2))) (b := true) (v := .bool (decide (((followS s seg a).1.size) = 6))) rfl (wgb_t _) (fun hc102 => ?_) ?_)
     ·
      have hc102_ := of_decide_eq_true hc102
      refine r_eql (gvt hc102) rfl ?_
      exact ⟨rfl, rfl⟩
     refine stp (r_and2 rfl rfl rfl ?_)
     refine WL_nil ?_
     refine W_cond2 (b := ((decide (((followS s seg a).1.kind) = 2)) && (decide (((followS s seg a).1.size) = 6)))) rfl (fun h4 => ?_) (fun h4 => ?_)
     ·-- true
      simp only [sb] at h4
      refine W_region rfl ?_
      refine stp (r_fieldAddr rfl ?_)
      refine stp (r_load (v := .int .i64 ((followS s seg a).1.count)) rfl hc30 rfl ?_)
      refine stp (r_assign_int rfl ?_)
      refine WL_nil ?_
      refine W_seq (W_region rfl ?_)
      refine stp (r_fieldAddr rfl ?_)
      refine stp (r_load (v := .int .i64 ((followS s seg a).1.kind)) rfl hc30 rfl ?_)
      refine stp (r_eql rfl rfl ?_)
      refine stp (r_move_bool rfl ?_)
      refine WL_some (og_if (s := .bool (decide (((followS s seg a).1.kind) = 2))) (b := true) (v := .pointer (some ⟨b24, 5, none⟩)) rfl (wgb_t _) (fun hc103 => ?_) ?_)
      ·
       have hc103_ := of_decide_eq_true hc103
       refine r_fieldAddr rfl ?_
       exact ⟨rfl, rfl⟩
      refine WL_some (og_if (s := .bool (decide (((followS s seg a).1.kind) = 2))) (b := true) (v := .int .i64 ((followS s seg a).1.size)) rfl (wgb_t _) (fun hc104 => ?_) ?_)
      ·
       have hc104_ := of_decide_eq_true hc104
       refine r_load (v := .int .i64 ((followS s seg a).1.size)) (gvt hc104) hc30 rfl ?_
       exact ⟨rfl, rfl⟩
      refine WL_some (og_if (s := .bool (decide (((followS s seg a).1.kind) = 2))) (b := true) (v := .bool (decide (((followS s seg a).1.size) = 5))) rfl (wgb_t _) (fun hc105 => ?_) ?_)
      ·
       have hc105_ := of_decide_eq_true hc105
       refine r_eql (gvt hc105) rfl ?_
       exact ⟨rfl, rfl⟩
      refine stp (r_and2 rfl rfl rfl ?_)
      refine WL_nil ?_
      refine W_cond2 (b := ((decide (((followS s seg a).1.kind) = 2)) && (decide (((followS s seg a).1.size) = 5)))) rfl (fun h5 => ?_) (fun h5 => ?_)
      ·-- true
       simp only [sb] at h5
       refine W_region rfl ?_
       refine stp (r_fieldAddr rfl ?_)
       refine stp (r_load (v := .int .i64 ((followS s seg a).1.count)) rfl hc30 rfl ?_)
       refine stp (r_assign_int rfl ?_)
       refine WL_nil ?_
       exact ⟨fr_of ⟨rfl, rfl, rfl, rfl, rfl, rfl, congrArg (Value.int .i64) (by exfalso; omega), congrArg (Value.int .i64) (by exfalso; omega), trivial⟩, hc10, hc17, hc30, hc63, hc92, G⟩
      ·-- false
       simp only [sb] at h5
       refine W_skip ?_
       exact ⟨fr_of ⟨rfl, rfl, rfl, rfl, rfl, rfl, congrArg (Value.int .i64) (by rw [if_neg (by omega)]), congrArg (Value.int .i64) (by unfold kidN; rw [if_pos (by omega)]), trivial⟩, hc10, hc17, hc30, hc63, hc92, G⟩
     ·-- false
      simp only [sb] at h4
      refine W_skip ?_
      refine W_seq (W_region rfl ?_)
      refine stp (r_fieldAddr rfl ?_)
      refine stp (r_load (v := .int .i64 ((followS s seg a).1.kind)) rfl hc30 rfl ?_)
      refine stp (r_eql rfl rfl ?_)
      refine stp (r_move_bool rfl ?_)
      refine WL_some (og_if (s := .bool (decide (((followS s seg a).1.kind) = 2))) (b := true) (v := .pointer (some ⟨b24, 5, none⟩)) rfl (wgb_t _) (fun hc106 => ?_) ?_)
      ·
       have hc106_ := of_decide_eq_true hc106
       refine r_fieldAddr rfl ?_
       exact ⟨rfl, rfl⟩
      refine WL_some (og_if (s := .bool (decide (((followS s seg a).1.kind) = 2))) (b := true) (v := .int .i64 ((followS s seg a).1.size)) rfl (wgb_t _) (fun hc107 => ?_) ?_)
      ·
       have hc107_ := of_decide_eq_true hc107
       refine r_load (v := .int .i64 ((followS s seg a).1.size)) (gvt hc107) hc30 rfl ?_
       exact ⟨rfl, rfl⟩
      refine WL_some (og_if (s := .bool (decide (((followS s seg a).1.kind) = 2))) (b := true) (v := .bool (decide (((followS s seg a).1.size) = 5))) rfl (wgb_t _) (fun hc108 => ?_) ?_)
      ·
       have hc108_ := of_decide_eq_true hc108
       refine r_eql (gvt hc108) rfl ?_
       exact ⟨rfl, rfl⟩
      refine stp (r_and2 rfl rfl rfl ?_)
      refine WL_nil ?_
      refine W_cond2 (b := ((decide (((followS s seg a).1.kind) = 2)) && (decide (((followS s seg a).1.size) = 5)))) rfl (fun h5 => ?_) (fun h5 => ?_)
      ·-- true
       simp only [sb] at h5
       refine W_region rfl ?_
       refine stp (r_fieldAddr rfl ?_)
       refine stp (r_load (v := .int .i64 ((followS s seg a).1.count)) rfl hc30 rfl ?_)
       refine stp (r_assign_int rfl ?_)
       refine WL_nil ?_
       exact ⟨fr_of ⟨rfl, rfl, rfl, rfl, rfl, rfl, congrArg (Value.int .i64) (by rw [if_pos (by omega)]), congrArg (Value.int .i64) (by unfold kidN; rw [if_neg (by omega)]), trivial⟩, hc10, hc17, hc30, hc63, hc92, G⟩
      ·-- false
       simp only [sb] at h5
       refine W_skip ?_
       exact ⟨fr_of ⟨rfl, rfl, rfl, rfl, rfl, rfl, congrArg (Value.int .i64) (by rw [if_neg (by omega)]), congrArg (Value.int .i64) (by unfold kidN; rw [if_neg (by omega)]), trivial⟩, hc10, hc17, hc30, hc63, hc92, G⟩
    ·-- behind them
     clear hc10 hc17 hc30 hc63 hc92
     clear G
     rintro e_ w109 ⟨⟨e110, rfl⟩, hc10, hc17, hc30, hc63, hc92, G⟩
     refine W_seq ?_
     refine W_seq (W_region rfl ?_)
     refine stp (r_assign_int rfl ?_)
     refine WL_nil ?_
     refine W_block ?_
     obtain ⟨B0, hB0⟩ : ∃ B, B = w109.heap.size := ⟨_, rfl⟩
     have hwB0 : w.heap.size ≤ B0 := by rw [hB0]; exact G.size
     have hB0w : B0 ≤ w109.heap.size := by rw [hB0]; exact Nat.le_refl _
     have hl0_b1 : b1 < B0 := by rw [hB0]; exact lt_of_heap hc63
     have hl0_b7 : b7 < B0 := by rw [hB0]; exact lt_of_heap hc10
     have hl0_b14 : b14 < B0 := by rw [hB0]; exact lt_of_heap hc17
     have hl0_b24 : b24 < B0 := by rw [hB0]; exact lt_of_heap hc30
     have hl0_b86 : b86 < B0 := by rw [hB0]; exact lt_of_heap hc92
     clear hB0
     refine W_loop (fun m_ e_ w_ => ∃ (m : Nat) (ad3 : Option Addr) (n3 : Nat) (c3 : Nat), m_ = (if (followS s seg a).1.size = 5 then (followS s seg a).1.count else (followS s seg a).1.data).toNat - m ∧ Fr [(3, .int .i64 (32 - (d : Int))), (4, .pointer (some ⟨b1, 0, none⟩)), (8, .pointer (some ⟨b7, 0, none⟩)), (9, .pointer (some ⟨b14, 0, none⟩)), (10, .pointer (some ⟨b24, 0, none⟩)), (12, .pointer (some ⟨b86, 0, none⟩)), (13, .int .i64 (if (followS s seg a).1.size = 5 then (followS s seg a).1.count else (followS s seg a).1.data)), (14, .int .i64 (kidN (followS s seg a).1)), (15, .int .i64 (m : Int))] e_ ∧ ((m : Int) ≤ (if (followS s seg a).1.size = 5 then (followS s seg a).1.count else (followS s seg a).1.data)) ∧ (w_.heap[b7]? = some (.cells #[.slice none 0 0, .bool false, .slice none 0 0, .int .i64 0, .int .i64 0] 104 (0, 0))) ∧ (w_.heap[b14]? = some (.cells #[.int .i64 0, .int .i64 0, .slice none 0 0, .slice none 0 0, .slice none 0 0] 37 (0, 0))) ∧ (w_.heap[b24]? = some (.cells #[.int .i64 ((followS s seg a).1.kind), .int .i64 ((followS s seg a).1.seg), .int .i64 ((followS s seg a).1.at_), .int .i64 ((followS s seg a).1.data), .int .i64 ((followS s seg a).1.ptrs), .int .i64 ((followS s seg a).1.size), .int .i64 ((followS s seg a).1.count)] 120 (0, 0))) ∧ (w_.heap[b1]? = some (.cells #[.slice ada na ca, .bool b, .slice adh nh ch, .int .i64 (paid + (1 + (wordsO (followS s seg a).1))), .int .i64 0] 104 (0, 0))) ∧ (B0 ≤ w_.heap.size) ∧ (w_.heap[b86]? = some (.cells #[.int .i64 ((followS s seg a).1.kind), .int .i64 ((followS s seg a).1.size), .slice ad3 n3 c3, .slice none 0 0, .slice none 0 0] 37 (0, 0))) ∧ (w_.ownsRow B0 55 1 (.slice ad3 n3 c3) m ((wordsS s (followS s seg a).1.seg (followS s seg a).1.at_ m).map (.int .u64))) ∧ Grow w w_) _ ⟨0, none, 0, 0, rfl, fr_of ⟨rfl, rfl, rfl, rfl, rfl, rfl, rfl, rfl, rfl, trivial⟩, by omega, hc10, hc17, hc30, hc63, hB0w, hc92, World.ownsRow_nil _ _ _ _, G⟩ ?_
     clear hc10 hc17 hc30 hc63 hc92 hB0w
     clear G
     rintro m_ e_ w111 ⟨m, ad3, n3, c3, rfl, ⟨e112, rfl⟩, hm, hc10, hc17, hc30, hc63, hB0w, hc92, own, G⟩
     refine W_seq ?_
     refine W_seq (W_region rfl ?_)
     refine stp (r_move_int rfl ?_)
     refine stp (r_move_int rfl ?_)
     refine stp (r_lss rfl rfl ?_)
     refine WL_nil ?_
     refine W_cond2 (b := (decide ((m : Int) < (if (followS s seg a).1.size = 5 then (followS s seg a).1.count else (followS s seg a).1.data)))) rfl (fun hlt => ?_) (fun hlt => ?_)
     ·-- true
      replace hlt := of_decide_eq_true hlt
      refine W_skip ?_
      refine W_seq ?_
      refine W_block ?_
      refine W_seq (W_region rfl ?_)
      refine stp (r_fieldAddr rfl ?_)
      refine stp (r_loadN rfl hc63 (by rfl) (by rfl) ?_)
      refine stp (r_fieldAddr rfl ?_)
      refine stp (r_load (v := .int .i64 ((followS s seg a).1.seg)) rfl hc30 rfl ?_)
      refine stp (r_fieldAddr rfl ?_)
      refine stp (r_load (v := .int .i64 ((followS s seg a).1.at_)) rfl hc30 rfl ?_)
      refine stp (r_move_int rfl ?_)
      refine stp (r_add rfl rfl ?_ ?_); constructor <;> omega
      refine stp (r_gives (v := .tuple #[.int .u64 ((s.word ((followS s seg a).1.seg) (((followS s seg a).1.at_) + (m : Int))).1), .int .i64 ((s.word ((followS s seg a).1.seg) (((followS s seg a).1.at_) + (m : Int))).2)]) rfl (H.word _ G ((followS s seg a).1.seg) (((followS s seg a).1.at_) + (m : Int)) (by simp only [inR]; omega) (by simp only [inR]; omega)) ?_)
      intro w113 g114
      replace hc10 := g114.heap hc10
      replace hc17 := g114.heap hc17
      replace hc30 := g114.heap hc30
      replace hc63 := g114.heap hc63
      replace hB0w := Nat.le_trans hB0w g114.size
      replace hc92 := g114.heap hc92
      replace own := own_grow own g114
      replace G := G.tr g114
      clear g114
      refine stp (r_move (v := .tuple #[.int .u64 ((s.word ((followS s seg a).1.seg) (((followS s seg a).1.at_) + (m : Int))).1), .int .i64 ((s.word ((followS s seg a).1.seg) (((followS s seg a).1.at_) + (m : Int))).2)]) rfl ?_)
      refine stp (r_extract (v := .int .u64 ((s.word ((followS s seg a).1.seg) (((followS s seg a).1.at_) + (m : Int))).1)) rfl rfl ?_)
      refine stp (r_extract (v := .int .i64 ((s.word ((followS s seg a).1.seg) (((followS s seg a).1.at_) + (m : Int))).2)) rfl rfl ?_)
      refine stp (r_assign_int rfl ?_)
      refine stp (r_assign_int rfl ?_)
      refine WL_nil ?_
      refine W_region rfl ?_
      refine stp (r_fieldAddr rfl ?_)
      refine stp (r_load (v := .slice ad3 n3 c3) rfl hc92 rfl ?_)
      refine stp (r_move_int rfl ?_)
      refine stp (r_buildSlice (cs := #[.int .u64 ((s.word ((followS s seg a).1.seg) (((followS s seg a).1.at_) + (m : Int))).1)]) (el := 55) (fun w => by kernel_rfl) ?_)
      intro bs115 w116 hb117 hc118 g119
      have hge120 := Nat.le_trans G.size hb117
      have ne121 := Nat.ne_of_lt (Nat.lt_of_lt_of_le (lt_of_heap hc10) hb117)
      have ne122 := Nat.ne_of_lt (Nat.lt_of_lt_of_le (lt_of_heap hc17) hb117)
      have ne123 := Nat.ne_of_lt (Nat.lt_of_lt_of_le (lt_of_heap hc30) hb117)
      have ne124 := Nat.ne_of_lt (Nat.lt_of_lt_of_le (lt_of_heap hc63) hb117)
      have ne125 := Nat.ne_of_lt (Nat.lt_of_lt_of_le (lt_of_heap hc92) hb117)
      replace hc10 := g119.heap hc10
      replace hc17 := g119.heap hc17
      replace hc30 := g119.heap hc30
      replace hc63 := g119.heap hc63
      replace hB0w := Nat.le_trans hB0w g119.size
      replace hc92 := g119.heap hc92
      replace own := own_grow own g119
      replace G := G.tr g119
      clear g119
      refine stp (r_append rfl rfl rfl rfl own (Row.of_block (n := 1) hc118 rfl rfl (by omega)) (fun q_ hq_ => by simp at hq_; subst hq_; rfl) (by simp only [maxLen]; omega) (by omega) hB0w ?_)
      intro v126 w127 own6 gr6
      replace G := G.grown gr6 (fun k_ hk_ => Nat.le_trans hwB0 (own_ge own k_ hk_))
      replace hB0w := Nat.le_trans hB0w gr6.size
      replace hc10 := gr_heap gr6 hc10 (own_ne own hc10 (by decide))
      replace hc17 := gr_heap gr6 hc17 (own_ne own hc17 (by decide))
      replace hc30 := gr_heap gr6 hc30 (own_ne own hc30 (by decide))
      replace hc63 := gr_heap gr6 hc63 (own_ne own hc63 (by decide))
      replace hc92 := gr_heap gr6 hc92 (own_ne own hc92 (by decide))
      clear own gr6
      obtain ⟨ad4, n4, c4, rfl⟩ := own_slice own6
      refine stp (r_fieldAddr rfl ?_)
      refine stn (r_store1 (v := .slice ad4 n4 c4) rfl rfl (by rfl) hc92 (by rfl) (by rfl) ?_)
      intro w128 hc129 u130
      replace hc10 := u130.heap hc10 ne96
      replace hc17 := u130.heap hc17 ne97
      replace hc30 := u130.heap hc30 ne98
      replace hc63 := u130.heap hc63 ne99
      replace hB0w := Nat.le_trans hB0w (Nat.le_of_eq u130.size.symm)
      replace own6 := own_upd own6 u130 (own_ne own6 hc92 (by decide))
      replace G := G.upd u130 hge95
      clear u130 hc92
      refine WL_nil ?_
      refine W_region rfl ?_
      refine stp (r_move_int rfl ?_)
      refine stp (r_add rfl rfl ?_ ?_); constructor <;> omega
      refine stp (r_assign_int rfl ?_)
      refine WL_nil ?_
      refine ⟨_, ?_, m + 1, ad4, n4, c4, rfl, fr_of ⟨rfl, rfl, rfl, rfl, rfl, rfl, rfl, rfl, congrArg (Value.int .i64) (by omega), trivial⟩, by omega, hc10, hc17, hc30, hc63, hB0w, hc129, (by rw [wordsS_succ, List.map_append]; exact own6), G⟩
      omega
     ·-- false
      replace hlt := of_decide_eq_false hlt
      have hm9 : m = (if (followS s seg a).1.size = 5 then (followS s seg a).1.count else (followS s seg a).1.data).toNat := by omega
      rw [hm9] at own
      refine W_exit ?_
      refine W_seq ?_
      refine W_seq (W_region rfl ?_)
      refine stp (r_assign_int rfl ?_)
      refine WL_nil ?_
      refine W_block ?_
      refine W_loop (fun m_ e_ w_ => ∃ (i : Nat) (ad5 : Option Addr) (n5 : Nat) (c5 : Nat), m_ = (followS s seg a).1.count.toNat - i ∧ Fr [(3, .int .i64 (32 - (d : Int))), (4, .pointer (some ⟨b1, 0, none⟩)), (8, .pointer (some ⟨b7, 0, none⟩)), (9, .pointer (some ⟨b14, 0, none⟩)), (10, .pointer (some ⟨b24, 0, none⟩)), (12, .pointer (some ⟨b86, 0, none⟩)), (13, .int .i64 (if (followS s seg a).1.size = 5 then (followS s seg a).1.count else (followS s seg a).1.data)), (14, .int .i64 (kidN (followS s seg a).1)), (18, .int .i64 (i : Int))] e_ ∧ ((i : Int) ≤ (followS s seg a).1.count) ∧ (i = 0 ∨ (followS s seg a).1.size = 2) ∧ (w_.heap[b7]? = some (.cells #[.slice none 0 0, .bool false, .slice none 0 0, .int .i64 0, .int .i64 0] 104 (0, 0))) ∧ (w_.heap[b14]? = some (.cells #[.int .i64 0, .int .i64 0, .slice none 0 0, .slice none 0 0, .slice none 0 0] 37 (0, 0))) ∧ (w_.heap[b24]? = some (.cells #[.int .i64 ((followS s seg a).1.kind), .int .i64 ((followS s seg a).1.seg), .int .i64 ((followS s seg a).1.at_), .int .i64 ((followS s seg a).1.data), .int .i64 ((followS s seg a).1.ptrs), .int .i64 ((followS s seg a).1.size), .int .i64 ((followS s seg a).1.count)] 120 (0, 0))) ∧ (w_.heap[b1]? = some (.cells #[.slice ada na ca, .bool b, .slice adh nh ch, .int .i64 (paid + (1 + (wordsO (followS s seg a).1))), .int .i64 0] 104 (0, 0))) ∧ (B0 ≤ w_.heap.size) ∧ (w_.ownsRow B0 55 1 (.slice ad3 n3 c3) ((if (followS s seg a).1.size = 5 then (followS s seg a).1.count else (followS s seg a).1.data).toNat) ((wordsS s (followS s seg a).1.seg (followS s seg a).1.at_ ((if (followS s seg a).1.size = 5 then (followS s seg a).1.count else (followS s seg a).1.data).toNat)).map (.int .u64))) ∧ (w_.heap[b86]? = some (.cells #[.int .i64 ((followS s seg a).1.kind), .int .i64 ((followS s seg a).1.size), .slice ad3 n3 c3, .slice ad5 n5 c5, .slice none 0 0] 37 (0, 0))) ∧ (w_.ownsRow B0 5 1 (.slice ad5 n5 c5) i ((bytesS s (followS s seg a).1.seg (followS s seg a).1.at_ i).map (.int .u8))) ∧ Grow w w_) _ ⟨0, none, 0, 0, rfl, fr_of ⟨rfl, rfl, rfl, rfl, rfl, rfl, rfl, rfl, rfl, trivial⟩, by omega, .inl rfl, hc10, hc17, hc30, hc63, hB0w, own, hc92, World.ownsRow_nil _ _ _ _, G⟩ ?_
      clear hc10 hc17 hc30 hc63 hB0w hc92 own
      clear G
      rintro m_ e_ w131 ⟨i, ad5, n5, c5, rfl, ⟨e132, rfl⟩, hi, hi2, hc10, hc17, hc30, hc63, hB0w, own, hc92, ownb, G⟩
      refine W_seq ?_
      refine W_seq (W_region rfl ?_)
      refine stp (r_move_int rfl ?_)
      refine stp (r_fieldAddr rfl ?_)
      refine stp (r_load (v := .int .i64 ((followS s seg a).1.count)) rfl hc30 rfl ?_)
      refine stp (r_lss rfl rfl ?_)
      refine stp (r_move_bool rfl ?_)
      refine WL_some (og_if (s := .bool (decide ((i : Int) < ((followS s seg a).1.count)))) (b := true) (v := .pointer (some ⟨b24, 5, none⟩)) rfl (wgb_t _) (fun hc133 => ?_) ?_)
      ·
       have hc133_ := of_decide_eq_true hc133
       refine r_fieldAddr rfl ?_
       exact ⟨rfl, rfl⟩
      refine WL_some (og_if (s := .bool (decide ((i : Int) < ((followS s seg a).1.count)))) (b := true) (v := .int .i64 ((followS s seg a).1.size)) rfl (wgb_t _) (fun hc134 => ?_) ?_)
      ·
       have hc134_ := of_decide_eq_true hc134
       refine r_load (v := .int .i64 ((followS s seg a).1.size)) (gvt hc134) hc30 rfl ?_
       exact ⟨rfl, rfl⟩
      refine WL_some (og_if (s := .bool (decide ((i : Int) < ((followS s seg a).1.count)))) (b := true) (v := .bool (decide (((followS s seg a).1.size) = 2))) rfl (wgb_t _) (fun hc135 => ?_) ?_)
      ·
       have hc135_ := of_decide_eq_true hc135
       refine r_eql (gvt hc135) rfl ?_
       exact ⟨rfl, rfl⟩
      refine stp (r_and2 rfl rfl rfl ?_)
      refine WL_nil ?_
      refine W_cond2 (b := ((decide ((i : Int) < ((followS s seg a).1.count))) && (decide (((followS s seg a).1.size) = 2)))) rfl (fun hlt => ?_) (fun hlt => ?_)
      ·-- true
       simp only [sb] at hlt
       have hx := hun (followS s seg a).1.seg ((followS s seg a).1.at_ + (i : Int) / 8)
       simp only [inR] at hx
       refine W_skip ?_
       refine W_seq ?_
       refine W_block ?_
       refine W_seq (W_region rfl ?_)
       refine stp (r_fieldAddr rfl ?_)
       refine stp (r_loadN rfl hc63 (by rfl) (by rfl) ?_)
       refine stp (r_fieldAddr rfl ?_)
       refine stp (r_load (v := .int .i64 ((followS s seg a).1.seg)) rfl hc30 rfl ?_)
       refine stp (r_fieldAddr rfl ?_)
       refine stp (r_load (v := .int .i64 ((followS s seg a).1.at_)) rfl hc30 rfl ?_)
       refine stp (r_move_int rfl ?_)
       refine stp (r_quo rfl rfl ?_ ?_ ?_ ?_); omega; omega; (constructor <;> omega)
       refine stp (r_add rfl rfl ?_ ?_); constructor <;> omega
       refine stp (r_gives (v := .tuple #[.int .u64 ((s.word ((followS s seg a).1.seg) (((followS s seg a).1.at_) + ((i : Int) / 8))).1), .int .i64 ((s.word ((followS s seg a).1.seg) (((followS s seg a).1.at_) + ((i : Int) / 8))).2)]) rfl (H.word _ G ((followS s seg a).1.seg) (((followS s seg a).1.at_) + ((i : Int) / 8)) (by simp only [inR]; omega) (by simp only [inR]; omega)) ?_)
       intro w136 g137
       replace hc10 := g137.heap hc10
       replace hc17 := g137.heap hc17
       replace hc30 := g137.heap hc30
       replace hc63 := g137.heap hc63
       replace hB0w := Nat.le_trans hB0w g137.size
       replace own := own_grow own g137
       replace hc92 := g137.heap hc92
       replace ownb := own_grow ownb g137
       replace G := G.tr g137
       clear g137
       refine stp (r_move (v := .tuple #[.int .u64 ((s.word ((followS s seg a).1.seg) (((followS s seg a).1.at_) + ((i : Int) / 8))).1), .int .i64 ((s.word ((followS s seg a).1.seg) (((followS s seg a).1.at_) + ((i : Int) / 8))).2)]) rfl ?_)
       refine stp (r_extract (v := .int .u64 ((s.word ((followS s seg a).1.seg) (((followS s seg a).1.at_) + ((i : Int) / 8))).1)) rfl rfl ?_)
       refine stp (r_extract (v := .int .i64 ((s.word ((followS s seg a).1.seg) (((followS s seg a).1.at_) + ((i : Int) / 8))).2)) rfl rfl ?_)
       refine stp (r_assign_int rfl ?_)
       refine stp (r_assign_int rfl ?_)
       refine WL_nil ?_
       refine W_seq ?_
       refine W_seq (W_region rfl ?_)
       refine stp (r_assign_int rfl ?_)
       refine WL_nil ?_
       refine W_block ?_
       refine W_loop (fun m_ e_ w_ => ∃ (q : Nat), m_ = i % 8 - q ∧ Fr [(3, .int .i64 (32 - (d : Int))), (4, .pointer (some ⟨b1, 0, none⟩)), (8, .pointer (some ⟨b7, 0, none⟩)), (9, .pointer (some ⟨b14, 0, none⟩)), (10, .pointer (some ⟨b24, 0, none⟩)), (12, .pointer (some ⟨b86, 0, none⟩)), (13, .int .i64 (if (followS s seg a).1.size = 5 then (followS s seg a).1.count else (followS s seg a).1.data)), (14, .int .i64 (kidN (followS s seg a).1)), (18, .int .i64 (i : Int)), (21, .int .i64 (q : Int)), (19, .int .u64 ((s.word (followS s seg a).1.seg ((followS s seg a).1.at_ + (i : Int) / 8)).1 / 2 ^ (8 * q)))] e_ ∧ (q ≤ i % 8) ∧ (w_.heap[b7]? = some (.cells #[.slice none 0 0, .bool false, .slice none 0 0, .int .i64 0, .int .i64 0] 104 (0, 0))) ∧ (w_.heap[b14]? = some (.cells #[.int .i64 0, .int .i64 0, .slice none 0 0, .slice none 0 0, .slice none 0 0] 37 (0, 0))) ∧ (w_.heap[b24]? = some (.cells #[.int .i64 ((followS s seg a).1.kind), .int .i64 ((followS s seg a).1.seg), .int .i64 ((followS s seg a).1.at_), .int .i64 ((followS s seg a).1.data), .int .i64 ((followS s seg a).1.ptrs), .int .i64 ((followS s seg a).1.size), .int .i64 ((followS s seg a).1.count)] 120 (0, 0))) ∧ (w_.heap[b1]? = some (.cells #[.slice ada na ca, .bool b, .slice adh nh ch, .int .i64 (paid + (1 + (wordsO (followS s seg a).1))), .int .i64 0] 104 (0, 0))) ∧ (B0 ≤ w_.heap.size) ∧ (w_.ownsRow B0 55 1 (.slice ad3 n3 c3) ((if (followS s seg a).1.size = 5 then (followS s seg a).1.count else (followS s seg a).1.data).toNat) ((wordsS s (followS s seg a).1.seg (followS s seg a).1.at_ ((if (followS s seg a).1.size = 5 then (followS s seg a).1.count else (followS s seg a).1.data).toNat)).map (.int .u64))) ∧ (w_.heap[b86]? = some (.cells #[.int .i64 ((followS s seg a).1.kind), .int .i64 ((followS s seg a).1.size), .slice ad3 n3 c3, .slice ad5 n5 c5, .slice none 0 0] 37 (0, 0))) ∧ (w_.ownsRow B0 5 1 (.slice ad5 n5 c5) i ((bytesS s (followS s seg a).1.seg (followS s seg a).1.at_ i).map (.int .u8))) ∧ Grow w w_) _ ⟨0, rfl, fr_of ⟨rfl, rfl, rfl, rfl, rfl, rfl, rfl, rfl, rfl, rfl, congrArg (Value.int .u64) (by simp), trivial⟩, by omega, hc10, hc17, hc30, hc63, hB0w, own, hc92, ownb, G⟩ ?_
       clear hc10 hc17 hc30 hc63 hB0w own hc92 ownb
       clear G
       rintro m_ e_ w138 ⟨q, rfl, ⟨e139, rfl⟩, hq, hc10, hc17, hc30, hc63, hB0w, own, hc92, ownb, G⟩
       have hxq := shr_range (s.word (followS s seg a).1.seg ((followS s seg a).1.at_ + (i : Int) / 8)).1 q hx.1 hx.2
       refine W_seq ?_
       refine W_seq (W_region rfl ?_)
       refine stp (r_move_int rfl ?_)
       refine stp (r_move_int rfl ?_)
       refine stp (r_rem rfl rfl ?_ ?_ ?_); omega; omega
       refine stp (r_lss rfl rfl ?_)
       refine WL_nil ?_
       refine W_cond2 (b := (decide ((q : Int) < ((i : Int) % 8)))) rfl (fun hlq => ?_) (fun hlq => ?_)
       ·-- true
        replace hlq := of_decide_eq_true hlq
        refine W_skip ?_
        refine W_seq ?_
        refine W_block ?_
        refine W_region rfl ?_
        refine stp (r_move_int rfl ?_)
        refine stp (r_quo rfl rfl ?_ ?_ ?_ ?_); omega; omega; (constructor <;> omega)
        refine stp (r_assign_int rfl ?_)
        refine WL_nil ?_
        refine W_region rfl ?_
        refine stp (r_move_int rfl ?_)
        refine stp (r_add rfl rfl ?_ ?_); constructor <;> omega
        refine stp (r_assign_int rfl ?_)
        refine WL_nil ?_
        refine ⟨_, ?_, q + 1, rfl, fr_of ⟨rfl, rfl, rfl, rfl, rfl, rfl, rfl, rfl, rfl, congrArg (Value.int .i64) (by omega), congrArg (Value.int .u64) (shr_step _ q), trivial⟩, by omega, hc10, hc17, hc30, hc63, hB0w, own, hc92, ownb, G⟩
        omega
       ·-- false
        replace hlq := of_decide_eq_false hlq
        have hq9 : q = i % 8 := by omega
        refine W_exit ?_
        refine W_region rfl ?_
        refine stp (r_fieldAddr rfl ?_)
        refine stp (r_load (v := .slice ad5 n5 c5) rfl hc92 rfl ?_)
        refine stp (r_move_int rfl ?_)
        refine stp (r_rem rfl rfl ?_ ?_ ?_); omega; omega
        refine stp (r_conv rfl ?_ ?_); constructor <;> omega
        refine stp (r_buildSlice (cs := #[.int .u8 (((s.word (followS s seg a).1.seg ((followS s seg a).1.at_ + (i : Int) / 8)).1 / 2 ^ (8 * q)) % 256)]) (el := 5) (fun w => by kernel_rfl) ?_)
        intro bs140 w141 hb142 hc143 g144
        have hge145 := Nat.le_trans G.size hb142
        have ne146 := Nat.ne_of_lt (Nat.lt_of_lt_of_le (lt_of_heap hc10) hb142)
        have ne147 := Nat.ne_of_lt (Nat.lt_of_lt_of_le (lt_of_heap hc17) hb142)
        have ne148 := Nat.ne_of_lt (Nat.lt_of_lt_of_le (lt_of_heap hc30) hb142)
        have ne149 := Nat.ne_of_lt (Nat.lt_of_lt_of_le (lt_of_heap hc63) hb142)
        have ne150 := Nat.ne_of_lt (Nat.lt_of_lt_of_le (lt_of_heap hc92) hb142)
        replace hc10 := g144.heap hc10
        replace hc17 := g144.heap hc17
        replace hc30 := g144.heap hc30
        replace hc63 := g144.heap hc63
        replace hB0w := Nat.le_trans hB0w g144.size
        replace own := own_grow own g144
        replace hc92 := g144.heap hc92
        replace ownb := own_grow ownb g144
        replace G := G.tr g144
        clear g144
        refine stp (r_append rfl rfl rfl rfl ownb (Row.of_block (n := 1) hc143 rfl rfl (by omega)) (fun q_ hq_ => by simp at hq_; subst hq_; rfl) (by simp only [maxLen]; omega) (by omega) hB0w ?_)
        intro v151 w152 own6 gr6
        replace G := G.grown gr6 (fun k_ hk_ => Nat.le_trans hwB0 (own_ge ownb k_ hk_))
        replace hB0w := Nat.le_trans hB0w gr6.size
        replace hc10 := gr_heap gr6 hc10 (own_ne ownb hc10 (by decide))
        replace hc17 := gr_heap gr6 hc17 (own_ne ownb hc17 (by decide))
        replace hc30 := gr_heap gr6 hc30 (own_ne ownb hc30 (by decide))
        replace hc63 := gr_heap gr6 hc63 (own_ne ownb hc63 (by decide))
        replace own := own_gr own ownb (by decide) gr6
        replace hc92 := gr_heap gr6 hc92 (own_ne ownb hc92 (by decide))
        clear ownb gr6
        obtain ⟨ad4, n4, c4, rfl⟩ := own_slice own6
        refine stp (r_fieldAddr rfl ?_)
        refine stn (r_store1 (v := .slice ad4 n4 c4) rfl rfl (by rfl) hc92 (by rfl) (by rfl) ?_)
        intro w153 hc154 u155
        replace hc10 := u155.heap hc10 ne96
        replace hc17 := u155.heap hc17 ne97
        replace hc30 := u155.heap hc30 ne98
        replace hc63 := u155.heap hc63 ne99
        replace hB0w := Nat.le_trans hB0w (Nat.le_of_eq u155.size.symm)
        replace own := own_upd own u155 (own_ne own hc92 (by decide))
        replace own6 := own_upd own6 u155 (own_ne own6 hc92 (by decide))
        replace G := G.upd u155 hge95
        clear u155 hc92
        refine WL_nil ?_
        refine W_region rfl ?_
        refine stp (r_move_int rfl ?_)
        refine stp (r_add rfl rfl ?_ ?_); constructor <;> omega
        refine stp (r_assign_int rfl ?_)
        refine WL_nil ?_
        refine ⟨_, ?_, i + 1, ad4, n4, c4, rfl, fr_of ⟨rfl, rfl, rfl, rfl, rfl, rfl, rfl, rfl, congrArg (Value.int .i64) (by omega), trivial⟩, by omega, by omega, hc10, hc17, hc30, hc63, hB0w, own, hc154, (by rw [bytesS_succ, List.map_append]; rw [hq9] at own6; exact own6), G⟩
        omega
      ·-- false
       simp only [sb] at hlt
       have hi9 : (followS s seg a).1.size = 2 → i = (followS s seg a).1.count.toNat := by omega
       refine W_exit ?_
       refine W_seq ?_
       refine W_seq (W_region rfl ?_)
       refine stp (r_assign_int rfl ?_)
       refine WL_nil ?_
       refine W_block ?_
       obtain ⟨B, hB⟩ : ∃ B, B = w131.heap.size := ⟨_, rfl⟩
       have hwB : w.heap.size ≤ B := by rw [hB]; exact G.size
       have h0B : B0 ≤ B := by rw [hB]; exact hB0w
       have hBw : B ≤ w131.heap.size := by rw [hB]; exact Nat.le_refl _
       have hlt_b1 : b1 < B := by rw [hB]; exact lt_of_heap hc63
       have hlt_b7 : b7 < B := by rw [hB]; exact lt_of_heap hc10
       have hlt_b14 : b14 < B := by rw [hB]; exact lt_of_heap hc17
       have hlt_b24 : b24 < B := by rw [hB]; exact lt_of_heap hc30
       have hlt_b86 : b86 < B := by rw [hB]; exact lt_of_heap hc92
       clear hB
       refine W_loop (fun m_ e_ w_ => ∃ (j : Nat) (pd : Int) (e : Int) (ks : List Nd) (ad6 : Option Addr) (n6 : Nat) (c6 : Nat) (kc : List Value) (V : Nat → Prop), m_ = (kidN (followS s seg a).1).toNat - j ∧ Fr [(3, .int .i64 (32 - (d : Int))), (4, .pointer (some ⟨b1, 0, none⟩)), (8, .pointer (some ⟨b7, 0, none⟩)), (9, .pointer (some ⟨b14, 0, none⟩)), (10, .pointer (some ⟨b24, 0, none⟩)), (12, .pointer (some ⟨b86, 0, none⟩)), (13, .int .i64 (if (followS s seg a).1.size = 5 then (followS s seg a).1.count else (followS s seg a).1.data)), (14, .int .i64 (kidN (followS s seg a).1)), (22, .int .i64 (j : Int))] e_ ∧ ((j : Int) ≤ kidN (followS s seg a).1) ∧ ((kidsD (nodeF s d (followS s seg a).1.seg) (kidA (followS s seg a).1) (paid + (1 + wordsO (followS s seg a).1)) j).2.2 = e) ∧ (e = 0 → kidsD (nodeF s d (followS s seg a).1.seg) (kidA (followS s seg a).1) (paid + (1 + wordsO (followS s seg a).1)) j = (pd, ks, 0)) ∧ (e = 0 → 0 ≤ pd ∧ pd ≤ 8192) ∧ (ks.length = j) ∧ (∀ x, (Value.slice ad6 n6 c6).ownBlock = some x → ¬ V x) ∧ (w_.heap[b7]? = some (.cells #[.slice none 0 0, .bool false, .slice none 0 0, .int .i64 0, .int .i64 0] 104 (0, 0))) ∧ (w_.heap[b14]? = some (.cells #[.int .i64 0, .int .i64 0, .slice none 0 0, .slice none 0 0, .slice none 0 0] 37 (0, 0))) ∧ (w_.heap[b24]? = some (.cells #[.int .i64 ((followS s seg a).1.kind), .int .i64 ((followS s seg a).1.seg), .int .i64 ((followS s seg a).1.at_), .int .i64 ((followS s seg a).1.data), .int .i64 ((followS s seg a).1.ptrs), .int .i64 ((followS s seg a).1.size), .int .i64 ((followS s seg a).1.count)] 120 (0, 0))) ∧ (B0 ≤ w_.heap.size) ∧ (w_.ownsRow B0 55 1 (.slice ad3 n3 c3) ((if (followS s seg a).1.size = 5 then (followS s seg a).1.count else (followS s seg a).1.data).toNat) ((wordsS s (followS s seg a).1.seg (followS s seg a).1.at_ ((if (followS s seg a).1.size = 5 then (followS s seg a).1.count else (followS s seg a).1.data).toNat)).map (.int .u64))) ∧ (w_.ownsRow B0 5 1 (.slice ad5 n5 c5) i ((bytesS s (followS s seg a).1.seg (followS s seg a).1.at_ i).map (.int .u8))) ∧ (B ≤ w_.heap.size) ∧ (w_.heap[b86]? = some (.cells #[.int .i64 ((followS s seg a).1.kind), .int .i64 ((followS s seg a).1.size), .slice ad3 n3 c3, .slice ad5 n5 c5, .slice ad6 n6 c6] 37 (0, 0))) ∧ (w_.heap[b1]? = some (.cells #[.slice ada na ca, .bool b, .slice adh nh ch, .int .i64 pd, .int .i64 e] 104 (0, 0))) ∧ (w_.ownsRow B 37 5 (.slice ad6 n6 c6) j kc) ∧ (∀ x, V x → B ≤ x ∧ x < w_.heap.size) ∧ (KidsR (see V w_) kc ks) ∧ Grow w w_) _ ⟨0, (paid + (1 + wordsO (followS s seg a).1)), 0, [], none, 0, 0, [], fun _ => False, rfl, fr_of ⟨rfl, rfl, rfl, rfl, rfl, rfl, rfl, rfl, rfl, trivial⟩, by omega, rfl, fun _ => rfl, fun _ => by omega, rfl, fun x _ h_ => h_, hc10, hc17, hc30, hB0w, own, ownb, hBw, hc92, hc63, World.ownsRow_nil _ _ _ _, fun x h_ => h_.elim, .nil, G⟩ ?_
       clear hc10 hc17 hc30 hc63 hB0w own hc92 ownb hBw
       clear G
       rintro m_ e_ w156 ⟨j, pd, e, ks, ad6, n6, c6, kc, V, rfl, ⟨e157, rfl⟩, hj, hke, hkd, hpd, hlk, hVo, hc10, hc17, hc30, hB0w, own, ownb, hBw, hc92, hc63, ownk, hV, hK, G⟩
       refine W_seq ?_
       refine W_seq (W_region rfl ?_)
       refine stp (r_move_int rfl ?_)
       refine stp (r_move_int rfl ?_)
       refine stp (r_lss rfl rfl ?_)
       refine stp (r_move_bool rfl ?_)
       refine WL_some (og_if (s := .bool (decide ((j : Int) < (kidN (followS s seg a).1)))) (b := true) (v := .pointer (some ⟨b1, 4, none⟩)) rfl (wgb_t _) (fun hc158 => ?_) ?_)
       ·
        have hc158_ := of_decide_eq_true hc158
        refine r_fieldAddr rfl ?_
        exact ⟨rfl, rfl⟩
       refine WL_some (og_if (s := .bool (decide ((j : Int) < (kidN (followS s seg a).1)))) (b := true) (v := .int .i64 e) rfl (wgb_t _) (fun hc159 => ?_) ?_)
       ·
        have hc159_ := of_decide_eq_true hc159
        refine r_load (v := .int .i64 e) (gvt hc159) hc63 rfl ?_
        exact ⟨rfl, rfl⟩
       refine WL_some (og_if (s := .bool (decide ((j : Int) < (kidN (followS s seg a).1)))) (b := true) (v := .bool (decide (e = 0))) rfl (wgb_t _) (fun hc160 => ?_) ?_)
       ·
        have hc160_ := of_decide_eq_true hc160
        refine r_eql (gvt hc160) rfl ?_
        exact ⟨rfl, rfl⟩
       refine stp (r_and2 rfl rfl rfl ?_)
       refine WL_nil ?_
       refine W_cond2 (b := ((decide ((j : Int) < (kidN (followS s seg a).1))) && (decide (e = 0)))) rfl (fun hlt => ?_) (fun hlt => ?_)
       ·-- true
        simp only [sb] at hlt
        obtain ⟨hlj, he0⟩ := hlt
        subst he0
        replace hkd := hkd rfl
        replace hpd := hpd rfl
        obtain ⟨d1, hd1⟩ := kid_left hok h2n (j := j) (by omega)
        have hnf : nodeF s d = nodeD s d1 := by rw [hd1]; rfl
        have hka : 0 ≤ kidA (followS s seg a).1 ∧ kidA (followS s seg a).1 ≤ 140737488420864 := by unfold kidA; split <;> omega
        have hq := nodeD_paidR (fun seg a => H.follow_range seg a) d1 (followS s seg a).1.seg (kidA (followS s seg a).1 + (j : Int)) pd hpd.1 hpd.2
        have hj1 : kidsD (nodeF s d (followS s seg a).1.seg) (kidA (followS s seg a).1) (paid + (1 + wordsO (followS s seg a).1)) (j + 1) = ((nodeD s d1 (followS s seg a).1.seg (kidA (followS s seg a).1 + (j : Int)) pd).1, ks ++ [(nodeD s d1 (followS s seg a).1.seg (kidA (followS s seg a).1 + (j : Int)) pd).2.1], (nodeD s d1 (followS s seg a).1.seg (kidA (followS s seg a).1 + (j : Int)) pd).2.2) := by rw [kidsD, hkd, if_neg (by simp), hnf]
        have hmul := kid_first hok
        refine W_skip ?_
        refine W_seq ?_
        refine W_block ?_
        refine W_seq (W_region rfl ?_)
        refine stp (r_loadAll rfl hc63 (by rfl) ?_)
        refine stp (r_fieldAddr rfl ?_)
        refine stp (r_load (v := .int .i64 ((followS s seg a).1.seg)) rfl hc30 rfl ?_)
        refine stp (r_fieldAddr rfl ?_)
        refine stp (r_load (v := .int .i64 ((followS s seg a).1.at_)) rfl hc30 rfl ?_)
        refine stp (r_move_int rfl ?_)
        refine stp (r_fieldAddr rfl ?_)
        refine stp (r_load (v := .int .i64 ((followS s seg a).1.kind)) rfl hc30 rfl ?_)
        refine stp (r_sub rfl rfl ?_ ?_); constructor <;> omega
        refine WL_some (og rfl ?_)
        refine r_mul rfl rfl ?_ ?_; (rw [hmul]; constructor <;> omega)
        rw [hmul]
        refine stp (r_add rfl rfl ?_ ?_); constructor <;> omega
        refine stp (r_move_int rfl ?_)
        refine WL_some (og rfl ?_)
        refine r_add rfl rfl ?_ ?_; constructor <;> omega
        rw [show (followS s seg a).1.at_ + (kidA (followS s seg a).1 - (followS s seg a).1.at_) + (j : Int) = kidA (followS s seg a).1 + (j : Int) from by omega]
        refine stp (r_move_int rfl ?_)
        refine WL_some (og rfl ?_)
        refine r_add rfl rfl ?_ ?_; constructor <;> omega
        rw [show 32 - (d : Int) + 1 = 32 - (d1 : Int) from by omega]
        refine WL_some (og rfl ?_)
        have hBw0 := hBw
        have hol := fun x hx_ => (ownk.lt x hx_).2
        have hcal := ih_ _ (H.grow G) (seg := (followS s seg a).1.seg) (a := kidA (followS s seg a).1 + (j : Int)) (paid := pd) (by simp only [inR]; omega) (by omega) (by omega) hpd.1 hpd.2 (d := d1) (by omega) (by omega)
        refine r_call rfl hcal ?_
        rintro v_ w161 ⟨pd9, cells, t9, rfl, hT9, h9, g_⟩
        clear hcal
        replace hc10 := g_.heap hc10
        replace hc17 := g_.heap hc17
        replace hc30 := g_.heap hc30
        replace hB0w := Nat.le_trans hB0w g_.size
        replace own := own_grow own g_
        replace ownb := own_grow ownb g_
        replace hBw := Nat.le_trans hBw g_.size
        replace hc92 := g_.heap hc92
        replace hc63 := g_.heap hc63
        replace ownk := own_grow ownk g_
        replace hV := vlt hV g_.size
        replace hK := hK.sees (Sees.grow g_)
        replace G := G.tr g_
        clear g_
        obtain ⟨y0, y1, ya, yn, yc, za, zn, zc, ua9, un, uc, rfl⟩ := hT9.cells
        have hT8 := hT9.sees (Sees.more (V' := fun x => V x ∨ (w156.heap.size ≤ x ∧ x < w161.heap.size)) w161 (fun x h1_ h2_ => .inr ⟨h2_, h1_⟩))
        clear hT9
        replace hK := hK.sees (Sees.more (V' := fun x => V x ∨ (w156.heap.size ≤ x ∧ x < w161.heap.size)) w161 (fun x _ h2_ => .inl h2_))
        have hV9 : ∀ x, (V x ∨ (w156.heap.size ≤ x ∧ x < w161.heap.size)) → B ≤ x ∧ x < w161.heap.size := fun x hx_ => hx_.elim (fun h_ => hV x h_) (fun h_ => ⟨Nat.le_trans hBw0 h_.1, h_.2⟩)
        have hVo9 : ∀ x, (Value.slice ad6 n6 c6).ownBlock = some x → ¬ (V x ∨ (w156.heap.size ≤ x ∧ x < w161.heap.size)) := fun x hx_ hv_ => hv_.elim (hVo x hx_) (fun h_ => by have := (hol x hx_); omega)
        clear hV hVo
        obtain ⟨V9, hV9e⟩ : ∃ V9 : Nat → Prop, V9 = fun x => V x ∨ (w156.heap.size ≤ x ∧ x < w161.heap.size) := ⟨_, rfl⟩
        rw [← hV9e] at hT8 hK
        have hV : ∀ x, V9 x → B ≤ x ∧ x < w161.heap.size := by rw [hV9e]; exact hV9
        have hVo : ∀ x, (Value.slice ad6 n6 c6).ownBlock = some x → ¬ V9 x := by rw [hV9e]; exact hVo9
        clear hV9 hVo9 hV9e hBw0 hol
        refine stp (r_move (v := .tuple #[.agg #[.slice ada na ca, .bool b, .slice adh nh ch, .int .i64 pd9, .int .i64 ((nodeD s d1 (followS s seg a).1.seg (kidA (followS s seg a).1 + (j : Int)) pd).2.2)], .agg #[.int .i64 y0, .int .i64 y1, .slice ya yn yc, .slice za zn zc, .slice ua9 un uc]]) rfl ?_)
        refine stp (r_extract (v := .agg #[.slice ada na ca, .bool b, .slice adh nh ch, .int .i64 pd9, .int .i64 ((nodeD s d1 (followS s seg a).1.seg (kidA (followS s seg a).1 + (j : Int)) pd).2.2)]) rfl rfl ?_)
        refine stp (r_extract (v := .agg #[.int .i64 y0, .int .i64 y1, .slice ya yn yc, .slice za zn zc, .slice ua9 un uc]) rfl rfl ?_)
        refine stp (r_alloc ?_)
        intro b162a w162a hb162a hc162a g162a
        refine stp (r_alloc ?_)
        intro b162b w162b hb162b hc162b g162b
        have n162 : b162a ≠ b162b := Nat.ne_of_lt (Nat.lt_of_lt_of_le (lt_of_heap hc162a) hb162b)
        refine stn (r_storeAll rfl rfl (g162b.heap hc162a) (by rfl) (by rfl) (by rfl) ?_)
        intro w162c hd162a u162a
        refine stn (r_storeAll rfl rfl (u162a.heap hc162b n162.symm) (by rfl) (by rfl) (by rfl) ?_)
        intro w162d he162b u162b
        have he162a := u162b.heap hd162a n162
        have hx162 := Nat.le_trans g162a.size hb162b
        have gx162 := ((g162a.tr g162b).upd u162a hb162a).upd u162b hx162
        clear hc162a hc162b hd162a u162a u162b g162a g162b
        have hge163 := Nat.le_trans G.size hb162a
        have ne164 := Nat.ne_of_lt (Nat.lt_of_lt_of_le (lt_of_heap hc10) hb162a)
        have ne165 := Nat.ne_of_lt (Nat.lt_of_lt_of_le (lt_of_heap hc17) hb162a)
        have ne166 := Nat.ne_of_lt (Nat.lt_of_lt_of_le (lt_of_heap hc30) hb162a)
        have ne167 := Nat.ne_of_lt (Nat.lt_of_lt_of_le (lt_of_heap hc92) hb162a)
        have ne168 := Nat.ne_of_lt (Nat.lt_of_lt_of_le (lt_of_heap hc63) hb162a)
        have hge169 := Nat.le_trans G.size hx162
        have ne170 := Nat.ne_of_lt (Nat.lt_of_lt_of_le (lt_of_heap hc10) hx162)
        have ne171 := Nat.ne_of_lt (Nat.lt_of_lt_of_le (lt_of_heap hc17) hx162)
        have ne172 := Nat.ne_of_lt (Nat.lt_of_lt_of_le (lt_of_heap hc30) hx162)
        have ne173 := Nat.ne_of_lt (Nat.lt_of_lt_of_le (lt_of_heap hc92) hx162)
        have ne174 := Nat.ne_of_lt (Nat.lt_of_lt_of_le (lt_of_heap hc63) hx162)
        replace hc10 := gx162.heap hc10
        replace hc17 := gx162.heap hc17
        replace hc30 := gx162.heap hc30
        replace hB0w := Nat.le_trans hB0w gx162.size
        replace own := own_grow own gx162
        replace ownb := own_grow ownb gx162
        replace hBw := Nat.le_trans hBw gx162.size
        replace hc92 := gx162.heap hc92
        replace hc63 := gx162.heap hc63
        replace ownk := own_grow ownk gx162
        replace hV := vlt hV gx162.size
        replace hK := hK.sees (Sees.grow gx162)
        replace hT8 := hT8.sees (Sees.grow gx162)
        replace G := G.tr gx162
        clear gx162
        refine WL_nil ?_
        refine W_seq (W_region rfl ?_)
        refine stp (r_loadAll rfl he162a (by rfl) ?_)
        refine stn (r_storeAll rfl rfl hc63 (by rfl) (by rfl) (by rfl) ?_)
        intro w175 hc176 u177
        replace hc10 := u177.heap hc10 ne13.symm
        replace hc17 := u177.heap hc17 ne20.symm
        replace hc30 := u177.heap hc30 ne34.symm
        replace hB0w := Nat.le_trans hB0w (Nat.le_of_eq u177.size.symm)
        replace own := own_upd own u177 (own_ne own hc63 (by decide))
        replace ownb := own_upd ownb u177 (own_ne ownb hc63 (by decide))
        replace hBw := Nat.le_trans hBw (Nat.le_of_eq u177.size.symm)
        replace hc92 := u177.heap hc92 ne99.symm
        replace ownk := own_upd ownk u177 (fun he_ => by have := own_ge ownk _ he_; omega)
        replace hV := vlt hV (Nat.le_of_eq u177.size.symm)
        replace hK := hK.sees (Sees.upd u177 (fun h_ => by have := (hV _ h_).1; omega))
        replace hT8 := hT8.sees (Sees.upd u177 (fun h_ => by have := (hV _ h_).1; omega))
        replace he162a := u177.heap he162a ne168.symm
        replace he162b := u177.heap he162b ne174.symm
        replace G := G.upd u177 hge6
        clear u177 hc63
        refine WL_nil ?_
        refine W_region rfl ?_
        refine stp (r_fieldAddr rfl ?_)
        refine stp (r_load (v := .slice ad6 n6 c6) rfl hc92 rfl ?_)
        refine stp (r_loadAll rfl he162b (by rfl) ?_)
        refine stp (r_buildSlice (cs := #[.int .i64 y0, .int .i64 y1, .slice ya yn yc, .slice za zn zc, .slice ua9 un uc]) (el := 37) (fun w => by kernel_rfl) ?_)
        intro bs178 w179 hb180 hc181 g182
        have hge183 := Nat.le_trans G.size hb180
        have ne184 := Nat.ne_of_lt (Nat.lt_of_lt_of_le (lt_of_heap hc10) hb180)
        have ne185 := Nat.ne_of_lt (Nat.lt_of_lt_of_le (lt_of_heap hc17) hb180)
        have ne186 := Nat.ne_of_lt (Nat.lt_of_lt_of_le (lt_of_heap hc30) hb180)
        have ne187 := Nat.ne_of_lt (Nat.lt_of_lt_of_le (lt_of_heap hc92) hb180)
        have ne188 := Nat.ne_of_lt (Nat.lt_of_lt_of_le (lt_of_heap he162a) hb180)
        have ne189 := Nat.ne_of_lt (Nat.lt_of_lt_of_le (lt_of_heap he162b) hb180)
        have ne190 := Nat.ne_of_lt (Nat.lt_of_lt_of_le (lt_of_heap hc176) hb180)
        replace hc10 := g182.heap hc10
        replace hc17 := g182.heap hc17
        replace hc30 := g182.heap hc30
        replace hB0w := Nat.le_trans hB0w g182.size
        replace own := own_grow own g182
        replace ownb := own_grow ownb g182
        replace hBw := Nat.le_trans hBw g182.size
        replace hc92 := g182.heap hc92
        replace ownk := own_grow ownk g182
        replace hV := vlt hV g182.size
        replace hK := hK.sees (Sees.grow g182)
        replace hT8 := hT8.sees (Sees.grow g182)
        replace he162a := g182.heap he162a
        replace he162b := g182.heap he162b
        replace hc176 := g182.heap hc176
        replace G := G.tr g182
        clear g182
        refine stp (r_appendB rfl rfl rfl rfl ownk (Row.of_block (n := 1) hc181 rfl rfl (by omega)) (fun q_ hq_ => by simp at hq_; rcases hq_ with rfl | rfl | rfl | rfl | rfl <;> rfl) (by simp only [maxLen]; omega) (by omega) hBw ?_)
        intro v191 w192 own6 gr6 hbk6
        have k6_ : Kp (Value.slice ad6 n6 c6).ownBlock.toList w179 w192 := Kp.of_grownBy gr6 (fun k_ hk_ => by rw [Option.mem_toList]; exact hk_)
        have hF6 : ∀ x ∈ (Value.slice ad6 n6 c6).ownBlock.toList, B ≤ x := fun x hx_ => own_ge ownk x (Option.mem_toList.1 hx_)
        have hF7 : ∀ x ∈ (Value.slice ad6 n6 c6).ownBlock.toList, ¬ V9 x := fun x hx_ => hVo x (Option.mem_toList.1 hx_)
        have hVo6 : ∀ x, v191.ownBlock = some x → ¬ V9 x := fun x hx_ hv_ => hbk6.elim (fun h_ => hVo x (h_ ▸ hx_) hv_) (fun h_ => by rw [h_] at hx_; simp only [Option.some.injEq] at hx_; have := (hV x hv_).2; omega)
        replace G := G.trK k6_ (fun x hx_ => Nat.le_trans hwB (hF6 x hx_))
        replace hc10 := k6_.heap hc10 (fun hm_ => by have h1_ := hF6 _ hm_; omega)
        replace hc17 := k6_.heap hc17 (fun hm_ => by have h1_ := hF6 _ hm_; omega)
        replace hc30 := k6_.heap hc30 (fun hm_ => by have h1_ := hF6 _ hm_; omega)
        replace hB0w := Nat.le_trans hB0w k6_.size
        replace own := own_gr own ownk (by decide) gr6
        replace ownb := own_gr ownb ownk (by decide) gr6
        replace hBw := Nat.le_trans hBw k6_.size
        replace hc92 := k6_.heap hc92 (fun hm_ => by have h1_ := hF6 _ hm_; omega)
        replace hV := fun x hx_ => (⟨(hV x hx_).1, Nat.lt_of_lt_of_le (hV x hx_).2 k6_.size⟩ : B ≤ x ∧ x < w192.heap.size)
        replace hK := hK.sees (Sees.kp k6_ hF7)
        replace hT8 := hT8.sees (Sees.kp k6_ hF7)
        clear he162a
        clear he162b
        replace hc176 := k6_.heap hc176 (fun hm_ => by have h1_ := hF6 _ hm_; omega)
        clear ownk gr6 hVo k6_ hF6 hF7 hbk6
        obtain ⟨ad7, n7, c7, rfl⟩ := own_slice own6
        refine stp (r_fieldAddr rfl ?_)
        refine stn (r_store1 (v := .slice ad7 n7 c7) rfl rfl (by rfl) hc92 (by rfl) (by rfl) ?_)
        intro w193 hc194 u195
        replace hc10 := u195.heap hc10 ne96
        replace hc17 := u195.heap hc17 ne97
        replace hc30 := u195.heap hc30 ne98
        replace hB0w := Nat.le_trans hB0w (Nat.le_of_eq u195.size.symm)
        replace own := own_upd own u195 (own_ne own hc92 (by decide))
        replace ownb := own_upd ownb u195 (own_ne ownb hc92 (by decide))
        replace hBw := Nat.le_trans hBw (Nat.le_of_eq u195.size.symm)
        replace hV := vlt hV (Nat.le_of_eq u195.size.symm)
        replace hK := hK.sees (Sees.upd u195 (fun h_ => by have := (hV _ h_).1; omega))
        replace hT8 := hT8.sees (Sees.upd u195 (fun h_ => by have := (hV _ h_).1; omega))
        replace hc176 := u195.heap hc176 ne99
        replace own6 := own_upd own6 u195 (fun he_ => by have := own_ge own6 _ he_; omega)
        replace G := G.upd u195 hge95
        clear u195 hc92
        refine WL_nil ?_
        refine W_region rfl ?_
        refine stp (r_move_int rfl ?_)
        refine stp (r_add rfl rfl ?_ ?_); constructor <;> omega
        refine stp (r_assign_int rfl ?_)
        refine WL_nil ?_
        refine ⟨_, ?_, j + 1, pd9, (nodeD s d1 (followS s seg a).1.seg (kidA (followS s seg a).1 + (j : Int)) pd).2.2, ks ++ [t9], ad7, n7, c7, _, V9, rfl, fr_of ⟨rfl, rfl, rfl, rfl, rfl, rfl, rfl, rfl, congrArg (Value.int .i64) (by omega), trivial⟩, by omega, by rw [hj1], fun h_ => by rw [hj1, h_, (h9 h_).1, (h9 h_).2], fun h_ => by rw [(h9 h_).1]; exact ⟨hq.1, hq.2.2 h_⟩, by simp [hlk], hVo6, hc10, hc17, hc30, hB0w, own, ownb, hBw, hc194, hc176, own6, hV, (KidsR.append hK (by have := KidsR.cons hT8 .nil; simpa using this)), G⟩
        omega
       ·-- false
        simp only [sb] at hlt
        have hend : ¬ ((j : Int) < kidN (followS s seg a).1 ∧ e = 0) := by omega
        obtain ⟨hfe, hfi⟩ := nodeK_end h3 h2n h3n hj hke hkd hend
        have hrk : Row (hide B w156) 5 (.slice ad6 n6 c6) ks.length kc := by rw [hlk]; exact own_hide ownk (by omega)
        have hK9 := hK.sees (Sees.more (V' := fun x => B ≤ x) _ (fun x _ hx_ => (hV x hx_).1))
        have hRW : Row (hide B0 w156) 1 (.slice ad3 n3 c3) (nodL s (followS s seg a).1).length ((nodL s (followS s seg a).1).map (.int .u64)) := by unfold nodL; rw [wordsS_len]; exact own_hide own (by omega)
        have hRB : Row (hide B0 w156) 1 (.slice ad5 n5 c5) (nodB s (followS s seg a).1).length ((nodB s (followS s seg a).1).map (.int .u8)) := by
         have h_ := own_hide ownb (by omega)
         unfold nodB; split
         ·rename_i hz; rw [bytesS_len, ← hi9 hz]; exact h_
         ·rename_i hz; have hi0 : i = 0 := by omega
          subst hi0; exact h_
        have hTn : NodeR (hide B0 w156) [.int .i64 (followS s seg a).1.kind, .int .i64 (followS s seg a).1.size, .slice ad3 n3 c3, .slice ad5 n5 c5, .slice ad6 n6 c6] (.mk (followS s seg a).1.kind (followS s seg a).1.size (nodL s (followS s seg a).1) (nodB s (followS s seg a).1) ks) := .mk (by simp only [inR]; omega) (by simp only [inR]; omega) hRW (wordsS_u64R hun _ _ _) hRB (nodB_u8 s _) (hrk.sees (Sees.low h0B _)) (hK9.sees (Sees.low h0B _))
        clear hK hV ownk own ownb hRW hRB hrk hK9
        refine W_exit ?_
        refine W_seq ?_
        have kb_hc17 : ∀ w_, Kp [b7] w156 w_ → w_.heap[b14]? = some (.cells #[.int .i64 0, .int .i64 0, .slice none 0 0, .slice none 0 0, .slice none 0 0] 37 (0, 0)) := fun w_ k_ => k_.heap hc17 (fun hm_ => by simp only [List.mem_singleton] at hm_; first | exact ne21 hm_ | exact ne21 hm_.symm)
        have kb_hc63 : ∀ w_, Kp [b7] w156 w_ → w_.heap[b1]? = some (.cells #[.slice ada na ca, .bool b, .slice adh nh ch, .int .i64 pd, .int .i64 e] 104 (0, 0)) := fun w_ k_ => k_.heap hc63 (fun hm_ => by simp only [List.mem_singleton] at hm_; first | exact ne13 hm_ | exact ne13 hm_.symm)
        have kb_hc92 : ∀ w_, Kp [b7] w156 w_ → w_.heap[b86]? = some (.cells #[.int .i64 ((followS s seg a).1.kind), .int .i64 ((followS s seg a).1.size), .slice ad3 n3 c3, .slice ad5 n5 c5, .slice ad6 n6 c6] 37 (0, 0)) := fun w_ k_ => k_.heap hc92 (fun hm_ => by simp only [List.mem_singleton] at hm_; first | exact ne96 hm_ | exact ne96 hm_.symm)
        have kb_G : ∀ w_, Kp [b7] w156 w_ → Grow w w_ := fun w_ k_ => G.trK k_ (fun x_ hx_ => by simp only [List.mem_singleton] at hx_; subst hx_; exact hge12)
        have kb_hTn : ∀ w_, Kp [b7] w156 w_ → NodeR (hide B0 w_) [.int .i64 (followS s seg a).1.kind, .int .i64 (followS s seg a).1.size, .slice ad3 n3 c3, .slice ad5 n5 c5, .slice ad6 n6 c6] (.mk (followS s seg a).1.kind (followS s seg a).1.size (nodL s (followS s seg a).1) (nodB s (followS s seg a).1) ks) := fun w_ k_ => hTn.sees (Sees.kp k_ (fun x_ hx_ hv_ => by simp only [List.mem_singleton] at hx_; subst hx_; omega))
        refine W_anyM 3 [[], [], [1]] [2] [b7] (fun k_ w_ => match k_ with | 0 => w_.heap[b7]? = some (.cells #[.slice none 0 0, .bool false, .slice none 0 0, .int .i64 0, .int .i64 0] 104 (0, 0)) | _ => w_.heap[b7]? = some (.cells #[.slice ada na ca, .bool b, .slice adh nh ch, .int .i64 pd, .int .i64 e] 104 (0, 0))) mixed (by kernel_rfl) (by kernel_rfl) (by kernel_rfl) (by kernel_rfl) (fun k_ w_ w2_ g_ h_ => match k_, h_ with | 0, h_ => g_.heap h_ | n_ + 1, h_ => g_.heap h_) (fun w_ g_ => g_.heap hc10) ?_
        intro w196 g197
        replace kb_hc17 : ∀ w_, Kp [b7] w196 w_ → w_.heap[b14]? = some (.cells #[.int .i64 0, .int .i64 0, .slice none 0 0, .slice none 0 0, .slice none 0 0] 37 (0, 0)) := fun w_ k_ => kb_hc17 w_ (g197.kp.tr k_)
        replace kb_hc63 : ∀ w_, Kp [b7] w196 w_ → w_.heap[b1]? = some (.cells #[.slice ada na ca, .bool b, .slice adh nh ch, .int .i64 pd, .int .i64 e] 104 (0, 0)) := fun w_ k_ => kb_hc63 w_ (g197.kp.tr k_)
        replace kb_hc92 : ∀ w_, Kp [b7] w196 w_ → w_.heap[b86]? = some (.cells #[.int .i64 ((followS s seg a).1.kind), .int .i64 ((followS s seg a).1.size), .slice ad3 n3 c3, .slice ad5 n5 c5, .slice ad6 n6 c6] 37 (0, 0)) := fun w_ k_ => kb_hc92 w_ (g197.kp.tr k_)
        replace kb_G : ∀ w_, Kp [b7] w196 w_ → Grow w w_ := fun w_ k_ => kb_G w_ (g197.kp.tr k_)
        replace kb_hTn : ∀ w_, Kp [b7] w196 w_ → NodeR (hide B0 w_) [.int .i64 (followS s seg a).1.kind, .int .i64 (followS s seg a).1.size, .slice ad3 n3 c3, .slice ad5 n5 c5, .slice ad6 n6 c6] (.mk (followS s seg a).1.kind (followS s seg a).1.size (nodL s (followS s seg a).1) (nodB s (followS s seg a).1) ks) := fun w_ k_ => kb_hTn w_ (g197.kp.tr k_)
        have k0_ : Kp [b7] w156 w196 := g197.kp
        apply AOM_ex (hm := by rfl)
        ·intro w_ g_; refine og rfl ?_; refine r_loadAll rfl (kb_hc63 _ g_) (by rfl) ?_; exact ⟨Grow.rfl' _, rfl⟩
        apply AOM_ex (hm := by rfl)
        ·intro w_ g_; refine og rfl ?_; refine r_loadAll rfl (kb_hc92 _ g_) (by rfl) ?_; exact ⟨Grow.rfl' _, rfl⟩
        apply AOM_mut 0 (hm := by rfl)
        ·intro w_ g_ s_
         refine og rfl ?_
         refine r_storeAll rfl rfl s_ (by rfl) (by rfl) (by rfl) ?_
         intro w2_ s2_ u_
         exact ⟨Kp.of_upd u_ (by simp), s2_, rfl⟩
        refine AOM_nil ?_
        intro w198 g199 S_
        replace k0_ := (k0_.tr g199)
        have hc8x := S_
        clear S_
        replace hc17 := kb_hc17 _ g199
        clear kb_hc17
        replace hc63 := kb_hc63 _ g199
        clear kb_hc63
        replace hc92 := kb_hc92 _ g199
        clear kb_hc92
        replace G := kb_G _ g199
        clear kb_G
        replace hTn := kb_hTn _ g199
        clear kb_hTn
        refine stn (r_storeAll rfl rfl hc17 (by rfl) (by rfl) (by rfl) ?_)
        intro w200 hc201 u202
        replace hc92 := u202.heap hc92 ne97.symm
        replace hc63 := u202.heap hc63 ne20
        replace hTn := hTn.sees (Sees.upd u202 (fun h_ => by omega))
        replace hc8x := u202.heap hc8x ne21
        replace G := G.upd u202 hge19
        clear u202 hc17
        refine WL_nil ?_
        refine W_ret ?_
        rw [hfe]
        refine ret2 (res_all rfl hc8x (by rfl)) (res_all rfl hc201 (by rfl)) ⟨pd, _, _, rfl, hTn.sees (Sees.low hwB0 _), hfi, G⟩

set_option maxRecDepth 100000 in
theorem rDecode_calls (w : World) {u : Value} {A : List (List Int)} (hA : ArenaR w u A) (hn : A.length ≤ 8796093022208) (hx : ∀ q ∈ A, ∀ x ∈ q, inR .u64 x) : Calls Try.prog 30 #[u] w (Ret fun v w' => ∃ cells, v = .tuple #[.agg cells.toArray, .int .i64 (decT A).2] ∧ NodeR (hide w.heap.size w') cells (decT A).1 ∧ Grow w w') := by
 have hA0 := hA
 obtain ⟨ada, ca, segs, sa, sc, rfl, hca, hca2, RA, hsf, hrf⟩ := hA.fn
 have hs : ∀ i, len2 A i ≤ 140737488355328 := fun i => by by_cases hi : i < A.length; exact (hrf i hi).2.2.lim; (have := len2_none (A := A) (j := i) (by omega); omega)
 have G := Grow.rfl' w
 refine calls_ret Try.func30 Try.ntmps30 Try.results30 rfl rfl ?_
 refine W_seq (W_region rfl ?_)
 refine stp (r_alloc ?_)
 intro b1 w2 hb3 hc4 g5
 refine stp (r_assign_int rfl ?_)
 refine WL_nil ?_
 refine W_seq ?_
 refine W_seq (W_region rfl ?_)
 refine stp (r_move_slice rfl ?_)
 have hge6 := Nat.le_trans G.size hb3
 replace G := G.tr g5
 clear g5 hb3
 refine stp (r_gives (v := .bool (rightB A)) rfl (rright7_calls _ (hA0.grow G) hn) ?_)
 intro w7 g8
 replace hc4 := g8.heap hc4
 replace G := G.tr g8
 clear g8
 refine stp (r_not rfl ?_)
 refine WL_nil ?_
 refine W_cond2 (b := (!(rightB A))) rfl (fun h1 => ?_) (fun h1 => ?_)
 ·-- true
  simp only [sb] at h1
  have h9 : decT A = (.nil, 1) := if_pos (by simpa using h1)
  refine W_seq (W_region rfl ?_)
  refine stp (r_build (v := .agg #[.int .i64 0, .int .i64 0, .slice none 0 0, .slice none 0 0, .slice none 0 0]) (fun w => by kernel_rfl) ?_)
  refine stn (r_storeAll rfl rfl hc4 (by rfl) (by rfl) (by rfl) ?_)
  intro w9 hc10 u11
  replace G := G.upd u11 hge6
  clear u11 hc4
  refine stp (r_assign_int rfl ?_)
  refine WL_nil ?_
  refine W_ret ?_
  rw [h9]
  refine ret2 (res_all rfl hc10 (by rfl)) (res_tmp (v := .int .i64 1) rfl) ⟨[_, _, _, _, _], rfl, NodeR.zero _, G⟩
 ·-- false
  simp only [sb] at h1
  have h1' : rightB A = true := by simpa using h1
  have hr : OkA A := rightB_ok h1' hx
  have h9 : decT A = (nodeD (wholeS A) 32 0 0 0).2 := if_neg (by simp [h1'])
  rw [h9]
  have hl16 := hr.most
  refine W_skip ?_
  refine W_seq (W_region rfl ?_)
  refine stp (r_move_slice rfl ?_)
  refine stp (r_build (v := .agg #[.slice ada A.length ca, .bool false, .slice none 0 0]) (fun w => by kernel_rfl) ?_)
  refine stp (r_build (v := .agg #[.slice ada A.length ca, .bool false, .slice none 0 0, .int .i64 0, .int .i64 0]) (fun w => by kernel_rfl) ?_)
  refine WL_some (og rfl ?_)
  have H := srcR_whole (uh := .slice none 0 0) (hA0.grow G) (by omega) hx hs
  have hcal := rnode_calls _ w7 H (seg := 0) (a := 0) (paid := 0) (by simp [inR]) (by decide) (by decide) (by decide) (by decide) (d := 32) (by decide) (Nat.le_refl _)
  rw [show (32 - ((32 : Nat) : Int)) = 0 from by decide] at hcal
  have hlow := G.size
  have hlt1 := lt_of_heap hc4
  refine r_call rfl hcal ?_
  rintro v_ w12 ⟨pd9, cells, t9, rfl, hT9, ht9, g_⟩
  clear hcal H
  replace hc4 := g_.heap hc4
  replace G := G.tr g_
  clear g_
  obtain ⟨y0, y1, ya, yn, yc, za, zn, zc, ua, un, uc, rfl⟩ := hT9.cells
  refine stp (r_move (v := .tuple #[.agg #[.slice ada A.length ca, .bool false, .slice none 0 0, .int .i64 pd9, .int .i64 ((nodeD (wholeS A) 32 0 0 0).2.2)], .agg #[.int .i64 y0, .int .i64 y1, .slice ya yn yc, .slice za zn zc, .slice ua un uc]]) rfl ?_)
  refine stp (r_extract (v := .agg #[.slice ada A.length ca, .bool false, .slice none 0 0, .int .i64 pd9, .int .i64 ((nodeD (wholeS A) 32 0 0 0).2.2)]) rfl rfl ?_)
  refine stp (r_extract (v := .agg #[.int .i64 y0, .int .i64 y1, .slice ya yn yc, .slice za zn zc, .slice ua un uc]) rfl rfl ?_)
  refine stp (r_alloc ?_)
  intro b13a w13a hb13a hc13a g13a
  refine stp (r_alloc ?_)
  intro b13b w13b hb13b hc13b g13b
  have n13 : b13a ≠ b13b := Nat.ne_of_lt (Nat.lt_of_lt_of_le (lt_of_heap hc13a) hb13b)
  refine stn (r_storeAll rfl rfl (g13b.heap hc13a) (by rfl) (by rfl) (by rfl) ?_)
  intro w13c hd13a u13a
  refine stn (r_storeAll rfl rfl (u13a.heap hc13b n13.symm) (by rfl) (by rfl) (by rfl) ?_)
  intro w13d he13b u13b
  have he13a := u13b.heap hd13a n13
  have hx13 := Nat.le_trans g13a.size hb13b
  have gx13 := ((g13a.tr g13b).upd u13a hb13a).upd u13b hx13
  clear hc13a hc13b hd13a u13a u13b g13a g13b
  have hge14 := Nat.le_trans G.size hb13a
  have ne15 := Nat.ne_of_lt (Nat.lt_of_lt_of_le (lt_of_heap hc4) hb13a)
  have hge16 := Nat.le_trans G.size hx13
  have ne17 := Nat.ne_of_lt (Nat.lt_of_lt_of_le (lt_of_heap hc4) hx13)
  replace hc4 := gx13.heap hc4
  replace hT9 := hT9.sees (Sees.grow gx13)
  replace G := G.tr gx13
  clear gx13
  refine WL_nil ?_
  refine W_seq ?_
  refine W_seq (W_region rfl ?_)
  refine stp (r_fieldAddr rfl ?_)
  refine stp (r_load (v := .int .i64 ((nodeD (wholeS A) 32 0 0 0).2.2)) rfl he13a rfl ?_)
  refine stp (r_neq rfl rfl ?_)
  refine WL_nil ?_
  refine W_cond2 (b := (decide (((nodeD (wholeS A) 32 0 0 0).2.2) ≠ 0))) rfl (fun h2 => ?_) (fun h2 => ?_)
  ·-- true
   replace h2 := of_decide_eq_true h2
   refine W_seq ?_
   have kb_he13a : ∀ w_, Kp [b1] w13d w_ → w_.heap[b13a]? = some (.cells #[.slice ada A.length ca, .bool false, .slice none 0 0, .int .i64 pd9, .int .i64 ((nodeD (wholeS A) 32 0 0 0).2.2)] 104 (0, 0)) := fun w_ k_ => k_.heap he13a (fun hm_ => by simp only [List.mem_singleton] at hm_; first | exact ne15 hm_ | exact ne15 hm_.symm)
   have kb_G : ∀ w_, Kp [b1] w13d w_ → Grow w w_ := fun w_ k_ => G.trK k_ (fun x_ hx_ => by simp only [List.mem_singleton] at hx_; subst hx_; exact hge6)
   refine W_anyM 4 [[], [], [0], [2]] [3] [b1] (fun k_ w_ => match k_ with | 0 => w_.heap[b1]? = some (.cells #[.int .i64 0, .int .i64 0, .slice none 0 0, .slice none 0 0, .slice none 0 0] 37 (0, 0)) | _ => w_.heap[b1]? = some (.cells #[.int .i64 0, .int .i64 0, .slice none 0 0, .slice none 0 0, .slice none 0 0] 37 (0, 0))) mixed (by kernel_rfl) (by kernel_rfl) (by kernel_rfl) (by kernel_rfl) (fun k_ w_ w2_ g_ h_ => match k_, h_ with | 0, h_ => g_.heap h_ | n_ + 1, h_ => g_.heap h_) (fun w_ g_ => g_.heap hc4) ?_
   intro w18 g19
   replace kb_he13a : ∀ w_, Kp [b1] w18 w_ → w_.heap[b13a]? = some (.cells #[.slice ada A.length ca, .bool false, .slice none 0 0, .int .i64 pd9, .int .i64 ((nodeD (wholeS A) 32 0 0 0).2.2)] 104 (0, 0)) := fun w_ k_ => kb_he13a w_ (g19.kp.tr k_)
   replace kb_G : ∀ w_, Kp [b1] w18 w_ → Grow w w_ := fun w_ k_ => kb_G w_ (g19.kp.tr k_)
   have k0_ : Kp [b1] w13d w18 := g19.kp
   apply AOM_ex (hm := by rfl)
   ·intro w_ g_; refine og rfl ?_; refine r_build (v := .agg #[.int .i64 0, .int .i64 0, .slice none 0 0, .slice none 0 0, .slice none 0 0]) (fun w => by kernel_rfl) ?_; exact ⟨Grow.rfl' _, rfl⟩
   apply AOM_ex (hm := by rfl)
   ·intro w_ g_; refine og rfl ?_; refine r_fieldAddr rfl ?_; exact ⟨Grow.rfl' _, rfl⟩
   apply AOM_ex (hm := by rfl)
   ·intro w_ g_; refine og rfl ?_; refine r_load (v := .int .i64 ((nodeD (wholeS A) 32 0 0 0).2.2)) rfl (kb_he13a _ g_) rfl ?_; exact ⟨Grow.rfl' _, rfl⟩
   apply AOM_mut 0 (hm := by rfl)
   ·intro w_ g_ s_
    refine og rfl ?_
    refine r_storeAll rfl rfl s_ (by rfl) (by rfl) (by rfl) ?_
    intro w2_ s2_ u_
    exact ⟨Kp.of_upd u_ (by simp), s2_, rfl⟩
   refine AOM_nil ?_
   intro w20 g21 S_
   replace k0_ := (k0_.tr g21)
   have hc2x := S_
   clear S_
   replace he13a := kb_he13a _ g21
   clear kb_he13a
   replace G := kb_G _ g21
   clear kb_G
   refine stp (r_assign_int rfl ?_)
   refine WL_nil ?_
   refine W_ret ?_
   have hz := nodeD_nil h2
   rw [hz]
   refine ret2 (res_all rfl hc2x (by rfl)) (res_tmp (v := .int .i64 ((nodeD (wholeS A) 32 0 0 0).2.2)) rfl) ⟨[_, _, _, _, _], rfl, NodeR.zero _, G⟩
  ·-- false
   replace h2 := of_decide_eq_false h2
   have he0 : (nodeD (wholeS A) 32 0 0 0).2.2 = 0 := by omega
   refine W_skip ?_
   refine W_seq (W_region rfl ?_)
   refine stp (r_loadAll rfl he13b (by rfl) ?_)
   refine stn (r_storeAll rfl rfl hc4 (by rfl) (by rfl) (by rfl) ?_)
   intro w22 hc23 u24
   replace hT9 := hT9.sees (Sees.upd u24 (fun h_ => absurd h_ (Nat.not_le.2 hlt1)))
   replace he13a := u24.heap he13a ne15.symm
   replace he13b := u24.heap he13b ne17.symm
   replace G := G.upd u24 hge6
   clear u24 hc4
   refine stp (r_assign_int rfl ?_)
   refine WL_nil ?_
   refine W_ret ?_
   have ht8 := (ht9 he0).2
   rw [← ht8, he0]
   refine ret2 (res_all rfl hc23 (by rfl)) (res_tmp (v := .int .i64 0) rfl) ⟨_, rfl, hT9.sees (Sees.low hlow _), G⟩
end Go.Proofs.Ytfhfecepcnapfaa.K

namespace Go.Proofs.Ytfhfecepcnapfaa.K
open Go Go.RowKit Go.Proofs
attribute [local irreducible] Run1 OpG WL W AO Gives
set_option maxRecDepth 100000 in
theorem dnode_calls : ∀ (n_ : Nat) (w : World) {t_ : TypeId} {u_ : Value} {s : Src} {w0 : World} (H : SrcOk Try.prog w0 (.iface t_ u_) s) (g0 : Grow w0 w) {bd : Nat} (hbd : w0.heap.size ≤ bd) {paid : Int} (hb : w.heap[bd]? = some (.cells #[.iface t_ u_, .int .i64 paid] 85 (0, 0))) (hp0 : 0 ≤ paid) (hp1 : paid ≤ 8192) (seg : Int) {a : Int} (a0 : 0 ≤ a) (a1 : a ≤ 140737488455328) {d : Nat} (hd : d ≤ 32), d + 1 ≤ n_ → Calls Try.prog 39 #[.pointer (some ⟨bd, 0, none⟩), .int .i64 seg, .int .i64 a, .int .i64 (d : Int)] w (Ret fun v w' => ∃ cells, v = .tuple #[.agg cells.toArray, .int .u16 (nodeD s d seg a paid).2.2] ∧ NodeR (hide w.heap.size w') cells (nodeD s d seg a paid).2.1 ∧ w'.heap[bd]? = some (.cells #[.iface t_ u_, .int .i64 ((nodeD s d seg a paid).1)] 85 (0, 0)) ∧ Kp [bd] w w') := by
 intro n_
 induction n_ with
 | zero => intro w t_ u_ s w0 H g0 bd hbd paid hb hp0 hp1 seg a a0 a1 d hd hm_; exact absurd hm_ (by have := Nat.succ_pos d; omega)
 | succ n_ ih_ =>
 intro w t_ u_ s w0 H g0 bd hbd paid hb hp0 hp1 seg a a0 a1 d hd hm_
 have K := Kp.refl [bd] w
 have g0w := g0.size
 have hblt := lt_of_heap hb
 have hor := followS_range H seg a
 have hok := followS_kind s seg a
 obtain ⟨hw0, hw1⟩ := wordsO_range hor
 obtain ⟨rk, rs, ra, rd, rp, rz, rc⟩ := hor
 have hor := followS_range H seg a
 have hneq := nodeD_eq s d seg a paid
 refine calls_ret Try.func39 Try.ntmps39 Try.results39 rfl rfl ?_
 refine W_seq (W_region rfl ?_)
 refine stp (r_alloc ?_)
 intro b1 w2 hb3 hc4 g5
 refine stp (r_assign_int rfl ?_)
 refine WL_nil ?_
 refine W_seq (W_region rfl ?_)
 refine stp (r_move_ptr rfl ?_)
 refine stp (r_nilCheck rfl ?_)
 refine stp (r_fieldAddr rfl ?_)
 have hge6 := Nat.le_trans K.size hb3
 have ne7 := Nat.ne_of_lt (Nat.lt_of_lt_of_le (lt_of_heap hb) hb3)
 replace hb := g5.heap hb
 replace K := K.tr g5.kp
 replace g0 := g0.tr g5
 clear g5 hb3
 refine stp (r_load (v := .iface t_ u_) rfl hb rfl ?_)
 refine stp (r_move_int rfl ?_)
 refine stp (r_move_int rfl ?_)
 refine stp (r_gives (v := .tuple #[.agg #[.int .i64 ((followS s seg a).1.kind), .int .i64 ((followS s seg a).1.seg), .int .i64 ((followS s seg a).1.at_), .int .i64 ((followS s seg a).1.data), .int .i64 ((followS s seg a).1.ptrs), .int .i64 ((followS s seg a).1.size), .int .i64 ((followS s seg a).1.count)], .int .u16 ((followS s seg a).2)]) rfl (follow_calls _ (H.grow g0) seg a) ?_)
 intro w8 g9
 replace hb := g9.heap hb
 replace K := K.tr g9.kp
 replace g0 := g0.tr g9
 replace hc4 := g9.heap hc4
 clear g9
 refine stp (r_move (v := .tuple #[.agg #[.int .i64 ((followS s seg a).1.kind), .int .i64 ((followS s seg a).1.seg), .int .i64 ((followS s seg a).1.at_), .int .i64 ((followS s seg a).1.data), .int .i64 ((followS s seg a).1.ptrs), .int .i64 ((followS s seg a).1.size), .int .i64 ((followS s seg a).1.count)], .int .u16 ((followS s seg a).2)]) rfl ?_)
 refine stp (r_extract (v := .agg #[.int .i64 ((followS s seg a).1.kind), .int .i64 ((followS s seg a).1.seg), .int .i64 ((followS s seg a).1.at_), .int .i64 ((followS s seg a).1.data), .int .i64 ((followS s seg a).1.ptrs), .int .i64 ((followS s seg a).1.size), .int .i64 ((followS s seg a).1.count)]) rfl rfl ?_)
 refine stp (r_extract (v := .int .u16 ((followS s seg a).2)) rfl rfl ?_)
 refine stp (r_alloc ?_)
 intro b10 w11 hb12 hc13 g14
 refine stn (r_storeAll rfl rfl hc13 (by rfl) (by rfl) (by rfl) ?_)
 intro w15 hc16 u17
 have g18 := g14.upd u17 hb12
 have hge19 := Nat.le_trans K.size hb12
 have ne20 := Nat.ne_of_lt (Nat.lt_of_lt_of_le (lt_of_heap hb) hb12)
 have ne21 := Nat.ne_of_lt (Nat.lt_of_lt_of_le (lt_of_heap hc4) hb12)
 replace hb := g18.heap hb
 replace K := K.tr g18.kp
 replace g0 := g0.tr g18
 replace hc4 := g18.heap hc4
 clear u17 g14 hb12 hc13
 refine stp (r_assign_int rfl ?_)
 refine WL_nil ?_
 refine W_seq ?_
 refine W_seq (W_region rfl ?_)
 refine stp (r_move_int rfl ?_)
 refine stp (r_neq rfl rfl ?_)
 refine WL_nil ?_
 refine W_cond2 (b := (decide (((followS s seg a).2) ≠ 0))) rfl (fun h1 => ?_) (fun h1 => ?_)
 ·-- true
  replace h1 := of_decide_eq_true h1
  refine W_seq (W_region rfl ?_)
  refine stp (r_loadAll rfl hc4 (by rfl) ?_)
  refine stp (r_move_int rfl ?_)
  refine stn (r_storeAll rfl rfl hc4 (by rfl) (by rfl) (by rfl) ?_)
  intro w22 hc23 u24
  replace hb := u24.heap hb ne7
  replace K := (by first | exact K.upd_new u24 (by assumption) | exact K.tr (Kp.of_upd u24 (by simp)))
  replace g0 := (by first | exact Grow.upd g0 u24 (Nat.le_trans g0w (by assumption)) | exact g0.kp1 (Kp.of_upd u24 (by simp)) hbd)
  replace hc16 := u24.heap hc16 ne21.symm
  clear u24 hc4
  refine stp (r_assign_int rfl ?_)
  refine WL_nil ?_
  refine W_ret ?_
  have h9 : (nodeD s d seg a paid) = (paid, .nil, (followS s seg a).2) := by rw [hneq]; unfold nodeK; rw [if_pos h1]
  rw [h9]
  refine ret2 (res_all rfl hc23 (by rfl)) (res_tmp (v := .int .u16 ((followS s seg a).2)) rfl) ⟨[_, _, _, _, _], rfl, NodeR.zero _, hb, K⟩
 ·-- false
  replace h1 := of_decide_eq_false h1
  refine W_skip ?_
  refine W_seq ?_
  refine W_any 8 [[], [0], [1, 0], [2, 1, 0], [], [0], [1, 0], [6, 5, 4, 3, 2, 1, 0]] mixed (by kernel_rfl) (by kernel_rfl) (by kernel_rfl) ?_
  intro w25 g26
  replace hb := g26.heap hb
  replace K := K.tr g26.kp
  replace g0 := g0.tr g26
  replace hc4 := g26.heap hc4
  replace hc16 := g26.heap hc16
  clear g26
  apply AO_ex
  ·intro w_ g_; refine og rfl ?_; refine r_move_ptr rfl ?_; exact ⟨Grow.rfl' _, rfl⟩
  apply AO_ex
  ·intro w_ g_; refine og rfl ?_; refine r_nilCheck rfl ?_; exact ⟨Grow.rfl' _, rfl⟩
  apply AO_ex
  ·intro w_ g_; refine og rfl ?_; refine r_fieldAddr rfl ?_; exact ⟨Grow.rfl' _, rfl⟩
  apply AO_ex
  ·intro w_ g_; refine og rfl ?_; refine r_load (v := .int .i64 paid) rfl (g_.heap hb) rfl ?_; exact ⟨Grow.rfl' _, rfl⟩
  apply AO_ex
  ·intro w_ g_; refine og rfl ?_; refine r_loadAll rfl (g_.heap hc16) (by rfl) ?_; exact ⟨Grow.rfl' _, rfl⟩
  apply AO_ex
  ·intro w_ g_; refine og rfl ?_; exact r_gives (v := .int .i64 (wordsO (followS s seg a).1)) rfl (owords_calls _ (followS s seg a).1) (fun w2_ g2_ => ⟨g2_, rfl⟩)
  apply AO_ex
  ·intro w_ g_; refine og rfl ?_; refine r_add rfl rfl ?_ ?_; constructor <;> omega; exact ⟨Grow.rfl' _, rfl⟩
  apply AO_ex
  ·intro w_ g_; refine og rfl ?_; refine r_add rfl rfl ?_ ?_; constructor <;> omega; exact ⟨Grow.rfl' _, rfl⟩
  refine AO_nil ?_
  intro w27 g28
  replace hb := g28.heap hb
  replace K := K.tr g28.kp
  replace g0 := g0.tr g28
  replace hc4 := g28.heap hc4
  replace hc16 := g28.heap hc16
  clear g28
  refine stp (r_nilCheck rfl ?_)
  refine stp (r_fieldAddr rfl ?_)
  refine stn (r_store1 (v := .int .i64 (paid + (1 + (wordsO (followS s seg a).1)))) rfl rfl (by rfl) hb (by rfl) (by rfl) ?_)
  intro w29 hc30 u31
  replace K := (by first | exact K.upd_new u31 (by assumption) | exact K.tr (Kp.of_upd u31 (by simp)))
  replace g0 := (by first | exact Grow.upd g0 u31 (Nat.le_trans g0w (by assumption)) | exact g0.kp1 (Kp.of_upd u31 (by simp)) hbd)
  replace hc4 := u31.heap hc4 ne7.symm
  replace hc16 := u31.heap hc16 ne20.symm
  clear u31 hb
  refine WL_nil ?_
  refine W_seq ?_
  refine W_block ?_
  refine W_seq (W_region rfl ?_)
  refine stp (r_fieldAddr rfl ?_)
  refine stp (r_load (v := .int .i64 ((followS s seg a).1.kind)) rfl hc16 rfl ?_)
  refine stp (r_neq rfl rfl ?_)
  refine stp (r_move_bool rfl ?_)
  refine WL_some (og_if (s := .bool (decide (((followS s seg a).1.kind) ≠ 0))) (b := true) (v := .int .i64 (d : Int)) rfl (wgb_t _) (fun hc32 => ?_) ?_)
  ·
   have hc32_ := of_decide_eq_true hc32
   refine r_move_int rfl ?_
   exact ⟨rfl, rfl⟩
  refine WL_some (og_if (s := .bool (decide (((followS s seg a).1.kind) ≠ 0))) (b := true) (v := .bool (decide ((d : Int) = 0))) rfl (wgb_t _) (fun hc33 => ?_) ?_)
  ·
   have hc33_ := of_decide_eq_true hc33
   refine r_eql (gvt hc33) rfl ?_
   exact ⟨rfl, rfl⟩
  refine stp (r_and2 rfl rfl rfl ?_)
  refine stp (r_assign_bool rfl ?_)
  refine WL_nil ?_
  refine W_cond2 (b := ((decide (((followS s seg a).1.kind) ≠ 0)) && (decide ((d : Int) = 0)))) rfl (fun h2 => ?_) (fun h2 => ?_)
  ·-- true
   simp only [sb] at h2
   obtain ⟨h2a, h2b⟩ := h2
   have hd0 : (d == 0) = true := by rw [show d = 0 from by omega]; rfl
   refine W_seq (W_region rfl ?_)
   refine stp (r_loadAll rfl hc4 (by rfl) ?_)
   refine stn (r_storeAll rfl rfl hc4 (by rfl) (by rfl) (by rfl) ?_)
   intro w34 hc35 u36
   replace K := (by first | exact K.upd_new u36 (by assumption) | exact K.tr (Kp.of_upd u36 (by simp)))
   replace g0 := (by first | exact Grow.upd g0 u36 (Nat.le_trans g0w (by assumption)) | exact g0.kp1 (Kp.of_upd u36 (by simp)) hbd)
   replace hc16 := u36.heap hc16 ne21.symm
   replace hc30 := u36.heap hc30 ne7
   clear u36 hc4
   refine stp (r_assign_int rfl ?_)
   refine WL_nil ?_
   refine W_ret ?_
   have h9 : (nodeD s d seg a paid) = ((paid + (1 + wordsO (followS s seg a).1)), .nil, 21) := by rw [hneq]; unfold nodeK; rw [if_neg h1, if_pos ⟨h2a, hd0⟩]
   rw [h9]
   refine ret2 (res_all rfl hc35 (by rfl)) (res_tmp (v := .int .u16 21) rfl) ⟨[_, _, _, _, _], rfl, NodeR.zero _, hc30, K⟩
  ·-- false
   simp only [sb] at h2
   have h2n : ¬ ((followS s seg a).1.kind ≠ 0 ∧ (d == 0) = true) := fun h_ => absurd (eq_of_beq h_.2) (by omega)
   refine W_seq (W_region rfl ?_)
   refine stp (r_move_ptr rfl ?_)
   refine stp (r_nilCheck rfl ?_)
   refine stp (r_fieldAddr rfl ?_)
   refine stp (r_load (v := .int .i64 (paid + (1 + (wordsO (followS s seg a).1)))) rfl hc30 rfl ?_)
   refine stp (r_gtr rfl rfl ?_)
   refine stp (r_assign_bool rfl ?_)
   refine WL_nil ?_
   refine W_cond2 (b := (decide ((paid + (1 + (wordsO (followS s seg a).1))) > 8192))) rfl (fun h3 => ?_) (fun h3 => ?_)
   ·-- true
    replace h3 := of_decide_eq_true h3
    refine W_seq (W_region rfl ?_)
    refine stp (r_loadAll rfl hc4 (by rfl) ?_)
    refine stn (r_storeAll rfl rfl hc4 (by rfl) (by rfl) (by rfl) ?_)
    intro w37 hc38 u39
    replace K := (by first | exact K.upd_new u39 (by assumption) | exact K.tr (Kp.of_upd u39 (by simp)))
    replace g0 := (by first | exact Grow.upd g0 u39 (Nat.le_trans g0w (by assumption)) | exact g0.kp1 (Kp.of_upd u39 (by simp)) hbd)
    replace hc16 := u39.heap hc16 ne21.symm
    replace hc30 := u39.heap hc30 ne7
    clear u39 hc4
    refine stp (r_assign_int rfl ?_)
    refine WL_nil ?_
    refine W_ret ?_
    have h9 : (nodeD s d seg a paid) = ((paid + (1 + wordsO (followS s seg a).1)), .nil, 22) := by rw [hneq]; unfold nodeK; rw [if_neg h1, if_neg h2n, if_pos h3]
    rw [h9]
    refine ret2 (res_all rfl hc38 (by rfl)) (res_tmp (v := .int .u16 22) rfl) ⟨[_, _, _, _, _], rfl, NodeR.zero _, hc30, K⟩
   ·-- false
    replace h3 := of_decide_eq_false h3
    obtain ⟨s1, s2, s3, s4, s5, s6⟩ := ob_small hor hok (by omega)
    obtain ⟨B, hB⟩ : ∃ B, B = w29.heap.size := ⟨_, rfl⟩
    have hB8 : b1 < B := by rw [hB]; exact lt_of_heap hc4
    have hB10 : b10 < B := by rw [hB]; exact lt_of_heap hc16
    have hBd : bd < B := by rw [hB]; exact lt_of_heap hc30
    have hwB : w.heap.size ≤ B := by rw [hB]; exact K.size
    have hBw : B ≤ w29.heap.size := by rw [hB]; exact Nat.le_refl _
    clear hB
    refine W_skip ?_
    refine W_seq ?_
    have kb_hc16 : ∀ w_, Kp [b1] w29 w_ → w_.heap[b10]? = some (.cells #[.int .i64 ((followS s seg a).1.kind), .int .i64 ((followS s seg a).1.seg), .int .i64 ((followS s seg a).1.at_), .int .i64 ((followS s seg a).1.data), .int .i64 ((followS s seg a).1.ptrs), .int .i64 ((followS s seg a).1.size), .int .i64 ((followS s seg a).1.count)] 120 (0, 0)) := fun w_ k_ => k_.heap hc16 (fun hm_ => by simp only [List.mem_singleton] at hm_; first | exact ne21 hm_ | exact ne21 hm_.symm)
    have kb_hc30 : ∀ w_, Kp [b1] w29 w_ → w_.heap[bd]? = some (.cells #[.iface t_ u_, .int .i64 (paid + (1 + (wordsO (followS s seg a).1)))] 85 (0, 0)) := fun w_ k_ => k_.heap hc30 (fun hm_ => by simp only [List.mem_singleton] at hm_; omega)
    have kb_K : ∀ w_, Kp [b1] w29 w_ → Kp [bd] w w_ := fun w_ k_ => K.trans k_ (fun x_ hx_ => by simp only [List.mem_singleton] at hx_; subst hx_; exact .inr hge6)
    have kb_g0 : ∀ w_, Kp [b1] w29 w_ → Grow w0 w_ := fun w_ k_ => g0.trK k_ (fun x_ hx_ => by simp only [List.mem_singleton] at hx_; subst hx_; exact Nat.le_trans g0w hge6)
    have kb_hBw : ∀ w_, Kp [b1] w29 w_ → B ≤ w_.heap.size := fun w_ k_ => Nat.le_trans hBw k_.size
    refine W_anyM 6 [[], [0], [], [0], [3, 2], [4, 3, 0]] [5] [b1] (fun k_ w_ => match k_ with | 0 => w_.heap[b1]? = some (.cells #[.int .i64 0, .int .i64 0, .slice none 0 0, .slice none 0 0, .slice none 0 0] 37 (0, 0)) | _ => w_.heap[b1]? = some (.cells #[.int .i64 ((followS s seg a).1.kind), .int .i64 0, .slice none 0 0, .slice none 0 0, .slice none 0 0] 37 (0, 0))) mixed (by kernel_rfl) (by kernel_rfl) (by kernel_rfl) (by kernel_rfl) (fun k_ w_ w2_ g_ h_ => match k_, h_ with | 0, h_ => g_.heap h_ | n_ + 1, h_ => g_.heap h_) (fun w_ g_ => g_.heap hc4) ?_
    intro w40 g41
    replace kb_hc16 : ∀ w_, Kp [b1] w40 w_ → w_.heap[b10]? = some (.cells #[.int .i64 ((followS s seg a).1.kind), .int .i64 ((followS s seg a).1.seg), .int .i64 ((followS s seg a).1.at_), .int .i64 ((followS s seg a).1.data), .int .i64 ((followS s seg a).1.ptrs), .int .i64 ((followS s seg a).1.size), .int .i64 ((followS s seg a).1.count)] 120 (0, 0)) := fun w_ k_ => kb_hc16 w_ (g41.kp.tr k_)
    replace kb_hc30 : ∀ w_, Kp [b1] w40 w_ → w_.heap[bd]? = some (.cells #[.iface t_ u_, .int .i64 (paid + (1 + (wordsO (followS s seg a).1)))] 85 (0, 0)) := fun w_ k_ => kb_hc30 w_ (g41.kp.tr k_)
    replace kb_K : ∀ w_, Kp [b1] w40 w_ → Kp [bd] w w_ := fun w_ k_ => kb_K w_ (g41.kp.tr k_)
    replace kb_g0 : ∀ w_, Kp [b1] w40 w_ → Grow w0 w_ := fun w_ k_ => kb_g0 w_ (g41.kp.tr k_)
    replace kb_hBw : ∀ w_, Kp [b1] w40 w_ → B ≤ w_.heap.size := fun w_ k_ => kb_hBw w_ (g41.kp.tr k_)
    have k0_ : Kp [b1] w29 w40 := g41.kp
    apply AOM_ex (hm := by rfl)
    ·intro w_ g_; refine og rfl ?_; refine r_fieldAddr rfl ?_; exact ⟨Grow.rfl' _, rfl⟩
    apply AOM_ex (hm := by rfl)
    ·intro w_ g_; refine og rfl ?_; refine r_load (v := .int .i64 ((followS s seg a).1.kind)) rfl (kb_hc16 _ g_) rfl ?_; exact ⟨Grow.rfl' _, rfl⟩
    apply AOM_ex (hm := by rfl)
    ·intro w_ g_; refine og rfl ?_; refine r_fieldAddr rfl ?_; exact ⟨Grow.rfl' _, rfl⟩
    apply AOM_ex (hm := by rfl)
    ·intro w_ g_; refine og rfl ?_; refine r_load (v := .int .i64 ((followS s seg a).1.size)) rfl (kb_hc16 _ g_) rfl ?_; exact ⟨Grow.rfl' _, rfl⟩
    apply AOM_ex (hm := by rfl)
    ·intro w_ g_; refine og rfl ?_; refine r_fieldAddr rfl ?_; exact ⟨Grow.rfl' _, rfl⟩
    apply AOM_mut 0 (hm := by rfl)
    ·intro w_ g_ s_
     refine og rfl ?_
     refine r_store1 (v := .int .i64 ((followS s seg a).1.kind)) rfl rfl (by rfl) s_ (by rfl) (by rfl) ?_
     intro w2_ s2_ u_
     exact ⟨Kp.of_upd u_ (by simp), s2_, rfl⟩
    refine AOM_nil ?_
    intro w42 g43 S_
    replace k0_ := (k0_.tr g43)
    have hc8x := S_
    clear S_
    replace hc16 := kb_hc16 _ g43
    clear kb_hc16
    replace hc30 := kb_hc30 _ g43
    clear kb_hc30
    replace K := kb_K _ g43
    clear kb_K
    replace g0 := kb_g0 _ g43
    clear kb_g0
    replace hBw := kb_hBw _ g43
    clear kb_hBw
    refine stp (r_fieldAddr rfl ?_)
    refine stn (r_store1 (v := .int .i64 ((followS s seg a).1.size)) rfl rfl (by rfl) hc8x (by rfl) (by rfl) ?_)
    intro w44 hc45 u46
    replace K := (by first | exact K.upd_new u46 (by assumption) | exact K.tr (Kp.of_upd u46 (by simp)))
    replace g0 := (by first | exact Grow.upd g0 u46 (Nat.le_trans g0w (by assumption)) | exact g0.kp1 (Kp.of_upd u46 (by simp)) hbd)
    replace hc16 := u46.heap hc16 ne21.symm
    replace hc30 := u46.heap hc30 ne7
    replace hBw := Nat.le_trans hBw (Nat.le_of_eq u46.size.symm)
    clear u46 hc8x
    refine WL_nil ?_
    refine W_seq ?_
    refine W_any 8 [[], [0], [], [0], [], [0], [3, 2, 1, 0], [6, 5]] mixed (by kernel_rfl) (by kernel_rfl) (by kernel_rfl) ?_
    intro w47 g48
    replace K := K.tr g48.kp
    replace g0 := g0.tr g48
    replace hc16 := g48.heap hc16
    replace hc30 := g48.heap hc30
    replace hBw := Nat.le_trans hBw g48.size
    replace hc45 := g48.heap hc45
    clear g48
    apply AO_ex
    ·intro w_ g_; refine og rfl ?_; refine r_fieldAddr rfl ?_; exact ⟨Grow.rfl' _, rfl⟩
    apply AO_ex
    ·intro w_ g_; refine og rfl ?_; refine r_load (v := .int .i64 ((followS s seg a).1.ptrs)) rfl (g_.heap hc16) rfl ?_; exact ⟨Grow.rfl' _, rfl⟩
    apply AO_ex
    ·intro w_ g_; refine og rfl ?_; refine r_fieldAddr rfl ?_; exact ⟨Grow.rfl' _, rfl⟩
    apply AO_ex
    ·intro w_ g_; refine og rfl ?_; refine r_load (v := .int .i64 ((followS s seg a).1.at_)) rfl (g_.heap hc16) rfl ?_; exact ⟨Grow.rfl' _, rfl⟩
    apply AO_ex
    ·intro w_ g_; refine og rfl ?_; refine r_fieldAddr rfl ?_; exact ⟨Grow.rfl' _, rfl⟩
    apply AO_ex
    ·intro w_ g_; refine og rfl ?_; refine r_load (v := .int .i64 ((followS s seg a).1.data)) rfl (g_.heap hc16) rfl ?_; exact ⟨Grow.rfl' _, rfl⟩
    apply AO_ex
    ·intro w_ g_; refine og rfl ?_; refine r_add rfl rfl ?_ ?_; constructor <;> omega; exact ⟨Grow.rfl' _, rfl⟩
    apply AO_ex
    ·intro w_ g_; refine og rfl ?_; refine r_assign_int rfl ?_; exact ⟨Grow.rfl' _, rfl⟩
    refine AO_nil ?_
    intro w49 g50
    replace K := K.tr g50.kp
    replace g0 := g0.tr g50
    replace hc16 := g50.heap hc16
    replace hc30 := g50.heap hc30
    replace hBw := Nat.le_trans hBw g50.size
    replace hc45 := g50.heap hc45
    clear g50
    refine stp (r_assign_int rfl ?_)
    refine WL_nil ?_
    refine W_seq (W_region rfl ?_)
    refine stp (r_move_ptr rfl ?_)
    refine stp (r_fieldAddr rfl ?_)
    refine stp (r_load (v := .int .i64 ((followS s seg a).1.seg)) rfl hc16 rfl ?_)
    refine stp (r_fieldAddr rfl ?_)
    refine stp (r_load (v := .int .i64 ((followS s seg a).1.at_)) rfl hc16 rfl ?_)
    refine stp (r_fieldAddr rfl ?_)
    refine stp (r_load (v := .int .i64 ((followS s seg a).1.data)) rfl hc16 rfl ?_)
    refine WL_some (og rfl ?_)
    have hcal := dwords_calls _ (H.grow g0) hc30 (followS s seg a).1.seg ra.1 ra.2 (n := (followS s seg a).1.data.toNat) (by omega)
    rw [Int.toNat_of_nonneg (by omega)] at hcal
    refine r_call rfl hcal ?_
    rintro v_ w51 ⟨R_, g_⟩
    have hRw := R_.sees (Sees.low hBw _)
    clear R_
    replace K := K.tr g_.kp
    replace g0 := g0.tr g_
    replace hc16 := g_.heap hc16
    replace hc30 := g_.heap hc30
    replace hBw := Nat.le_trans hBw g_.size
    replace hc45 := g_.heap hc45
    clear g_
    obtain ⟨adhRw, cphRw, rfl, -⟩ := id hRw
    refine stp (r_fieldAddr rfl ?_)
    refine stn (r_store1 (v := .slice adhRw ((followS s seg a).1.data.toNat) cphRw) rfl rfl (by rfl) hc45 (by rfl) (by rfl) ?_)
    intro w52 hc53 u54
    replace K := (by first | exact K.upd_new u54 (by assumption) | exact K.tr (Kp.of_upd u54 (by simp)))
    replace g0 := (by first | exact Grow.upd g0 u54 (Nat.le_trans g0w (by assumption)) | exact g0.kp1 (Kp.of_upd u54 (by simp)) hbd)
    replace hc16 := u54.heap hc16 ne21.symm
    replace hc30 := u54.heap hc30 ne7
    replace hBw := Nat.le_trans hBw (Nat.le_of_eq u54.size.symm)
    replace hRw := hRw.sees (Sees.upd u54 (fun h_ => by omega))
    clear u54 hc45
    refine WL_nil ?_
    refine W_cut1 (fun e_ w_ => ∃ (aw : Option Addr) (nw : Nat) (cw : Nat) (ab : Option Addr) (nb : Nat) (cb : Nat), Fr [(0, .pointer (some ⟨bd, 0, none⟩)), (3, .int .i64 (d : Int)), (8, .pointer (some ⟨b1, 0, none⟩)), (9, .int .u16 ((followS s seg a).2)), (10, .pointer (some ⟨b10, 0, none⟩)), (11, .int .i64 (kidN (followS s seg a).1)), (12, .int .i64 (kidA (followS s seg a).1))] e_ ∧ (Kp [bd] w w_) ∧ (Grow w0 w_) ∧ (w_.heap[b10]? = some (.cells #[.int .i64 ((followS s seg a).1.kind), .int .i64 ((followS s seg a).1.seg), .int .i64 ((followS s seg a).1.at_), .int .i64 ((followS s seg a).1.data), .int .i64 ((followS s seg a).1.ptrs), .int .i64 ((followS s seg a).1.size), .int .i64 ((followS s seg a).1.count)] 120 (0, 0))) ∧ (w_.heap[bd]? = some (.cells #[.iface t_ u_, .int .i64 (paid + (1 + (wordsO (followS s seg a).1)))] 85 (0, 0))) ∧ (B ≤ w_.heap.size) ∧ (w_.heap[b1]? = some (.cells #[.int .i64 ((followS s seg a).1.kind), .int .i64 ((followS s seg a).1.size), .slice aw nw cw, .slice ab nb cb, .slice none 0 0] 37 (0, 0))) ∧ (Row (hide B w_) 1 (.slice aw nw cw) (nodL s (followS s seg a).1).length ((nodL s (followS s seg a).1).map (.int .u64))) ∧ (Row (hide B w_) 1 (.slice ab nb cb) (nodB s (followS s seg a).1).length ((nodB s (followS s seg a).1).map (.int .u8)))) ?_ ?_
    ·-- the parts
     refine W_seq (W_region rfl ?_)
     refine stp (r_fieldAddr rfl ?_)
     refine stp (r_load (v := .int .i64 ((followS s seg a).1.size)) rfl hc16 rfl ?_)
     refine WL_nil ?_
     refine W_block ?_
     refine W_seq (W_region rfl ?_)
     refine stp (r_eql rfl rfl ?_)
     refine stp (r_assign_bool rfl ?_)
     refine WL_nil ?_
     refine W_cond2 (b := (decide (((followS s seg a).1.size) = 2))) rfl (fun h4 => ?_) (fun h4 => ?_)
     ·-- true
      replace h4 := of_decide_eq_true h4
      refine W_region rfl ?_
      refine stp (r_move_ptr rfl ?_)
      refine stp (r_fieldAddr rfl ?_)
      refine stp (r_load (v := .int .i64 ((followS s seg a).1.seg)) rfl hc16 rfl ?_)
      refine stp (r_fieldAddr rfl ?_)
      refine stp (r_load (v := .int .i64 ((followS s seg a).1.at_)) rfl hc16 rfl ?_)
      refine stp (r_fieldAddr rfl ?_)
      refine stp (r_load (v := .int .i64 ((followS s seg a).1.count)) rfl hc16 rfl ?_)
      refine WL_some (og rfl ?_)
      have hcal := dbytes_calls _ (H.grow g0) hc30 (followS s seg a).1.seg ra.1 ra.2 (n := (followS s seg a).1.count.toNat) (by omega)
      rw [Int.toNat_of_nonneg (by omega)] at hcal
      refine r_call rfl hcal ?_
      rintro v_ w55 ⟨R_, g_⟩
      have hRb := R_.sees (Sees.low hBw _)
      clear R_
      replace K := K.tr g_.kp
      replace g0 := g0.tr g_
      replace hc16 := g_.heap hc16
      replace hc30 := g_.heap hc30
      replace hBw := Nat.le_trans hBw g_.size
      replace hRw := hRw.sees (Sees.grow g_)
      replace hc53 := g_.heap hc53
      clear g_
      obtain ⟨adhRb, cphRb, rfl, -⟩ := id hRb
      refine stp (r_fieldAddr rfl ?_)
      refine stn (r_store1 (v := .slice adhRb ((followS s seg a).1.count.toNat) cphRb) rfl rfl (by rfl) hc53 (by rfl) (by rfl) ?_)
      intro w56 hc57 u58
      replace K := (by first | exact K.upd_new u58 (by assumption) | exact K.tr (Kp.of_upd u58 (by simp)))
      replace g0 := (by first | exact Grow.upd g0 u58 (Nat.le_trans g0w (by assumption)) | exact g0.kp1 (Kp.of_upd u58 (by simp)) hbd)
      replace hc16 := u58.heap hc16 ne21.symm
      replace hc30 := u58.heap hc30 ne7
      replace hBw := Nat.le_trans hBw (Nat.le_of_eq u58.size.symm)
      replace hRw := hRw.sees (Sees.upd u58 (fun h_ => by omega))
      replace hRb := hRb.sees (Sees.upd u58 (fun h_ => by omega))
      clear u58 hc53
      refine WL_nil ?_
      have hk6 : (followS s seg a).1.size = 6 ∨ (followS s seg a).1.size ≠ 6 := by omega
      exact ⟨adhRw, ((followS s seg a).1.data).toNat, cphRw, adhRb, ((followS s seg a).1.count).toNat, cphRb, fr_of ⟨rfl, rfl, rfl, rfl, rfl, congrArg (Value.int .i64) (by unfold kidN; rw [if_neg (by omega)]), congrArg (Value.int .i64) (by unfold kidA; rw [if_neg (by omega)]), trivial⟩, K, g0, hc16, hc30, hBw, hc57, (by unfold nodL; rw [if_neg (by omega), wordsS_len]; exact hRw), (by unfold nodB; rw [if_pos h4, bytesS_len]; exact hRb)⟩
     ·-- false
      replace h4 := of_decide_eq_false h4
      refine W_seq (W_region rfl ?_)
      refine stp (r_eql rfl rfl ?_)
      refine stp (r_assign_bool rfl ?_)
      refine WL_nil ?_
      refine W_cond2 (b := (decide (((followS s seg a).1.size) = 5))) rfl (fun h5 => ?_) (fun h5 => ?_)
      ·-- true
       replace h5 := of_decide_eq_true h5
       refine W_region rfl ?_
       refine stp (r_move_ptr rfl ?_)
       refine stp (r_fieldAddr rfl ?_)
       refine stp (r_load (v := .int .i64 ((followS s seg a).1.seg)) rfl hc16 rfl ?_)
       refine stp (r_fieldAddr rfl ?_)
       refine stp (r_load (v := .int .i64 ((followS s seg a).1.at_)) rfl hc16 rfl ?_)
       refine stp (r_fieldAddr rfl ?_)
       refine stp (r_load (v := .int .i64 ((followS s seg a).1.count)) rfl hc16 rfl ?_)
       refine WL_some (og rfl ?_)
       have hcal := dwords_calls _ (H.grow g0) hc30 (followS s seg a).1.seg ra.1 ra.2 (n := (followS s seg a).1.count.toNat) (by omega)
       rw [Int.toNat_of_nonneg (by omega)] at hcal
       refine r_call rfl hcal ?_
       rintro v_ w59 ⟨R_, g_⟩
       have hRv := R_.sees (Sees.low hBw _)
       clear R_
       replace K := K.tr g_.kp
       replace g0 := g0.tr g_
       replace hc16 := g_.heap hc16
       replace hc30 := g_.heap hc30
       replace hBw := Nat.le_trans hBw g_.size
       replace hRw := hRw.sees (Sees.grow g_)
       replace hc53 := g_.heap hc53
       clear g_
       obtain ⟨adhRv, cphRv, rfl, -⟩ := id hRv
       refine stp (r_fieldAddr rfl ?_)
       refine stn (r_store1 (v := .slice adhRv ((followS s seg a).1.count.toNat) cphRv) rfl rfl (by rfl) hc53 (by rfl) (by rfl) ?_)
       intro w60 hc61 u62
       replace K := (by first | exact K.upd_new u62 (by assumption) | exact K.tr (Kp.of_upd u62 (by simp)))
       replace g0 := (by first | exact Grow.upd g0 u62 (Nat.le_trans g0w (by assumption)) | exact g0.kp1 (Kp.of_upd u62 (by simp)) hbd)
       replace hc16 := u62.heap hc16 ne21.symm
       replace hc30 := u62.heap hc30 ne7
       replace hBw := Nat.le_trans hBw (Nat.le_of_eq u62.size.symm)
       replace hRw := hRw.sees (Sees.upd u62 (fun h_ => by omega))
       replace hRv := hRv.sees (Sees.upd u62 (fun h_ => by omega))
       clear u62 hc53
       refine WL_nil ?_
       have hk6 : (followS s seg a).1.size = 6 ∨ (followS s seg a).1.size ≠ 6 := by omega
       exact ⟨adhRv, ((followS s seg a).1.count).toNat, cphRv, none, 0, 0, fr_of ⟨rfl, rfl, rfl, rfl, rfl, congrArg (Value.int .i64) (by unfold kidN; rw [if_neg (by omega)]), congrArg (Value.int .i64) (by unfold kidA; rw [if_neg (by omega)]), trivial⟩, K, g0, hc16, hc30, hBw, hc61, (by unfold nodL; rw [if_pos h5, wordsS_len]; exact hRv), (by unfold nodB; rw [if_neg (by omega)]; exact Row.nil _ _)⟩
      ·-- false
       replace h5 := of_decide_eq_false h5
       refine W_seq (W_region rfl ?_)
       refine stp (r_eql rfl rfl ?_)
       refine stp (r_assign_bool rfl ?_)
       refine WL_nil ?_
       refine W_cond2 (b := (decide (((followS s seg a).1.size) = 6))) rfl (fun h6 => ?_) (fun h6 => ?_)
       ·-- true
        replace h6 := of_decide_eq_true h6
        refine W_any 5 [[], [0], [], [0], [3, 2]] mixed (by kernel_rfl) (by kernel_rfl) (by kernel_rfl) ?_
        intro w63 g64
        replace K := K.tr g64.kp
        replace g0 := g0.tr g64
        replace hc16 := g64.heap hc16
        replace hc30 := g64.heap hc30
        replace hBw := Nat.le_trans hBw g64.size
        replace hRw := hRw.sees (Sees.grow g64)
        replace hc53 := g64.heap hc53
        clear g64
        apply AO_ex
        ·intro w_ g_; refine og rfl ?_; refine r_fieldAddr rfl ?_; exact ⟨Grow.rfl' _, rfl⟩
        apply AO_ex
        ·intro w_ g_; refine og rfl ?_; refine r_load (v := .int .i64 ((followS s seg a).1.count)) rfl (g_.heap hc16) rfl ?_; exact ⟨Grow.rfl' _, rfl⟩
        apply AO_ex
        ·intro w_ g_; refine og rfl ?_; refine r_fieldAddr rfl ?_; exact ⟨Grow.rfl' _, rfl⟩
        apply AO_ex
        ·intro w_ g_; refine og rfl ?_; refine r_load (v := .int .i64 ((followS s seg a).1.at_)) rfl (g_.heap hc16) rfl ?_; exact ⟨Grow.rfl' _, rfl⟩
        apply AO_ex
        ·intro w_ g_; refine og rfl ?_; refine r_assign_int rfl ?_; exact ⟨Grow.rfl' _, rfl⟩
        refine AO_nil ?_
        intro w65 g66
        replace K := K.tr g66.kp
        replace g0 := g0.tr g66
        replace hc16 := g66.heap hc16
        replace hc30 := g66.heap hc30
        replace hBw := Nat.le_trans hBw g66.size
        replace hRw := hRw.sees (Sees.grow g66)
        replace hc53 := g66.heap hc53
        clear g66
        refine stp (r_assign_int rfl ?_)
        refine WL_nil ?_
        have hk6 : (followS s seg a).1.size = 6 ∨ (followS s seg a).1.size ≠ 6 := by omega
        exact ⟨adhRw, ((followS s seg a).1.data).toNat, cphRw, none, 0, 0, fr_of ⟨rfl, rfl, rfl, rfl, rfl, congrArg (Value.int .i64) (by unfold kidN; rw [if_pos (by omega)]), congrArg (Value.int .i64) (by unfold kidA; rw [if_pos (by omega)]), trivial⟩, K, g0, hc16, hc30, hBw, hc53, (by unfold nodL; rw [if_neg (by omega), wordsS_len]; exact hRw), (by unfold nodB; rw [if_neg (by omega)]; exact Row.nil _ _)⟩
       ·-- false
        replace h6 := of_decide_eq_false h6
        refine W_skip ?_
        have hk6 : (followS s seg a).1.size = 6 ∨ (followS s seg a).1.size ≠ 6 := by omega
        exact ⟨adhRw, ((followS s seg a).1.data).toNat, cphRw, none, 0, 0, fr_of ⟨rfl, rfl, rfl, rfl, rfl, congrArg (Value.int .i64) (by unfold kidN; rw [if_neg (by omega)]), congrArg (Value.int .i64) (by unfold kidA; rw [if_neg (by omega)]), trivial⟩, K, g0, hc16, hc30, hBw, hc53, (by unfold nodL; rw [if_neg (by omega), wordsS_len]; exact hRw), (by unfold nodB; rw [if_neg (by omega)]; exact Row.nil _ _)⟩
    ·-- behind them
     clear K g0 hc16 hc30 hBw hRw hc53
     rintro e_ w67 ⟨aw, nw, cw, ab, nb, cb, ⟨e68, rfl⟩, K, g0, hc16, hc30, hBw, hc53, hRW, hRB⟩
     refine W_seq ?_
     refine W_seq (W_region rfl ?_)
     refine stp (r_move_int rfl ?_)
     refine stp (r_move_int rfl ?_)
     refine WL_nil ?_
     refine W_block ?_
     obtain ⟨B2, hB2⟩ : ∃ B, B = w67.heap.size := ⟨_, rfl⟩
     have hBB2 : B ≤ B2 := by rw [hB2]; exact hBw
     have hB2w : B2 ≤ w67.heap.size := by rw [hB2]; exact Nat.le_refl _
     have hSW := hRW.sees (Sees.more (V' := (fun x => B ≤ x ∧ x < B2)) w67 (fun x_ h1_ h2_ => ⟨h2_, by rw [hB2]; exact h1_⟩))
     have hSB := hRB.sees (Sees.more (V' := (fun x => B ≤ x ∧ x < B2)) w67 (fun x_ h1_ h2_ => ⟨h2_, by rw [hB2]; exact h1_⟩))
     clear hRW hRB hB2
     refine W_loop (fun m_ e_ w_ => ∃ (j : Nat) (pd : Int) (ks : List Nd) (ad6 : Option Addr) (n6 : Nat) (c6 : Nat) (kc : List Value) (V : Nat → Prop), m_ = (kidN (followS s seg a).1).toNat - j ∧ Fr [(0, .pointer (some ⟨bd, 0, none⟩)), (3, .int .i64 (d : Int)), (8, .pointer (some ⟨b1, 0, none⟩)), (10, .pointer (some ⟨b10, 0, none⟩)), (12, .int .i64 (kidA (followS s seg a).1)), (108, .int .i64 (kidN (followS s seg a).1)), (109, .int .i64 (j : Int))] e_ ∧ ((j : Int) ≤ kidN (followS s seg a).1) ∧ (kidsD (nodeF s d (followS s seg a).1.seg) (kidA (followS s seg a).1) (paid + (1 + wordsO (followS s seg a).1)) j = (pd, ks, 0)) ∧ (0 ≤ pd ∧ pd ≤ 8192) ∧ (∀ x, (Value.slice ad6 n6 c6).ownBlock = some x → ¬ V x) ∧ (Kp [bd] w w_) ∧ (Grow w0 w_) ∧ (w_.heap[b10]? = some (.cells #[.int .i64 ((followS s seg a).1.kind), .int .i64 ((followS s seg a).1.seg), .int .i64 ((followS s seg a).1.at_), .int .i64 ((followS s seg a).1.data), .int .i64 ((followS s seg a).1.ptrs), .int .i64 ((followS s seg a).1.size), .int .i64 ((followS s seg a).1.count)] 120 (0, 0))) ∧ (B ≤ w_.heap.size) ∧ (Row (see (fun x => B ≤ x ∧ x < B2) w_) 1 (.slice aw nw cw) (nodL s (followS s seg a).1).length ((nodL s (followS s seg a).1).map (.int .u64))) ∧ (Row (see (fun x => B ≤ x ∧ x < B2) w_) 1 (.slice ab nb cb) (nodB s (followS s seg a).1).length ((nodB s (followS s seg a).1).map (.int .u8))) ∧ (B2 ≤ w_.heap.size) ∧ (w_.heap[b1]? = some (.cells #[.int .i64 ((followS s seg a).1.kind), .int .i64 ((followS s seg a).1.size), .slice aw nw cw, .slice ab nb cb, .slice ad6 n6 c6] 37 (0, 0))) ∧ (w_.heap[bd]? = some (.cells #[.iface t_ u_, .int .i64 pd] 85 (0, 0))) ∧ (w_.ownsRow B2 37 5 (.slice ad6 n6 c6) j kc) ∧ (∀ x, V x → B2 ≤ x ∧ x < w_.heap.size) ∧ (KidsR (see V w_) kc ks)) _ ⟨0, (paid + (1 + wordsO (followS s seg a).1)), [], none, 0, 0, [], fun _ => False, rfl, fr_of ⟨rfl, rfl, rfl, rfl, rfl, rfl, rfl, trivial⟩, by omega, rfl, by omega, fun x _ h_ => h_, K, g0, hc16, hBw, hSW, hSB, hB2w, hc53, hc30, World.ownsRow_nil _ _ _ _, fun x h_ => h_.elim, .nil⟩ ?_
     clear K g0 hc16 hc30 hBw hc53 hSW hSB hB2w
     rintro m_ e_ w69 ⟨j, pd, ks, ad6, n6, c6, kc, V, rfl, ⟨e70, rfl⟩, hj, hkd, hpd, hVo, K, g0, hc16, hBw, hSW, hSB, hB2w, hc53, hc30, ownk, hV, hK⟩
     refine W_seq (W_region rfl ?_)
     refine stp (r_lss rfl rfl ?_)
     refine WL_nil ?_
     refine W_seq ?_
     refine W_cond2 (b := (decide ((j : Int) < (kidN (followS s seg a).1)))) rfl (fun hlt => ?_) (fun hlt => ?_)
     ·-- true
      replace hlt := of_decide_eq_true hlt
      obtain ⟨d1, hd1⟩ := kid_left hok h2n (j := j) (by omega)
      have hnf : nodeF s d = nodeD s d1 := by rw [hd1]; rfl
      have hka : 0 ≤ kidA (followS s seg a).1 ∧ kidA (followS s seg a).1 ≤ 140737488420864 := by unfold kidA; split <;> omega
      have hq := nodeD_paid H d1 (followS s seg a).1.seg (kidA (followS s seg a).1 + (j : Int)) pd hpd.1 hpd.2
      have hj1 : kidsD (nodeF s d (followS s seg a).1.seg) (kidA (followS s seg a).1) (paid + (1 + wordsO (followS s seg a).1)) (j + 1) = ((nodeD s d1 (followS s seg a).1.seg (kidA (followS s seg a).1 + (j : Int)) pd).1, ks ++ [(nodeD s d1 (followS s seg a).1.seg (kidA (followS s seg a).1 + (j : Int)) pd).2.1], (nodeD s d1 (followS s seg a).1.seg (kidA (followS s seg a).1 + (j : Int)) pd).2.2) := by rw [kidsD, hkd, if_neg (by simp), hnf]
      refine W_skip ?_
      refine W_seq ?_
      refine W_block ?_
      refine W_seq (W_region rfl ?_)
      refine stp (r_move_int rfl ?_)
      refine stp (r_assign_int rfl ?_)
      refine WL_nil ?_
      refine W_seq (W_region rfl ?_)
      refine stp (r_move_ptr rfl ?_)
      refine stp (r_fieldAddr rfl ?_)
      refine stp (r_load (v := .int .i64 ((followS s seg a).1.seg)) rfl hc16 rfl ?_)
      refine stp (r_move_int rfl ?_)
      refine stp (r_move_int rfl ?_)
      refine stp (r_add rfl rfl ?_ ?_); constructor <;> omega
      refine stp (r_move_int rfl ?_)
      refine stp (r_sub rfl rfl ?_ ?_); constructor <;> omega
      refine WL_some (og rfl ?_)
      have hcal := ih_ _ H g0 hbd hc30 hpd.1 hpd.2 (followS s seg a).1.seg (a := kidA (followS s seg a).1 + (j : Int)) (by omega) (by omega) (d := d1) (by omega) (by omega)
      rw [show ((d1 : Nat) : Int) = (d : Int) - 1 from by omega] at hcal
      refine r_call rfl hcal ?_
      rintro v_ w71 ⟨cells, rfl, hT9, hb9, K_⟩
      clear hcal
      have hB2w0 := hB2w
      have hol := fun x hx_ => (ownk.lt x hx_).2
      replace K := K.tr K_
      replace g0 := g0.kp1 K_ hbd
      replace hc16 := K_.heap hc16 (fun hm_ => by simp only [List.mem_singleton] at hm_; first | exact ne20 hm_ | exact ne20 hm_.symm)
      replace hBw := Nat.le_trans hBw K_.size
      replace hSW := hSW.sees (Sees.kp K_ (fun x_ hx_ hv_ => by simp only [List.mem_singleton] at hx_; subst hx_; exact absurd hv_.1 (by omega)))
      replace hSB := hSB.sees (Sees.kp K_ (fun x_ hx_ hv_ => by simp only [List.mem_singleton] at hx_; subst hx_; exact absurd hv_.1 (by omega)))
      replace hB2w := Nat.le_trans hB2w K_.size
      replace hc53 := K_.heap hc53 (fun hm_ => by simp only [List.mem_singleton] at hm_; first | exact ne7 hm_ | exact ne7 hm_.symm)
      replace ownk := own_kp ownk K_ (fun x_ hx_ => by simp only [List.mem_singleton] at hx_; subst hx_; omega)
      replace hV := vlt hV K_.size
      replace hK := hK.sees (Sees.kp K_ (fun x_ hx_ hv_ => by simp only [List.mem_singleton] at hx_; subst hx_; exact absurd (hV _ hv_).1 (by omega)))
      have hszK := K_.size
      clear K_ hc30
      obtain ⟨y0, y1, ya, yn, yc, za, zn, zc, ua, un, uc, rfl⟩ := hT9.cells
      have hT8 := hT9.sees (Sees.more (V' := fun x => V x ∨ (w69.heap.size ≤ x ∧ x < w71.heap.size)) w71 (fun x h1_ h2_ => .inr ⟨h2_, h1_⟩))
      clear hT9
      replace hK := hK.sees (Sees.more (V' := fun x => V x ∨ (w69.heap.size ≤ x ∧ x < w71.heap.size)) w71 (fun x _ h2_ => .inl h2_))
      have hV9 : ∀ x, (V x ∨ (w69.heap.size ≤ x ∧ x < w71.heap.size)) → B2 ≤ x ∧ x < w71.heap.size := fun x hx_ => hx_.elim (fun h_ => hV x h_) (fun h_ => ⟨Nat.le_trans hB2w0 h_.1, h_.2⟩)
      have hVo9 : ∀ x, (Value.slice ad6 n6 c6).ownBlock = some x → ¬ (V x ∨ (w69.heap.size ≤ x ∧ x < w71.heap.size)) := fun x hx_ hv_ => hv_.elim (fun h_ => hVo x hx_ h_) (fun h_ => by have := hol x hx_; omega)
      clear hV hVo
      obtain ⟨V9, hV9e⟩ : ∃ V9 : Nat → Prop, V9 = fun x => V x ∨ (w69.heap.size ≤ x ∧ x < w71.heap.size) := ⟨_, rfl⟩
      rw [← hV9e] at hT8 hK
      have hV : ∀ x, V9 x → B2 ≤ x ∧ x < w71.heap.size := by rw [hV9e]; exact hV9
      have hVo : ∀ x, (Value.slice ad6 n6 c6).ownBlock = some x → ¬ V9 x := by rw [hV9e]; exact hVo9
      clear hV9 hVo9 hV9e hB2w0 hol hszK
      refine stp (r_move (v := .tuple #[.agg #[.int .i64 y0, .int .i64 y1, .slice ya yn yc, .slice za zn zc, .slice ua un uc], .int .u16 ((nodeD s d1 (followS s seg a).1.seg (kidA (followS s seg a).1 + (j : Int)) pd).2.2)]) rfl ?_)
      refine stp (r_extract (v := .agg #[.int .i64 y0, .int .i64 y1, .slice ya yn yc, .slice za zn zc, .slice ua un uc]) rfl rfl ?_)
      refine stp (r_extract (v := .int .u16 ((nodeD s d1 (followS s seg a).1.seg (kidA (followS s seg a).1 + (j : Int)) pd).2.2)) rfl rfl ?_)
      refine stp (r_alloc ?_)
      intro b72 w73 hb74 hc75 g76
      refine stn (r_storeAll rfl rfl hc75 (by rfl) (by rfl) (by rfl) ?_)
      intro w77 hc78 u79
      have g80 := g76.upd u79 hb74
      have hge81 := Nat.le_trans K.size hb74
      have ne82 := Nat.ne_of_lt (Nat.lt_of_lt_of_le (lt_of_heap hc16) hb74)
      have ne83 := Nat.ne_of_lt (Nat.lt_of_lt_of_le (lt_of_heap hc53) hb74)
      have ne84 := Nat.ne_of_lt (Nat.lt_of_lt_of_le (lt_of_heap hb9) hb74)
      replace K := K.tr g80.kp
      replace g0 := g0.tr g80
      replace hc16 := g80.heap hc16
      replace hBw := Nat.le_trans hBw g80.size
      replace hSW := hSW.sees (Sees.grow g80)
      replace hSB := hSB.sees (Sees.grow g80)
      replace hB2w := Nat.le_trans hB2w g80.size
      replace hc53 := g80.heap hc53
      replace ownk := own_grow ownk g80
      replace hK := hK.sees (Sees.grow g80)
      replace hb9 := g80.heap hb9
      replace hT8 := hT8.sees (Sees.grow g80)
      replace hV := vlt hV g80.size
      clear u79 g76 hb74 hc75
      refine stp (r_assign_int rfl ?_)
      refine WL_nil ?_
      refine W_seq ?_
      refine W_seq (W_region rfl ?_)
      refine stp (r_move_int rfl ?_)
      refine stp (r_neq rfl rfl ?_)
      refine WL_nil ?_
      refine W_cond2 (b := (decide (((nodeD s d1 (followS s seg a).1.seg (kidA (followS s seg a).1 + (j : Int)) pd).2.2) ≠ 0))) rfl (fun h7 => ?_) (fun h7 => ?_)
      ·-- true
       replace h7 := of_decide_eq_true h7
       refine W_seq (W_region rfl ?_)
       refine stp (r_build (v := .agg #[.int .i64 0, .int .i64 0, .slice none 0 0, .slice none 0 0, .slice none 0 0]) (fun w => by kernel_rfl) ?_)
       refine stp (r_move_int rfl ?_)
       refine stn (r_storeAll rfl rfl hc53 (by rfl) (by rfl) (by rfl) ?_)
       intro w85 hc86 u87
       replace K := (by first | exact K.upd_new u87 (by assumption) | exact K.tr (Kp.of_upd u87 (by simp)))
       replace g0 := (by first | exact Grow.upd g0 u87 (Nat.le_trans g0w (by assumption)) | exact g0.kp1 (Kp.of_upd u87 (by simp)) hbd)
       replace hc16 := u87.heap hc16 ne21.symm
       replace hBw := Nat.le_trans hBw (Nat.le_of_eq u87.size.symm)
       replace hSW := hSW.sees (Sees.upd u87 (fun h_ => by have := h_.1; omega))
       replace hSB := hSB.sees (Sees.upd u87 (fun h_ => by have := h_.1; omega))
       replace hB2w := Nat.le_trans hB2w (Nat.le_of_eq u87.size.symm)
       replace ownk := own_upd ownk u87 (fun he_ => by have := own_ge ownk _ he_; omega)
       replace hb9 := u87.heap hb9 ne7
       replace hc78 := u87.heap hc78 ne83.symm
       clear u87 hc53
       refine stp (r_assign_int rfl ?_)
       refine WL_nil ?_
       refine W_ret ?_
       have h9 : (nodeD s d seg a paid) = ((nodeD s d1 (followS s seg a).1.seg (kidA (followS s seg a).1 + (j : Int)) pd).1, .nil, (nodeD s d1 (followS s seg a).1.seg (kidA (followS s seg a).1 + (j : Int)) pd).2.2) := by rw [hneq]; unfold nodeK; rw [if_neg h1, if_neg h2n, if_neg h3, kidsD_stop' (k := j + 1) (by rw [hj1]; exact h7) (by omega), hj1, if_pos h7]
       rw [h9]
       refine ret2 (res_all rfl hc86 (by rfl)) (res_tmp (v := .int .u16 ((nodeD s d1 (followS s seg a).1.seg (kidA (followS s seg a).1 + (j : Int)) pd).2.2)) rfl) ⟨[_, _, _, _, _], rfl, NodeR.zero _, hb9, K⟩
      ·-- false
       replace h7 := of_decide_eq_false h7
       have h70 : (nodeD s d1 (followS s seg a).1.seg (kidA (followS s seg a).1 + (j : Int)) pd).2.2 = 0 := by omega
       refine W_skip ?_
       refine W_region rfl ?_
       refine stp (r_fieldAddr rfl ?_)
       refine stp (r_load (v := .slice ad6 n6 c6) rfl hc53 rfl ?_)
       refine stp (r_loadAll rfl hc78 (by rfl) ?_)
       refine stp (r_buildSlice (cs := #[.int .i64 y0, .int .i64 y1, .slice ya yn yc, .slice za zn zc, .slice ua un uc]) (el := 37) (fun w => by kernel_rfl) ?_)
       intro bs88 w89 hb90 hc91 g92
       have hge93 := Nat.le_trans K.size hb90
       have ne94 := Nat.ne_of_lt (Nat.lt_of_lt_of_le (lt_of_heap hc16) hb90)
       have ne95 := Nat.ne_of_lt (Nat.lt_of_lt_of_le (lt_of_heap hc53) hb90)
       have ne96 := Nat.ne_of_lt (Nat.lt_of_lt_of_le (lt_of_heap hc78) hb90)
       replace K := K.tr g92.kp
       replace g0 := g0.tr g92
       replace hc16 := g92.heap hc16
       replace hBw := Nat.le_trans hBw g92.size
       replace hSW := hSW.sees (Sees.grow g92)
       replace hSB := hSB.sees (Sees.grow g92)
       replace hB2w := Nat.le_trans hB2w g92.size
       replace hc53 := g92.heap hc53
       replace ownk := own_grow ownk g92
       replace hK := hK.sees (Sees.grow g92)
       replace hb9 := g92.heap hb9
       replace hT8 := hT8.sees (Sees.grow g92)
       replace hV := vlt hV g92.size
       replace hc78 := g92.heap hc78
       clear g92
       refine stp (r_appendB rfl rfl rfl rfl ownk (Row.of_block (n := 1) hc91 rfl rfl (by omega)) (fun q_ hq_ => by simp at hq_; rcases hq_ with rfl | rfl | rfl | rfl | rfl <;> rfl) (by simp only [maxLen]; omega) (by omega) hB2w ?_)
       intro v97 w98 own6 gr6 hbk6
       have k6_ : Kp (Value.slice ad6 n6 c6).ownBlock.toList w89 w98 := Kp.of_grownBy gr6 (fun k_ hk_ => by rw [Option.mem_toList]; exact hk_)
       have hF6 : ∀ x ∈ (Value.slice ad6 n6 c6).ownBlock.toList, B2 ≤ x := fun x hx_ => own_ge ownk x (Option.mem_toList.1 hx_)
       have hF7 : ∀ x ∈ (Value.slice ad6 n6 c6).ownBlock.toList, ¬ V9 x := fun x hx_ => hVo x (Option.mem_toList.1 hx_)
       have hVo6 : ∀ x, v97.ownBlock = some x → ¬ V9 x := fun x hx_ hv_ => hbk6.elim (fun h_ => hVo x (h_ ▸ hx_) hv_) (fun h_ => by rw [h_] at hx_; simp only [Option.some.injEq] at hx_; have := (hV x hv_).2; omega)
       replace K := K.trans k6_ (fun x_ hx_ => .inr (Nat.le_trans hwB (Nat.le_trans hBB2 (hF6 x_ hx_))))
       replace g0 := g0.trK k6_ (fun x_ hx_ => Nat.le_trans g0w (Nat.le_trans hwB (Nat.le_trans hBB2 (hF6 x_ hx_))))
       replace hc16 := k6_.heap hc16 (fun hm_ => by have h1_ := hF6 _ hm_; omega)
       replace hBw := Nat.le_trans hBw k6_.size
       replace hSW := hSW.sees (Sees.kp k6_ (fun x_ hx_ hv_ => by have := hF6 x_ hx_; have := hv_.2; omega))
       replace hSB := hSB.sees (Sees.kp k6_ (fun x_ hx_ hv_ => by have := hF6 x_ hx_; have := hv_.2; omega))
       replace hB2w := Nat.le_trans hB2w k6_.size
       replace hc53 := k6_.heap hc53 (fun hm_ => by have h1_ := hF6 _ hm_; omega)
       replace hK := hK.sees (Sees.kp k6_ hF7)
       replace hb9 := k6_.heap hb9 (fun hm_ => by have h1_ := hF6 _ hm_; omega)
       replace hT8 := hT8.sees (Sees.kp k6_ hF7)
       replace hV := fun x hx_ => (⟨(hV x hx_).1, Nat.lt_of_lt_of_le (hV x hx_).2 k6_.size⟩ : B2 ≤ x ∧ x < w98.heap.size)
       clear hc78
       clear hc91
       clear ownk gr6 hVo k6_ hF6 hF7 hbk6
       obtain ⟨ad7, n7, c7, rfl⟩ := own_slice own6
       refine stp (r_fieldAddr rfl ?_)
       refine stn (r_store1 (v := .slice ad7 n7 c7) rfl rfl (by rfl) hc53 (by rfl) (by rfl) ?_)
       intro w99 hc100 u101
       replace K := (by first | exact K.upd_new u101 (by assumption) | exact K.tr (Kp.of_upd u101 (by simp)))
       replace g0 := (by first | exact Grow.upd g0 u101 (Nat.le_trans g0w (by assumption)) | exact g0.kp1 (Kp.of_upd u101 (by simp)) hbd)
       replace hc16 := u101.heap hc16 (fun hm_ => by first | exact ne21 hm_ | exact ne21 hm_.symm)
       replace hBw := Nat.le_trans hBw (Nat.le_of_eq u101.size.symm)
       replace hSW := hSW.sees (Sees.upd u101 (fun h_ => by have := h_.1; omega))
       replace hSB := hSB.sees (Sees.upd u101 (fun h_ => by have := h_.1; omega))
       replace hB2w := Nat.le_trans hB2w (Nat.le_of_eq u101.size.symm)
       replace hK := hK.sees (Sees.upd u101 (fun h_ => by have := (hV _ h_).1; omega))
       replace hb9 := u101.heap hb9 (fun hm_ => by first | exact ne7 hm_ | exact ne7 hm_.symm)
       replace hT8 := hT8.sees (Sees.upd u101 (fun h_ => by have := (hV _ h_).1; omega))
       replace hV := fun x hx_ => (⟨(hV x hx_).1, Nat.lt_of_lt_of_le (hV x hx_).2 (Nat.le_of_eq u101.size.symm)⟩ : B2 ≤ x ∧ x < w99.heap.size)
       replace own6 := own_upd own6 u101 (fun he_ => by have := own_ge own6 _ he_; omega)
       clear hc53 u101
       refine WL_nil ?_
       refine W_region rfl ?_
       refine stp (r_add rfl rfl ?_ ?_); constructor <;> omega
       refine stp (r_move_int rfl ?_)
       refine WL_nil ?_
       refine ⟨_, ?_, j + 1, (nodeD s d1 (followS s seg a).1.seg (kidA (followS s seg a).1 + (j : Int)) pd).1, ks ++ [(nodeD s d1 (followS s seg a).1.seg (kidA (followS s seg a).1 + (j : Int)) pd).2.1], ad7, n7, c7, _, V9, rfl, fr_of ⟨rfl, rfl, rfl, rfl, rfl, rfl, congrArg (Value.int .i64) (by omega), trivial⟩, by omega, (by rw [hj1, h70]), ⟨hq.1, hq.2.2 h70⟩, hVo6, K, g0, hc16, hBw, hSW, hSB, hB2w, hc100, hb9, own6, hV, (KidsR.append hK (by have := KidsR.cons hT8 .nil; simpa using this))⟩
       omega
     ·-- false
      replace hlt := of_decide_eq_false hlt
      have hjn : (kidN (followS s seg a).1).toNat = j := by omega
      have hlk : ks.length = j := by have := kidsD_count (f := nodeF s d (followS s seg a).1.seg) (a := kidA (followS s seg a).1) (p := (paid + (1 + wordsO (followS s seg a).1))) j (by rw [hkd]); rw [hkd] at this; exact this
      have hrk : Row (hide B2 w69) 5 (.slice ad6 n6 c6) ks.length kc := by rw [hlk]; exact own_hide ownk (by omega)
      have hK9 := hK.sees (Sees.more (V' := fun x => B2 ≤ x) _ (fun x _ hx_ => (hV x hx_).1))
      clear hK hV ownk
      refine W_exit ?_
      refine W_seq (W_region rfl ?_)
      refine stp (r_loadAll rfl hc53 (by rfl) ?_)
      refine stn (r_storeAll rfl rfl hc53 (by rfl) (by rfl) (by rfl) ?_)
      intro w102 hc103 u104
      replace K := (by first | exact K.upd_new u104 (by assumption) | exact K.tr (Kp.of_upd u104 (by simp)))
      replace g0 := (by first | exact Grow.upd g0 u104 (Nat.le_trans g0w (by assumption)) | exact g0.kp1 (Kp.of_upd u104 (by simp)) hbd)
      replace hc16 := u104.heap hc16 ne21.symm
      replace hBw := Nat.le_trans hBw (Nat.le_of_eq u104.size.symm)
      replace hSW := hSW.sees (Sees.upd u104 (fun h_ => by have := h_.1; omega))
      replace hSB := hSB.sees (Sees.upd u104 (fun h_ => by have := h_.1; omega))
      replace hB2w := Nat.le_trans hB2w (Nat.le_of_eq u104.size.symm)
      replace hc30 := u104.heap hc30 ne7
      replace hrk := hrk.sees (Sees.upd u104 (fun h_ => absurd h_ (by omega)))
      replace hK9 := hK9.sees (Sees.upd u104 (fun h_ => absurd h_ (by omega)))
      clear u104 hc53
      refine stp (r_assign_int rfl ?_)
      refine WL_nil ?_
      refine W_ret ?_
      have h9 : (nodeD s d seg a paid) = (pd, .mk (followS s seg a).1.kind (followS s seg a).1.size (nodL s (followS s seg a).1) (nodB s (followS s seg a).1) ks, 0) := by rw [hneq]; unfold nodeK; rw [if_neg h1, if_neg h2n, if_neg h3, hjn, hkd, if_neg (by simp)]
      rw [h9]
      refine ret2 (res_all rfl hc103 (by rfl)) (res_tmp (v := .int .u16 0) rfl) ⟨[_, _, _, _, _], rfl, (.mk (by simp only [inR]; omega) (by simp only [inR]; omega) (hSW.sees (Sees.more _ (fun x _ hx_ => Nat.le_trans hwB hx_.1))) (nodL_u64 H _) (hSB.sees (Sees.more _ (fun x _ hx_ => Nat.le_trans hwB hx_.1))) (nodB_u8 s _) (hrk.sees (Sees.low (Nat.le_trans hwB hBB2) _)) (hK9.sees (Sees.low (Nat.le_trans hwB hBB2) _))), hc30, K⟩

set_option maxRecDepth 100000 in
theorem Decode_calls (w : World) {u : Value} {A : List (List Int)} (hA : ArenaR w u A) (hr : OkA A) : Calls Try.prog 22 #[u] w (Ret fun v w' => ∃ cells, v = .tuple #[.agg cells.toArray, .int .u16 (nodeD (wholeS A) 32 0 0 0).2.2] ∧ NodeR (hide w.heap.size w') cells (nodeD (wholeS A) 32 0 0 0).2.1 ∧ Grow w w') := by
 have hA0 := hA
 obtain ⟨segs_, ⟨ada, ca, rfl, hc1_, hc2_, RA⟩, hrows⟩ := hA
 have G := Grow.rfl' w
 refine calls_ret Try.func22 Try.ntmps22 Try.results22 rfl rfl ?_
 refine W_seq (W_region rfl ?_)
 refine stp (r_alloc ?_)
 intro b1 w2 hb3 hc4 g5
 refine stp (r_assign_int rfl ?_)
 refine WL_nil ?_
 refine W_seq ?_
 refine W_seq (W_region rfl ?_)
 refine stp (r_move_slice rfl ?_)
 have hge6 := Nat.le_trans G.size hb3
 replace G := G.tr g5
 clear g5 hb3
 refine stp (r_gives (v := .bool true) rfl (aright_calls _ (RA.grow G) rfl (fun i q hq => by obtain ⟨v, h1, h2⟩ := hrows i q hq; exact ⟨v, h1, h2.grow G⟩) hr.one hr.most hr.first hr.all) ?_)
 intro w7 g8
 replace hc4 := g8.heap hc4
 replace G := G.tr g8
 clear g8
 refine stp (r_not_f rfl rfl ?_)
 refine WL_nil ?_
 refine W_false rfl ?_
 refine W_skip ?_
 refine W_seq (W_region rfl ?_)
 refine stp (r_move_slice rfl ?_)
 refine stp (r_gives (v := .iface 118 (.agg #[.slice ada A.length ca])) rfl (whole_calls _) ?_)
 intro w9 g10
 replace hc4 := g10.heap hc4
 replace G := G.tr g10
 clear g10
 refine stp (r_build (v := .agg #[.iface 118 (.agg #[.slice ada A.length ca]), .int .i64 0]) (fun w => by kernel_rfl) ?_)
 refine WL_some (og rfl ?_)
 (first | refine r_box_agg rfl ?_ | refine r_box_int rfl ?_ | refine r_box_slice rfl ?_ | refine r_box rfl rfl ?_)
 intro b11 w12 hb13 hc14 g15
 have hge16 := Nat.le_trans G.size hb13
 have ne17 := Nat.ne_of_lt (Nat.lt_of_lt_of_le (lt_of_heap hc4) hb13)
 replace hc4 := g15.heap hc4
 replace G := G.tr g15
 clear g15 hb13
 refine stp (r_assign_ptr rfl ?_)
 refine WL_nil ?_
 refine W_seq (W_region rfl ?_)
 refine stp (r_move_ptr rfl ?_)
 refine WL_some (og rfl ?_)
 have hcal := dnode_calls _ _ (whole_ok hA0 hr) G hge16 hc14 (by decide) (by decide) 0 (a := 0) (by decide) (by decide) (d := 32) (by decide) (Nat.le_refl _)
 have hlow := G.size
 have hlt1 := lt_of_heap hc4
 refine r_call rfl hcal ?_
 rintro v_ w18 ⟨cells, rfl, hT9, hb9, K_⟩
 clear hcal
 replace hc4 := K_.heap hc4 (fun hm_ => by simp only [List.mem_singleton] at hm_; first | exact ne17 hm_ | exact ne17 hm_.symm)
 replace G := G.trK K_ (fun x_ hx_ => by simp only [List.mem_singleton] at hx_; subst hx_; exact hge16)
 clear K_ hc14
 obtain ⟨y0, y1, ya, yn, yc, za, zn, zc, ua, un, uc, rfl⟩ := hT9.cells
 refine stp (r_extract (v := .agg #[.int .i64 y0, .int .i64 y1, .slice ya yn yc, .slice za zn zc, .slice ua un uc]) rfl rfl ?_)
 refine stp (r_extract (v := .int .u16 ((nodeD (wholeS A) 32 0 0 0).2.2)) rfl rfl ?_)
 refine stn (r_storeAll rfl rfl hc4 (by rfl) (by rfl) (by rfl) ?_)
 intro w19 hc20 u21
 replace hb9 := u21.heap hb9 ne17.symm
 replace hT9 := hT9.sees (Sees.upd u21 (fun h_ => absurd h_ (Nat.not_le.2 hlt1)))
 replace G := G.upd u21 hge6
 clear u21 hc4
 refine stp (r_assign_int rfl ?_)
 refine WL_nil ?_
 refine W_ret ?_
 refine ret2 (res_all rfl hc20 (by rfl)) (res_tmp (v := .int .u16 ((nodeD (wholeS A) 32 0 0 0).2.2)) rfl) ⟨_, rfl, hT9.sees (Sees.low hlow _), G⟩
end Go.Proofs.Ytfhfecepcnapfaa.K

namespace Go.Proofs.Ytfhfecepcnapfaa.K
open Go Go.RowKit Go.Proofs
attribute [local irreducible] Run1 OpG WL W AO Gives
set_option maxRecDepth 100000 in
theorem sizesg_calls (w : World) {u : Value} {A : List (List Int)} (hA : ArenaR w u A) (hn : A.length ≤ 8796093022208) : Calls Try.prog 62 #[u] w (Ret fun v w' => ∃ ad c, v = .slice ad A.length c ∧ RowAt w' 1 ad A.length ((sizesP A).map (.int .i64)) ∧ Grow w w') := by
 obtain ⟨ada, ca, segs, sa, sc, rfl, hca, hca2, RA, hsf, hrf⟩ := hA.fn
 have G := Grow.rfl' w
 refine calls_ret Try.func62 Try.ntmps62 Try.results62 rfl rfl ?_
 refine W_seq (W_region rfl ?_)
 refine stp (r_assign_slice rfl ?_)
 refine WL_nil ?_
 refine W_seq (W_region rfl ?_)
 refine stp (r_assign_slice rfl ?_)
 refine WL_nil ?_
 refine W_seq ?_
 refine W_seq (W_region rfl ?_)
 refine stp (r_move_slice rfl ?_)
 refine stp (r_len rfl rfl rfl ?_)
 refine stp (r_move_int rfl ?_)
 refine WL_nil ?_
 refine W_block ?_
 refine W_loop (fun m_ e_ w_ => ∃ (k : Nat) (ad3 : Option Addr) (n3 : Nat) (c3 : Nat), m_ = A.length - k ∧ Fr [(2, .slice none 0 0), (6, .slice ada A.length ca), (7, .int .i64 (A.length : Int)), (3, .slice ad3 n3 c3), (8, .int .i64 (k : Int))] e_ ∧ (k ≤ A.length) ∧ (w_.ownsRow w.heap.size 3 1 (.slice ad3 n3 c3) k ((sizesP (A.take k)).map (.int .i64))) ∧ Grow w w_) _ ⟨0, none, 0, 0, rfl, fr_of ⟨rfl, rfl, rfl, rfl, rfl, trivial⟩, by omega, World.ownsRow_nil _ _ _ _, G⟩ ?_
 clear G
 rintro m_ e_ w1 ⟨k, ad3, n3, c3, rfl, ⟨e2, rfl⟩, hk, own, G⟩
 refine W_seq (W_region rfl ?_)
 refine stp (r_lss rfl rfl ?_)
 refine WL_nil ?_
 refine W_seq ?_
 refine W_cond2 (b := (decide ((k : Int) < (A.length : Int)))) rfl (fun hlt => ?_) (fun hlt => ?_)
 ·-- true
  replace hlt := of_decide_eq_true hlt
  have hi : k < A.length := by omega
  have hlk := (hrf k hi).2.2.lim
  refine W_skip ?_
  refine W_seq ?_
  refine W_block ?_
  refine W_seq (W_region rfl ?_)
  refine stp (r_indexN (RA.grow G) rfl rfl ?_ ?_); omega
  refine stp (r_loadR (v := .slice (sa k) (len2 A k) (sc k)) (m := 0) (RA.grow G) rfl (by rw [Nat.mul_one]; exact hsf _ (by omega)) ?_)
  refine stp (r_assign_slice rfl ?_)
  refine WL_nil ?_
  refine W_region rfl ?_
  refine stp (r_move_slice rfl ?_)
  refine stp (r_move_slice rfl ?_)
  refine stp (r_len rfl rfl rfl ?_)
  refine stp (r_buildSlice (cs := #[.int .i64 ((len2 A k) : Int)]) (el := 3) (fun w => by kernel_rfl) ?_)
  intro bs3 w4 hb5 hc6 g7
  have hge8 := Nat.le_trans G.size hb5
  replace own := own_grow own g7
  replace G := G.tr g7
  clear g7
  refine stp (r_append rfl rfl rfl rfl own (Row.of_block (n := 1) hc6 rfl rfl (by omega)) (fun q_ hq_ => by simp at hq_; subst hq_; rfl) (by simp only [maxLen]; omega) (by omega) G.size ?_)
  intro v9 w10 own6 gr6
  replace G := G.grown gr6 (own_ge own)
  clear own gr6
  obtain ⟨ad4, n4, c4, rfl⟩ := own_slice own6
  refine stp (r_assign_slice rfl ?_)
  refine WL_nil ?_
  refine W_region rfl ?_
  refine stp (r_add rfl rfl ?_ ?_); constructor <;> omega
  refine stp (r_move_int rfl ?_)
  refine WL_nil ?_
  refine ⟨_, ?_, k + 1, ad4, n4, c4, rfl, fr_of ⟨rfl, rfl, rfl, rfl, congrArg (Value.int .i64) (by omega), trivial⟩, by omega, (by rw [sizesP_take hi, List.map_append]; exact own6), G⟩
  omega
 ·-- false
  replace hlt := of_decide_eq_false hlt
  have hk2 : k = A.length := by omega
  subst hk2
  rw [List.take_length] at own
  obtain ⟨ad9, c9, hs9, -, -, R9⟩ := own_row own (by omega)
  simp only [Value.slice.injEq] at hs9
  obtain ⟨rfl, rfl, rfl⟩ := hs9
  refine W_exit ?_
  refine W_seq (W_region rfl ?_)
  refine stp (r_move_slice rfl ?_)
  refine stp (r_assign_slice rfl ?_)
  refine WL_nil ?_
  refine W_ret ?_
  refine ret1 (res_tmp (v := .slice ad3 A.length c3) rfl) ⟨_, _, rfl, R9, G⟩

set_option maxRecDepth 100000 in
theorem fitsg_calls (w : World) {ad : Option Addr} {c : Nat} {A : List (List Int)} (R : RowAt w 1 ad A.length ((sizesP A).map (.int .i64))) (hs : ∀ i, len2 A i ≤ 140737488355328) : Gives Try.prog 61 #[.slice ad A.length c] w (.bool (rightB A)) := by
 have hl := sizesP_len A
 have G := Grow.rfl' w
 refine gives_of Try.func61 Try.ntmps61 Try.results61 rfl rfl ?_
 refine W_seq (W_region rfl ?_)
 refine stp (r_assign (v := .bool false) rfl ?_)
 refine WL_nil ?_
 refine W_seq ?_
 refine W_seq (W_region rfl ?_)
 refine stp (r_move_slice rfl ?_)
 refine stp (r_len rfl rfl rfl ?_)
 refine stp (r_lss rfl rfl ?_)
 refine stp (r_move_bool rfl ?_)
 refine WL_some (og_if (s := .bool (decide ((A.length : Int) < 1))) (b := false) (v := .slice ad A.length c) rfl (wgb_f _) (fun hc1 => ?_) ?_)
 ·
  have hc1_ := hc1
  try simp only [sb] at hc1_
  refine r_move_slice rfl ?_
  exact ⟨rfl, rfl⟩
 refine WL_some (og_if (s := .bool (decide ((A.length : Int) < 1))) (b := false) (v := .int .i64 (A.length : Int)) rfl (wgb_f _) (fun hc2 => ?_) ?_)
 ·
  have hc2_ := hc2
  try simp only [sb] at hc2_
  refine r_len rfl rfl (gvt hc2) ?_
  exact ⟨rfl, rfl⟩
 refine WL_some (og_if (s := .bool (decide ((A.length : Int) < 1))) (b := false) (v := .bool (decide ((A.length : Int) > 16))) rfl (wgb_f _) (fun hc3 => ?_) ?_)
 ·
  have hc3_ := hc3
  try simp only [sb] at hc3_
  refine r_gtr (gvt hc3) rfl ?_
  exact ⟨rfl, rfl⟩
 refine stp (r_or2 rfl rfl rfl ?_)
 refine stp (r_move_bool rfl ?_)
 refine WL_some (og_if (s := .bool ((decide ((A.length : Int) < 1)) || (decide ((A.length : Int) > 16)))) (b := false) (v := .slice ad A.length c) rfl (wgb_f _) (fun hc4 => ?_) ?_)
 ·
  have hc4_ := hc4
  try simp only [sb] at hc4_
  refine r_move_slice rfl ?_
  exact ⟨rfl, rfl⟩
 refine WL_some (og_if (s := .bool ((decide ((A.length : Int) < 1)) || (decide ((A.length : Int) > 16)))) (b := false) (v := .pointer (some (eadr ad ((0 : Int).toNat * 1)))) rfl (wgb_f _) (fun hc5 => ?_) ?_)
 ·
  have hc5_ := hc5
  try simp only [sb] at hc5_
  refine r_indexR (R.grow G) (gvt hc5) rfl ?_ ?_ ?_; omega; omega
  exact ⟨rfl, rfl⟩
 refine WL_some (og_if (s := .bool ((decide ((A.length : Int) < 1)) || (decide ((A.length : Int) > 16)))) (b := false) (v := .int .i64 ((sizesP A).getD 0 0)) rfl (wgb_f _) (fun hc6 => ?_) ?_)
 ·
  have hc6_ := hc6
  try simp only [sb] at hc6_
  refine r_loadR (v := .int .i64 ((sizesP A).getD 0 0)) (m := 0) (R.grow G) (gvt hc6) (show _ from map_get1 (j := 0) 0 (by omega)) ?_
  exact ⟨rfl, rfl⟩
 refine WL_some (og_if (s := .bool ((decide ((A.length : Int) < 1)) || (decide ((A.length : Int) > 16)))) (b := false) (v := .bool (decide (((sizesP A).getD 0 0) < 1))) rfl (wgb_f _) (fun hc7 => ?_) ?_)
 ·
  have hc7_ := hc7
  try simp only [sb] at hc7_
  refine r_lss (gvt hc7) rfl ?_
  exact ⟨rfl, rfl⟩
 refine stp (r_or2 rfl rfl rfl ?_)
 refine WL_nil ?_
 refine W_cond2 (b := (((decide ((A.length : Int) < 1)) || (decide ((A.length : Int) > 16))) || (decide (((sizesP A).getD 0 0) < 1)))) rfl (fun h1 => ?_) (fun h1 => ?_)
 ·-- true
  simp only [sb] at h1
  have hg0 := sizesP_at A 0
  refine W_seq (W_region rfl ?_)
  refine stp (r_assign (v := .bool false) rfl ?_)
  refine WL_nil ?_
  refine W_ret ?_
  have h9 : rightB A = false := by unfold rightB; exact decide_eq_false (by omega)
  refine ret1 (res_tmp (v := .bool false) rfl) ⟨?_, G⟩
  rw [h9]
 ·-- false
  simp only [sb] at h1
  have hg0 := sizesP_at A 0
  have h1' : 1 ≤ A.length ∧ A.length ≤ 16 ∧ 1 ≤ len2 A 0 := by omega
  clear h1
  refine W_skip ?_
  refine W_seq (W_region rfl ?_)
  refine stp (r_assign_int rfl ?_)
  refine WL_nil ?_
  refine W_seq ?_
  refine W_seq (W_region rfl ?_)
  refine stp (r_move_slice rfl ?_)
  refine stp (r_len rfl rfl rfl ?_)
  refine stp (r_move_int rfl ?_)
  refine WL_nil ?_
  refine W_block ?_
  refine W_loop (fun m_ e_ w_ => ∃ (k : Nat), m_ = A.length - k ∧ Fr [(22, .slice ad A.length c), (23, .int .i64 (A.length : Int)), (3, .int .i64 (totalP (A.take k))), (24, .int .i64 (k : Int))] e_ ∧ (k ≤ A.length) ∧ (totalP (A.take k) ≤ 4096) ∧ Grow w w_) _ ⟨0, rfl, fr_of ⟨rfl, rfl, rfl, rfl, trivial⟩, by omega, by simp [totalP], G⟩ ?_
  clear G
  rintro m_ e_ w8 ⟨k, rfl, ⟨e9, rfl⟩, hk, htk, G⟩
  refine W_seq (W_region rfl ?_)
  refine stp (r_lss rfl rfl ?_)
  refine WL_nil ?_
  refine W_seq ?_
  refine W_cond2 (b := (decide ((k : Int) < (A.length : Int)))) rfl (fun hlt => ?_) (fun hlt => ?_)
  ·-- true
   replace hlt := of_decide_eq_true hlt
   have hi : k < A.length := by omega
   have hg := sizesP_at A k
   have hlk := hs k
   have ht1 := totalP_take hi
   have ht2 := totalP_le (A := A) (k + 1)
   have ht3 := totalP_nn (A.take k)
   have hak : ((A[k].length : Nat) : Int) = (len2 A k : Int) := by simp only [len2]; rw [getD_at hi]
   have hadd : addOk (totalP (A.take k)) ((sizesP A).getD k 0) 4096 = decide (totalP (A.take (k + 1)) ≤ 4096) := by unfold addOk; by_cases h_ : totalP (A.take (k + 1)) ≤ 4096; (rw [decide_eq_true h_]; exact decide_eq_true (by omega)); (rw [decide_eq_false h_]; exact decide_eq_false (by omega))
   refine W_skip ?_
   refine W_seq ?_
   refine W_block ?_
   refine W_seq (W_region rfl ?_)
   refine stp (r_indexN (R.grow G) rfl rfl ?_ ?_); omega
   refine stp (r_loadR (v := .int .i64 ((sizesP A).getD k 0)) (m := 0) (R.grow G) rfl (map_get1 0 (by omega)) ?_)
   refine stp (r_assign_int rfl ?_)
   refine WL_nil ?_
   refine W_seq (W_region rfl ?_)
   refine stp (r_move_int rfl ?_)
   refine stp (r_move_int rfl ?_)
   refine stp (r_gives (v := .tuple #[.int .i64 (if addOk (totalP (A.take k)) ((sizesP A).getD k 0) 4096 then totalP (A.take k) + (sizesP A).getD k 0 else 0), .bool (addOk (totalP (A.take k)) ((sizesP A).getD k 0) 4096)]) rfl (addg_calls _ (a := totalP (A.take k)) (b := (sizesP A).getD k 0) (m := 4096) (by simp only [inR]; omega) (by simp only [inR]; omega) (by simp only [inR]; omega)) ?_)
   intro w10 g11
   replace G := G.tr g11
   clear g11
   refine stp (r_move (v := .tuple #[.int .i64 (if addOk (totalP (A.take k)) ((sizesP A).getD k 0) 4096 then totalP (A.take k) + (sizesP A).getD k 0 else 0), .bool (addOk (totalP (A.take k)) ((sizesP A).getD k 0) 4096)]) rfl ?_)
   refine stp (r_extract (v := .int .i64 (if addOk (totalP (A.take k)) ((sizesP A).getD k 0) 4096 then totalP (A.take k) + (sizesP A).getD k 0 else 0)) rfl rfl ?_)
   refine stp (r_extract (v := .bool (addOk (totalP (A.take k)) ((sizesP A).getD k 0) 4096)) rfl rfl ?_)
   refine stp (r_assign_int rfl ?_)
   refine stp (r_assign_bool rfl ?_)
   refine WL_nil ?_
   refine W_seq ?_
   refine W_seq (W_region rfl ?_)
   refine stp (r_move_bool rfl ?_)
   refine stp (r_not rfl ?_)
   refine WL_nil ?_
   refine W_cond2 (b := (!(addOk (totalP (A.take k)) ((sizesP A).getD k 0) 4096))) rfl (fun h3 => ?_) (fun h3 => ?_)
   ·-- true
    simp only [sb] at h3
    rw [hadd] at h3
    refine W_seq (W_region rfl ?_)
    refine stp (r_assign (v := .bool false) rfl ?_)
    refine WL_nil ?_
    refine W_ret ?_
    have h9 : rightB A = false := by unfold rightB; exact decide_eq_false (by simp at h3; omega)
    refine ret1 (res_tmp (v := .bool false) rfl) ⟨?_, G⟩
    rw [h9]
   ·-- false
    simp only [sb] at h3
    rw [hadd] at h3
    have h3_ : totalP (A.take (k + 1)) ≤ 4096 := by simpa using h3
    refine W_skip ?_
    refine W_region rfl ?_
    refine stp (r_move_int rfl ?_)
    refine stp (r_assign_int rfl ?_)
    refine WL_nil ?_
    refine W_region rfl ?_
    refine stp (r_add rfl rfl ?_ ?_); constructor <;> omega
    refine stp (r_move_int rfl ?_)
    refine WL_nil ?_
    refine ⟨_, ?_, k + 1, rfl, fr_of ⟨rfl, rfl, congrArg (Value.int .i64) (by rw [hadd, decide_eq_true h3_, if_pos rfl]; omega), rfl, trivial⟩, by omega, by omega, G⟩
    omega
  ·-- false
   replace hlt := of_decide_eq_false hlt
   have hk2 : k = A.length := by omega
   subst hk2
   rw [List.take_length] at htk
   refine W_exit ?_
   refine W_seq (W_region rfl ?_)
   refine stp (r_assign (v := .bool true) rfl ?_)
   refine WL_nil ?_
   refine W_ret ?_
   have h9 : rightB A = true := by unfold rightB; exact decide_eq_true (by omega)
   refine ret1 (res_tmp (v := .bool true) rfl) ⟨?_, G⟩
   rw [h9]

set_option maxRecDepth 100000 in
theorem rightg_calls (w : World) {u : Value} {A : List (List Int)} (hA : ArenaR w u A) (hn : A.length ≤ 8796093022208) : Gives Try.prog 37 #[u] w (.bool (rightB A)) := by
 have hA0 := hA
 obtain ⟨ada, ca, segs, sa, sc, rfl, hca, hca2, RA, hsf, hrf⟩ := hA.fn
 have hs : ∀ i, len2 A i ≤ 140737488355328 := fun i => by by_cases hi : i < A.length; exact (hrf i hi).2.2.lim; (have := len2_none (A := A) (j := i) (by omega); omega)
 have G := Grow.rfl' w
 refine gives_of Try.func37 Try.ntmps37 Try.results37 rfl rfl ?_
 refine W_seq (W_region rfl ?_)
 refine stp (r_assign (v := .bool false) rfl ?_)
 refine WL_nil ?_
 refine W_seq (W_region rfl ?_)
 refine stp (r_move_slice rfl ?_)
 refine WL_some (og rfl ?_)
 refine r_call rfl (sizesg_calls _ (hA0.grow G) hn) ?_
 rintro v_ w1 ⟨ad9, c9, rfl, RZ, g_⟩
 replace G := G.tr g_
 clear g_
 refine stp (r_gives (v := .bool (rightB A)) rfl (fitsg_calls _ RZ hs) ?_)
 intro w2 g3
 replace RZ := RZ.grow g3
 replace G := G.tr g3
 clear g3
 refine stp (r_assign_bool rfl ?_)
 refine WL_nil ?_
 refine W_ret ?_
 refine ret1 (res_tmp (v := .bool (rightB A)) rfl) ⟨?_, G⟩
 rfl

set_option maxRecDepth 100000 in
theorem Decodeg_calls (w : World) {u : Value} {A : List (List Int)} (hA : ArenaR w u A) (hn : A.length ≤ 8796093022208) (hx : ∀ q ∈ A, ∀ x ∈ q, inR .u64 x) : Calls Try.prog 22 #[u] w (Ret fun v w' => ∃ cells, v = .tuple #[.agg cells.toArray, .int .u16 (decT A).2] ∧ NodeR (hide w.heap.size w') cells (decT A).1 ∧ Grow w w') := by
 have hA0 := hA
 obtain ⟨ada, ca, segs, sa, sc, rfl, hca, hca2, RA, hsf, hrf⟩ := hA.fn
 have G := Grow.rfl' w
 refine calls_ret Try.func22 Try.ntmps22 Try.results22 rfl rfl ?_
 refine W_seq (W_region rfl ?_)
 refine stp (r_alloc ?_)
 intro b1 w2 hb3 hc4 g5
 refine stp (r_assign_int rfl ?_)
 refine WL_nil ?_
 refine W_seq ?_
 refine W_seq (W_region rfl ?_)
 refine stp (r_move_slice rfl ?_)
 have hge6 := Nat.le_trans G.size hb3
 replace G := G.tr g5
 clear g5 hb3
 refine stp (r_gives (v := .bool (rightB A)) rfl (rightg_calls _ (hA0.grow G) hn) ?_)
 intro w7 g8
 replace hc4 := g8.heap hc4
 replace G := G.tr g8
 clear g8
 refine stp (r_not rfl ?_)
 refine WL_nil ?_
 refine W_cond2 (b := (!(rightB A))) rfl (fun h1 => ?_) (fun h1 => ?_)
 ·-- true
  simp only [sb] at h1
  have h9 : decT A = (.nil, 1) := if_pos (by simpa using h1)
  refine W_seq (W_region rfl ?_)
  refine stp (r_build (v := .agg #[.int .i64 0, .int .i64 0, .slice none 0 0, .slice none 0 0, .slice none 0 0]) (fun w => by kernel_rfl) ?_)
  refine stn (r_storeAll rfl rfl hc4 (by rfl) (by rfl) (by rfl) ?_)
  intro w9 hc10 u11
  replace G := G.upd u11 hge6
  clear u11 hc4
  refine stp (r_assign_int rfl ?_)
  refine WL_nil ?_
  refine W_ret ?_
  rw [h9]
  refine ret2 (res_all rfl hc10 (by rfl)) (res_tmp (v := .int .u16 1) rfl) ⟨[_, _, _, _, _], rfl, NodeR.zero _, G⟩
 ·-- false
  simp only [sb] at h1
  have h1' : rightB A = true := by simpa using h1
  have hr : OkA A := rightB_ok h1' hx
  have h9 : decT A = (nodeD (wholeS A) 32 0 0 0).2 := if_neg (by simp [h1'])
  rw [h9]
  refine W_skip ?_
  refine W_seq (W_region rfl ?_)
  refine stp (r_move_slice rfl ?_)
  refine stp (r_gives (v := .iface 118 (.agg #[.slice ada A.length ca])) rfl (whole_calls _) ?_)
  intro w12 g13
  replace hc4 := g13.heap hc4
  replace G := G.tr g13
  clear g13
  refine stp (r_build (v := .agg #[.iface 118 (.agg #[.slice ada A.length ca]), .int .i64 0]) (fun w => by kernel_rfl) ?_)
  refine WL_some (og rfl ?_)
  (first | refine r_box_agg rfl ?_ | refine r_box_int rfl ?_ | refine r_box_slice rfl ?_ | refine r_box rfl rfl ?_)
  intro b14 w15 hb16 hc17 g18
  have hge19 := Nat.le_trans G.size hb16
  have ne20 := Nat.ne_of_lt (Nat.lt_of_lt_of_le (lt_of_heap hc4) hb16)
  replace hc4 := g18.heap hc4
  replace G := G.tr g18
  clear g18 hb16
  refine stp (r_assign_ptr rfl ?_)
  refine WL_nil ?_
  refine W_seq (W_region rfl ?_)
  refine stp (r_move_ptr rfl ?_)
  refine WL_some (og rfl ?_)
  have hcal := dnode_calls _ _ (whole_ok hA0 hr) G hge19 hc17 (by decide) (by decide) 0 (a := 0) (by decide) (by decide) (d := 32) (by decide) (Nat.le_refl _)
  have hlow := G.size
  have hlt1 := lt_of_heap hc4
  refine r_call rfl hcal ?_
  rintro v_ w21 ⟨cells, rfl, hT9, hb9, K_⟩
  clear hcal
  replace hc4 := K_.heap hc4 (fun hm_ => by simp only [List.mem_singleton] at hm_; first | exact ne20 hm_ | exact ne20 hm_.symm)
  replace G := G.trK K_ (fun x_ hx_ => by simp only [List.mem_singleton] at hx_; subst hx_; exact hge19)
  clear K_ hc17
  obtain ⟨y0, y1, ya, yn, yc, za, zn, zc, ua, un, uc, rfl⟩ := hT9.cells
  refine stp (r_extract (v := .agg #[.int .i64 y0, .int .i64 y1, .slice ya yn yc, .slice za zn zc, .slice ua un uc]) rfl rfl ?_)
  refine stp (r_extract (v := .int .u16 ((nodeD (wholeS A) 32 0 0 0).2.2)) rfl rfl ?_)
  refine stn (r_storeAll rfl rfl hc4 (by rfl) (by rfl) (by rfl) ?_)
  intro w22 hc23 u24
  replace hb9 := u24.heap hb9 ne20.symm
  replace hT9 := hT9.sees (Sees.upd u24 (fun h_ => absurd h_ (Nat.not_le.2 hlt1)))
  replace G := G.upd u24 hge6
  clear u24 hc4
  refine stp (r_assign_int rfl ?_)
  refine WL_nil ?_
  refine W_ret ?_
  refine ret2 (res_all rfl hc23 (by rfl)) (res_tmp (v := .int .u16 ((nodeD (wholeS A) 32 0 0 0).2.2)) rfl) ⟨_, rfl, hT9.sees (Sees.low hlow _), G⟩
end Go.Proofs.Ytfhfecepcnapfaa.K

namespace Go.Proofs.Ytfhfecepcnapfaa.K
open Go Go.RowKit Go.Proofs
attribute [local irreducible] Run1 OpG WL W AO Gives
set_option maxRecDepth 100000 in
theorem cloneNil_calls (w : World)  : Gives Try.prog 68 #[.slice none 0 0] w (.slice none 0 0) := by
 have G := Grow.rfl' w
 refine gives_of Try.func68 Try.ntmps68 Try.results68 rfl rfl ?_
 refine W_seq (W_region rfl ?_)
 refine stp (r_assign_slice rfl ?_)
 refine WL_nil ?_
 refine W_seq ?_
 refine W_seq (W_region rfl ?_)
 refine stp (r_move_slice rfl ?_)
 refine stp (r_eqlNil rfl rfl ?_)
 refine WL_nil ?_
 refine W_true rfl ?_
 refine W_seq (W_region rfl ?_)
 refine stp (r_assign_slice rfl ?_)
 refine WL_nil ?_
 refine W_ret ?_
 refine ret1 (res_tmp (v := .slice none 0 0) rfl) ⟨?_, G⟩
 rfl

set_option maxRecDepth 100000 in
theorem each_calls (w : World) {y0 y1 : Int} {ya za ua : Option Addr} {yn yc zn zc un uc : Nat} {ad : Option Addr} {n c : Nat} : Calls Try.prog 40 #[.agg #[.int .i64 y0, .int .i64 y1, .slice ya yn yc, .slice za zn zc, .slice ua un uc], .slice ad n c] w (Ret fun v w' => ∃ b1 b2, v = .func (.func 67) #[] #[.pointer (some ⟨b1, 0, none⟩), .pointer (some ⟨b2, 0, none⟩)] ∧ w.heap.size ≤ b1 ∧ w.heap.size ≤ b2 ∧ w'.heap[b1]? = some (.cells #[.int .i64 y0, .int .i64 y1, .slice ya yn yc, .slice za zn zc, .slice ua un uc] 37 (0, 0)) ∧ w'.heap[b2]? = some (.cells #[.slice ad n c] 31 (0, 0)) ∧ Grow w w') := by
 have G := Grow.rfl' w
 refine calls_ret Try.func40 Try.ntmps40 Try.results40 rfl rfl ?_
 refine W_seq (W_region rfl ?_)
 refine WL_some (og rfl ?_)
 (first | refine r_box_agg rfl ?_ | refine r_box_int rfl ?_ | refine r_box_slice rfl ?_ | refine r_box rfl rfl ?_)
 intro b1 w2 hb3 hc4 g5
 have hge6 := Nat.le_trans G.size hb3
 replace G := G.tr g5
 clear g5 hb3
 refine WL_some (og rfl ?_)
 (first | refine r_box_agg rfl ?_ | refine r_box_int rfl ?_ | refine r_box_slice rfl ?_ | refine r_box rfl rfl ?_)
 intro b7 w8 hb9 hc10 g11
 have hge12 := Nat.le_trans G.size hb9
 replace hc4 := g11.heap hc4
 replace G := G.tr g11
 clear g11 hb9
 refine stp (r_assign (v := .nilFunc) rfl ?_)
 refine WL_nil ?_
 refine W_seq (W_region rfl ?_)
 refine stp (r_makeFunc (vs := []) (us := [.pointer (some ⟨b1, 0, none⟩), .pointer (some ⟨b7, 0, none⟩)]) rfl rfl ?_)
 refine stp (r_assign (v := .func (.func 67) #[] #[.pointer (some ⟨b1, 0, none⟩), .pointer (some ⟨b7, 0, none⟩)]) rfl ?_)
 refine WL_nil ?_
 refine W_ret ?_
 refine ret1 (res_tmp (v := .func (.func 67) #[] #[.pointer (some ⟨b1, 0, none⟩), .pointer (some ⟨b7, 0, none⟩)]) rfl) ⟨_, _, rfl, hge6, hge12, hc4, hc10, G⟩

set_option maxRecDepth 100000 in
theorem each0_calls (w : World) {q1 q2 l : Nat} {y0 y1 : Int} {ya za ua : Option Addr} {yn yc zn zc uc : Nat} (hyn : yn ≤ 1000) (hzn : zn ≤ 1000) (I : Nat → World → Prop) (hI : ∀ i w', I i w' → w'.heap[q1]? = some (.cells #[.int .i64 y0, .int .i64 y1, .slice ya yn yc, .slice za zn zc, .slice ua 0 uc] 37 (0, 0)) ∧ w'.heap[q2]? = some (.cells #[.slice none 0 0] 31 (0, 0))) (hgr : ∀ i w' w'', Grow w' w'' → I i w' → I i w'') (hy : ∀ i w', i < (1 + yn + zn) → I i w' → Yields Try.prog l #[.agg #[.slice none 0 0, .int .i64 ((i : Int) - 1)]] w' (fun v w'' => v = .bool true ∧ I (i + 1) w'' ∧ ∀ (b : Nat) (cs : Array Value) (fr : Nat × Nat), w'.heap[b]? = some (Obj.cells cs 126 fr) → w''.heap[b]? = some (Obj.cells cs 126 fr))) (h0 : I 0 w) : Calls Try.prog 67 #[.func (.yield l) #[] #[], .pointer (some ⟨q1, 0, none⟩), .pointer (some ⟨q2, 0, none⟩)] w (Ret fun v w' => I (1 + yn + zn) w') := by
 refine calls_ret Try.func67 Try.ntmps67 Try.results67 rfl rfl ?_
 have HI := h0
 refine W_seq (W_region rfl ?_)
 refine WL_some (og rfl ?_)
 (first | refine r_box_agg rfl ?_ | refine r_box_int rfl ?_ | refine r_box_slice rfl ?_ | refine r_box rfl rfl ?_)
 intro b1 w2 hb3 hc4 g5
 replace HI := hgr _ _ _ g5 HI
 clear g5 hb3
 refine WL_nil ?_
 obtain ⟨hb6, hb7⟩ := hI _ _ HI
 refine W_seq ?_
 refine W_seq (W_region rfl ?_)
 refine stp (r_fieldAddr rfl ?_)
 refine stp (r_load (v := .slice ya yn yc) rfl hb6 rfl ?_)
 refine stp (r_len rfl rfl rfl ?_)
 refine stp (r_add rfl rfl ?_ ?_); constructor <;> omega
 refine stp (r_fieldAddr rfl ?_)
 refine stp (r_load (v := .slice za zn zc) rfl hb6 rfl ?_)
 refine stp (r_len rfl rfl rfl ?_)
 refine WL_some (og rfl ?_)
 refine r_add rfl rfl ?_ ?_; constructor <;> omega
 rw [show 1 + (yn : Int) + (zn : Int) = (((1 + yn + zn) : Nat) : Int) from by omega]
 refine stp (r_move_int rfl ?_)
 refine WL_nil ?_
 refine W_block ?_
 refine W_loop (fun m_ e_ w_ => ∃ (k : Nat), m_ = (1 + yn + zn) - k ∧ Fr [(1, .pointer (some ⟨q1, 0, none⟩)), (2, .pointer (some ⟨q2, 0, none⟩)), (3, .pointer (some ⟨b1, 0, none⟩)), (15, .int .i64 (((1 + yn + zn) : Nat) : Int)), (16, .int .i64 (k : Int))] e_ ∧ (k ≤ (1 + yn + zn)) ∧ (w_.heap[b1]? = some (.cells #[.func (.yield l) #[] #[]] 126 (0, 0))) ∧ (I k w_)) _ ⟨0, rfl, fr_of ⟨rfl, rfl, rfl, rfl, rfl, trivial⟩, by omega, hc4, HI⟩ ?_
 clear HI hc4 hb6 hb7
 rintro m_ e_ w8 ⟨k, rfl, ⟨e9, rfl⟩, hk, hc4, HI⟩
 obtain ⟨hb10, hb11⟩ := hI k _ HI
 refine W_seq (W_region rfl ?_)
 refine stp (r_lss rfl rfl ?_)
 refine WL_nil ?_
 refine W_seq ?_
 refine W_cond2 (b := (decide ((k : Int) < (((1 + yn + zn) : Nat) : Int)))) rfl (fun hlt => ?_) (fun hlt => ?_)
 ·-- true
  replace hlt := of_decide_eq_true hlt
  refine W_skip ?_
  refine W_seq ?_
  refine W_block ?_
  refine W_seq (W_region rfl ?_)
  refine stp (r_move_int rfl ?_)
  refine stp (r_assign_int rfl ?_)
  refine WL_nil ?_
  refine W_seq ?_
  refine W_any 6 [[], [], [0], [], [0], [3, 2, 1, 0]] mixed (by kernel_rfl) (by kernel_rfl) (by kernel_rfl) ?_
  intro w12 g13
  replace hc4 := g13.heap hc4
  replace HI := hgr _ _ _ g13 HI
  replace hb10 := g13.heap hb10
  replace hb11 := g13.heap hb11
  clear g13
  apply AO_ex
  ·intro w_ g_; refine og rfl ?_; refine r_load (v := .func (.yield l) #[] #[]) rfl (g_.heap hc4) rfl ?_; exact ⟨Grow.rfl' _, rfl⟩
  apply AO_ex
  ·intro w_ g_; refine og rfl ?_; refine r_load (v := .slice none 0 0) rfl (g_.heap hb11) rfl ?_; exact ⟨Grow.rfl' _, rfl⟩
  apply AO_ex
  ·intro w_ g_; refine og rfl ?_; exact r_gives (v := .slice none 0 0) rfl (cloneNil_calls _) (fun w2_ g2_ => ⟨g2_, rfl⟩)
  apply AO_ex
  ·intro w_ g_; refine og rfl ?_; refine r_move_int rfl ?_; exact ⟨Grow.rfl' _, rfl⟩
  apply AO_ex
  ·intro w_ g_; refine og rfl ?_; refine r_sub rfl rfl ?_ ?_; constructor <;> omega; exact ⟨Grow.rfl' _, rfl⟩
  apply AO_ex
  ·intro w_ g_; refine og rfl ?_; refine r_build (v := .agg #[.slice none 0 0, .int .i64 ((k : Int) - 1)]) (fun w => by kernel_rfl) ?_; exact ⟨Grow.rfl' _, rfl⟩
  refine AO_nil ?_
  intro w14 g15
  replace hc4 := g15.heap hc4
  replace HI := hgr _ _ _ g15 HI
  replace hb10 := g15.heap hb10
  replace hb11 := g15.heap hb11
  clear g15
  refine stp (r_yield rfl (Yields.mono ?_ (hy k _ (by omega) HI)))
  rintro v_ w16 ⟨rfl, HI2, HF_⟩
  replace hc4 := HF_ _ _ _ hc4
  clear HI
  refine stp (r_not_f rfl rfl ?_)
  refine WL_nil ?_
  refine W_false rfl ?_
  refine W_skip ?_
  refine W_region rfl ?_
  refine stp (r_add rfl rfl ?_ ?_); constructor <;> omega
  refine stp (r_move_int rfl ?_)
  refine WL_nil ?_
  refine ⟨_, ?_, k + 1, rfl, fr_of ⟨rfl, rfl, rfl, rfl, congrArg (Value.int .i64) (by omega), trivial⟩, by omega, hc4, HI2⟩
  omega
 ·-- false
  replace hlt := of_decide_eq_false hlt
  have hk9 : (1 + yn + zn) = k := by omega
  rw [hk9]
  obtain ⟨hb17, hb18⟩ := hI k _ HI
  refine W_exit ?_
  refine W_seq (W_region rfl ?_)
  refine stp (r_fieldAddr rfl ?_)
  refine stp (r_load (v := .slice ua 0 uc) rfl hb17 rfl ?_)
  refine stp (r_len rfl rfl rfl ?_)
  refine stp (r_move_int rfl ?_)
  refine WL_nil ?_
  refine W_block ?_
  refine W_loop (fun m_ e_ w_ => m_ = 0 ∧ Fr [(2, .pointer (some ⟨q2, 0, none⟩)), (3, .pointer (some ⟨b1, 0, none⟩)), (29, .slice ua 0 uc), (30, .int .i64 0), (31, .int .i64 0)] e_ ∧ (w_.heap[b1]? = some (.cells #[.func (.yield l) #[] #[]] 126 (0, 0))) ∧ (I k w_)) _ ⟨rfl, fr_of ⟨rfl, rfl, rfl, rfl, rfl, trivial⟩, hc4, HI⟩ ?_
  clear hc4 HI hb10 hb11 hb17 hb18
  rintro m_ e_ w19 ⟨rfl, ⟨e20, rfl⟩, hc4, HI⟩
  obtain ⟨hb21, hb22⟩ := hI k _ HI
  refine W_seq (W_region rfl ?_)
  refine stp (r_lss_f rfl rfl (by omega) ?_)
  refine WL_nil ?_
  refine W_seq ?_
  refine W_false rfl ?_
  refine W_exit ?_
  exact ret0n HI

set_option maxRecDepth 100000 in
theorem paths0_calls (w : World) {y0 y1 most : Int} {ya za ua : Option Addr} {yn yc zn zc uc : Nat} (hm : (yn : Int) + zn < most) (hm2 : yn + zn ≤ 1000) : Calls Try.prog 24 #[.agg #[.int .i64 y0, .int .i64 y1, .slice ya yn yc, .slice za zn zc, .slice ua 0 uc], .int .i64 most] w (Ret fun v w' => ∃ ad c, v = .slice ad (1 + yn + zn) c ∧ Grow w w') := by
 have G := Grow.rfl' w
 refine calls_ret Try.func24 Try.ntmps24 Try.results24 rfl rfl ?_
 refine W_seq (W_region rfl ?_)
 refine WL_some (og rfl ?_)
 (first | refine r_box_agg rfl ?_ | refine r_box_int rfl ?_ | refine r_box_slice rfl ?_ | refine r_box rfl rfl ?_)
 intro b1 w2 hb3 hc4 g5
 have hge6 := Nat.le_trans G.size hb3
 replace G := G.tr g5
 clear g5 hb3
 refine WL_some (og rfl ?_)
 (first | refine r_box_agg rfl ?_ | refine r_box_int rfl ?_ | refine r_box_slice rfl ?_ | refine r_box rfl rfl ?_)
 intro b7 w8 hb9 hc10 g11
 have hge12 := Nat.le_trans G.size hb9
 replace hc4 := g11.heap hc4
 replace G := G.tr g11
 clear g11 hb9
 refine stp (r_assign_slice rfl ?_)
 refine WL_nil ?_
 refine W_seq (W_region rfl ?_)
 refine stp (r_alloc ?_)
 intro b13 w14 hb15 hc16 g17
 refine WL_nil ?_
 refine W_seq ?_
 refine W_seq (W_region rfl ?_)
 have hge18 := Nat.le_trans G.size hb15
 have ne19 := Nat.ne_of_lt (Nat.lt_of_lt_of_le (lt_of_heap hc4) hb15)
 have ne20 := Nat.ne_of_lt (Nat.lt_of_lt_of_le (lt_of_heap hc10) hb15)
 replace hc4 := g17.heap hc4
 replace hc10 := g17.heap hc10
 replace G := G.tr g17
 clear g17 hb15
 refine stp (r_loadAll rfl hc4 (by rfl) ?_)
 refine WL_some (og rfl ?_)
 have lt0_hc4 := lt_of_heap hc4
 have lt0_hc10 := lt_of_heap hc10
 have lt0_hc16 := lt_of_heap hc16
 refine r_call rfl (each_calls _) ?_
 rintro v_ w21 ⟨q1, q2, rfl, hq1, hq2, hc1, hc2, g_⟩
 replace hc4 := g_.heap hc4
 replace hc10 := g_.heap hc10
 replace hc16 := g_.heap hc16
 replace G := G.tr g_
 clear g_
 refine WL_nil ?_
 refine W_block ?_
 refine W_rangeC rfl rfl ?_
 intro rc hst hpd hps has hbd hsz hge l w6 hl hlp hmk g6 hw6
 have lt_hc4 := lt_of_heap hc4
 have lt_hc10 := lt_of_heap hc10
 have lt_hc16 := lt_of_heap hc16
 have lt_hc1 := lt_of_heap hc1
 have lt_hc2 := lt_of_heap hc2
 replace hc4 := g6.heap hc4
 replace hc10 := g6.heap hc10
 replace hc16 := g6.heap hc16
 replace hc1 := g6.heap hc1
 replace hc2 := g6.heap hc2
 have hGs := G.size
 have hg5 := hge18
 have hg3 := hge12
 replace G := G.tr g6
 generalize hmm : w21.heap.size = mk at *
 refine Calls.mono (each0_calls w6 (l := l) (q1 := q1) (q2 := q2) (by omega) (by omega) (fun j W => (∃ v xs, W.heap[b13]? = some (.cells #[v] 53 (0, 0)) ∧ W.ownsRow w.heap.size 33 2 v j xs) ∧ W.heap[b7]? = some (.cells #[.int .i64 most] 3 (0, 0)) ∧ W.heap[q1]? = some (.cells #[.int .i64 y0, .int .i64 y1, .slice ya yn yc, .slice za zn zc, .slice ua 0 uc] 37 (0, 0)) ∧ W.heap[q2]? = some (.cells #[.slice none 0 0] 31 (0, 0)) ∧ W.heap[l]? = some (.loop rc) ∧ W.heap[mk]? = some (.deferred (some [])) ∧ Grow w W) (fun i w' h => ⟨h.2.2.1, h.2.2.2.1⟩) (fun i w' w'' g ⟨⟨v, xs, h1, h2⟩, h3, h4, h5, h6, h7, h8⟩ => ⟨⟨v, xs, g.heap h1, own_grow h2 g⟩, g.heap h3, g.heap h4, g.heap h5, g.heap h6, g.heap h7, h8.tr g⟩) ?_ ⟨⟨_, [], hc16, World.ownsRow_nil _ _ _ _⟩, hc10, hc1, hc2, hlp, hmk, G⟩) ?_
 ·rintro j w7 hj ⟨⟨vc2, xs, h1, own2⟩, h3, h4, h5, h6, h7, G7⟩
  refine yields_of_W (ps := [9]) (vs := [_]) (n := 20) h6 hps rfl hsz (by rfl) hge ?_
  rw [has, hbd]
  have hF0 : ∀ (b : Nat) (cs : Array Value) (fr : Nat × Nat), w7.heap[b]? = some (Obj.cells cs 126 fr) → w7.heap[b]? = some (Obj.cells cs 126 fr) := fun _ _ _ h_ => h_
  refine W_region rfl ?_
  refine stp (r_alloc ?_)
  intro b22 w23 hb24 hc25 g26
  refine stn (r_storeAll rfl rfl hc25 (by rfl) (by rfl) (by rfl) ?_)
  intro w27 hc28 u29
  have g30 := g26.upd u29 hb24
  replace h1 := g30.heap h1
  replace h3 := g30.heap h3
  replace h4 := g30.heap h4
  replace h5 := g30.heap h5
  replace h6 := g30.heap h6
  replace h7 := g30.heap h7
  replace own2 := own_grow own2 g30
  replace G7 := G7.tr g30
  replace hF0 := (fun b_ cs_ fr_ hb_ => g30.heap (hF0 b_ cs_ fr_ hb_))
  clear u29 g26 hb24 hc25
  refine WL_nil ?_
  refine ⟨rc, h6, hst, ?_⟩
  have u1 := upd_put (o' := .loop { rc with state := .busy }) h6
  have k6 := put_same (o' := .loop { rc with state := .busy }) h6
  have lt6 := lt_of_heap hc28
  have ne6 : b22 ≠ l := fun he_ => by rw [he_, h6] at hc28; cases hc28
  have kb := u1.heap hc28 ne6
  have k1 := u1.heap h1 (by omega)
  have k2 := own_upd own2 u1 (own_ne_loop own2 h6)
  have k3 := u1.heap h3 (by omega)
  have k4 := u1.heap h4 (by omega)
  have k5 := u1.heap h5 (by omega)
  have k7 := u1.heap h7 (by omega)
  have G8 := G7.upd u1 (by omega)
  have hF1 := fun b_ cs_ fr_ hb_ => u1.heap (hF0 b_ cs_ fr_ hb_) (fun he_ => by have h_ := hF0 b_ cs_ fr_ hb_; rw [he_, h6] at h_; cases h_)
  generalize w27.putObj l (.loop { rc with state := .busy }) = w8 at *
  clear u1 h1 own2 h3 h4 h5 h7 hF0 hc28
  obtain ⟨ad2, n2, c2, rfl⟩ := own_slice k2
  have hn2 : j = n2 := (own_len k2).symm
  subst hn2
  refine W_block ?_
  refine W_seq ?_
  refine W_seq (W_region rfl ?_)
  refine stp (r_load (v := .slice ad2 j c2) rfl k1 rfl ?_)
  refine stp (r_len rfl rfl rfl ?_)
  refine stp (r_load (v := .int .i64 most) rfl k3 rfl ?_)
  refine stp (r_min rfl rfl rfl ?_)
  refine stp (r_geq_f rfl rfl (by split <;> omega) ?_)
  refine WL_nil ?_
  refine W_false rfl ?_
  refine W_skip ?_
  refine W_region rfl ?_
  refine stp (r_load (v := .slice ad2 j c2) rfl k1 rfl ?_)
  refine stp (r_loadAll rfl kb (by rfl) ?_)
  refine stp (r_buildSlice (cs := #[.slice none 0 0, .int .i64 ((j : Int) - 1)]) (el := 33) (fun w => by kernel_rfl) ?_)
  intro bs31 w32 hb33 hc34 g35
  replace k1 := g35.heap k1
  replace k3 := g35.heap k3
  replace k4 := g35.heap k4
  replace k5 := g35.heap k5
  replace k6 := g35.heap k6
  replace k7 := g35.heap k7
  replace kb := g35.heap kb
  replace k2 := own_grow k2 g35
  replace G8 := G8.tr g35
  replace hF1 := (fun b_ cs_ fr_ hb_ => g35.heap (hF1 b_ cs_ fr_ hb_))
  clear g35
  refine stp (r_append rfl rfl rfl rfl k2 (Row.of_block (n := 1) hc34 rfl rfl (by omega)) (fun q_ hq_ => by simp at hq_; rcases hq_ with rfl | rfl <;> rfl) (by simp only [maxLen]; omega) (by omega) G8.size ?_)
  intro v9 w9 own9 gr9
  have G9 := G8.grown gr9 (own_ge k2)
  have m1 := gr_heap gr9 k1 (own_ne k2 k1 (by decide))
  have m3 := gr_heap gr9 k3 (own_ne k2 k3 (by decide))
  have m4 := gr_heap gr9 k4 (own_ne k2 k4 (by decide))
  have m5 := gr_heap gr9 k5 (own_ne k2 k5 (by decide))
  have m6 := gr_heap gr9 k6 (own_ne_loop k2 k6)
  have m7 := gr_heap gr9 k7 (own_ne_def k2 k7)
  have hF2 := fun b_ cs_ fr_ hb_ => gr_heap gr9 (hF1 b_ cs_ fr_ hb_) (own_ne k2 (hF1 b_ cs_ fr_ hb_) (by decide))
  refine stn (r_store1 (v := v9) rfl rfl (own_one own9) m1 (by rfl) (by rfl) ?_)
  intro w10 n1 u10
  refine WL_nil ?_
  have n6 := u10.heap m6 (by omega)
  have u2 := upd_put (o' := .loop rc) n6
  refine ⟨_, n6, ?_⟩
  rw [loop_again hst hpd]
  have own10 := own_upd (own_upd own9 u10 (own_ne own9 m1 (by decide))) u2 (own_ne_loop (own_upd own9 u10 (own_ne own9 m1 (by decide))) n6)
  refine ⟨rfl, ⟨⟨_, _, u2.heap n1 (by omega), own10⟩, u2.heap (u10.heap m3 (by omega)) (by omega), u2.heap (u10.heap m4 (by omega)) (by omega), u2.heap (u10.heap m5 (by omega)) (by omega), put_same n6, u2.heap (u10.heap m7 (by omega)) (by omega), (G9.upd u10 (by omega)).upd u2 (by omega)⟩, fun b_ cs_ fr_ hb_ => ?_⟩
  have h9_ := hF2 b_ cs_ fr_ hb_
  have h10_ := u10.heap h9_ (fun he_ => by rw [he_, m1] at h9_; simp at h9_)
  exact u2.heap h10_ (fun he_ => by rw [he_, n6] at h10_; cases h10_)
 ·rintro r_ w7 ⟨v_, rfl, ⟨vc2, xs, h1, own2⟩, h3, h4, h5, h6, h7, G7⟩
  refine ⟨_, rc, rfl, h6, by rw [hst]; simp, ?_⟩
  simp only [hpd]
  have u1 := upd_put (o' := .loop { rc with state := .exhausted, pending := none }) h6
  have k1 := u1.heap h1 (by omega)
  have k7 := u1.heap h7 (by omega)
  have k2 := own_upd own2 u1 (own_ne_loop own2 h6)
  clear G
  have G := G7.upd u1 (by omega)
  generalize w7.putObj l _ = w8 at *
  clear u1 h1 own2
  obtain ⟨ad2, n2, c2, rfl⟩ := own_slice k2
  have hn2 : n2 = (1 + yn + zn) := own_len k2
  subst hn2
  refine W_seq (W_region rfl ?_)
  refine stp (r_load (v := .slice ad2 (1 + yn + zn) c2) rfl k1 rfl ?_)
  refine stp (r_assign_slice rfl ?_)
  refine WL_nil ?_
  refine W_ret ?_
  have u2 := upd_put (o' := .deferred none) k7
  exact retM (vs := [_]) ⟨mk, _, rfl, run_takeDeferred k7, rfl⟩ ⟨rfl, trivial⟩ ⟨_, _, rfl, G.upd u2 (by omega)⟩
end Go.Proofs.Ytfhfecepcnapfaa.K

namespace Go.Proofs.Ytfhfecepcnapfaa.K
open Go Go.RowKit Go.Proofs
attribute [local irreducible] Run1 OpG WL W AO Gives
set_option maxRecDepth 100000 in
theorem known10_calls (w : World)  : Gives Try.prog 11 #[] w (.bool true) := by
 have G := Grow.rfl' w
 refine gives_of Try.func11 Try.ntmps11 Try.results11 rfl rfl ?_
 refine W_seq (W_region rfl ?_)
 refine stp (r_assign (v := .bool false) rfl ?_)
 refine WL_nil ?_
 refine W_seq (W_region rfl ?_)
 refine stp (r_buildSlice (cs := #[.int .u64 7]) (el := 55) (fun w => by kernel_rfl) ?_)
 intro bs1 w2 hb3 hc4 g5
 have hge6 := Nat.le_trans G.size hb3
 replace G := G.tr g5
 clear g5
 refine stp (r_build (v := .agg #[.int .i64 1, .int .i64 0, .slice (some ⟨bs1, 0, none⟩) 1 1, .slice none 0 0, .slice none 0 0]) (fun w => by kernel_rfl) ?_)
 refine stp (r_alloc ?_)
 intro b7 w8 hb9 hc10 g11
 refine stn (r_storeAll rfl rfl hc10 (by rfl) (by rfl) (by rfl) ?_)
 intro w12 hc13 u14
 have g15 := g11.upd u14 hb9
 have hge16 := Nat.le_trans G.size hb9
 have ne17 := Nat.ne_of_lt (Nat.lt_of_lt_of_le (lt_of_heap hc4) hb9)
 replace hc4 := g15.heap hc4
 replace G := G.tr g15
 clear u14 g11 hb9 hc10
 refine WL_nil ?_
 have hT : NodeR w12 [.int .i64 1, .int .i64 0, .slice (some ⟨bs1, 0, none⟩) 1 1, .slice none 0 0, .slice none 0 0] known10 := .mk (by simp [inR]) (by simp [inR]) (Row.of_block (n := 1) hc4 rfl rfl (by decide)) (by simp [inR]) (Row.nil _ _) (by simp) (Row.nil _ _) .nil
 refine W_seq (W_region rfl ?_)
 refine stp (r_loadAll rfl hc13 (by rfl) ?_)
 refine stp (r_build (v := .agg #[.slice none 0 0, .int .i64 0]) (fun w => by kernel_rfl) ?_)
 refine stp (r_gives (v := .tuple #[.agg #[.int .i64 1, .int .i64 0, .int .i64 0, .int .i64 0, .int .u64 7], .int .u16 0]) rfl (gives_eq (ask_calls _ hT (rowat_nil _ _) (steps := []) (a := 0) (by simp [inR])) (y := .tuple #[.agg #[.int .i64 1, .int .i64 0, .int .i64 0, .int .i64 0, .int .u64 7], .int .u16 0]) (by rw [known10_ask] <;> rfl)) ?_)
 intro w18 g19
 replace hc4 := g19.heap hc4
 replace hc13 := g19.heap hc13
 replace hT := hT.grow g19
 replace G := G.tr g19
 clear g19
 refine stp (r_move (v := .tuple #[.agg #[.int .i64 1, .int .i64 0, .int .i64 0, .int .i64 0, .int .u64 7], .int .u16 0]) rfl ?_)
 refine stp (r_extract (v := .agg #[.int .i64 1, .int .i64 0, .int .i64 0, .int .i64 0, .int .u64 7]) rfl rfl ?_)
 refine stp (r_extract (v := .int .u16 0) rfl rfl ?_)
 refine stp (r_alloc ?_)
 intro b20 w21 hb22 hc23 g24
 refine stn (r_storeAll rfl rfl hc23 (by rfl) (by rfl) (by rfl) ?_)
 intro w25 hc26 u27
 have g28 := g24.upd u27 hb22
 have hge29 := Nat.le_trans G.size hb22
 have ne30 := Nat.ne_of_lt (Nat.lt_of_lt_of_le (lt_of_heap hc4) hb22)
 have ne31 := Nat.ne_of_lt (Nat.lt_of_lt_of_le (lt_of_heap hc13) hb22)
 replace hc4 := g28.heap hc4
 replace hc13 := g28.heap hc13
 replace hT := hT.grow g28
 replace G := G.tr g28
 clear u27 g24 hb22 hc23
 refine stp (r_assign_int rfl ?_)
 refine WL_nil ?_
 refine W_seq (W_region rfl ?_)
 refine stp (r_loadAll rfl hc13 (by rfl) ?_)
 refine WL_some (og rfl ?_)
 refine r_call rfl (rBuild_calls _ hT 9) ?_
 rw [show known10.build 9 = (known9, 0) from known9_build]
 rintro v_ w32 ⟨so_, segs_, rfl, hO_, g_⟩
 replace hc4 := g_.heap hc4
 replace hc13 := g_.heap hc13
 replace hT := hT.grow g_
 replace hc26 := g_.heap hc26
 replace G := G.tr g_
 clear g_
 have hA := hO_.arena (by decide) (by decide)
 obtain ⟨ad1, n1, c1, rfl⟩ := own_slice hO_.out
 clear hO_
 refine stp (r_move (v := .tuple #[.slice ad1 n1 c1, .int .i64 0]) rfl ?_)
 refine stp (r_extract (v := .slice ad1 n1 c1) rfl rfl ?_)
 refine stp (r_extract (v := .int .i64 0) rfl rfl ?_)
 refine stp (r_assign_slice rfl ?_)
 refine stp (r_assign_int rfl ?_)
 refine WL_nil ?_
 refine W_seq (W_region rfl ?_)
 refine stp (r_move_slice rfl ?_)
 refine WL_some (og rfl ?_)
 refine r_call rfl (Decode_calls _ hA known9_ok) ?_
 rw [known10_dec]
 rintro v_ w33 ⟨cells_, rfl, hU_, g_⟩
 have hU := hU_.sees (Sees.seen _ _)
 clear hU_
 replace hc4 := g_.heap hc4
 replace hc13 := g_.heap hc13
 replace hT := hT.grow g_
 replace hc26 := g_.heap hc26
 replace hA := hA.grow g_
 replace G := G.tr g_
 clear g_
 obtain ⟨y34, y35, a36, n37, c38, a39, n40, c41, a42, n43, c44, rfl⟩ := hU.cells
 refine stp (r_move (v := .tuple #[.agg #[.int .i64 y34, .int .i64 y35, .slice a36 n37 c38, .slice a39 n40 c41, .slice a42 n43 c44], .int .u16 0]) rfl ?_)
 refine stp (r_extract (v := .agg #[.int .i64 y34, .int .i64 y35, .slice a36 n37 c38, .slice a39 n40 c41, .slice a42 n43 c44]) rfl rfl ?_)
 refine stp (r_extract (v := .int .u16 0) rfl rfl ?_)
 refine stp (r_alloc ?_)
 intro b45 w46 hb47 hc48 g49
 refine stn (r_storeAll rfl rfl hc48 (by rfl) (by rfl) (by rfl) ?_)
 intro w50 hc51 u52
 have g53 := g49.upd u52 hb47
 have hge54 := Nat.le_trans G.size hb47
 have ne55 := Nat.ne_of_lt (Nat.lt_of_lt_of_le (lt_of_heap hc4) hb47)
 have ne56 := Nat.ne_of_lt (Nat.lt_of_lt_of_le (lt_of_heap hc13) hb47)
 have ne57 := Nat.ne_of_lt (Nat.lt_of_lt_of_le (lt_of_heap hc26) hb47)
 replace hc4 := g53.heap hc4
 replace hc13 := g53.heap hc13
 replace hT := hT.grow g53
 replace hc26 := g53.heap hc26
 replace hA := hA.grow g53
 replace hU := hU.grow g53
 replace G := G.tr g53
 clear u52 g49 hb47 hc48
 refine stp (r_assign_int rfl ?_)
 refine WL_nil ?_
 refine W_seq (W_region rfl ?_)
 refine stp (r_move_int rfl ?_)
 refine stp (r_eql_t rfl rfl (by decide) ?_)
 refine stp (r_move (v := .bool true) rfl ?_)
 refine stp (r_fieldAddr rfl ?_)
 refine stp (r_load (v := .int .u64 7) rfl hc26 rfl ?_)
 refine stp (r_eql_t rfl rfl (by decide) ?_)
 refine stp (r_pick_t (v := .bool true) rfl rfl rfl ?_)
 refine stp (r_move (v := .bool true) rfl ?_)
 refine stp (r_move_int rfl ?_)
 refine stp (r_eql_t rfl rfl (by decide) ?_)
 refine stp (r_pick_t (v := .bool true) rfl rfl rfl ?_)
 refine stp (r_move (v := .bool true) rfl ?_)
 refine stp (r_loadAll rfl hc13 (by rfl) ?_)
 refine stp (r_loadAll rfl hc51 (by rfl) ?_)
 refine stp (r_gives (v := .bool true) rfl (gives_eq (nsame_calls _ _ hT hU (Nat.le_refl _)) (y := .bool true) (by rw [beq_self])) ?_)
 intro w58 g59
 replace hc4 := g59.heap hc4
 replace hc13 := g59.heap hc13
 replace hT := hT.grow g59
 replace hc26 := g59.heap hc26
 replace hA := hA.grow g59
 replace hU := hU.grow g59
 replace hc51 := g59.heap hc51
 replace G := G.tr g59
 clear g59
 refine stp (r_pick_t (v := .bool true) rfl rfl rfl ?_)
 refine stp (r_move (v := .bool true) rfl ?_)
 refine stp (r_loadAll rfl hc13 (by rfl) ?_)
 refine stp (r_gives (v := .int .i64 2) rfl (gives_eq (cost_calls _ _ hT (Nat.le_refl _)) (y := .int .i64 2) (by rw [known10_cost])) ?_)
 intro w60 g61
 replace hc4 := g61.heap hc4
 replace hc13 := g61.heap hc13
 replace hT := hT.grow g61
 replace hc26 := g61.heap hc26
 replace hA := hA.grow g61
 replace hU := hU.grow g61
 replace hc51 := g61.heap hc51
 replace G := G.tr g61
 clear g61
 refine stp (r_eql_t rfl rfl (by decide) ?_)
 refine stp (r_pick_t (v := .bool true) rfl rfl rfl ?_)
 refine stp (r_move (v := .bool true) rfl ?_)
 refine stp (r_loadAll rfl hc13 (by rfl) ?_)
 refine WL_some (og rfl ?_)
 refine r_call rfl (paths0_calls _ (yn := 1) (zn := 0) (by decide) (by decide)) ?_
 rintro v_ w62 ⟨adp, cp_, rfl, g_⟩
 replace hc4 := g_.heap hc4
 replace hc13 := g_.heap hc13
 replace hT := hT.grow g_
 replace hc26 := g_.heap hc26
 replace hA := hA.grow g_
 replace hU := hU.grow g_
 replace hc51 := g_.heap hc51
 replace G := G.tr g_
 clear g_
 refine stp (r_len rfl rfl rfl ?_)
 refine stp (r_eql_t rfl rfl (by decide) ?_)
 refine stp (r_pick_t (v := .bool true) rfl rfl rfl ?_)
 refine stp (r_assign (v := .bool true) rfl ?_)
 refine WL_nil ?_
 refine W_ret ?_
 refine ret1 (res_tmp (v := .bool true) rfl) ⟨?_, G⟩
 rfl
end Go.Proofs.Ytfhfecepcnapfaa.K

namespace Go.Proofs.Ytfhfecepcnapfaa.K
open Go Go.RowKit Go.Proofs
attribute [local irreducible] Run1 OpG WL W AO Gives
set_option maxRecDepth 100000 in
theorem words10_calls (w : World) {u : Value} {A : List (List Int)} (hA : ArenaR w u A) : Calls Try.prog 10 #[u] w (Ret fun v w' => ∃ n, v = .int .i64 n ∧ Grow w w') := by
 obtain ⟨ada, ca, segs, sa, sc, rfl, hca, hca2, RA, hsf, hrf⟩ := hA.fn
 have G := Grow.rfl' w
 refine calls_ret Try.func10 Try.ntmps10 Try.results10 rfl rfl ?_
 refine W_seq (W_region rfl ?_)
 refine stp (r_assign_int rfl ?_)
 refine WL_nil ?_
 refine W_seq (W_region rfl ?_)
 refine stp (r_assign_int rfl ?_)
 refine WL_nil ?_
 refine W_seq ?_
 refine W_seq (W_region rfl ?_)
 refine stp (r_assign_int rfl ?_)
 refine WL_nil ?_
 refine W_block ?_
 have hlA := RA.lim
 refine W_loop (fun m_ e_ w_ => ∃ (k : Nat) (n : Int), m_ = A.length - k ∧ Fr [(0, .slice ada A.length ca), (2, .int .i64 0), (4, .int .i64 (k : Int)), (3, .int .i64 n)] e_ ∧ (k ≤ A.length) ∧ Grow w w_) _ ⟨0, 0, rfl, fr_of ⟨rfl, rfl, rfl, rfl, trivial⟩, by omega, G⟩ ?_
 clear G
 rintro m_ e_ w1 ⟨k, n, rfl, ⟨e2, rfl⟩, hk, G⟩
 refine W_seq ?_
 refine W_seq (W_region rfl ?_)
 refine stp (r_move_int rfl ?_)
 refine stp (r_move_slice rfl ?_)
 refine stp (r_len rfl rfl rfl ?_)
 refine stp (r_lss rfl rfl ?_)
 refine WL_nil ?_
 refine W_cond2 (b := (decide ((k : Int) < (A.length : Int)))) rfl (fun hlt => ?_) (fun hlt => ?_)
 ·-- true
  replace hlt := of_decide_eq_true hlt
  have hi : k < A.length := by omega
  have hlA := RA.lim
  refine W_skip ?_
  refine W_seq ?_
  refine W_block ?_
  refine W_region rfl ?_
  refine stp (r_move_int rfl ?_)
  refine stp (r_move_slice rfl ?_)
  refine stp (r_move_int rfl ?_)
  refine stp (r_indexN (RA.grow G) rfl rfl ?_ ?_); omega
  refine stp (r_loadR (v := .slice (sa k) (len2 A k) (sc k)) (m := 0) (RA.grow G) rfl (by rw [Nat.mul_one]; exact hsf _ (by omega)) ?_)
  refine stp (r_len rfl rfl rfl ?_)
  refine stp (r_addw rfl rfl ?_)
  refine stp (r_assign_int rfl ?_)
  refine WL_nil ?_
  refine W_region rfl ?_
  refine stp (r_move_int rfl ?_)
  refine stp (r_add rfl rfl ?_ ?_); constructor <;> omega
  refine stp (r_assign_int rfl ?_)
  refine WL_nil ?_
  refine ⟨_, ?_, k + 1, _, rfl, fr_of ⟨rfl, rfl, congrArg (Value.int .i64) (by omega), rfl, trivial⟩, by omega, G⟩
  omega
 ·-- false
  replace hlt := of_decide_eq_false hlt
  refine W_exit ?_
  refine W_seq (W_region rfl ?_)
  refine stp (r_move_int rfl ?_)
  refine stp (r_assign_int rfl ?_)
  refine WL_nil ?_
  refine W_ret ?_
  refine ret1 (res_tmp (v := .int .i64 n) rfl) ⟨n, rfl, G⟩

set_option maxRecDepth 100000 in
theorem decodes_calls (w : World) {u : Value} {A : List (List Int)} (hA : ArenaR w u A) (hn : A.length ≤ 8796093022208) (hx : ∀ q ∈ A, ∀ x ∈ q, inR .u64 x) : Gives Try.prog 12 #[u] w (.bool true) := by
 have her := decT_err hx
 have G := Grow.rfl' w
 refine gives_of Try.func12 Try.ntmps12 Try.results12 rfl rfl ?_
 refine W_seq (W_region rfl ?_)
 refine stp (r_assign (v := .bool false) rfl ?_)
 refine WL_nil ?_
 refine W_seq (W_region rfl ?_)
 refine stp (r_move (v := u) rfl ?_)
 refine WL_some (og rfl ?_)
 refine r_call rfl (Decodeg_calls _ (hA.grow G) hn hx) ?_
 rintro v_ w1 ⟨cells_, rfl, hU_, g_⟩
 have hU := hU_.sees (Sees.seen _ _)
 clear hU_
 replace G := G.tr g_
 clear g_
 obtain ⟨y2, y3, a4, n5, c6, a7, n8, c9, a10, n11, c12, rfl⟩ := hU.cells
 refine stp (r_move (v := .tuple #[.agg #[.int .i64 y2, .int .i64 y3, .slice a4 n5 c6, .slice a7 n8 c9, .slice a10 n11 c12], .int .u16 ((decT A).2)]) rfl ?_)
 refine stp (r_extract (v := .agg #[.int .i64 y2, .int .i64 y3, .slice a4 n5 c6, .slice a7 n8 c9, .slice a10 n11 c12]) rfl rfl ?_)
 refine stp (r_extract (v := .int .u16 ((decT A).2)) rfl rfl ?_)
 refine stp (r_alloc ?_)
 intro b13 w14 hb15 hc16 g17
 refine stn (r_storeAll rfl rfl hc16 (by rfl) (by rfl) (by rfl) ?_)
 intro w18 hc19 u20
 have g21 := g17.upd u20 hb15
 have hge22 := Nat.le_trans G.size hb15
 replace hU := hU.grow g21
 replace G := G.tr g21
 clear u20 g17 hb15 hc16
 refine stp (r_assign_int rfl ?_)
 refine WL_nil ?_
 refine W_seq (W_region rfl ?_)
 refine stp (r_move (v := u) rfl ?_)
 refine WL_some (og rfl ?_)
 refine r_call rfl (rDecode_calls _ (hA.grow G) hn hx) ?_
 rintro v_ w23 ⟨cells_, rfl, hV_, g_⟩
 have hV := hV_.sees (Sees.seen _ _)
 clear hV_
 replace hU := hU.grow g_
 replace hc19 := g_.heap hc19
 replace G := G.tr g_
 clear g_
 obtain ⟨y24, y25, a26, n27, c28, a29, n30, c31, a32, n33, c34, rfl⟩ := hV.cells
 refine stp (r_move (v := .tuple #[.agg #[.int .i64 y24, .int .i64 y25, .slice a26 n27 c28, .slice a29 n30 c31, .slice a32 n33 c34], .int .i64 ((decT A).2)]) rfl ?_)
 refine stp (r_extract (v := .agg #[.int .i64 y24, .int .i64 y25, .slice a26 n27 c28, .slice a29 n30 c31, .slice a32 n33 c34]) rfl rfl ?_)
 refine stp (r_extract (v := .int .i64 ((decT A).2)) rfl rfl ?_)
 refine stp (r_alloc ?_)
 intro b35 w36 hb37 hc38 g39
 refine stn (r_storeAll rfl rfl hc38 (by rfl) (by rfl) (by rfl) ?_)
 intro w40 hc41 u42
 have g43 := g39.upd u42 hb37
 have hge44 := Nat.le_trans G.size hb37
 have ne45 := Nat.ne_of_lt (Nat.lt_of_lt_of_le (lt_of_heap hc19) hb37)
 replace hU := hU.grow g43
 replace hc19 := g43.heap hc19
 replace hV := hV.grow g43
 replace G := G.tr g43
 clear u42 g39 hb37 hc38
 refine stp (r_assign_int rfl ?_)
 refine WL_nil ?_
 refine W_seq (W_region rfl ?_)
 refine stp (r_loadAll rfl hc19 (by rfl) ?_)
 refine stp (r_loadAll rfl hc41 (by rfl) ?_)
 refine stp (r_gives (v := .bool true) rfl (gives_eq (nsame_calls _ _ hU hV (Nat.le_refl _)) (y := .bool true) (by rw [beq_self])) ?_)
 intro w46 g47
 replace hU := hU.grow g47
 replace hc19 := g47.heap hc19
 replace hV := hV.grow g47
 replace hc41 := g47.heap hc41
 replace G := G.tr g47
 clear g47
 refine stp (r_move (v := .bool true) rfl ?_)
 refine stp (r_move_int rfl ?_)
 refine stp (r_conv rfl ?_ ?_); constructor <;> omega
 refine stp (r_move_int rfl ?_)
 refine stp (r_eql_t rfl rfl (rfl) ?_)
 refine stp (r_pick_t (v := .bool true) rfl rfl rfl ?_)
 refine stp (r_assign (v := .bool true) rfl ?_)
 refine WL_nil ?_
 refine W_ret ?_
 refine ret1 (res_tmp (v := .bool true) rfl) ⟨?_, G⟩
 rfl

set_option maxRecDepth 100000 in
theorem TreeDecodes_calls (w : World) {u : Value} {A : List (List Int)} (hA : ArenaR w u A) (hnA : A.length ≤ 8796093022208) (hxA : ∀ q ∈ A, ∀ x ∈ q, inR .u64 x) {ad ae : Option Addr} {cp cq : Nat} {xs ys : List Int} (R : RowAt w 1 ad xs.length (xs.map (.int .u8))) (hx : ∀ x ∈ xs, inR .u8 x) (hcp : xs.length ≤ cp) (hcp2 : cp ≤ maxLen) (R2 : RowAt w 1 ae ys.length (ys.map (.int .u8))) (hy : ∀ x ∈ ys, inR .u8 x) {k : Int} (k0 : 0 ≤ k) (k1 : k ≤ 255) : Gives Try.prog 3 #[u, .slice ad xs.length cp, .slice ae ys.length cq, .int .u8 k] w (.bool true) := by
 have lR := R.lim
 have G := Grow.rfl' w
 refine gives_of Try.func3 Try.ntmps3 Try.results3 rfl rfl ?_
 refine W_seq (W_region rfl ?_)
 refine stp (r_assign (v := .bool false) rfl ?_)
 refine WL_nil ?_
 refine W_seq ?_
 refine W_seq (W_region rfl ?_)
 refine stp (r_move (v := u) rfl ?_)
 refine WL_some (og rfl ?_)
 refine r_call rfl (words10_calls _ (hA.grow G)) ?_
 rintro v_ w1 ⟨n9, rfl, g_⟩
 replace G := G.tr g_
 clear g_
 refine stp (r_gtr rfl rfl ?_)
 refine stp (r_move_bool rfl ?_)
 refine WL_some (og_if (s := .bool (decide (n9 > 300))) (b := false) (v := .slice ad xs.length cp) rfl (wgb_f _) (fun hc2 => ?_) ?_)
 ·
  have hc2_ := hc2
  try simp only [sb] at hc2_
  refine r_move_slice rfl ?_
  exact ⟨rfl, rfl⟩
 refine WL_some (og_if (s := .bool (decide (n9 > 300))) (b := false) (v := .int .i64 (xs.length : Int)) rfl (wgb_f _) (fun hc3 => ?_) ?_)
 ·
  have hc3_ := hc3
  try simp only [sb] at hc3_
  refine r_len rfl rfl (gvt hc3) ?_
  exact ⟨rfl, rfl⟩
 refine WL_some (og_if (s := .bool (decide (n9 > 300))) (b := false) (v := .bool (decide ((xs.length : Int) > 200))) rfl (wgb_f _) (fun hc4 => ?_) ?_)
 ·
  have hc4_ := hc4
  try simp only [sb] at hc4_
  refine r_gtr (gvt hc4) rfl ?_
  exact ⟨rfl, rfl⟩
 refine stp (r_or2 rfl rfl rfl ?_)
 refine stp (r_move_bool rfl ?_)
 refine WL_some (og_ifg (s := .bool ((decide (n9 > 300)) || (decide ((xs.length : Int) > 200)))) (b := false) (v := .bool true) rfl (wgb_f _) (fun hc5 => ?_) ?_)
 ·
  have hc5_ := hc5
  try simp only [sb] at hc5_
  exact r_gives rfl (known10_calls _) (fun w2_ g2_ => ⟨rfl, g2_⟩)
 intro w6 g7
 replace G := G.tr g7
 clear g7
 refine WL_some (og_if (s := .bool ((decide (n9 > 300)) || (decide ((xs.length : Int) > 200)))) (b := false) (v := .bool false) rfl (wgb_f _) (fun hc8 => ?_) ?_)
 ·
  have hc8_ := hc8
  try simp only [sb] at hc8_
  refine r_not_f (gvt hc8) rfl ?_
  exact ⟨rfl, rfl⟩
 refine stp (r_or2 rfl rfl rfl ?_)
 refine WL_nil ?_
 refine W_cond2 (b := (((decide (n9 > 300)) || (decide ((xs.length : Int) > 200))) || false)) rfl (fun h1 => ?_) (fun h1 => ?_)
 ·-- true
  simp only [sb] at h1
  refine W_seq (W_region rfl ?_)
  refine stp (r_gives (v := .bool true) rfl (known10_calls _) ?_)
  intro w9 g10
  replace G := G.tr g10
  clear g10
  refine stp (r_assign (v := .bool true) rfl ?_)
  refine WL_nil ?_
  refine W_ret ?_
  refine ret1 (res_tmp (v := .bool true) rfl) ⟨?_, G⟩
  rfl
 ·-- false
  simp only [sb] at h1
  have hl : xs.length ≤ 200 := by omega
  refine W_skip ?_
  refine W_seq (W_region rfl ?_)
  refine stp (r_move (v := u) rfl ?_)
  refine stp (r_gives (v := .bool true) rfl (decodes_calls _ (hA.grow G) hnA hxA) ?_)
  intro w11 g12
  replace G := G.tr g12
  clear g12
  refine stp (r_move (v := .bool true) rfl ?_)
  refine stp (r_move_slice rfl ?_)
  refine stp (r_move_slice rfl ?_)
  refine stp (r_move_int rfl ?_)
  refine WL_some (og rfl ?_)
  refine r_call rfl (bent_calls _ (R.grow G) hx hcp hcp2 hl (R2.grow G) hy k0 k1) ?_
  rintro v_ w13 ⟨adp, cp, sgp, Ap, rfl, hOp, hBp, g_⟩
  replace G := G.tr g_
  clear g_
  obtain ⟨hrp, hup, -, -, h1p, h16p, hsp⟩ := Bent1.ok hBp hx hl
  have hAp := hOp.arena (by omega) hsp
  clear hOp
  refine stp (r_gives (v := .bool true) rfl (decodes_calls _ hAp (by omega) hup) ?_)
  intro w14 g15
  replace hAp := hAp.grow g15
  replace G := G.tr g15
  clear g15
  refine stp (r_pick_t (v := .bool true) rfl rfl rfl ?_)
  refine stp (r_move (v := .bool true) rfl ?_)
  refine stp (r_move_slice rfl ?_)
  refine stp (r_move_int rfl ?_)
  refine WL_some (og rfl ?_)
  refine r_call rfl (bent_calls _ (R.grow G) hx hcp hcp2 hl (ys := []) (RowAt.empty _ _ _) (by simp) k0 k1) ?_
  rintro v_ w16 ⟨adq, cq, sgq, Aq, rfl, hOq, hBq, g_⟩
  replace hAp := hAp.grow g_
  replace G := G.tr g_
  clear g_
  obtain ⟨hrq, huq, -, -, h1q, h16q, hsq⟩ := Bent1.ok hBq hx hl
  have hAq := hOq.arena (by omega) hsq
  clear hOq
  refine stp (r_gives (v := .bool true) rfl (decodes_calls _ hAq (by omega) huq) ?_)
  intro w17 g18
  replace hAp := hAp.grow g18
  replace hAq := hAq.grow g18
  replace G := G.tr g18
  clear g18
  refine stp (r_pick_t (v := .bool true) rfl rfl rfl ?_)
  refine stp (r_move (v := .bool true) rfl ?_)
  refine stp (r_move_slice rfl ?_)
  refine stp (r_move_int rfl ?_)
  refine WL_some (og rfl ?_)
  refine r_call rfl (arena7_calls _ (R.grow G) hx k0 k1) ?_
  rintro v_ w19 ⟨ad7, c7, sg7, A7, rfl, hO7, hB7, g_⟩
  replace hAp := hAp.grow g_
  replace hAq := hAq.grow g_
  replace G := G.tr g_
  clear g_
  have hl7 := hB7.len
  have hA7 := hO7.arena (by omega) (fun s_ hs_ => by have := small_mem hB7.seg s_ hs_; omega)
  clear hO7
  refine stp (r_gives (v := .bool true) rfl (decodes_calls _ hA7 (by omega) hB7.u64) ?_)
  intro w20 g21
  replace hAp := hAp.grow g21
  replace hAq := hAq.grow g21
  replace hA7 := hA7.grow g21
  replace G := G.tr g21
  clear g21
  refine stp (r_pick_t (v := .bool true) rfl rfl rfl ?_)
  refine stp (r_assign (v := .bool true) rfl ?_)
  refine WL_nil ?_
  refine W_ret ?_
  refine ret1 (res_tmp (v := .bool true) rfl) ⟨?_, G⟩
  rfl
end Go.Proofs.Ytfhfecepcnapfaa.K

namespace Go.Proofs.Ytfhfecepcnapfaa.K
open Go Go.RowKit Go.ChangeShapes Go.WideShapes

section
variable {H : Type} {enc : TypeId × Value → H} {P : Program} {w : World}
/-- What is told of an argument, or of a part of it: it is read so, and is no greater than memory is. -/
structure Told (enc : TypeId × Value → H) (P : Program) (w : World) (fuel : Nat) (t : TypeId) (cs : List Value) : Prop where
  h : ∃ d p, DataW.trod enc P w 0 (fun _ => true) true fuel t cs = some (d, p) ∧ ∀ n ∈ d.weights P t, n ≤ reachBytes
theorem told_of {ts : List TypeId} {ds : List (DataW H)} {j : Nat} {t : TypeId} {d : DataW H} {v : Value} {p : List MemPlace} (h : DataW.Trod enc P w 0 (fun _ => true) true t v d p) (hz : (DataW.weightsEach P ts ds).all (· ≤ reachBytes) = true) (ht : ts[j]? = some t) (hd : ds[j]? = some d) : ∃ fuel, Told enc P w fuel t v.cells.toList := by
  obtain ⟨fuel, hf⟩ := h
  exact ⟨fuel, ⟨d, p, hf, fun n hn => by simpa using List.all_eq_true.1 hz n (DataW.weights_mem_each ht hd n hn)⟩⟩
theorem mapM_ex {α β : Type} {f : α → Option β} : ∀ {l : List α} {r : List β}, l.mapM f = some r → ∀ (i : Nat) (x : α), l[i]? = some x → ∃ y, f x = some y ∧ r[i]? = some y := by
  intro l r h i x hx
  have h1 := mapM_some_get h i x hx
  have hl := mapM_some_length h
  have hi : i < r.length := by rw [hl]; exact (List.getElem?_eq_some_iff.1 hx).1
  rw [List.getElem?_eq_getElem hi] at h1
  exact ⟨_, h1, List.getElem?_eq_getElem hi⟩
theorem weightsAll_mem {e : TypeId} : ∀ {ds : List (DataW H)} {i : Nat} {d : DataW H}, ds[i]? = some d → ∀ n ∈ d.weights P e, n ∈ DataW.weightsAll P e ds
  | [], i, d, h, _, _ => by simp at h
  | x :: ds, 0, d, h, n, hn => by
    simp only [List.getElem?_cons_zero, Option.some.injEq] at h
    subst h
    simp only [DataW.weightsAll, List.mem_append]; exact .inl hn
  | x :: ds, i + 1, d, h, n, hn => by
    simp only [DataW.weightsAll, List.mem_append]; exact .inr (weightsAll_mem (by simpa using h) n hn)
/-- A slice, opened: what it holds, and each element. -/
theorem told_slice {t e : TypeId} {sz by_ fuel : Nat} {cs : List Value} (ht : P.underlying t = some (.slice e)) (hc : P.cellsOf e = sz) (hsz : 0 < sz) (hby : P.bytesOf e = by_) (hby1 : 1 ≤ by_) (h : Told enc P w fuel t cs) :
    ∃ f ad n c xs, fuel = f + 1 ∧ cs = [.slice ad n c] ∧ n ≤ c ∧ c ≤ maxLen ∧ RowAt w sz ad n xs ∧ ∀ i, i < n → Told enc P w f e ((xs.drop (i * sz)).take sz) := by
  obtain ⟨d, p, hd, hw⟩ := h
  rcases DataW.trod_slice ht hd with ⟨rfl, hx⟩ | ⟨a, len, cap, elems, rest, n, rfl, rfl, hx, _, hl, hm, hlen, hel, _, _⟩
  · cases fuel with
    | zero => simp [DataW.trod] at hd
    | succ f => exact ⟨f, none, 0, 0, [], rfl, rfl, Nat.le_refl _, Nat.zero_le _, RowAt.empty _ _ _, fun i hi => by omega⟩
  · simp only [Prod.mk.injEq] at hx
    obtain ⟨rfl, _⟩ := hx
    have hwt : ∀ n ∈ DataW.weightsAll P e (elems.map (·.1)), n ≤ reachBytes := fun n hn => hw n (by simp only [DataW.weights, ht, List.mem_cons, List.mem_append]; exact .inr (.inl hn))
    have hlim : len * by_ ≤ reachBytes := by
      have := hw (((elems.map (·.1)).length + (rest.map (·.1)).length) * P.bytesOf e) (by simp only [DataW.weights, ht, List.mem_cons, true_or])
      rw [hby, List.length_map, hlen, List.length_map, Nat.add_mul] at this
      omega
    have hlen2 : len ≤ 140737488355328 := by
      have h1 : len * 1 ≤ len * by_ := Nat.mul_le_mul_left _ hby1
      have h2 : reachBytes ≤ 140737488355328 := by decide
      omega
    -- each element
    have each : ∀ i, i < len → ∃ ys x, w.cells? 0 (a.add (i * sz)) sz = some ys ∧ DataW.trod enc P w 0 (fun _ => true) true n e ys = some x ∧ elems[i]? = some x := by
      intro i hi
      have hh := hel i hi
      have hi2 : i < elems.length := by omega
      rw [List.getElem?_eq_getElem hi2, hc] at hh
      simp only [Option.bind_eq_some_iff] at hh
      obtain ⟨ys, h1, h2⟩ := hh
      exact ⟨ys, _, h1, h2, List.getElem?_eq_getElem hi2⟩
    rcases Nat.eq_zero_or_pos len with h0 | h0
    · subst h0
      exact ⟨n, some a, 0, cap, [], rfl, rfl, hl, hm, RowAt.empty _ _ _, fun i hi => by omega⟩
    · -- the block
      have cell : ∀ i j, i < len → j < sz → ∃ v, w.cell? ((a.add (i * sz)).add j) = some v := by
        intro i j hi hj
        obtain ⟨ys, x, h1, _, _⟩ := each i hi
        unfold World.cells? at h1
        rw [if_pos (Nat.zero_le _)] at h1
        obtain ⟨y, hy, _⟩ := mapM_ex h1 j j (by simp [hj])
        exact ⟨y, hy⟩
      obtain ⟨blk, off, spot⟩ := a
      obtain ⟨v0, hv0⟩ := cell 0 0 h0 hsz
      have hadd0 : ((⟨blk, off, spot⟩ : Addr).add (0 * sz)).add 0 = ⟨blk, off, spot⟩ := by simp [Addr.add]
      rw [hadd0] at hv0
      unfold World.cell? at hv0
      cases hb : w.heap[blk]? with
      | none => rw [hb] at hv0; cases hv0
      | some o =>
        rw [hb] at hv0
        cases o with
        | cells c T fr =>
          simp only at hv0
          have hspot : spot = none := by
            cases spot with
            | none => rfl
            | some _ => simp at hv0
          subst hspot
          have hcell : ∀ k, k < len * sz → ∃ v, c[off + k]? = some v := by
            intro k hk
            have hdm := Nat.div_add_mod k sz
            have h1 : k / sz < len := (Nat.div_lt_iff_lt_mul hsz).2 hk
            obtain ⟨v, hv⟩ := cell (k / sz) (k % sz) h1 (Nat.mod_lt _ hsz)
            rw [add_lit, add_lit, cell_of_row w blk _ c T fr hb] at hv
            refine ⟨v, ?_⟩
            have : off + k / sz * sz + k % sz = off + k := by rw [Nat.mul_comm]; omega
            rwa [this] at hv
          have hsize : off + len * sz ≤ c.size := by
            have hp : 0 < len * sz := Nat.mul_pos h0 hsz
            obtain ⟨v, hv⟩ := hcell (len * sz - 1) (by omega)
            have := (Array.getElem?_eq_some_iff.1 hv).1
            omega
          refine ⟨n, some ⟨blk, off, none⟩, len, cap, (c.toList.drop off).take (len * sz), rfl, rfl, hl, hm, ⟨by rw [List.length_take, List.length_drop, Array.length_toList]; omega, hlen2, fun _ => ⟨blk, off, c, T, fr, rfl, hb, rfl⟩⟩, fun i hi => ?_⟩
          obtain ⟨ys, x, h1, h2, h3⟩ := each i hi
          have hys : ys = (((c.toList.drop off).take (len * sz)).drop (i * sz)).take sz := by
            unfold World.cells? at h1
            rw [if_pos (Nat.zero_le _)] at h1
            have hl2 := mapM_some_length h1
            simp only [List.length_range] at hl2
            have hle : (i + 1) * sz ≤ len * sz := Nat.mul_le_mul_right _ hi
            rw [Nat.add_mul, Nat.one_mul] at hle
            apply List.ext_getElem?
            intro j
            by_cases hj : j < sz
            · obtain ⟨y, hy, hy2⟩ := mapM_ex h1 j j (by simp [hj])
              rw [add_lit, add_lit, cell_of_row w blk _ c T fr hb] at hy
              rw [hy2, List.getElem?_take, if_pos hj, List.getElem?_drop, List.getElem?_take, if_pos (by omega), List.getElem?_drop, Array.getElem?_toList, ← Nat.add_assoc, hy]
            · rw [List.getElem?_eq_none (by omega), List.getElem?_eq_none (by rw [List.length_take]; omega)]
          rw [← hys]
          exact ⟨⟨x.1, x.2, h2, fun m hm_ => hwt m (weightsAll_mem (i := i) (by rw [List.getElem?_map, h3]; rfl) m hm_)⟩⟩
        | _ => cases hv0
theorem told_int {t : TypeId} {k : IntKind} {fuel : Nat} {cs : List Value} (ht : P.underlying t = some (.int k)) (h : Told enc P w fuel t cs) : ∃ n, cs = [.int k n] ∧ inR k n := by
  obtain ⟨d, p, hd, _⟩ := h
  obtain ⟨n, h1, _, hw⟩ := DataW.trod_int ht hd
  refine ⟨n, h1, ?_⟩
  cases k <;> simpa [Lit.wf, IntKind.min, IntKind.max, IntKind.bits, IntKind.signed, inR] using hw
theorem told_bool {t : TypeId} {fuel : Nat} {cs : List Value} (ht : P.underlying t = some .bool) (h : Told enc P w fuel t cs) : ∃ b, cs = [.bool b] := by
  obtain ⟨d, p, hd, _⟩ := h
  obtain ⟨b, h1, _⟩ := DataW.trod_bool ht hd
  exact ⟨b, h1⟩
theorem told_fld {t ft : TypeId} {f off fuel : Nat} {cs : List Value} (hf : fldS P t f = some off) (hft : ftS P t f = some ft) (h : Told enc P w fuel t cs) : ∃ g, fuel = g + 1 ∧ cs.length = P.cellsOf t ∧ Told enc P w g ft ((cs.drop off).take (P.cellsOf ft)) := by
  obtain ⟨d, p, hd, hw⟩ := h
  obtain ⟨fs, fl, hu, hfl, ho⟩ := fld_run hf
  unfold ftS at hft
  rw [hu] at hft
  simp only [hfl, Option.map_some, Option.some.injEq] at hft
  subst hft; subst ho
  obtain ⟨xs, n, rfl, hx, hlen, hxl, hg⟩ := DataW.trod_struct hu hd
  refine ⟨n, rfl, hlen, ?_⟩
  have hi : f < xs.length := by rw [hxl]; exact (Array.getElem?_eq_some_iff.1 hfl).1
  have hh := hg f fl hfl
  rw [List.getElem?_eq_getElem hi] at hh
  simp only [Prod.mk.injEq] at hx
  obtain ⟨rfl, _⟩ := hx
  refine ⟨⟨_, _, hh, fun m hm => hw m ?_⟩⟩
  simp only [DataW.weights, hu]
  refine DataW.weights_mem_each (j := f) (t := fl.type) (d := xs[f].1) ?_ ?_ m hm
  · rw [List.getElem?_map]
    have := hfl
    rw [← Array.getElem?_toList] at this
    rw [this]; rfl
  · rw [List.getElem?_map, List.getElem?_eq_getElem hi]; rfl
/-- A row of which each element is one cell, told by a function. -/
theorem row_map {α : Type} {sz n : Nat} {xs : List Value} {f : α → Value} (hl : xs.length = n) (h : ∀ i, i < n → ∃ a, (xs.drop (i * 1)).take 1 = [f a]) : ∃ l : List α, l.length = n ∧ xs = l.map f := by
  induction xs generalizing n with
  | nil => exact ⟨[], by simpa using hl, rfl⟩
  | cons x xs ih =>
    obtain ⟨a, ha⟩ := h 0 (by simp at hl; omega)
    simp at ha
    obtain ⟨l, h1, h2⟩ := ih (n := n - 1) (by simp at hl; omega) fun i hi => by
      obtain ⟨b, hb⟩ := h (i + 1) (by omega)
      exact ⟨b, by simpa using hb⟩
    exact ⟨a :: l, by simp at hl ⊢; omega, by simp [ha, h2]⟩
theorem told_ints {t e : TypeId} {k : IntKind} {fuel by_ : Nat} {cs : List Value} (ht : P.underlying t = some (.slice e)) (he : P.underlying e = some (.int k)) (hc : P.cellsOf e = 1) (hby : P.bytesOf e = by_) (hby1 : 1 ≤ by_) (h : Told enc P w fuel t cs) :
    ∃ ad n c, ∃ zs : List Int, cs = [.slice ad n c] ∧ n = zs.length ∧ n ≤ c ∧ c ≤ maxLen ∧ RowAt w 1 ad n (zs.map (.int k)) ∧ ∀ z ∈ zs, inR k z := by
  obtain ⟨f, ad, n, c, xs, rfl, rfl, h1, h2, R, hel⟩ := told_slice ht hc (by omega) hby hby1 h
  obtain ⟨l, hl, rfl⟩ := row_map (sz := 1) (f := fun a : { z : Int // inR k z } => Value.int k a.1) (by rw [R.len, Nat.mul_one]) fun i hi => by
    obtain ⟨z, hz, hr⟩ := told_int he (hel i hi)
    exact ⟨⟨z, hr⟩, hz⟩
  refine ⟨ad, n, c, l.map (·.1), rfl, by simp [hl], h1, h2, by rw [List.map_map]; exact R, fun z hz => ?_⟩
  obtain ⟨a, _, rfl⟩ := List.mem_map.1 hz
  exact a.2
theorem told_bools {t e : TypeId} {fuel by_ : Nat} {cs : List Value} (ht : P.underlying t = some (.slice e)) (he : P.underlying e = some .bool) (hc : P.cellsOf e = 1) (hby : P.bytesOf e = by_) (hby1 : 1 ≤ by_) (h : Told enc P w fuel t cs) :
    ∃ ad n c, ∃ zs : List Bool, cs = [.slice ad n c] ∧ n = zs.length ∧ n ≤ c ∧ c ≤ maxLen ∧ RowAt w 1 ad n (zs.map .bool) := by
  obtain ⟨f, ad, n, c, xs, rfl, rfl, h1, h2, R, hel⟩ := told_slice ht hc (by omega) hby hby1 h
  obtain ⟨l, hl, rfl⟩ := row_map (sz := 1) (f := fun a : Bool => Value.bool a) (by rw [R.len, Nat.mul_one]) fun i hi => told_bool he (hel i hi)
  exact ⟨ad, n, c, l, rfl, hl.symm, h1, h2, R⟩
theorem cells_slice {t e : TypeId} {r : Reach} {b0 : Nat} {v : Value} (ht : P.underlying t = some (.slice e)) (hv : Value.okWide P w r b0 t v) {ad : Option Addr} {n c : Nat} (h : v.cells.toList = [.slice ad n c]) : v = .slice ad n c := by
  unfold Value.okWide at hv
  rw [ht] at hv
  unfold Cell.okWide at hv
  rw [ht] at hv
  cases v <;> first | (simp only [Cell.ok, ht] at hv; done) | (simp [Value.cells] at h; try (obtain ⟨rfl, rfl, rfl⟩ := h); try rfl) | skip
theorem cells_agg {t : TypeId} {r : Reach} {b0 : Nat} {v : Value} {fs : Array Field} (ht : P.underlying t = some (.struct fs)) (hv : Value.okWide P w r b0 t v) : v = .agg v.cells := by
  unfold Value.okWide at hv
  rw [ht] at hv
  obtain ⟨cs, rfl, _⟩ := hv
  rfl
end
end Go.Proofs.Ytfhfecepcnapfaa.K

namespace Go.Proofs.Ytfhfecepcnapfaa.K
open Go Go.RowKit Go.ChangeShapes Go.WideShapes
section
variable {H : Type} {enc : TypeId × Value → H} {P : Program} {w : World}
theorem told_lim {t e : TypeId} {by_ fuel n c : Nat} {ad : Option Addr} {cs : List Value} (ht : P.underlying t = some (.slice e)) (hby : P.bytesOf e = by_) (h : Told enc P w fuel t cs) (hcs : cs = [.slice ad n c]) : n * by_ ≤ 140737488355328 := by
  obtain ⟨d, p, hd, hw⟩ := h
  have h2 : reachBytes ≤ 140737488355328 := by decide
  rcases DataW.trod_slice ht hd with ⟨rfl, hx⟩ | ⟨a, len, cap, elems, rest, m, rfl, rfl, hx, _, hl, hm, hlen, hel, _, _⟩
  · simp only [List.cons.injEq, Value.slice.injEq, and_true] at hcs
    obtain ⟨-, rfl, -⟩ := hcs
    omega
  · simp only [List.cons.injEq, Value.slice.injEq, and_true] at hcs
    obtain ⟨-, rfl, -⟩ := hcs
    simp only [Prod.mk.injEq] at hx
    obtain ⟨rfl, _⟩ := hx
    have := hw (((elems.map (·.1)).length + (rest.map (·.1)).length) * P.bytesOf e) (by simp only [DataW.weights, ht, List.mem_cons, true_or])
    rw [hby, List.length_map, hlen, List.length_map, Nat.add_mul] at this
    omega
theorem told_arena {t e i : TypeId} {fuel : Nat} {cs : List Value} (ht : P.underlying t = some (.slice e)) (he : P.underlying e = some (.slice i)) (hi : P.underlying i = some (.int .u64)) (hc : P.cellsOf e = 1) (hci : P.cellsOf i = 1) (hb : P.bytesOf e = 24) (hbi : P.bytesOf i = 8) (h : Told enc P w fuel t cs) :
    ∃ ad n c, ∃ A : List (List Int), cs = [.slice ad n c] ∧ n = A.length ∧ ArenaR w (.slice ad n c) A ∧ (∀ q ∈ A, ∀ x ∈ q, inR .u64 x) ∧ A.length ≤ 8796093022208 := by
  have h0 := h
  obtain ⟨f, ad, n, c, xs, rfl, rfl, h1, h2, R, hel⟩ := told_slice ht hc (by omega) hb (by omega) h
  have hlim := told_lim ht hb h0 rfl
  obtain ⟨l, hl, rfl⟩ := row_map (sz := 1) (f := fun a : { p : Value × List Int // Row w 1 p.1 p.2.length (wordsV p.2) ∧ ∀ x ∈ p.2, inR .u64 x } => a.1.1) (n := n) (by rw [R.len, Nat.mul_one]) fun j hj => by
    obtain ⟨a2, n2, c2, zs, e2, rfl, g1, g2, R2, hz⟩ := told_ints he hi hci hbi (by omega) (hel j hj)
    exact ⟨⟨(.slice a2 zs.length c2, zs), by exact ⟨_, _, rfl, g1, g2, R2⟩, hz⟩, e2⟩
  refine ⟨ad, n, c, l.map (·.1.2), rfl, by simp [hl], ⟨_, ⟨ad, c, by rw [List.length_map, hl], by rw [List.length_map, hl]; exact h1, h2, by rw [List.length_map, hl]; exact R⟩, fun k s hs => ?_⟩, fun q hq => ?_, by rw [List.length_map, hl]; omega⟩
  · rw [List.getElem?_map] at hs ⊢
    cases hk : l[k]? with
    | none => rw [hk] at hs; cases hs
    | some a =>
      rw [hk] at hs
      simp only [Option.map_some, Option.some.injEq] at hs
      subst hs
      exact ⟨_, rfl, a.2.1⟩
  · obtain ⟨a, _, rfl⟩ := List.mem_map.1 hq
    exact a.2.2
end
end Go.Proofs.Ytfhfecepcnapfaa.K

