/- Laid together: CG, CD, CK, PH, JQ, J17, K09, K10, WT, WW, Ro. Each part is plain law, a rule, or a walk of the functions that its names tell. -/
import Derived.Test.YtfhfecepcnapfaaX4
import Derived.WalkKit
import Derived.ProofKit
import Derived.OpenShut
import Derived.ChangeOld
import Derived.Carry
import Derived.SizedLaws
set_option linter.unusedVariables false
set_option linter.unusedSimpArgs false
namespace Go.Proofs.Ytfhfecepcnapfaa.K
open Go Go.RowKit Go.Proofs
attribute [local irreducible] Run1 OpG WL W AO Gives
set_option maxRecDepth 100000 in
theorem sizesg_calls (w : World) {u : Value} {A : List (List Int)} (hA : ArenaR w u A) (hn : A.length ≤ 8796093022208) : Calls Try.prog 62 #[u] w (Ret fun v w' => ∃ ad c, v = .slice ad A.length c ∧ RowAt w' 1 ad A.length ((sizesP A).map (.int .i64)) ∧ Grow w w') := by
 obtain ⟨ada, ca, segs, sa, sc, rfl, hca, hca2, RA, hsf, hrf⟩ := hA.fn
 have G := Grow.rfl' w
 refine calls_ret Try.func62 Try.ntmps62 Try.results62 rfl rfl ?_
 refine W_seq (W_region rfl ?_)
 refine stp (r_assign_slice rfl ?_)
 refine WL_nil ?_
 refine W_seq (W_region rfl ?_)
 refine stp (r_assign_slice rfl ?_)
 refine WL_nil ?_
 refine W_seq ?_
 refine W_seq (W_region rfl ?_)
 refine stp (r_move_slice rfl ?_)
 refine stp (r_len rfl rfl rfl ?_)
 refine stp (r_move_int rfl ?_)
 refine WL_nil ?_
 refine W_block ?_
 refine W_loop (fun m_ e_ w_ => ∃ (k : Nat) (ad3 : Option Addr) (n3 : Nat) (c3 : Nat), m_ = A.length - k ∧ Fr [(2, .slice none 0 0), (6, .slice ada A.length ca), (7, .int .i64 (A.length : Int)), (3, .slice ad3 n3 c3), (8, .int .i64 (k : Int))] e_ ∧ (k ≤ A.length) ∧ (w_.ownsRow w.heap.size 3 1 (.slice ad3 n3 c3) k ((sizesP (A.take k)).map (.int .i64))) ∧ Grow w w_) _ ⟨0, none, 0, 0, rfl, fr_of ⟨rfl, rfl, rfl, rfl, rfl, trivial⟩, by omega, World.ownsRow_nil _ _ _ _, G⟩ ?_
 clear G
 rintro m_ e_ w1 ⟨k, ad3, n3, c3, rfl, ⟨e2, rfl⟩, hk, own, G⟩
 refine W_seq (W_region rfl ?_)
 refine stp (r_lss rfl rfl ?_)
 refine WL_nil ?_
 refine W_seq ?_
 refine W_cond2 (b := (decide ((k : Int) < (A.length : Int)))) rfl (fun hlt => ?_) (fun hlt => ?_)
 ·-- true
  replace hlt := of_decide_eq_true hlt
  have hi : k < A.length := by omega
  have hlk := (hrf k hi).2.2.lim
  refine W_skip ?_
  refine W_seq ?_
  refine W_block ?_
  refine W_seq (W_region rfl ?_)
  refine stp (r_indexN (RA.grow G) rfl rfl ?_ ?_); omega
  refine stp (r_loadR (v := .slice (sa k) (len2 A k) (sc k)) (m := 0) (RA.grow G) rfl (by rw [Nat.mul_one]; exact hsf _ (by omega)) ?_)
  refine stp (r_assign_slice rfl ?_)
  refine WL_nil ?_
  refine W_region rfl ?_
  refine stp (r_move_slice rfl ?_)
  refine stp (r_move_slice rfl ?_)
  refine stp (r_len rfl rfl rfl ?_)
  refine stp (r_buildSlice (cs := #[.int .i64 ((len2 A k) : Int)]) (el := 3) (fun w => by kernel_rfl) ?_)
  intro bs3 w4 hb5 hc6 g7
  have hge8 := Nat.le_trans G.size hb5
  replace own := own_grow own g7
  replace G := G.tr g7
  clear g7
  refine stp (r_append rfl rfl rfl rfl own (Row.of_block (n := 1) hc6 rfl rfl (by omega)) (fun q_ hq_ => by simp at hq_; subst hq_; rfl) (by simp only [maxLen]; omega) (by omega) G.size ?_)
  intro v9 w10 own6 gr6
  replace G := G.grown gr6 (own_ge own)
  clear own gr6
  obtain ⟨ad4, n4, c4, rfl⟩ := own_slice own6
  refine stp (r_assign_slice rfl ?_)
  refine WL_nil ?_
  refine W_region rfl ?_
  refine stp (r_add rfl rfl ?_ ?_); constructor <;> omega
  refine stp (r_move_int rfl ?_)
  refine WL_nil ?_
  refine ⟨_, ?_, k + 1, ad4, n4, c4, rfl, fr_of ⟨rfl, rfl, rfl, rfl, congrArg (Value.int .i64) (by omega), trivial⟩, by omega, (by rw [sizesP_take hi, List.map_append]; exact own6), G⟩
  omega
 ·-- false
  replace hlt := of_decide_eq_false hlt
  have hk2 : k = A.length := by omega
  subst hk2
  rw [List.take_length] at own
  obtain ⟨ad9, c9, hs9, -, -, R9⟩ := own_row own (by omega)
  simp only [Value.slice.injEq] at hs9
  obtain ⟨rfl, rfl, rfl⟩ := hs9
  refine W_exit ?_
  refine W_seq (W_region rfl ?_)
  refine stp (r_move_slice rfl ?_)
  refine stp (r_assign_slice rfl ?_)
  refine WL_nil ?_
  refine W_ret ?_
  refine ret1 (res_tmp (v := .slice ad3 A.length c3) rfl) ⟨_, _, rfl, R9, G⟩

set_option maxRecDepth 100000 in
theorem fitsg_calls (w : World) {ad : Option Addr} {c : Nat} {A : List (List Int)} (R : RowAt w 1 ad A.length ((sizesP A).map (.int .i64))) (hs : ∀ i, len2 A i ≤ 140737488355328) : Gives Try.prog 61 #[.slice ad A.length c] w (.bool (rightB A)) := by
 have hl := sizesP_len A
 have G := Grow.rfl' w
 refine gives_of Try.func61 Try.ntmps61 Try.results61 rfl rfl ?_
 refine W_seq (W_region rfl ?_)
 refine stp (r_assign (v := .bool false) rfl ?_)
 refine WL_nil ?_
 refine W_seq ?_
 refine W_seq (W_region rfl ?_)
 refine stp (r_move_slice rfl ?_)
 refine stp (r_len rfl rfl rfl ?_)
 refine stp (r_lss rfl rfl ?_)
 refine stp (r_move_bool rfl ?_)
 refine WL_some (og_if (s := .bool (decide ((A.length : Int) < 1))) (b := false) (v := .slice ad A.length c) rfl (wgb_f _) (fun hc1 => ?_) ?_)
 ·
  have hc1_ := hc1
  try simp only [sb] at hc1_
  refine r_move_slice rfl ?_
  exact ⟨rfl, rfl⟩
 refine WL_some (og_if (s := .bool (decide ((A.length : Int) < 1))) (b := false) (v := .int .i64 (A.length : Int)) rfl (wgb_f _) (fun hc2 => ?_) ?_)
 ·
  have hc2_ := hc2
  try simp only [sb] at hc2_
  refine r_len rfl rfl (gvt hc2) ?_
  exact ⟨rfl, rfl⟩
 refine WL_some (og_if (s := .bool (decide ((A.length : Int) < 1))) (b := false) (v := .bool (decide ((A.length : Int) > 16))) rfl (wgb_f _) (fun hc3 => ?_) ?_)
 ·
  have hc3_ := hc3
  try simp only [sb] at hc3_
  refine r_gtr (gvt hc3) rfl ?_
  exact ⟨rfl, rfl⟩
 refine stp (r_or2 rfl rfl rfl ?_)
 refine stp (r_move_bool rfl ?_)
 refine WL_some (og_if (s := .bool ((decide ((A.length : Int) < 1)) || (decide ((A.length : Int) > 16)))) (b := false) (v := .slice ad A.length c) rfl (wgb_f _) (fun hc4 => ?_) ?_)
 ·
  have hc4_ := hc4
  try simp only [sb] at hc4_
  refine r_move_slice rfl ?_
  exact ⟨rfl, rfl⟩
 refine WL_some (og_if (s := .bool ((decide ((A.length : Int) < 1)) || (decide ((A.length : Int) > 16)))) (b := false) (v := .pointer (some (eadr ad ((0 : Int).toNat * 1)))) rfl (wgb_f _) (fun hc5 => ?_) ?_)
 ·
  have hc5_ := hc5
  try simp only [sb] at hc5_
  refine r_indexR (R.grow G) (gvt hc5) rfl ?_ ?_ ?_; omega; omega
  exact ⟨rfl, rfl⟩
 refine WL_some (og_if (s := .bool ((decide ((A.length : Int) < 1)) || (decide ((A.length : Int) > 16)))) (b := false) (v := .int .i64 ((sizesP A).getD 0 0)) rfl (wgb_f _) (fun hc6 => ?_) ?_)
 ·
  have hc6_ := hc6
  try simp only [sb] at hc6_
  refine r_loadR (v := .int .i64 ((sizesP A).getD 0 0)) (m := 0) (R.grow G) (gvt hc6) (show _ from map_get1 (j := 0) 0 (by omega)) ?_
  exact ⟨rfl, rfl⟩
 refine WL_some (og_if (s := .bool ((decide ((A.length : Int) < 1)) || (decide ((A.length : Int) > 16)))) (b := false) (v := .bool (decide (((sizesP A).getD 0 0) < 1))) rfl (wgb_f _) (fun hc7 => ?_) ?_)
 ·
  have hc7_ := hc7
  try simp only [sb] at hc7_
  refine r_lss (gvt hc7) rfl ?_
  exact ⟨rfl, rfl⟩
 refine stp (r_or2 rfl rfl rfl ?_)
 refine WL_nil ?_
 refine W_cond2 (b := (((decide ((A.length : Int) < 1)) || (decide ((A.length : Int) > 16))) || (decide (((sizesP A).getD 0 0) < 1)))) rfl (fun h1 => ?_) (fun h1 => ?_)
 ·-- true
  simp only [sb] at h1
  have hg0 := sizesP_at A 0
  refine W_seq (W_region rfl ?_)
  refine stp (r_assign (v := .bool false) rfl ?_)
  refine WL_nil ?_
  refine W_ret ?_
  have h9 : rightB A = false := by unfold rightB; exact decide_eq_false (by omega)
  refine ret1 (res_tmp (v := .bool false) rfl) ⟨?_, G⟩
  rw [h9]
 ·-- false
  simp only [sb] at h1
  have hg0 := sizesP_at A 0
  have h1' : 1 ≤ A.length ∧ A.length ≤ 16 ∧ 1 ≤ len2 A 0 := by omega
  clear h1
  refine W_skip ?_
  refine W_seq (W_region rfl ?_)
  refine stp (r_assign_int rfl ?_)
  refine WL_nil ?_
  refine W_seq ?_
  refine W_seq (W_region rfl ?_)
  refine stp (r_move_slice rfl ?_)
  refine stp (r_len rfl rfl rfl ?_)
  refine stp (r_move_int rfl ?_)
  refine WL_nil ?_
  refine W_block ?_
  refine W_loop (fun m_ e_ w_ => ∃ (k : Nat), m_ = A.length - k ∧ Fr [(22, .slice ad A.length c), (23, .int .i64 (A.length : Int)), (3, .int .i64 (totalP (A.take k))), (24, .int .i64 (k : Int))] e_ ∧ (k ≤ A.length) ∧ (totalP (A.take k) ≤ 4096) ∧ Grow w w_) _ ⟨0, rfl, fr_of ⟨rfl, rfl, rfl, rfl, trivial⟩, by omega, by simp [totalP], G⟩ ?_
  clear G
  rintro m_ e_ w8 ⟨k, rfl, ⟨e9, rfl⟩, hk, htk, G⟩
  refine W_seq (W_region rfl ?_)
  refine stp (r_lss rfl rfl ?_)
  refine WL_nil ?_
  refine W_seq ?_
  refine W_cond2 (b := (decide ((k : Int) < (A.length : Int)))) rfl (fun hlt => ?_) (fun hlt => ?_)
  ·-- true
   replace hlt := of_decide_eq_true hlt
   have hi : k < A.length := by omega
   have hg := sizesP_at A k
   have hlk := hs k
   have ht1 := totalP_take hi
   have ht2 := totalP_le (A := A) (k + 1)
   have ht3 := totalP_nn (A.take k)
   have hak : ((A[k].length : Nat) : Int) = (len2 A k : Int) := by simp only [len2]; rw [getD_at hi]
   have hadd : addOk (totalP (A.take k)) ((sizesP A).getD k 0) 4096 = decide (totalP (A.take (k + 1)) ≤ 4096) := by unfold addOk; by_cases h_ : totalP (A.take (k + 1)) ≤ 4096; (rw [decide_eq_true h_]; exact decide_eq_true (by omega)); (rw [decide_eq_false h_]; exact decide_eq_false (by omega))
   refine W_skip ?_
   refine W_seq ?_
   refine W_block ?_
   refine W_seq (W_region rfl ?_)
   refine stp (r_indexN (R.grow G) rfl rfl ?_ ?_); omega
   refine stp (r_loadR (v := .int .i64 ((sizesP A).getD k 0)) (m := 0) (R.grow G) rfl (map_get1 0 (by omega)) ?_)
   refine stp (r_assign_int rfl ?_)
   refine WL_nil ?_
   refine W_seq (W_region rfl ?_)
   refine stp (r_move_int rfl ?_)
   refine stp (r_move_int rfl ?_)
   refine stp (r_gives (v := .tuple #[.int .i64 (if addOk (totalP (A.take k)) ((sizesP A).getD k 0) 4096 then totalP (A.take k) + (sizesP A).getD k 0 else 0), .bool (addOk (totalP (A.take k)) ((sizesP A).getD k 0) 4096)]) rfl (addg_calls _ (a := totalP (A.take k)) (b := (sizesP A).getD k 0) (m := 4096) (by simp only [inR]; omega) (by simp only [inR]; omega) (by simp only [inR]; omega)) ?_)
   intro w10 g11
   replace G := G.tr g11
   clear g11
   refine stp (r_move (v := .tuple #[.int .i64 (if addOk (totalP (A.take k)) ((sizesP A).getD k 0) 4096 then totalP (A.take k) + (sizesP A).getD k 0 else 0), .bool (addOk (totalP (A.take k)) ((sizesP A).getD k 0) 4096)]) rfl ?_)
   refine stp (r_extract (v := .int .i64 (if addOk (totalP (A.take k)) ((sizesP A).getD k 0) 4096 then totalP (A.take k) + (sizesP A).getD k 0 else 0)) rfl rfl ?_)
   refine stp (r_extract (v := .bool (addOk (totalP (A.take k)) ((sizesP A).getD k 0) 4096)) rfl rfl ?_)
   refine stp (r_assign_int rfl ?_)
   refine stp (r_assign_bool rfl ?_)
   refine WL_nil ?_
   refine W_seq ?_
   refine W_seq (W_region rfl ?_)
   refine stp (r_move_bool rfl ?_)
   refine stp (r_not rfl ?_)
   refine WL_nil ?_
   refine W_cond2 (b := (!(addOk (totalP (A.take k)) ((sizesP A).getD k 0) 4096))) rfl (fun h3 => ?_) (fun h3 => ?_)
   ·-- true
    simp only [sb] at h3
    rw [hadd] at h3
    refine W_seq (W_region rfl ?_)
    refine stp (r_assign (v := .bool false) rfl ?_)
    refine WL_nil ?_
    refine W_ret ?_
    have h9 : rightB A = false := by unfold rightB; exact decide_eq_false (by simp at h3; omega)
    refine ret1 (res_tmp (v := .bool false) rfl) ⟨?_, G⟩
    rw [h9]
   ·-- false
    simp only [sb] at h3
    rw [hadd] at h3
    have h3_ : totalP (A.take (k + 1)) ≤ 4096 := by simpa using h3
    refine W_skip ?_
    refine W_region rfl ?_
    refine stp (r_move_int rfl ?_)
    refine stp (r_assign_int rfl ?_)
    refine WL_nil ?_
    refine W_region rfl ?_
    refine stp (r_add rfl rfl ?_ ?_); constructor <;> omega
    refine stp (r_move_int rfl ?_)
    refine WL_nil ?_
    refine ⟨_, ?_, k + 1, rfl, fr_of ⟨rfl, rfl, congrArg (Value.int .i64) (by rw [hadd, decide_eq_true h3_, if_pos rfl]; omega), rfl, trivial⟩, by omega, by omega, G⟩
    omega
  ·-- false
   replace hlt := of_decide_eq_false hlt
   have hk2 : k = A.length := by omega
   subst hk2
   rw [List.take_length] at htk
   refine W_exit ?_
   refine W_seq (W_region rfl ?_)
   refine stp (r_assign (v := .bool true) rfl ?_)
   refine WL_nil ?_
   refine W_ret ?_
   have h9 : rightB A = true := by unfold rightB; exact decide_eq_true (by omega)
   refine ret1 (res_tmp (v := .bool true) rfl) ⟨?_, G⟩
   rw [h9]

set_option maxRecDepth 100000 in
theorem rightg_calls (w : World) {u : Value} {A : List (List Int)} (hA : ArenaR w u A) (hn : A.length ≤ 8796093022208) : Gives Try.prog 37 #[u] w (.bool (rightB A)) := by
 have hA0 := hA
 obtain ⟨ada, ca, segs, sa, sc, rfl, hca, hca2, RA, hsf, hrf⟩ := hA.fn
 have hs : ∀ i, len2 A i ≤ 140737488355328 := fun i => by by_cases hi : i < A.length; exact (hrf i hi).2.2.lim; (have := len2_none (A := A) (j := i) (by omega); omega)
 have G := Grow.rfl' w
 refine gives_of Try.func37 Try.ntmps37 Try.results37 rfl rfl ?_
 refine W_seq (W_region rfl ?_)
 refine stp (r_assign (v := .bool false) rfl ?_)
 refine WL_nil ?_
 refine W_seq (W_region rfl ?_)
 refine stp (r_move_slice rfl ?_)
 refine WL_some (og rfl ?_)
 refine r_call rfl (sizesg_calls _ (hA0.grow G) hn) ?_
 rintro v_ w1 ⟨ad9, c9, rfl, RZ, g_⟩
 replace G := G.tr g_
 clear g_
 refine stp (r_gives (v := .bool (rightB A)) rfl (fitsg_calls _ RZ hs) ?_)
 intro w2 g3
 replace RZ := RZ.grow g3
 replace G := G.tr g3
 clear g3
 refine stp (r_assign_bool rfl ?_)
 refine WL_nil ?_
 refine W_ret ?_
 refine ret1 (res_tmp (v := .bool (rightB A)) rfl) ⟨?_, G⟩
 rfl

set_option maxRecDepth 100000 in
theorem Decodeg_calls (w : World) {u : Value} {A : List (List Int)} (hA : ArenaR w u A) (hn : A.length ≤ 8796093022208) (hx : ∀ q ∈ A, ∀ x ∈ q, inR .u64 x) : Calls Try.prog 22 #[u] w (Ret fun v w' => ∃ cells, v = .tuple #[.agg cells.toArray, .int .u16 (decT A).2] ∧ NodeR (hide w.heap.size w') cells (decT A).1 ∧ Grow w w') := by
 have hA0 := hA
 obtain ⟨ada, ca, segs, sa, sc, rfl, hca, hca2, RA, hsf, hrf⟩ := hA.fn
 have G := Grow.rfl' w
 refine calls_ret Try.func22 Try.ntmps22 Try.results22 rfl rfl ?_
 refine W_seq (W_region rfl ?_)
 refine stp (r_alloc ?_)
 intro b1 w2 hb3 hc4 g5
 refine stp (r_assign_int rfl ?_)
 refine WL_nil ?_
 refine W_seq ?_
 refine W_seq (W_region rfl ?_)
 refine stp (r_move_slice rfl ?_)
 have hge6 := Nat.le_trans G.size hb3
 replace G := G.tr g5
 clear g5 hb3
 refine stp (r_gives (v := .bool (rightB A)) rfl (rightg_calls _ (hA0.grow G) hn) ?_)
 intro w7 g8
 replace hc4 := g8.heap hc4
 replace G := G.tr g8
 clear g8
 refine stp (r_not rfl ?_)
 refine WL_nil ?_
 refine W_cond2 (b := (!(rightB A))) rfl (fun h1 => ?_) (fun h1 => ?_)
 ·-- true
  simp only [sb] at h1
  have h9 : decT A = (.nil, 1) := if_pos (by simpa using h1)
  refine W_seq (W_region rfl ?_)
  refine stp (r_build (v := .agg #[.int .i64 0, .int .i64 0, .slice none 0 0, .slice none 0 0, .slice none 0 0]) (fun w => by kernel_rfl) ?_)
  refine stn (r_storeAll rfl rfl hc4 (by rfl) (by rfl) (by rfl) ?_)
  intro w9 hc10 u11
  replace G := G.upd u11 hge6
  clear u11 hc4
  refine stp (r_assign_int rfl ?_)
  refine WL_nil ?_
  refine W_ret ?_
  rw [h9]
  refine ret2 (res_all rfl hc10 (by rfl)) (res_tmp (v := .int .u16 1) rfl) ⟨[_, _, _, _, _], rfl, NodeR.zero _, G⟩
 ·-- false
  simp only [sb] at h1
  have h1' : rightB A = true := by simpa using h1
  have hr : OkA A := rightB_ok h1' hx
  have h9 : decT A = (nodeD (wholeS A) 32 0 0 0).2 := if_neg (by simp [h1'])
  rw [h9]
  refine W_skip ?_
  refine W_seq (W_region rfl ?_)
  refine stp (r_move_slice rfl ?_)
  refine stp (r_gives (v := .iface 118 (.agg #[.slice ada A.length ca])) rfl (whole_calls _) ?_)
  intro w12 g13
  replace hc4 := g13.heap hc4
  replace G := G.tr g13
  clear g13
  refine stp (r_build (v := .agg #[.iface 118 (.agg #[.slice ada A.length ca]), .int .i64 0]) (fun w => by kernel_rfl) ?_)
  refine WL_some (og rfl ?_)
  (first | refine r_box_agg rfl ?_ | refine r_box_int rfl ?_ | refine r_box_slice rfl ?_ | refine r_box rfl rfl ?_)
  intro b14 w15 hb16 hc17 g18
  have hge19 := Nat.le_trans G.size hb16
  have ne20 := Nat.ne_of_lt (Nat.lt_of_lt_of_le (lt_of_heap hc4) hb16)
  replace hc4 := g18.heap hc4
  replace G := G.tr g18
  clear g18 hb16
  refine stp (r_assign_ptr rfl ?_)
  refine WL_nil ?_
  refine W_seq (W_region rfl ?_)
  refine stp (r_move_ptr rfl ?_)
  refine WL_some (og rfl ?_)
  have hcal := dnode_calls _ _ (whole_ok hA0 hr) G hge19 hc17 (by decide) (by decide) 0 (a := 0) (by decide) (by decide) (d := 32) (by decide) (Nat.le_refl _)
  have hlow := G.size
  have hlt1 := lt_of_heap hc4
  refine r_call rfl hcal ?_
  rintro v_ w21 ⟨cells, rfl, hT9, hb9, K_⟩
  clear hcal
  replace hc4 := K_.heap hc4 (fun hm_ => by simp only [List.mem_singleton] at hm_; first | exact ne20 hm_ | exact ne20 hm_.symm)
  replace G := G.trK K_ (fun x_ hx_ => by simp only [List.mem_singleton] at hx_; subst hx_; exact hge19)
  clear K_ hc17
  obtain ⟨y0, y1, ya, yn, yc, za, zn, zc, ua, un, uc, rfl⟩ := hT9.cells
  refine stp (r_extract (v := .agg #[.int .i64 y0, .int .i64 y1, .slice ya yn yc, .slice za zn zc, .slice ua un uc]) rfl rfl ?_)
  refine stp (r_extract (v := .int .u16 ((nodeD (wholeS A) 32 0 0 0).2.2)) rfl rfl ?_)
  refine stn (r_storeAll rfl rfl hc4 (by rfl) (by rfl) (by rfl) ?_)
  intro w22 hc23 u24
  replace hb9 := u24.heap hb9 ne20.symm
  replace hT9 := hT9.sees (Sees.upd u24 (fun h_ => absurd h_ (Nat.not_le.2 hlt1)))
  replace G := G.upd u24 hge6
  clear u24 hc4
  refine stp (r_assign_int rfl ?_)
  refine WL_nil ?_
  refine W_ret ?_
  refine ret2 (res_all rfl hc23 (by rfl)) (res_tmp (v := .int .u16 ((nodeD (wholeS A) 32 0 0 0).2.2)) rfl) ⟨_, rfl, hT9.sees (Sees.low hlow _), G⟩
end Go.Proofs.Ytfhfecepcnapfaa.K

namespace Go.Proofs.Ytfhfecepcnapfaa.K
open Go Go.RowKit Go.Proofs
attribute [local irreducible] Run1 OpG WL W AO Gives
set_option maxRecDepth 100000 in
theorem cloneNil_calls (w : World)  : Gives Try.prog 68 #[.slice none 0 0] w (.slice none 0 0) := by
 have G := Grow.rfl' w
 refine gives_of Try.func68 Try.ntmps68 Try.results68 rfl rfl ?_
 refine W_seq (W_region rfl ?_)
 refine stp (r_assign_slice rfl ?_)
 refine WL_nil ?_
 refine W_seq ?_
 refine W_seq (W_region rfl ?_)
 refine stp (r_move_slice rfl ?_)
 refine stp (r_eqlNil rfl rfl ?_)
 refine WL_nil ?_
 refine W_true rfl ?_
 refine W_seq (W_region rfl ?_)
 refine stp (r_assign_slice rfl ?_)
 refine WL_nil ?_
 refine W_ret ?_
 refine ret1 (res_tmp (v := .slice none 0 0) rfl) ⟨?_, G⟩
 rfl

set_option maxRecDepth 100000 in
theorem each_calls (w : World) {y0 y1 : Int} {ya za ua : Option Addr} {yn yc zn zc un uc : Nat} {ad : Option Addr} {n c : Nat} : Calls Try.prog 40 #[.agg #[.int .i64 y0, .int .i64 y1, .slice ya yn yc, .slice za zn zc, .slice ua un uc], .slice ad n c] w (Ret fun v w' => ∃ b1 b2, v = .func (.func 67) #[] #[.pointer (some ⟨b1, 0, none⟩), .pointer (some ⟨b2, 0, none⟩)] ∧ w.heap.size ≤ b1 ∧ w.heap.size ≤ b2 ∧ w'.heap[b1]? = some (.cells #[.int .i64 y0, .int .i64 y1, .slice ya yn yc, .slice za zn zc, .slice ua un uc] 37 (0, 0)) ∧ w'.heap[b2]? = some (.cells #[.slice ad n c] 31 (0, 0)) ∧ Grow w w') := by
 have G := Grow.rfl' w
 refine calls_ret Try.func40 Try.ntmps40 Try.results40 rfl rfl ?_
 refine W_seq (W_region rfl ?_)
 refine WL_some (og rfl ?_)
 (first | refine r_box_agg rfl ?_ | refine r_box_int rfl ?_ | refine r_box_slice rfl ?_ | refine r_box rfl rfl ?_)
 intro b1 w2 hb3 hc4 g5
 have hge6 := Nat.le_trans G.size hb3
 replace G := G.tr g5
 clear g5 hb3
 refine WL_some (og rfl ?_)
 (first | refine r_box_agg rfl ?_ | refine r_box_int rfl ?_ | refine r_box_slice rfl ?_ | refine r_box rfl rfl ?_)
 intro b7 w8 hb9 hc10 g11
 have hge12 := Nat.le_trans G.size hb9
 replace hc4 := g11.heap hc4
 replace G := G.tr g11
 clear g11 hb9
 refine stp (r_assign (v := .nilFunc) rfl ?_)
 refine WL_nil ?_
 refine W_seq (W_region rfl ?_)
 refine stp (r_makeFunc (vs := []) (us := [.pointer (some ⟨b1, 0, none⟩), .pointer (some ⟨b7, 0, none⟩)]) rfl rfl ?_)
 refine stp (r_assign (v := .func (.func 67) #[] #[.pointer (some ⟨b1, 0, none⟩), .pointer (some ⟨b7, 0, none⟩)]) rfl ?_)
 refine WL_nil ?_
 refine W_ret ?_
 refine ret1 (res_tmp (v := .func (.func 67) #[] #[.pointer (some ⟨b1, 0, none⟩), .pointer (some ⟨b7, 0, none⟩)]) rfl) ⟨_, _, rfl, hge6, hge12, hc4, hc10, G⟩

set_option maxRecDepth 100000 in
theorem each0_calls (w : World) {q1 q2 l : Nat} {y0 y1 : Int} {ya za ua : Option Addr} {yn yc zn zc uc : Nat} (hyn : yn ≤ 1000) (hzn : zn ≤ 1000) (I : Nat → World → Prop) (hI : ∀ i w', I i w' → w'.heap[q1]? = some (.cells #[.int .i64 y0, .int .i64 y1, .slice ya yn yc, .slice za zn zc, .slice ua 0 uc] 37 (0, 0)) ∧ w'.heap[q2]? = some (.cells #[.slice none 0 0] 31 (0, 0))) (hgr : ∀ i w' w'', Grow w' w'' → I i w' → I i w'') (hy : ∀ i w', i < (1 + yn + zn) → I i w' → Yields Try.prog l #[.agg #[.slice none 0 0, .int .i64 ((i : Int) - 1)]] w' (fun v w'' => v = .bool true ∧ I (i + 1) w'' ∧ ∀ (b : Nat) (cs : Array Value) (fr : Nat × Nat), w'.heap[b]? = some (Obj.cells cs 126 fr) → w''.heap[b]? = some (Obj.cells cs 126 fr))) (h0 : I 0 w) : Calls Try.prog 67 #[.func (.yield l) #[] #[], .pointer (some ⟨q1, 0, none⟩), .pointer (some ⟨q2, 0, none⟩)] w (Ret fun v w' => I (1 + yn + zn) w') := by
 refine calls_ret Try.func67 Try.ntmps67 Try.results67 rfl rfl ?_
 have HI := h0
 refine W_seq (W_region rfl ?_)
 refine WL_some (og rfl ?_)
 (first | refine r_box_agg rfl ?_ | refine r_box_int rfl ?_ | refine r_box_slice rfl ?_ | refine r_box rfl rfl ?_)
 intro b1 w2 hb3 hc4 g5
 replace HI := hgr _ _ _ g5 HI
 clear g5 hb3
 refine WL_nil ?_
 obtain ⟨hb6, hb7⟩ := hI _ _ HI
 refine W_seq ?_
 refine W_seq (W_region rfl ?_)
 refine stp (r_fieldAddr rfl ?_)
 refine stp (r_load (v := .slice ya yn yc) rfl hb6 rfl ?_)
 refine stp (r_len rfl rfl rfl ?_)
 refine stp (r_add rfl rfl ?_ ?_); constructor <;> omega
 refine stp (r_fieldAddr rfl ?_)
 refine stp (r_load (v := .slice za zn zc) rfl hb6 rfl ?_)
 refine stp (r_len rfl rfl rfl ?_)
 refine WL_some (og rfl ?_)
 refine r_add rfl rfl ?_ ?_; constructor <;> omega
 rw [show 1 + (yn : Int) + (zn : Int) = (((1 + yn + zn) : Nat) : Int) from by omega]
 refine stp (r_move_int rfl ?_)
 refine WL_nil ?_
 refine W_block ?_
 refine W_loop (fun m_ e_ w_ => ∃ (k : Nat), m_ = (1 + yn + zn) - k ∧ Fr [(1, .pointer (some ⟨q1, 0, none⟩)), (2, .pointer (some ⟨q2, 0, none⟩)), (3, .pointer (some ⟨b1, 0, none⟩)), (15, .int .i64 (((1 + yn + zn) : Nat) : Int)), (16, .int .i64 (k : Int))] e_ ∧ (k ≤ (1 + yn + zn)) ∧ (w_.heap[b1]? = some (.cells #[.func (.yield l) #[] #[]] 126 (0, 0))) ∧ (I k w_)) _ ⟨0, rfl, fr_of ⟨rfl, rfl, rfl, rfl, rfl, trivial⟩, by omega, hc4, HI⟩ ?_
 clear HI hc4 hb6 hb7
 rintro m_ e_ w8 ⟨k, rfl, ⟨e9, rfl⟩, hk, hc4, HI⟩
 obtain ⟨hb10, hb11⟩ := hI k _ HI
 refine W_seq (W_region rfl ?_)
 refine stp (r_lss rfl rfl ?_)
 refine WL_nil ?_
 refine W_seq ?_
 refine W_cond2 (b := (decide ((k : Int) < (((1 + yn + zn) : Nat) : Int)))) rfl (fun hlt => ?_) (fun hlt => ?_)
 ·-- true
  replace hlt := of_decide_eq_true hlt
  refine W_skip ?_
  refine W_seq ?_
  refine W_block ?_
  refine W_seq (W_region rfl ?_)
  refine stp (r_move_int rfl ?_)
  refine stp (r_assign_int rfl ?_)
  refine WL_nil ?_
  refine W_seq ?_
  refine W_any 6 [[], [], [0], [], [0], [3, 2, 1, 0]] mixed (by kernel_rfl) (by kernel_rfl) (by kernel_rfl) ?_
  intro w12 g13
  replace hc4 := g13.heap hc4
  replace HI := hgr _ _ _ g13 HI
  replace hb10 := g13.heap hb10
  replace hb11 := g13.heap hb11
  clear g13
  apply AO_ex
  ·intro w_ g_; refine og rfl ?_; refine r_load (v := .func (.yield l) #[] #[]) rfl (g_.heap hc4) rfl ?_; exact ⟨Grow.rfl' _, rfl⟩
  apply AO_ex
  ·intro w_ g_; refine og rfl ?_; refine r_load (v := .slice none 0 0) rfl (g_.heap hb11) rfl ?_; exact ⟨Grow.rfl' _, rfl⟩
  apply AO_ex
  ·intro w_ g_; refine og rfl ?_; exact r_gives (v := .slice none 0 0) rfl (cloneNil_calls _) (fun w2_ g2_ => ⟨g2_, rfl⟩)
  apply AO_ex
  ·intro w_ g_; refine og rfl ?_; refine r_move_int rfl ?_; exact ⟨Grow.rfl' _, rfl⟩
  apply AO_ex
  ·intro w_ g_; refine og rfl ?_; refine r_sub rfl rfl ?_ ?_; constructor <;> omega; exact ⟨Grow.rfl' _, rfl⟩
  apply AO_ex
  ·intro w_ g_; refine og rfl ?_; refine r_build (v := .agg #[.slice none 0 0, .int .i64 ((k : Int) - 1)]) (fun w => by kernel_rfl) ?_; exact ⟨Grow.rfl' _, rfl⟩
  refine AO_nil ?_
  intro w14 g15
  replace hc4 := g15.heap hc4
  replace HI := hgr _ _ _ g15 HI
  replace hb10 := g15.heap hb10
  replace hb11 := g15.heap hb11
  clear g15
  refine stp (r_yield rfl (Yields.mono ?_ (hy k _ (by omega) HI)))
  rintro v_ w16 ⟨rfl, HI2, HF_⟩
  replace hc4 := HF_ _ _ _ hc4
  clear HI
  refine stp (r_not_f rfl rfl ?_)
  refine WL_nil ?_
  refine W_false rfl ?_
  refine W_skip ?_
  refine W_region rfl ?_
  refine stp (r_add rfl rfl ?_ ?_); constructor <;> omega
  refine stp (r_move_int rfl ?_)
  refine WL_nil ?_
  refine ⟨_, ?_, k + 1, rfl, fr_of ⟨rfl, rfl, rfl, rfl, congrArg (Value.int .i64) (by omega), trivial⟩, by omega, hc4, HI2⟩
  omega
 ·-- false
  replace hlt := of_decide_eq_false hlt
  have hk9 : (1 + yn + zn) = k := by omega
  rw [hk9]
  obtain ⟨hb17, hb18⟩ := hI k _ HI
  refine W_exit ?_
  refine W_seq (W_region rfl ?_)
  refine stp (r_fieldAddr rfl ?_)
  refine stp (r_load (v := .slice ua 0 uc) rfl hb17 rfl ?_)
  refine stp (r_len rfl rfl rfl ?_)
  refine stp (r_move_int rfl ?_)
  refine WL_nil ?_
  refine W_block ?_
  refine W_loop (fun m_ e_ w_ => m_ = 0 ∧ Fr [(2, .pointer (some ⟨q2, 0, none⟩)), (3, .pointer (some ⟨b1, 0, none⟩)), (29, .slice ua 0 uc), (30, .int .i64 0), (31, .int .i64 0)] e_ ∧ (w_.heap[b1]? = some (.cells #[.func (.yield l) #[] #[]] 126 (0, 0))) ∧ (I k w_)) _ ⟨rfl, fr_of ⟨rfl, rfl, rfl, rfl, rfl, trivial⟩, hc4, HI⟩ ?_
  clear hc4 HI hb10 hb11 hb17 hb18
  rintro m_ e_ w19 ⟨rfl, ⟨e20, rfl⟩, hc4, HI⟩
  obtain ⟨hb21, hb22⟩ := hI k _ HI
  refine W_seq (W_region rfl ?_)
  refine stp (r_lss_f rfl rfl (by omega) ?_)
  refine WL_nil ?_
  refine W_seq ?_
  refine W_false rfl ?_
  refine W_exit ?_
  exact ret0n HI

set_option maxRecDepth 100000 in
theorem paths0_calls (w : World) {y0 y1 most : Int} {ya za ua : Option Addr} {yn yc zn zc uc : Nat} (hm : (yn : Int) + zn < most) (hm2 : yn + zn ≤ 1000) : Calls Try.prog 24 #[.agg #[.int .i64 y0, .int .i64 y1, .slice ya yn yc, .slice za zn zc, .slice ua 0 uc], .int .i64 most] w (Ret fun v w' => ∃ ad c, v = .slice ad (1 + yn + zn) c ∧ Grow w w') := by
 have G := Grow.rfl' w
 refine calls_ret Try.func24 Try.ntmps24 Try.results24 rfl rfl ?_
 refine W_seq (W_region rfl ?_)
 refine WL_some (og rfl ?_)
 (first | refine r_box_agg rfl ?_ | refine r_box_int rfl ?_ | refine r_box_slice rfl ?_ | refine r_box rfl rfl ?_)
 intro b1 w2 hb3 hc4 g5
 have hge6 := Nat.le_trans G.size hb3
 replace G := G.tr g5
 clear g5 hb3
 refine WL_some (og rfl ?_)
 (first | refine r_box_agg rfl ?_ | refine r_box_int rfl ?_ | refine r_box_slice rfl ?_ | refine r_box rfl rfl ?_)
 intro b7 w8 hb9 hc10 g11
 have hge12 := Nat.le_trans G.size hb9
 replace hc4 := g11.heap hc4
 replace G := G.tr g11
 clear g11 hb9
 refine stp (r_assign_slice rfl ?_)
 refine WL_nil ?_
 refine W_seq (W_region rfl ?_)
 refine stp (r_alloc ?_)
 intro b13 w14 hb15 hc16 g17
 refine WL_nil ?_
 refine W_seq ?_
 refine W_seq (W_region rfl ?_)
 have hge18 := Nat.le_trans G.size hb15
 have ne19 := Nat.ne_of_lt (Nat.lt_of_lt_of_le (lt_of_heap hc4) hb15)
 have ne20 := Nat.ne_of_lt (Nat.lt_of_lt_of_le (lt_of_heap hc10) hb15)
 replace hc4 := g17.heap hc4
 replace hc10 := g17.heap hc10
 replace G := G.tr g17
 clear g17 hb15
 refine stp (r_loadAll rfl hc4 (by rfl) ?_)
 refine WL_some (og rfl ?_)
 have lt0_hc4 := lt_of_heap hc4
 have lt0_hc10 := lt_of_heap hc10
 have lt0_hc16 := lt_of_heap hc16
 refine r_call rfl (each_calls _) ?_
 rintro v_ w21 ⟨q1, q2, rfl, hq1, hq2, hc1, hc2, g_⟩
 replace hc4 := g_.heap hc4
 replace hc10 := g_.heap hc10
 replace hc16 := g_.heap hc16
 replace G := G.tr g_
 clear g_
 refine WL_nil ?_
 refine W_block ?_
 refine W_rangeC rfl rfl ?_
 intro rc hst hpd hps has hbd hsz hge l w6 hl hlp hmk g6 hw6
 have lt_hc4 := lt_of_heap hc4
 have lt_hc10 := lt_of_heap hc10
 have lt_hc16 := lt_of_heap hc16
 have lt_hc1 := lt_of_heap hc1
 have lt_hc2 := lt_of_heap hc2
 replace hc4 := g6.heap hc4
 replace hc10 := g6.heap hc10
 replace hc16 := g6.heap hc16
 replace hc1 := g6.heap hc1
 replace hc2 := g6.heap hc2
 have hGs := G.size
 have hg5 := hge18
 have hg3 := hge12
 replace G := G.tr g6
 generalize hmm : w21.heap.size = mk at *
 refine Calls.mono (each0_calls w6 (l := l) (q1 := q1) (q2 := q2) (by omega) (by omega) (fun j W => (∃ v xs, W.heap[b13]? = some (.cells #[v] 53 (0, 0)) ∧ W.ownsRow w.heap.size 33 2 v j xs) ∧ W.heap[b7]? = some (.cells #[.int .i64 most] 3 (0, 0)) ∧ W.heap[q1]? = some (.cells #[.int .i64 y0, .int .i64 y1, .slice ya yn yc, .slice za zn zc, .slice ua 0 uc] 37 (0, 0)) ∧ W.heap[q2]? = some (.cells #[.slice none 0 0] 31 (0, 0)) ∧ W.heap[l]? = some (.loop rc) ∧ W.heap[mk]? = some (.deferred (some [])) ∧ Grow w W) (fun i w' h => ⟨h.2.2.1, h.2.2.2.1⟩) (fun i w' w'' g ⟨⟨v, xs, h1, h2⟩, h3, h4, h5, h6, h7, h8⟩ => ⟨⟨v, xs, g.heap h1, own_grow h2 g⟩, g.heap h3, g.heap h4, g.heap h5, g.heap h6, g.heap h7, h8.tr g⟩) ?_ ⟨⟨_, [], hc16, World.ownsRow_nil _ _ _ _⟩, hc10, hc1, hc2, hlp, hmk, G⟩) ?_
 ·rintro j w7 hj ⟨⟨vc2, xs, h1, own2⟩, h3, h4, h5, h6, h7, G7⟩
  refine yields_of_W (ps := [9]) (vs := [_]) (n := 20) h6 hps rfl hsz (by rfl) hge ?_
  rw [has, hbd]
  have hF0 : ∀ (b : Nat) (cs : Array Value) (fr : Nat × Nat), w7.heap[b]? = some (Obj.cells cs 126 fr) → w7.heap[b]? = some (Obj.cells cs 126 fr) := fun _ _ _ h_ => h_
  refine W_region rfl ?_
  refine stp (r_alloc ?_)
  intro b22 w23 hb24 hc25 g26
  refine stn (r_storeAll rfl rfl hc25 (by rfl) (by rfl) (by rfl) ?_)
  intro w27 hc28 u29
  have g30 := g26.upd u29 hb24
  replace h1 := g30.heap h1
  replace h3 := g30.heap h3
  replace h4 := g30.heap h4
  replace h5 := g30.heap h5
  replace h6 := g30.heap h6
  replace h7 := g30.heap h7
  replace own2 := own_grow own2 g30
  replace G7 := G7.tr g30
  replace hF0 := (fun b_ cs_ fr_ hb_ => g30.heap (hF0 b_ cs_ fr_ hb_))
  clear u29 g26 hb24 hc25
  refine WL_nil ?_
  refine ⟨rc, h6, hst, ?_⟩
  have u1 := upd_put (o' := .loop { rc with state := .busy }) h6
  have k6 := put_same (o' := .loop { rc with state := .busy }) h6
  have lt6 := lt_of_heap hc28
  have ne6 : b22 ≠ l := fun he_ => by rw [he_, h6] at hc28; cases hc28
  have kb := u1.heap hc28 ne6
  have k1 := u1.heap h1 (by omega)
  have k2 := own_upd own2 u1 (own_ne_loop own2 h6)
  have k3 := u1.heap h3 (by omega)
  have k4 := u1.heap h4 (by omega)
  have k5 := u1.heap h5 (by omega)
  have k7 := u1.heap h7 (by omega)
  have G8 := G7.upd u1 (by omega)
  have hF1 := fun b_ cs_ fr_ hb_ => u1.heap (hF0 b_ cs_ fr_ hb_) (fun he_ => by have h_ := hF0 b_ cs_ fr_ hb_; rw [he_, h6] at h_; cases h_)
  generalize w27.putObj l (.loop { rc with state := .busy }) = w8 at *
  clear u1 h1 own2 h3 h4 h5 h7 hF0 hc28
  obtain ⟨ad2, n2, c2, rfl⟩ := own_slice k2
  have hn2 : j = n2 := (own_len k2).symm
  subst hn2
  refine W_block ?_
  refine W_seq ?_
  refine W_seq (W_region rfl ?_)
  refine stp (r_load (v := .slice ad2 j c2) rfl k1 rfl ?_)
  refine stp (r_len rfl rfl rfl ?_)
  refine stp (r_load (v := .int .i64 most) rfl k3 rfl ?_)
  refine stp (r_min rfl rfl rfl ?_)
  refine stp (r_geq_f rfl rfl (by split <;> omega) ?_)
  refine WL_nil ?_
  refine W_false rfl ?_
  refine W_skip ?_
  refine W_region rfl ?_
  refine stp (r_load (v := .slice ad2 j c2) rfl k1 rfl ?_)
  refine stp (r_loadAll rfl kb (by rfl) ?_)
  refine stp (r_buildSlice (cs := #[.slice none 0 0, .int .i64 ((j : Int) - 1)]) (el := 33) (fun w => by kernel_rfl) ?_)
  intro bs31 w32 hb33 hc34 g35
  replace k1 := g35.heap k1
  replace k3 := g35.heap k3
  replace k4 := g35.heap k4
  replace k5 := g35.heap k5
  replace k6 := g35.heap k6
  replace k7 := g35.heap k7
  replace kb := g35.heap kb
  replace k2 := own_grow k2 g35
  replace G8 := G8.tr g35
  replace hF1 := (fun b_ cs_ fr_ hb_ => g35.heap (hF1 b_ cs_ fr_ hb_))
  clear g35
  refine stp (r_append rfl rfl rfl rfl k2 (Row.of_block (n := 1) hc34 rfl rfl (by omega)) (fun q_ hq_ => by simp at hq_; rcases hq_ with rfl | rfl <;> rfl) (by simp only [maxLen]; omega) (by omega) G8.size ?_)
  intro v9 w9 own9 gr9
  have G9 := G8.grown gr9 (own_ge k2)
  have m1 := gr_heap gr9 k1 (own_ne k2 k1 (by decide))
  have m3 := gr_heap gr9 k3 (own_ne k2 k3 (by decide))
  have m4 := gr_heap gr9 k4 (own_ne k2 k4 (by decide))
  have m5 := gr_heap gr9 k5 (own_ne k2 k5 (by decide))
  have m6 := gr_heap gr9 k6 (own_ne_loop k2 k6)
  have m7 := gr_heap gr9 k7 (own_ne_def k2 k7)
  have hF2 := fun b_ cs_ fr_ hb_ => gr_heap gr9 (hF1 b_ cs_ fr_ hb_) (own_ne k2 (hF1 b_ cs_ fr_ hb_) (by decide))
  refine stn (r_store1 (v := v9) rfl rfl (own_one own9) m1 (by rfl) (by rfl) ?_)
  intro w10 n1 u10
  refine WL_nil ?_
  have n6 := u10.heap m6 (by omega)
  have u2 := upd_put (o' := .loop rc) n6
  refine ⟨_, n6, ?_⟩
  rw [loop_again hst hpd]
  have own10 := own_upd (own_upd own9 u10 (own_ne own9 m1 (by decide))) u2 (own_ne_loop (own_upd own9 u10 (own_ne own9 m1 (by decide))) n6)
  refine ⟨rfl, ⟨⟨_, _, u2.heap n1 (by omega), own10⟩, u2.heap (u10.heap m3 (by omega)) (by omega), u2.heap (u10.heap m4 (by omega)) (by omega), u2.heap (u10.heap m5 (by omega)) (by omega), put_same n6, u2.heap (u10.heap m7 (by omega)) (by omega), (G9.upd u10 (by omega)).upd u2 (by omega)⟩, fun b_ cs_ fr_ hb_ => ?_⟩
  have h9_ := hF2 b_ cs_ fr_ hb_
  have h10_ := u10.heap h9_ (fun he_ => by rw [he_, m1] at h9_; simp at h9_)
  exact u2.heap h10_ (fun he_ => by rw [he_, n6] at h10_; cases h10_)
 ·rintro r_ w7 ⟨v_, rfl, ⟨vc2, xs, h1, own2⟩, h3, h4, h5, h6, h7, G7⟩
  refine ⟨_, rc, rfl, h6, by rw [hst]; simp, ?_⟩
  simp only [hpd]
  have u1 := upd_put (o' := .loop { rc with state := .exhausted, pending := none }) h6
  have k1 := u1.heap h1 (by omega)
  have k7 := u1.heap h7 (by omega)
  have k2 := own_upd own2 u1 (own_ne_loop own2 h6)
  clear G
  have G := G7.upd u1 (by omega)
  generalize w7.putObj l _ = w8 at *
  clear u1 h1 own2
  obtain ⟨ad2, n2, c2, rfl⟩ := own_slice k2
  have hn2 : n2 = (1 + yn + zn) := own_len k2
  subst hn2
  refine W_seq (W_region rfl ?_)
  refine stp (r_load (v := .slice ad2 (1 + yn + zn) c2) rfl k1 rfl ?_)
  refine stp (r_assign_slice rfl ?_)
  refine WL_nil ?_
  refine W_ret ?_
  have u2 := upd_put (o' := .deferred none) k7
  exact retM (vs := [_]) ⟨mk, _, rfl, run_takeDeferred k7, rfl⟩ ⟨rfl, trivial⟩ ⟨_, _, rfl, G.upd u2 (by omega)⟩
end Go.Proofs.Ytfhfecepcnapfaa.K

namespace Go.Proofs.Ytfhfecepcnapfaa.K
open Go Go.RowKit Go.Proofs
attribute [local irreducible] Run1 OpG WL W AO Gives
set_option maxRecDepth 100000 in
theorem known10_calls (w : World)  : Gives Try.prog 11 #[] w (.bool true) := by
 have G := Grow.rfl' w
 refine gives_of Try.func11 Try.ntmps11 Try.results11 rfl rfl ?_
 refine W_seq (W_region rfl ?_)
 refine stp (r_assign (v := .bool false) rfl ?_)
 refine WL_nil ?_
 refine W_seq (W_region rfl ?_)
 refine stp (r_buildSlice (cs := #[.int .u64 7]) (el := 55) (fun w => by kernel_rfl) ?_)
 intro bs1 w2 hb3 hc4 g5
 have hge6 := Nat.le_trans G.size hb3
 replace G := G.tr g5
 clear g5
 refine stp (r_build (v := .agg #[.int .i64 1, .int .i64 0, .slice (some ⟨bs1, 0, none⟩) 1 1, .slice none 0 0, .slice none 0 0]) (fun w => by kernel_rfl) ?_)
 refine stp (r_alloc ?_)
 intro b7 w8 hb9 hc10 g11
 refine stn (r_storeAll rfl rfl hc10 (by rfl) (by rfl) (by rfl) ?_)
 intro w12 hc13 u14
 have g15 := g11.upd u14 hb9
 have hge16 := Nat.le_trans G.size hb9
 have ne17 := Nat.ne_of_lt (Nat.lt_of_lt_of_le (lt_of_heap hc4) hb9)
 replace hc4 := g15.heap hc4
 replace G := G.tr g15
 clear u14 g11 hb9 hc10
 refine WL_nil ?_
 have hT : NodeR w12 [.int .i64 1, .int .i64 0, .slice (some ⟨bs1, 0, none⟩) 1 1, .slice none 0 0, .slice none 0 0] known10 := .mk (by simp [inR]) (by simp [inR]) (Row.of_block (n := 1) hc4 rfl rfl (by decide)) (by simp [inR]) (Row.nil _ _) (by simp) (Row.nil _ _) .nil
 refine W_seq (W_region rfl ?_)
 refine stp (r_loadAll rfl hc13 (by rfl) ?_)
 refine stp (r_build (v := .agg #[.slice none 0 0, .int .i64 0]) (fun w => by kernel_rfl) ?_)
 refine stp (r_gives (v := .tuple #[.agg #[.int .i64 1, .int .i64 0, .int .i64 0, .int .i64 0, .int .u64 7], .int .u16 0]) rfl (gives_eq (ask_calls _ hT (rowat_nil _ _) (steps := []) (a := 0) (by simp [inR])) (y := .tuple #[.agg #[.int .i64 1, .int .i64 0, .int .i64 0, .int .i64 0, .int .u64 7], .int .u16 0]) (by rw [known10_ask] <;> rfl)) ?_)
 intro w18 g19
 replace hc4 := g19.heap hc4
 replace hc13 := g19.heap hc13
 replace hT := hT.grow g19
 replace G := G.tr g19
 clear g19
 refine stp (r_move (v := .tuple #[.agg #[.int .i64 1, .int .i64 0, .int .i64 0, .int .i64 0, .int .u64 7], .int .u16 0]) rfl ?_)
 refine stp (r_extract (v := .agg #[.int .i64 1, .int .i64 0, .int .i64 0, .int .i64 0, .int .u64 7]) rfl rfl ?_)
 refine stp (r_extract (v := .int .u16 0) rfl rfl ?_)
 refine stp (r_alloc ?_)
 intro b20 w21 hb22 hc23 g24
 refine stn (r_storeAll rfl rfl hc23 (by rfl) (by rfl) (by rfl) ?_)
 intro w25 hc26 u27
 have g28 := g24.upd u27 hb22
 have hge29 := Nat.le_trans G.size hb22
 have ne30 := Nat.ne_of_lt (Nat.lt_of_lt_of_le (lt_of_heap hc4) hb22)
 have ne31 := Nat.ne_of_lt (Nat.lt_of_lt_of_le (lt_of_heap hc13) hb22)
 replace hc4 := g28.heap hc4
 replace hc13 := g28.heap hc13
 replace hT := hT.grow g28
 replace G := G.tr g28
 clear u27 g24 hb22 hc23
 refine stp (r_assign_int rfl ?_)
 refine WL_nil ?_
 refine W_seq (W_region rfl ?_)
 refine stp (r_loadAll rfl hc13 (by rfl) ?_)
 refine WL_some (og rfl ?_)
 refine r_call rfl (rBuild_calls _ hT 9) ?_
 rw [show known10.build 9 = (known9, 0) from known9_build]
 rintro v_ w32 ⟨so_, segs_, rfl, hO_, g_⟩
 replace hc4 := g_.heap hc4
 replace hc13 := g_.heap hc13
 replace hT := hT.grow g_
 replace hc26 := g_.heap hc26
 replace G := G.tr g_
 clear g_
 have hA := hO_.arena (by decide) (by decide)
 obtain ⟨ad1, n1, c1, rfl⟩ := own_slice hO_.out
 clear hO_
 refine stp (r_move (v := .tuple #[.slice ad1 n1 c1, .int .i64 0]) rfl ?_)
 refine stp (r_extract (v := .slice ad1 n1 c1) rfl rfl ?_)
 refine stp (r_extract (v := .int .i64 0) rfl rfl ?_)
 refine stp (r_assign_slice rfl ?_)
 refine stp (r_assign_int rfl ?_)
 refine WL_nil ?_
 refine W_seq (W_region rfl ?_)
 refine stp (r_move_slice rfl ?_)
 refine WL_some (og rfl ?_)
 refine r_call rfl (Decode_calls _ hA known9_ok) ?_
 rw [known10_dec]
 rintro v_ w33 ⟨cells_, rfl, hU_, g_⟩
 have hU := hU_.sees (Sees.seen _ _)
 clear hU_
 replace hc4 := g_.heap hc4
 replace hc13 := g_.heap hc13
 replace hT := hT.grow g_
 replace hc26 := g_.heap hc26
 replace hA := hA.grow g_
 replace G := G.tr g_
 clear g_
 obtain ⟨y34, y35, a36, n37, c38, a39, n40, c41, a42, n43, c44, rfl⟩ := hU.cells
 refine stp (r_move (v := .tuple #[.agg #[.int .i64 y34, .int .i64 y35, .slice a36 n37 c38, .slice a39 n40 c41, .slice a42 n43 c44], .int .u16 0]) rfl ?_)
 refine stp (r_extract (v := .agg #[.int .i64 y34, .int .i64 y35, .slice a36 n37 c38, .slice a39 n40 c41, .slice a42 n43 c44]) rfl rfl ?_)
 refine stp (r_extract (v := .int .u16 0) rfl rfl ?_)
 refine stp (r_alloc ?_)
 intro b45 w46 hb47 hc48 g49
 refine stn (r_storeAll rfl rfl hc48 (by rfl) (by rfl) (by rfl) ?_)
 intro w50 hc51 u52
 have g53 := g49.upd u52 hb47
 have hge54 := Nat.le_trans G.size hb47
 have ne55 := Nat.ne_of_lt (Nat.lt_of_lt_of_le (lt_of_heap hc4) hb47)
 have ne56 := Nat.ne_of_lt (Nat.lt_of_lt_of_le (lt_of_heap hc13) hb47)
 have ne57 := Nat.ne_of_lt (Nat.lt_of_lt_of_le (lt_of_heap hc26) hb47)
 replace hc4 := g53.heap hc4
 replace hc13 := g53.heap hc13
 replace hT := hT.grow g53
 replace hc26 := g53.heap hc26
 replace hA := hA.grow g53
 replace hU := hU.grow g53
 replace G := G.tr g53
 clear u52 g49 hb47 hc48
 refine stp (r_assign_int rfl ?_)
 refine WL_nil ?_
 refine W_seq (W_region rfl ?_)
 refine stp (r_move_int rfl ?_)
 refine stp (r_eql_t rfl rfl (by decide) ?_)
 refine stp (r_move (v := .bool true) rfl ?_)
 refine stp (r_fieldAddr rfl ?_)
 refine stp (r_load (v := .int .u64 7) rfl hc26 rfl ?_)
 refine stp (r_eql_t rfl rfl (by decide) ?_)
 refine stp (r_pick_t (v := .bool true) rfl rfl rfl ?_)
 refine stp (r_move (v := .bool true) rfl ?_)
 refine stp (r_move_int rfl ?_)
 refine stp (r_eql_t rfl rfl (by decide) ?_)
 refine stp (r_pick_t (v := .bool true) rfl rfl rfl ?_)
 refine stp (r_move (v := .bool true) rfl ?_)
 refine stp (r_loadAll rfl hc13 (by rfl) ?_)
 refine stp (r_loadAll rfl hc51 (by rfl) ?_)
 refine stp (r_gives (v := .bool true) rfl (gives_eq (nsame_calls _ _ hT hU (Nat.le_refl _)) (y := .bool true) (by rw [beq_self])) ?_)
 intro w58 g59
 replace hc4 := g59.heap hc4
 replace hc13 := g59.heap hc13
 replace hT := hT.grow g59
 replace hc26 := g59.heap hc26
 replace hA := hA.grow g59
 replace hU := hU.grow g59
 replace hc51 := g59.heap hc51
 replace G := G.tr g59
 clear g59
 refine stp (r_pick_t (v := .bool true) rfl rfl rfl ?_)
 refine stp (r_move (v := .bool true) rfl ?_)
 refine stp (r_loadAll rfl hc13 (by rfl) ?_)
 refine stp (r_gives (v := .int .i64 2) rfl (gives_eq (cost_calls _ _ hT (Nat.le_refl _)) (y := .int .i64 2) (by rw [known10_cost])) ?_)
 intro w60 g61
 replace hc4 := g61.heap hc4
 replace hc13 := g61.heap hc13
 replace hT := hT.grow g61
 replace hc26 := g61.heap hc26
 replace hA := hA.grow g61
 replace hU := hU.grow g61
 replace hc51 := g61.heap hc51
 replace G := G.tr g61
 clear g61
 refine stp (r_eql_t rfl rfl (by decide) ?_)
 refine stp (r_pick_t (v := .bool true) rfl rfl rfl ?_)
 refine stp (r_move (v := .bool true) rfl ?_)
 refine stp (r_loadAll rfl hc13 (by rfl) ?_)
 refine WL_some (og rfl ?_)
 refine r_call rfl (paths0_calls _ (yn := 1) (zn := 0) (by decide) (by decide)) ?_
 rintro v_ w62 ⟨adp, cp_, rfl, g_⟩
 replace hc4 := g_.heap hc4
 replace hc13 := g_.heap hc13
 replace hT := hT.grow g_
 replace hc26 := g_.heap hc26
 replace hA := hA.grow g_
 replace hU := hU.grow g_
 replace hc51 := g_.heap hc51
 replace G := G.tr g_
 clear g_
 refine stp (r_len rfl rfl rfl ?_)
 refine stp (r_eql_t rfl rfl (by decide) ?_)
 refine stp (r_pick_t (v := .bool true) rfl rfl rfl ?_)
 refine stp (r_assign (v := .bool true) rfl ?_)
 refine WL_nil ?_
 refine W_ret ?_
 refine ret1 (res_tmp (v := .bool true) rfl) ⟨?_, G⟩
 rfl
end Go.Proofs.Ytfhfecepcnapfaa.K

namespace Go.Proofs.Ytfhfecepcnapfaa.K
open Go Go.RowKit Go.Proofs
attribute [local irreducible] Run1 OpG WL W AO Gives
set_option maxRecDepth 100000 in
theorem path_calls (w : World) {n cp : Nat} {ad : Option Addr} {xs : List Int} {at_ : Int} (R : RowAt w 1 ad n (xs.map (.int .u8))) (hn : n = xs.length) (hx : isU8 xs) (a0 : 0 ≤ at_) (a1 : at_ ≤ 255) : Calls Try.prog 17 #[.slice ad n cp, .int .u8 at_] w (Ret fun v w' => ∃ ad2 c2, v = .agg #[.slice ad2 (pathP xs).length c2, .int .i64 (at_ % 12 - 2)] ∧ RowAt w' 1 ad2 (pathP xs).length ((pathP xs).map (.int .i64)) ∧ Grow w w') := by
 have ll := R.lim
 have G := Grow.rfl' w
 refine calls_ret Try.func17 Try.ntmps17 Try.results17 rfl rfl ?_
 refine W_seq (W_region rfl ?_)
 refine stp (r_alloc ?_)
 intro b1 w2 hb3 hc4 g5
 refine WL_nil ?_
 refine W_seq (W_region rfl ?_)
 refine stp (r_move_int rfl ?_)
 refine stp (r_rem rfl rfl ?_ ?_ ?_); omega; omega
 refine stp (r_conv rfl ?_ ?_); constructor <;> omega
 refine stp (r_sub rfl rfl ?_ ?_); constructor <;> omega
 refine stp (r_build (v := .agg #[.slice none 0 0, .int .i64 ((at_ % 12) - 2)]) (fun w => by kernel_rfl) ?_)
 have hge6 := Nat.le_trans G.size hb3
 replace G := G.tr g5
 clear g5 hb3
 refine stp (r_alloc ?_)
 intro b7 w8 hb9 hc10 g11
 refine stn (r_storeAll rfl rfl hc10 (by rfl) (by rfl) (by rfl) ?_)
 intro w12 hc13 u14
 have g15 := g11.upd u14 hb9
 have hge16 := Nat.le_trans G.size hb9
 have ne17 := Nat.ne_of_lt (Nat.lt_of_lt_of_le (lt_of_heap hc4) hb9)
 replace hc4 := g15.heap hc4
 replace G := G.tr g15
 clear u14 g11 hb9 hc10
 refine WL_nil ?_
 refine W_seq ?_
 refine W_seq (W_region rfl ?_)
 refine stp (r_assign_int rfl ?_)
 refine WL_nil ?_
 refine W_block ?_
 refine W_loop (fun m_ e_ w_ => ∃ (k : Nat) (ad3 : Option Addr) (n3 : Nat) (c3 : Nat), m_ = 6 - k ∧ Fr [(0, .slice ad n cp), (4, .pointer (some ⟨b1, 0, none⟩)), (5, .pointer (some ⟨b7, 0, none⟩)), (6, .int .i64 (k : Int))] e_ ∧ (k ≤ 6 ∧ k ≤ xs.length) ∧ (w_.heap[b1]? = some (.cells #[.slice none 0 0, .int .i64 0] 33 (0, 0))) ∧ (w_.heap[b7]? = some (.cells #[.slice ad3 n3 c3, .int .i64 (at_ % 12 - 2)] 33 (0, 0))) ∧ (w_.ownsRow w.heap.size 3 1 (.slice ad3 n3 c3) k (((xs.take k).map (· % 6)).map (.int .i64))) ∧ Grow w w_) _ ⟨0, none, 0, 0, rfl, fr_of ⟨rfl, rfl, rfl, rfl, trivial⟩, by omega, hc4, hc13, World.ownsRow_nil _ _ _ _, G⟩ ?_
 clear hc4 hc13
 clear G
 rintro m_ e_ w18 ⟨k, ad3, n3, c3, rfl, ⟨e19, rfl⟩, hk, hc4, hc13, own, G⟩
 refine W_seq ?_
 refine W_seq (W_region rfl ?_)
 refine stp (r_move_int rfl ?_)
 refine stp (r_move_slice rfl ?_)
 refine stp (r_len rfl rfl rfl ?_)
 refine stp (r_lss rfl rfl ?_)
 refine stp (r_move_bool rfl ?_)
 refine WL_some (og_if (s := .bool (decide ((k : Int) < (n : Int)))) (b := true) (v := .int .i64 (k : Int)) rfl (wgb_t _) (fun hc20 => ?_) ?_)
 ·
  have hc20_ := of_decide_eq_true hc20
  refine r_move_int rfl ?_
  exact ⟨rfl, rfl⟩
 refine WL_some (og_if (s := .bool (decide ((k : Int) < (n : Int)))) (b := true) (v := .bool (decide ((k : Int) < 6))) rfl (wgb_t _) (fun hc21 => ?_) ?_)
 ·
  have hc21_ := of_decide_eq_true hc21
  refine r_lss (gvt hc21) rfl ?_
  exact ⟨rfl, rfl⟩
 refine stp (r_and2 rfl rfl rfl ?_)
 refine WL_nil ?_
 refine W_cond2 (b := ((decide ((k : Int) < (n : Int))) && (decide ((k : Int) < 6)))) rfl (fun hlt => ?_) (fun hlt => ?_)
 ·-- true
  simp only [sb] at hlt
  obtain ⟨h1a, h1b⟩ := hlt
  have hu := getD_u8 hx k
  have hkx : k < xs.length := by omega
  refine W_skip ?_
  refine W_seq ?_
  refine W_block ?_
  refine W_any 9 [[], [0], [], [], [1, 0], [2, 1, 0], [3, 2, 1, 0], [4, 3, 2, 1, 0], [5, 4, 3, 2, 1, 0]] mixed (by kernel_rfl) (by kernel_rfl) (by kernel_rfl) ?_
  intro w22 g23
  replace hc4 := g23.heap hc4
  replace hc13 := g23.heap hc13
  replace own := own_grow own g23
  replace G := G.tr g23
  clear g23
  apply AO_ex
  ·intro w_ g_; refine og rfl ?_; refine r_fieldAddr rfl ?_; exact ⟨Grow.rfl' _, rfl⟩
  apply AO_ex
  ·intro w_ g_; refine og rfl ?_; refine r_load (v := .slice ad3 n3 c3) rfl (g_.heap hc13) rfl ?_; exact ⟨Grow.rfl' _, rfl⟩
  apply AO_ex
  ·intro w_ g_; refine og rfl ?_; refine r_move_slice rfl ?_; exact ⟨Grow.rfl' _, rfl⟩
  apply AO_ex
  ·intro w_ g_; refine og rfl ?_; refine r_move_int rfl ?_; exact ⟨Grow.rfl' _, rfl⟩
  apply AO_ex
  ·intro w_ g_; refine og rfl ?_; refine r_indexN (R.grow (G.tr g_)) rfl rfl ?_ ?_; omega; exact ⟨Grow.rfl' _, rfl⟩
  apply AO_ex
  ·intro w_ g_; refine og rfl ?_; refine r_loadR (v := .int .u8 (xs.getD k 0)) (m := 0) (R.grow (G.tr g_)) rfl (map_get1 0 (by omega)) ?_; exact ⟨Grow.rfl' _, rfl⟩
  apply AO_ex
  ·intro w_ g_; refine og rfl ?_; refine r_rem rfl rfl ?_ ?_ ?_; omega; omega; exact ⟨Grow.rfl' _, rfl⟩
  apply AO_ex
  ·intro w_ g_; refine og rfl ?_; refine r_conv rfl ?_ ?_; constructor <;> omega; exact ⟨Grow.rfl' _, rfl⟩
  refine AO_so (fun w_ v_ => Row w_ 1 v_ 1 [.int .i64 (xs.getD k 0 % 6)]) (fun _ _ _ g_ h_ => h_.grow g_) ?_ ?_
  ·intro w_ g_
   refine og rfl ?_
   refine r_buildSlice (cs := #[.int .i64 (xs.getD k 0 % 6)]) (el := 3) (fun w => by kernel_rfl) ?_
   intro bs_ w2_ hb_ hc_ g2_
   exact ⟨g2_, Row.of_block (n := 1) hc_ rfl rfl (by omega)⟩
  refine AO_nil ?_
  intro w24 g25
  replace hc4 := g25.heap hc4
  replace hc13 := g25.heap hc13
  replace own := own_grow own g25
  replace G := G.tr g25
  clear g25
  intro v_l hv_l
  refine stp (r_append rfl rfl rfl rfl own hv_l (fun q_ hq_ => by simp at hq_; subst hq_; rfl) (by simp only [maxLen]; omega) (by omega) G.size ?_)
  intro v26 w27 own6 gr6
  replace G := G.grown gr6 (own_ge own)
  replace hc4 := gr_heap gr6 hc4 (own_ne own hc4 (by decide))
  replace hc13 := gr_heap gr6 hc13 (own_ne own hc13 (by decide))
  clear own gr6
  obtain ⟨ad4, n4, c4, rfl⟩ := own_slice own6
  refine stp (r_fieldAddr rfl ?_)
  refine stn (r_store1 (v := .slice ad4 n4 c4) rfl rfl (by rfl) hc13 (by rfl) (by rfl) ?_)
  intro w28 hc29 u30
  replace hc4 := u30.heap hc4 ne17
  replace own6 := own_upd own6 u30 (own_ne own6 hc13 (by decide))
  replace G := G.upd u30 hge16
  clear u30 hc13
  refine WL_nil ?_
  refine W_region rfl ?_
  refine stp (r_move_int rfl ?_)
  refine stp (r_add rfl rfl ?_ ?_); constructor <;> omega
  refine stp (r_assign_int rfl ?_)
  refine WL_nil ?_
  refine ⟨_, ?_, k + 1, ad4, n4, c4, rfl, fr_of ⟨rfl, rfl, rfl, congrArg (Value.int .i64) (by omega), trivial⟩, by omega, hc4, hc29, (by rw [List.take_add_one, List.getElem?_eq_getElem hkx, Option.toList_some, List.map_append, List.map_append]; rw [getD_at hkx] at own6; exact own6), G⟩
  omega
 ·-- false
  simp only [sb] at hlt
  have hk6 : k = min 6 xs.length := by omega
  have htk : xs.take k = xs.take 6 := by rw [hk6]; rcases Nat.le_total 6 xs.length with h_ | h_; (rw [Nat.min_eq_left h_]); (rw [Nat.min_eq_right h_, List.take_length, List.take_of_length_le h_])
  have hpl : (pathP xs).length = k := by simp only [pathP, List.length_map, List.length_take]; omega
  refine W_exit ?_
  refine W_seq (W_region rfl ?_)
  refine stp (r_loadAll rfl hc13 (by rfl) ?_)
  refine stn (r_storeAll rfl rfl hc4 (by rfl) (by rfl) (by rfl) ?_)
  intro w31 hc32 u33
  replace hc13 := u33.heap hc13 ne17.symm
  replace own := own_upd own u33 (own_ne own hc4 (by decide))
  replace G := G.upd u33 hge6
  clear u33 hc4
  refine WL_nil ?_
  refine W_ret ?_
  obtain ⟨ad9, c9, hs9, -, -, R9⟩ := own_row own (by omega)
  simp only [Value.slice.injEq] at hs9
  obtain ⟨rfl, rfl, rfl⟩ := hs9
  rw [htk] at R9
  refine ret1 (res_all rfl hc32 (by rfl)) ⟨_, _, by rw [hpl], by rw [hpl]; exact R9, G⟩
end Go.Proofs.Ytfhfecepcnapfaa.K

namespace Go.Proofs.Ytfhfecepcnapfaa.K
open Go Go.RowKit
structure KpQ where
  r : World → World → Prop
  g : World → World → Prop
  gdrew : ∀ w : World, g w { w with drawn := w.drawn + 1 }
  refl : ∀ w, r w w
  tr : ∀ {a b c : World}, r a b → r b c → r a c
  grow : ∀ {a b : World}, g a b → r a b
def Sp.StabQ (F : KpQ) : Sp → Prop
  | .ex _ => True
  | .so G => ∀ w w' v, F.r w w' → G w v → G w' v
theorem Sp.keepQ {F : KpQ} {s : Sp} (h : s.StabQ F) {w w' : World} {v : Value} (g : F.r w w') (hv : s.holds w v) : s.holds w' v := by
  cases s with
  | ex x => exact hv
  | so G => exact h w w' v g hv
end Go.Proofs.Ytfhfecepcnapfaa.K

namespace Go.Proofs.Ytfhfecepcnapfaa.K
open Go Go.RowKit
/-- What makes memory alone. -/
abbrev grQ (R : KpR) : KpQ := ⟨R.r, Grow, Grow.drew', R.refl, R.tr, R.grow⟩
/-- What is asked of one operation: a plain one, or the k-th of those that write. -/
def OblU (P : Program) (ops : Array Oper) (F : KpQ) (S : Nat → Env → World → Prop) (w0 : World) (e : Env) (o : Oper) (s : Sp) (l : List (Option Nat × Sp)) : Option Nat → Prop
  | none => ∀ w, F.r w0 w → OblEnv l e w fun e' => OpG P ops o e' w fun v w' => F.g w w' ∧ s.holds w' v
  | some k => ∀ w, F.r w0 w → OblEnv l e w fun e' => S k e' w → OpG P ops o e' w fun v w' => F.r w w' ∧ S (k + 1) e' w' ∧ s.holds w' v
def AOU (P : Program) (ops : Array Oper) (F : KpQ) (S : Nat → Env → World → Prop) (ms : List Nat) (w0 : World) (e : Env) (K : List Dn → Prop) : List Oper → List (List Nat) → List Dn → Prop
  | [], _, rdone => K rdone.reverse
  | o :: r, an, rdone => ∃ s : Sp, s.StabQ F ∧ OblU P ops F S w0 e o s (selB rdone (an.headD [])) (mutNo ms 0 rdone.length) ∧
      AOU P ops F S ms w0 e K r an.tail (⟨o, s, an.headD []⟩ :: rdone)
section
variable {P : Program} {ops : Array Oper} {F : KpQ} {S : Nat → Env → World → Prop} {ms : List Nat} {w0 : World} {e : Env} {K : List Dn → Prop} {o : Oper} {r : List Oper} {a : List Nat} {an : List (List Nat)} {rdone : List Dn}
theorem AOU_ex (x : Value) (hm : mutNo ms 0 rdone.length = none) (h : ∀ w, F.r w0 w → OblEnv (selB rdone a) e w fun e' => OpG P ops o e' w fun v w' => F.g w w' ∧ v = x)
    (next : AOU P ops F S ms w0 e K r an (⟨o, .ex x, a⟩ :: rdone)) : AOU P ops F S ms w0 e K (o :: r) (a :: an) rdone := ⟨.ex x, trivial, by rw [hm]; exact h, next⟩
theorem AOU_so (G : World → Value → Prop) (hst : ∀ w w' v, F.r w w' → G w v → G w' v) (hm : mutNo ms 0 rdone.length = none) (h : ∀ w, F.r w0 w → OblEnv (selB rdone a) e w fun e' => OpG P ops o e' w fun v w' => F.g w w' ∧ G w' v)
    (next : AOU P ops F S ms w0 e K r an (⟨o, .so G, a⟩ :: rdone)) : AOU P ops F S ms w0 e K (o :: r) (a :: an) rdone := ⟨.so G, hst, by rw [hm]; exact h, next⟩
/-- One that writes, and comes to a value that is known. -/
theorem AOU_mut (k : Nat) (x : Value) (hm : mutNo ms 0 rdone.length = some k) (h : ∀ w, F.r w0 w → OblEnv (selB rdone a) e w fun e' => S k e' w → OpG P ops o e' w fun v w' => F.r w w' ∧ S (k + 1) e' w' ∧ v = x)
    (next : AOU P ops F S ms w0 e K r an (⟨o, .ex x, a⟩ :: rdone)) : AOU P ops F S ms w0 e K (o :: r) (a :: an) rdone := ⟨.ex x, trivial, by rw [hm]; exact h, next⟩
theorem AOU_nil {an : List (List Nat)} (h : K rdone.reverse) : AOU P ops F S ms w0 e K [] an rdone := h
end
def GoodU (P : Program) (ops : Array Oper) (F : KpQ) (S : Nat → Env → World → Prop) (ms : List Nat) (w0 : World) (e : Env) (D : List Dn) : Prop :=
  ∀ i d, D[i]? = some d → d.s.StabQ F ∧ OblU P ops F S w0 e d.o d.s (selB (D.take i).reverse d.anc) (mutNo ms 0 i)
theorem AOU_out {P : Program} {ops : Array Oper} {F : KpQ} {S : Nat → Env → World → Prop} {ms : List Nat} {w0 : World} {e : Env} {K : List Dn → Prop} : ∀ (r : List Oper) (an : List (List Nat)) (rdone : List Dn), r.length = an.length →
    AOU P ops F S ms w0 e K r an rdone → GoodU P ops F S ms w0 e rdone.reverse → ∃ D, K D ∧ GoodU P ops F S ms w0 e D ∧ D.map Dn.o = rdone.reverse.map Dn.o ++ r ∧ D.map Dn.anc = rdone.reverse.map Dn.anc ++ an
  | [], [], rdone, _, h, hg => ⟨rdone.reverse, h, hg, by simp, by simp⟩
  | [], _ :: _, _, hl, _, _ => by simp at hl
  | _ :: _, [], _, hl, _, _ => by simp at hl
  | o :: r, a :: an, rdone, hl, ⟨s, hs, ho, hn⟩, hg => by
    simp only [List.headD_cons, List.tail_cons] at ho hn
    obtain ⟨D, hK, hG, hD, hA⟩ := AOU_out r an (⟨o, s, a⟩ :: rdone) (by simpa using hl) hn (by
      intro i d hd
      simp only [List.reverse_cons] at hd ⊢
      rcases Nat.lt_or_ge i rdone.reverse.length with hi | hi
      · rw [List.getElem?_append_left hi] at hd
        rw [List.take_append_of_le_length (by omega)]
        exact hg i d hd
      · rw [List.getElem?_append_right hi] at hd
        have h0 : i - rdone.reverse.length = 0 := by
          rcases Nat.eq_zero_or_pos (i - rdone.reverse.length) with h | h
          · exact h
          · rw [List.getElem?_eq_none (by simp only [List.length_cons, List.length_nil]; omega)] at hd; cases hd
        rw [h0] at hd
        have hi' : i = rdone.reverse.length := by omega
        subst hi'
        simp only [List.getElem?_cons_zero, Option.some.injEq] at hd
        subst hd
        have ht : (rdone.reverse ++ [(⟨o, s, a⟩ : Dn)]).take rdone.reverse.length = rdone.reverse := by simp
        rw [ht, List.reverse_reverse]
        rw [List.length_reverse]
        exact ⟨hs, ho⟩)
    exact ⟨D, hK, hG, by rw [hD]; simp, by rw [hA]; simp⟩

/-- The slots that S speaks of are set by what those that write wait for. -/
def usOk (ops : List Oper) (an : List (List Nat)) (U ms : List Nat) : Bool := U.all fun u => ms.all fun m => (an.getD m []).any fun j => match (ops[j]?).bind (·.dst) with | some d => Nat.beq d u | none => false
theorem usOk_at {ops : List Oper} {an : List (List Nat)} {U ms : List Nat} (h : usOk ops an U ms = true) {u m : Nat} (hu : u ∈ U) (hm : m ∈ ms) : ∃ j o, j ∈ an.getD m [] ∧ ops[j]? = some o ∧ o.dst = some u := by
  unfold usOk at h
  simp only [List.all_eq_true, List.any_eq_true] at h
  obtain ⟨j, hj, hd⟩ := h u hu m hm
  cases ho : ops[j]? with
  | none => rw [ho] at hd; simp at hd
  | some o =>
    rw [ho] at hd
    cases hdst : o.dst with
    | none => simp [hdst] at hd
    | some d =>
      simp only [Option.bind_some, hdst] at hd
      exact ⟨j, o, hj, ho, by rw [hdst, Nat.eq_of_beq_eq_true hd]⟩
section main
variable {P : Program} {N : Nat} {hd tl : List Oper} {Q : Ex → Env → World → Prop} {F : KpQ} {U : List Nat} {S : Nat → Env → World → Prop} {ms : List Nat}

structure InvU (F : KpQ) (S : Nat → Env → World → Prop) (ms : List Nat) (P : Program) (hd tl : List Oper) (D : List Dn) (w0 : World) (e : Env) (L : Array Bool) (E : Env) (w : World) : Prop where
  msro : E.ms = e.ms ∧ E.ro = e.ro
  down : Down (hd ++ tl) L
  head : ∀ i, Ls L i → i < hd.length
  grow : F.r w0 w
  st : ∃ k, k ≤ ms.length ∧ S k E w ∧ ∀ (j p : Nat), ms[j]? = some p → (Ls L p ↔ j < k)
  got : ∀ (i : Nat) (d : Dn), D[i]? = some d → Ls L i → ∃ v, d.s.holds w v ∧ ∀ t, d.o.dst = some t → E t = v
  off : ∀ u, (∀ (i : Nat) (o : Oper), (hd ++ tl)[i]? = some o → Ls L i → o.dst ≠ some u) → E u = e u

theorem phase1U (sh : Shape hd tl) {D : List Dn} {w0 : World} {e : Env} (hD : D.map Dn.o = hd) (hA : D.map Dn.anc = ancB (hd ++ tl) hd.length) (hg : GoodU P (hd ++ tl).toArray F S ms w0 e D)
    (hS : ∀ k e w w', F.g w w' → S k e w → S k e w') (hSe : ∀ k e e' w, (∀ u ∈ U, e u = e' u) → S k e w → S k e' w) (hS0 : ∀ e e' w, S 0 e w → S 0 e' w) (hUo : usOk (hd ++ tl) (ancL (hd ++ tl) []) U ms = true) (hmo : mutOk (ancL (hd ++ tl) []) [] ms = true) (hml : ∀ (j p : Nat), ms[j]? = some p → p < hd.length)
    (hfin : ∀ w, F.r w0 w → Fin (fun e w => S ms.length e w → WL P (hd ++ tl).toArray Q tl e w) D e w) : ∀ (fuel : Nat) (L : Array Bool) (E : Env) (w : World),
    InvU F S ms P hd tl D w0 e L E w → left L ≤ fuel → AnyE P (hd ++ tl).toArray Q fuel L E w := by
  have hlen : D.length = hd.length := by rw [← hD]; simp
  have hDo : ∀ (i : Nat) (d : Dn), D[i]? = some d → (hd ++ tl)[i]? = some d.o := fun i d h => by
    have hi : i < D.length := (List.getElem?_eq_some_iff.1 h).1
    rw [List.getElem?_append_left (by omega), ← hD]; simp [h]
  have hanc := ancs_eq sh hlen hA
  -- with all of the head listed, what follows stands
  have fin : ∀ (L : Array Bool) (E : Env) (w : World), InvU F S ms P hd tl D w0 e L E w → (∀ i, i < hd.length → Ls L i) → WL P (hd ++ tl).toArray Q tl E w := by
    intro L E w inv hall
    have hSl : S ms.length E w := by
      obtain ⟨k0, hk0, hSk, hch⟩ := inv.st
      rcases Nat.lt_or_ge k0 ms.length with hlt | hge
      · have hp := List.getElem?_eq_getElem hlt
        have := (hch k0 _ hp).1 (hall _ (hml k0 _ hp))
        omega
      · rw [show ms.length = k0 from by omega]; exact hSk
    obtain ⟨e', hG, hmr, hu⟩ := Fin_inst E D e (hfin w inv.grow) (fun d hd' => by
      obtain ⟨i, hi, rfl⟩ := List.getElem_of_mem hd'
      exact inv.got i _ (List.getElem?_eq_getElem hi) (hall i (by omega)))
    have : e' = E := by
      refine Env.ext' (fun u => ?_) (by rw [hmr.1, inv.msro.1]) (by rw [hmr.2, inv.msro.2])
      by_cases hin : ∃ d ∈ D, d.o.dst = some u
      · exact (hu u).1 hin
      · rw [(hu u).2 (fun d hd' he => hin ⟨d, hd', he⟩)]
        refine (inv.off u fun i o ho hl hou => hin ?_).symm
        have hi := inv.head i hl
        have hiD : i < D.length := by omega
        have := hDo i _ (List.getElem?_eq_getElem hiD)
        rw [ho] at this
        exact ⟨D[i], List.getElem_mem hiD, by rw [← Option.some.inj this]; exact hou⟩
    subst this; exact hG hSl
  -- and so the rest of the region
  have rest : ∀ (fuel : Nat) (L : Array Bool) (E : Env) (w : World), InvU F S ms P hd tl D w0 e L E w → (∀ i, i < hd.length → Ls L i) → left L ≤ fuel →
      AnyE P (hd ++ tl).toArray Q fuel L E w := by
    intro fuel L E w inv hall hf
    refine phase2 sh fuel hd.length L E w inv.down (fun i => ⟨inv.head i, hall i⟩) (Nat.le_refl _) (by simp) hf ?_
    rw [List.drop_left]
    exact fin L E w inv hall
  intro fuel
  induction fuel with
  | zero =>
    intro L E w inv hf
    refine rest 0 L E w inv (fun i hi => ?_) hf
    by_cases hl : Ls L i
    · exact hl
    · have := left_set (L := L) (i := i) (by rw [inv.down.size]; simp; omega) hl; omega
  | succ fuel ih =>
    intro L E w inv hf
    by_cases hall : ∀ i, i < hd.length → Ls L i
    · exact rest _ L E w inv hall hf
    refine ⟨fun hr => absurd (fun i hi => all_listed inv.down.size sh.back hr i (by simp; omega)) hall, fun i hi o' ho' => ?_⟩
    obtain ⟨hn, o, ho, hedge⟩ := (ready_iff inv.down.size).1 hi
    have hin : i < (hd ++ tl).length := (List.getElem?_eq_some_iff.1 ho).1
    have hal := anc_listed inv.down i o ho hedge
    have hih : i < hd.length := by
      rcases Nat.lt_or_ge i hd.length with h' | h'
      · exact h'
      · exact absurd (fun j hj => hal j (sh.tail i h' hin j (by omega))) hall
    have hi' : i < L.size := by rw [inv.down.size]; exact hin
    have hiD : i < D.length := by omega
    have hd' := List.getElem?_eq_getElem hiD
    generalize hdd : D[i] = d at hd'
    have hod : d.o = o := by have := hDo i d hd'; rw [ho] at this; exact (Option.some.inj this).symm
    obtain ⟨hst, hob⟩ := hg i d hd'
    have ha := hanc i d hd'
    rw [ha] at hob
    have hanI : (ancL (hd ++ tl) []).getD i [] = ancI (hd ++ tl) i := rfl
    have hinst : ∀ p ∈ sel (D.take i) (ancI (hd ++ tl) i), ∃ v, p.2.holds w v ∧ ∀ t, p.1 = some t → E t = v := by
      intro p hp
      unfold sel at hp
      rw [List.mem_filterMap] at hp
      obtain ⟨j, hj, hp⟩ := hp
      rw [List.getElem?_take] at hp
      split at hp
      · cases hdj : D[j]? with
        | none => rw [hdj] at hp; simp at hp
        | some dj =>
          rw [hdj] at hp
          simp only [Option.map_some, Option.some.injEq] at hp
          subst hp
          exact inv.got j dj hdj (hal j hj)
      · simp at hp
    have hmem : ∀ u, (∃ p ∈ sel (D.take i) (ancI (hd ++ tl) i), p.1 = some u) ↔ ∃ j ∈ ancI (hd ++ tl) i, ∃ dj, D[j]? = some dj ∧ dj.o.dst = some u := by
      intro u
      unfold sel
      constructor
      · rintro ⟨p, hp, hpu⟩
        rw [List.mem_filterMap] at hp
        obtain ⟨j, hj, hp⟩ := hp
        rw [List.getElem?_take] at hp
        split at hp
        · cases hdj : D[j]? with
          | none => rw [hdj] at hp; simp at hp
          | some dj =>
            rw [hdj] at hp
            simp only [Option.map_some, Option.some.injEq] at hp
            subst hp
            exact ⟨j, hj, dj, hdj, hpu⟩
        · simp at hp
      · rintro ⟨j, hj, dj, hdj, hdu⟩
        refine ⟨(dj.o.dst, dj.s), ?_, hdu⟩
        rw [List.mem_filterMap]
        refine ⟨j, hj, ?_⟩
        rw [List.getElem?_take, if_pos ((ancI_mem ho).1 hj).1, hdj]
        rfl
    have agree : ∀ e' : Env, (∀ u, ((∃ p ∈ sel (D.take i) (ancI (hd ++ tl) i), p.1 = some u) → e' u = E u) ∧ ((∀ p ∈ sel (D.take i) (ancI (hd ++ tl) i), p.1 ≠ some u) → e' u = e u)) → ∀ u ∈ slots (hd ++ tl) o, e' u = E u := by
      intro e' hu u hu'
      by_cases hin' : ∃ p ∈ sel (D.take i) (ancI (hd ++ tl) i), p.1 = some u
      · exact (hu u).1 hin'
      · rw [(hu u).2 (fun p hp he => hin' ⟨p, hp, he⟩)]
        refine (inv.off u fun k p hp hl hpu => ?_).symm
        have hki : i ≠ k := fun h => hn (h ▸ hl)
        rcases sh.read i k o p ho hp hki u hpu hu' with h | h
        · refine hin' ((hmem u).2 ⟨k, h, ?_⟩)
          have hk := inv.head k hl
          have hkD : k < D.length := by omega
          have := hDo k _ (List.getElem?_eq_getElem hkD)
          rw [hp] at this
          exact ⟨_, List.getElem?_eq_getElem hkD, by rw [← Option.some.inj this]; exact hpu⟩
        · exact hn (anc_listed inv.down k p hp (inv.down.down k p hp hl) i h)
    have hG2 : OpG P (hd ++ tl).toArray o E w fun v w' => F.r w w' ∧ (∃ k, k ≤ ms.length ∧ S k E w' ∧ ∀ (j p : Nat), ms[j]? = some p → (Ls (L.setIfInBounds i true) p ↔ j < k)) ∧ d.s.holds w' v := by
      obtain ⟨k0, hk0, hSk, hch⟩ := inv.st
      cases hmu : mutNo ms 0 i with
      | none =>
        rw [hmu] at hob
        obtain ⟨e', hG, hu⟩ := OblEnv_inst E _ e hinst (hob w inv.grow)
        rw [hod] at hG
        refine OpG.mono ?_ (OpG_congr (sh.nosel i o ho) (agree e' hu) hG)
        rintro v w' ⟨g, hv⟩
        refine ⟨F.grow g, ⟨k0, hk0, hS _ _ _ _ g hSk, fun j p hj => ?_⟩, hv⟩
        rw [Ls_set hi', ← hch j p hj]
        have : p ≠ i := fun h => mutNo_none hmu j (h ▸ hj)
        simp [this]
      | some k =>
        rw [hmu] at hob
        obtain ⟨_, hms⟩ := mutNo_some hmu
        rw [Nat.sub_zero] at hms
        have hkl : k < ms.length := (List.getElem?_eq_some_iff.1 hms).1
        have hkk : k0 = k := by
          have h1 : ¬ k < k0 := fun h => hn ((hch k i hms).2 h)
          rcases Nat.lt_or_ge k0 k with hlt | hge
          · have hq := List.getElem?_eq_getElem (show k0 < ms.length by omega)
            have h2 := (mutOk_at hmo k i hms).2 k0 _ hlt hq
            rw [hanI] at h2
            have := (hch k0 _ hq).1 (hal _ h2)
            omega
          · omega
        subst hkk
        obtain ⟨e', hG, hu⟩ := OblEnv_inst E _ e hinst (hob w inv.grow)
        have hUe : ∀ u ∈ U, e' u = E u := fun u hu' => by
          obtain ⟨j, oj, hj, hoj, hdj⟩ := usOk_at hUo hu' (List.mem_of_getElem? hms)
          rw [hanI] at hj
          have hji := ((ancI_mem ho).1 hj).1
          have hjD : j < D.length := by omega
          refine (hu u).1 ((hmem u).2 ⟨j, hj, D[j], List.getElem?_eq_getElem hjD, ?_⟩)
          have := hDo j _ (List.getElem?_eq_getElem hjD)
          rw [hoj] at this
          rw [← Option.some.inj this]; exact hdj
        have hG := hG (hSe _ _ _ _ (fun u hu' => (hUe u hu').symm) hSk)
        rw [hod] at hG
        refine OpG.mono ?_ (OpG_congr (sh.nosel i o ho) (agree e' hu) hG)
        rintro v w' ⟨g, hs', hv⟩
        refine ⟨g, ⟨k0 + 1, hkl, hSe _ _ _ _ hUe hs', fun j p hj => ?_⟩, hv⟩
        rw [Ls_set hi', hch j p hj]
        have anc_lt : ∀ q, q ∈ ancI (hd ++ tl) i → q < i := fun q hq => ((ancI_mem ho).1 hq).1
        constructor
        · rintro (rfl | h)
          · rcases Nat.lt_trichotomy j k0 with h | h | h
            · omega
            · omega
            · have h2 := (mutOk_at hmo j p hj).2 k0 p h hms
              exact absurd (anc_lt p h2) (by omega)
          · omega
        · intro h
          rcases Nat.lt_or_ge j k0 with h' | h'
          · exact .inr h'
          · have : j = k0 := by omega
            subst this
            rw [hms] at hj
            exact .inl (Option.some.inj hj).symm
    have hoo : o = o' := by rw [List.getElem?_toArray, ho] at ho'; exact Option.some.inj ho'
    subst hoo
    refine OpG.mono ?_ hG2
    rintro v w' ⟨hgr, hst', hv⟩
    have hst' : ∃ k, k ≤ ms.length ∧ S k (E.put o.dst v) w' ∧ ∀ (j p : Nat), ms[j]? = some p → (Ls (L.setIfInBounds i true) p ↔ j < k) := by
      obtain ⟨k, hk, hSk, hch⟩ := hst'
      refine ⟨k, hk, ?_, hch⟩
      rcases Nat.eq_zero_or_pos k with h0 | h0
      · subst h0; exact hS0 _ _ _ hSk
      · refine hSe _ _ _ _ (fun u hu' => ?_) hSk
        have hq := List.getElem?_eq_getElem (show 0 < ms.length by omega)
        obtain ⟨j, oj, hj, hoj, hdj⟩ := usOk_at hUo hu' (List.mem_of_getElem? hq)
        have hl0 := (hch 0 _ hq).2 h0
        have hji : j ≠ i := by
          intro he
          rw [Ls_set hi'] at hl0
          rcases hl0 with h' | h'
          · rw [he, h'] at hj
            have := ((ancI_mem ho).1 hj).1
            omega
          · have hp0 := inv.head _ h'
            have hpl : ms[0] < (hd ++ tl).length := by simp; omega
            have := anc_listed inv.down ms[0] _ (List.getElem?_eq_getElem hpl) (fun k hk => inv.down.down _ _ (List.getElem?_eq_getElem hpl) h' k hk) j hj
            rw [he] at this
            exact hn this
        cases hdst' : o.dst with
        | none => rfl
        | some t' =>
          refine (set_ne _ _ fun htt => ?_).symm
          exact sh.uniq i j o oj ho hoj (Ne.symm hji) t' hdst' (by rw [hdj, htt])
    refine ih _ _ w' ⟨⟨by rw [put_ms]; exact inv.msro.1, by rw [put_ro]; exact inv.msro.2⟩, inv.down.set ho hedge, fun j hj => ?_, F.tr inv.grow hgr, hst', fun j dj hdj hl => ?_, fun u hu' => ?_⟩ (by have := left_set hi' hn; omega)
    · rw [Ls_set hi'] at hj
      rcases hj with rfl | hj
      · exact hih
      · exact inv.head j hj
    · rw [Ls_set hi'] at hl
      by_cases hji : j = i
      · subst hji
        rw [hd'] at hdj
        cases hdj
        refine ⟨v, hv, fun t ht => ?_⟩
        rw [hod] at ht
        rw [ht]; exact set_same _ _ _
      · have hlj := hl.resolve_left hji
        obtain ⟨vj, hvj, htj⟩ := inv.got j dj hdj hlj
        have hkeep : dj.s.holds w' vj := by
          have hsj := (hg j dj hdj).1
          exact Sp.keepQ hsj hgr hvj
        refine ⟨vj, hkeep, fun t ht => ?_⟩
        rw [← htj t ht]
        cases hdst' : o.dst with
        | none => rfl
        | some t' =>
          refine set_ne _ _ fun htt => ?_
          exact sh.uniq i j o dj.o ho (hDo j dj hdj) (Ne.symm hji) t' hdst' (by rw [ht, htt])
    · have hne : o.dst ≠ some u := hu' i o ho ((Ls_set hi').2 (.inl rfl))
      have : E.put o.dst v u = E u := by
        cases hdst' : o.dst with
        | none => rfl
        | some t' => exact set_ne _ _ fun htt => hne (by rw [hdst', htt])
      rw [this]
      exact inv.off u fun k p hp hl => hu' k p hp ((Ls_set hi').2 (.inr hl))

/-- A region whose order is open, some of whose operations write: the ms-th, one after another; F: what they may change; S k: what stands behind k of them. -/
theorem W_anyU {id : Nat} {e : Env} {w : World} {l : List Oper} (m : Nat) (an : List (List Nat)) (ms U : List Nat) (F : KpQ) (S : Nat → Env → World → Prop) (hm : P.follows .mixedOrders = true) (hsh : shapeOk (l.take m) (l.drop m) = true)
    (han : ancB l (l.take m).length = an) (hdst : dstOk N l = true) (hmo : (mutOk (ancL l []) [] ms && ms.all fun p => Nat.blt p (l.take m).length) = true) (hUo : usOk l (ancL l []) U ms = true) (hS : ∀ k e w w', F.g w w' → S k e w → S k e w') (hSe : ∀ k e e' w, (∀ u ∈ U, e u = e' u) → S k e w → S k e' w) (hS0 : ∀ e e' w, S 0 e w → S 0 e' w) (h0 : ∀ w0, F.g w w0 → S 0 e w0)
    (h : ∀ w0, F.g w w0 → AOU P l.toArray F S ms w0 e (fun D => ∀ w', F.r w0 w' → Fin (fun e w => S ms.length e w → WL P l.toArray Q (l.drop m) e w) D e w') (l.take m) an []) :
    W P N (.region id l.toArray true) Q e w := by
  have hl := List.take_append_drop m l
  generalize hhd : l.take m = hd at *
  generalize htl : l.drop m = tl at *
  subst hl
  have h := h { w with drawn := w.drawn + 1 } (F.gdrew w)
  have h0 := h0 { w with drawn := w.drawn + 1 } (F.gdrew w)
  simp only [Bool.and_eq_true, List.all_eq_true] at hmo
  have hml : ∀ (j p : Nat), ms[j]? = some p → p < hd.length := fun j p hj => by
    have := hmo.2 p (List.mem_of_getElem? hj)
    simpa [Nat.blt_eq] using this
  intro b a k cs hs he
  subst he
  have sh := shape_of hsh
  obtain ⟨D, hK, hG, hDo, hDa⟩ := AOU_out _ _ _ (by rw [← han]; simp [ancB, length_ancL]) h (fun i d hd' => by simp at hd')
  have hDo' : D.map Dn.o = hd := by simpa using hDo
  have hDa' : D.map Dn.anc = ancB (hd ++ tl) hd.length := by rw [hDa, han]; simp
  have hno : ∀ i, ¬ Ls (Array.replicate (hd ++ tl).toArray.size false) i := fun i => by simp [Ls, Array.getD_eq_getD_getElem?, Array.getElem?_replicate]; split <;> simp
  have hany : AnyE P (hd ++ tl).toArray Q (hd ++ tl).toArray.size (Array.replicate (hd ++ tl).toArray.size false) (env b.roundOf a) { w with drawn := w.drawn + 1 } := by
    refine phase1U sh hDo' hDa' hG hS hSe hS0 hUo hmo.1 hml hK _ _ _ _ ⟨⟨rfl, rfl⟩, ⟨by simp, fun i o ho hl => absurd hl (hno i)⟩, fun i hl => absurd hl (hno i), F.refl _, ⟨0, Nat.zero_le _, h0, fun j p hj => ⟨fun hl => absurd hl (hno p), fun h => by omega⟩⟩, fun i d hd' hl => absurd hl (hno i), fun u _ => rfl⟩ ?_
    unfold Go.Proofs.Ytfhfecepcnapfaa.K.left
    have := List.countP_le_length (p := (!·)) (l := (Array.replicate (hd ++ tl).toArray.size false).toList)
    simpa using this
  have hs2 := AnyE_sound _ ((w.tape w.drawn (.order b.fn id))) _ _ _ hany
  obtain ⟨x, a', w', h1, h2, h3⟩ := ops_sound hdst (k := k) (cs := cs) _ a _ hs hs2
  refine ⟨x, a', w', h1, h2, .of (.one stepR_region_draw) ?_⟩
  simp only [Region.schedule, hm, Bool.true_or, if_true]
  exact h3

end main
end Go.Proofs.Ytfhfecepcnapfaa.K

namespace Go.Proofs.Ytfhfecepcnapfaa.K
open Go Go.RowKit
section
variable {P : Program} {fw : FuncId} {w : World} {ua uh : Value} {b : Bool} {A : List (List Int)} {s : Src}
end
theorem wordsE_rng (p : Pt) : 0 ≤ wordsE p ∧ wordsE p ≤ 65535 := by unfold wordsE; (repeat' split) <;> simp
section
variable {P : Program} {fw : FuncId} {w : World} {ua uh : Value} {b : Bool} {A : List (List Int)} {s : Src}
end
end Go.Proofs.Ytfhfecepcnapfaa.K

namespace Go.Proofs.Ytfhfecepcnapfaa.K
open Go Go.RowKit
theorem flat8_get : ∀ (l : List Int) (i : Nat), i < 8 * l.length → (l.flatMap byt8)[i]? = some (byt1 (l.getD (i / 8) 0) (i % 8))
  | [], i, h => by simp at h
  | x :: l, i, h => by
    rw [List.flatMap_cons]
    simp only [List.length_cons] at h
    by_cases hi : 8 ≤ i
    · rw [List.getElem?_append_right (by rw [byt8_len]; exact hi), byt8_len, flat8_get l (i - 8) (by omega), show i / 8 = (i - 8) / 8 + 1 from by omega, List.getD_cons_succ, show (i - 8) % 8 = i % 8 from by omega]
    · rw [List.getElem?_append_left (by rw [byt8_len]; omega), show i / 8 = 0 from by omega, List.getD_cons_zero, show i % 8 = i from by omega]
      simp [byt8, show i < 8 from by omega]
theorem nodeD_paidR {s : Src} (hr : ∀ seg a, ObR (followS s seg a).1) : ∀ (d : Nat) (seg a p : Int), 0 ≤ p → p ≤ 8192 → 0 ≤ (nodeD s d seg a p).1 ∧ (nodeD s d seg a p).1 ≤ 1000000000 ∧ ((nodeD s d seg a p).2.2 = 0 → (nodeD s d seg a p).1 ≤ 8192) := by
  have step : ∀ (d : Nat) (seg a p : Int), (∀ seg a p, 0 ≤ p → p ≤ 8192 → 0 ≤ (nodeF s d seg a p).1 ∧ (nodeF s d seg a p).1 ≤ 1000000000 ∧ ((nodeF s d seg a p).2.2 = 0 → (nodeF s d seg a p).1 ≤ 8192)) → 0 ≤ p → p ≤ 8192 → 0 ≤ (nodeD s d seg a p).1 ∧ (nodeD s d seg a p).1 ≤ 1000000000 ∧ ((nodeD s d seg a p).2.2 = 0 → (nodeD s d seg a p).1 ≤ 8192) := by
    intro d seg a p hf h0 h1
    obtain ⟨w0, w1⟩ := wordsO_range (hr seg a)
    rw [nodeD_eq]
    unfold nodeK
    split
    · exact ⟨h0, by show p ≤ _; omega, fun _ => h1⟩
    · split
      · exact ⟨by simp only []; omega, by simp only []; omega, fun h => by simp at h⟩
      · split
        · exact ⟨by simp only []; omega, by simp only []; omega, fun h => by simp at h⟩
        · rename_i hp
          obtain ⟨k1, k2, k3⟩ := kidsD_paid (hf (followS s seg a).1.seg) (a := kidA (followS s seg a).1) (p := p + (1 + wordsO (followS s seg a).1)) (by omega) (by omega) (kidN (followS s seg a).1).toNat
          split
          · rename_i he
            exact ⟨k1, k2, fun h => absurd h he⟩
          · rename_i he
            exact ⟨k1, k2, fun _ => k3 (by simpa using he)⟩
  intro d
  induction d with
  | zero => exact fun seg a p => step 0 seg a p (fun seg a p h0 h1 => ⟨h0, by show p ≤ _; omega, fun _ => h1⟩)
  | succ d ih => exact fun seg a p => step (d + 1) seg a p (fun seg a p h0 h1 => ih seg a p h0 h1)
theorem decE_rng (x : Int) : 0 ≤ decE x ∧ decE x ≤ 65535 := by unfold decE; (repeat' split) <;> simp
theorem ptrS_err {s : Src} (hn : ∀ seg a : Int, 0 ≤ (s.word seg a).2 ∧ (s.word seg a).2 ≤ 65535) (seg a : Int) : 0 ≤ (ptrS s seg a).2 ∧ (ptrS s seg a).2 ≤ 65535 := by
  unfold ptrS
  split
  · exact hn _ _
  · exact decE_rng _
theorem foundS_err (s : Src) (p : Pt) (seg a : Int) : 0 ≤ (foundS s p seg a).2 ∧ (foundS s p seg a).2 ≤ 65535 := by
  unfold foundS
  split
  · exact wordsE_rng _
  · split <;> simp
theorem followS_err {s : Src} (hn : ∀ seg a : Int, 0 ≤ (s.word seg a).2 ∧ (s.word seg a).2 ≤ 65535) (seg a : Int) : 0 ≤ (followS s seg a).2 ∧ (followS s seg a).2 ≤ 65535 := by
  unfold followS
  split
  · exact ptrS_err hn _ _
  · split
    · exact foundS_err _ _ _ _
    · split
      · unfold twiceS
        (repeat' split) <;> first | exact hn _ _ | exact decE_rng _ | exact foundS_err _ _ _ _ | simp
      · unfold landedS
        (repeat' split) <;> first | exact ptrS_err hn _ _ | exact foundS_err _ _ _ _ | simp
theorem kidsD_err {f : Int → Int → Int × Nd × Int} (hf : ∀ a p, 0 ≤ (f a p).2.2 ∧ (f a p).2.2 ≤ 65535) (a p : Int) : ∀ n, 0 ≤ (kidsD f a p n).2.2 ∧ (kidsD f a p n).2.2 ≤ 65535
  | 0 => by simp [kidsD]
  | n + 1 => by
    rw [kidsD]
    split
    · exact kidsD_err hf a p n
    · exact hf _ _
theorem nodeD_err {s : Src} (hn : ∀ seg a : Int, 0 ≤ (s.word seg a).2 ∧ (s.word seg a).2 ≤ 65535) : ∀ (d : Nat) (seg a p : Int), 0 ≤ (nodeD s d seg a p).2.2 ∧ (nodeD s d seg a p).2.2 ≤ 65535 := by
  have step : ∀ (d : Nat) (seg a p : Int), (∀ seg a p, 0 ≤ (nodeF s d seg a p).2.2 ∧ (nodeF s d seg a p).2.2 ≤ 65535) → 0 ≤ (nodeD s d seg a p).2.2 ∧ (nodeD s d seg a p).2.2 ≤ 65535 := by
    intro d seg a p hf
    rw [nodeD_eq]
    unfold nodeK
    split
    · exact followS_err hn seg a
    · split
      · simp
      · split
        · simp
        · split
          · exact kidsD_err (hf _) _ _ _
          · simp
  intro d
  induction d with
  | zero => exact fun seg a p => step 0 seg a p (fun _ _ _ => by simp [nodeF])
  | succ d ih => exact fun seg a p => step (d + 1) seg a p ih
theorem decT_err {A : List (List Int)} (hx : ∀ q ∈ A, ∀ x ∈ q, inR .u64 x) : 0 ≤ (decT A).2 ∧ (decT A).2 ≤ 65535 := by
  unfold decT
  split
  · simp
  · exact nodeD_err (fun seg a => ⟨(wordA_num hx seg a).2.2.1, (wordA_num hx seg a).2.2.2⟩) 32 0 0 0
end Go.Proofs.Ytfhfecepcnapfaa.K

namespace Go.Proofs.Ytfhfecepcnapfaa.K
open Go Go.RowKit
/-- What is found, and the tree that it has. -/
inductive Dec (s : Src) : Ob → Nd → Prop
  | mk (o : Ob) (ks : List Nd) (hl : (ks.length : Int) = kidN o) (he : ∀ j : Nat, j < ks.length → (followS s o.seg (kidA o + (j : Int))).2 = 0)
      (hd : ∀ (j : Nat) (hj : j < ks.length), Dec s (followS s o.seg (kidA o + (j : Int))).1 ks[j]) : Dec s o (.mk o.kind o.size (nodL s o) (nodB s o) ks)
theorem kidN_kind {o : Ob} (hk : ObK o) (h : o.kind = 0) : kidN o = 0 := by
  rcases hk with rfl | h1 | h1
  · rfl
  · omega
  · omega
theorem words_obK {o : Ob} (hk : ObK o) (hr : ObR o) : wordsO o = if o.kind = 1 then o.data + o.ptrs else if o.kind = 2 then (if o.size = 2 then (o.count + 7) / 8 else o.count) else 0 := by
  have r1 := hr.data
  have r2 := hr.ptrs
  have r3 := hr.count
  have r4 := hr.kind
  unfold wordsO
  rw [if_neg (by omega), wordsN_ob, wordsN_mk]
  by_cases h1 : o.kind = 1
  · rw [if_neg (by omega), if_pos h1, if_pos h1, wrap_in (by simp only [inR]; omega)]
  · by_cases h2 : o.kind = 2
    · rw [if_neg (by omega), if_neg h1, if_neg (by omega), if_pos h2, if_neg h1, if_pos h2]
      rcases hk with rfl | h | ⟨-, -, -, h⟩
      · simp [Ob0] at h2
      · omega
      · by_cases h3 : o.size = 2
        · rw [if_pos h3, if_pos h3, wrap_in (by simp only [inR]; omega : inR .i64 (o.count + 8)), wrap_in (by simp only [inR]; omega : inR .i64 (o.count + 8 - 1)), Int.tdiv_eq_ediv_of_nonneg (by omega), wrap_in (by simp only [inR]; omega)]
          omega
        · rw [if_neg h3, if_neg h3, if_pos (by omega)]
    · rw [if_pos (by omega), if_neg h1, if_neg h2]
theorem nodL_len (s : Src) (o : Ob) : (nodL s o).length = (if o.size = 5 then o.count else o.data).toNat := wordsS_len _ _ _ _
theorem nodB_len (s : Src) (o : Ob) : (nodB s o).length = if o.size = 2 then o.count.toNat else 0 := by
  unfold nodB; split
  · exact bytesS_len _ _ _ _
  · rfl
theorem dec_need {s : Src} {o : Ob} {t : Nd} (h : Dec s o t) (hk : ObK o) (hr : ObR o) : t.need = wordsO o := by
  obtain ⟨o, ks, hl, -, -⟩ := h
  rw [words_obK hk hr]
  have r1 := hr.data
  have r2 := hr.ptrs
  have r3 := hr.count
  have r4 := hr.kind
  simp only [Nd.need, nodL_len, nodB_len]
  unfold kidN at hl
  by_cases h1 : o.kind = 1
  · rw [if_pos h1, if_pos h1]
    have h5 : o.size = 0 := by
      rcases hk with rfl | h | h
      · simp [Ob0] at h1
      · exact h.2.1
      · omega
    rw [if_neg (by omega)] at hl
    rw [if_neg (by omega)]; omega
  · by_cases h2 : o.kind = 2
    · rw [if_neg h1, if_pos h2, if_neg h1, if_pos h2]
      rcases hk with rfl | h | ⟨-, g1, g2, h⟩
      · simp [Ob0] at h2
      · omega
      · rcases h with h | h | h
        · rw [if_neg (by omega)] at hl
          rw [if_neg (by omega), if_pos h, if_pos h]; omega
        · rw [if_neg (by omega)] at hl
          rw [if_pos h, if_neg (by omega), if_neg (by omega)]; omega
        · rw [if_pos h] at hl
          rw [if_neg (by omega), if_neg (by omega), if_neg (by omega)]; omega
    · rw [if_neg h1, if_neg h2, if_neg h1, if_neg h2]
theorem kidsD_zero {f : Int → Int → Int × Nd × Int} {a p r : Int} {n : Nat} {ks : List Nd} (h : kidsD f a p (n + 1) = (r, ks, 0)) :
    ∃ q ts t, kidsD f a p n = (q, ts, 0) ∧ f (a + (n : Int)) q = (r, t, 0) ∧ ks = ts ++ [t] := by
  rw [kidsD] at h
  by_cases h0 : (kidsD f a p n).2.2 ≠ 0
  · rw [if_pos h0] at h
    rw [h] at h0
    exact absurd rfl h0
  · rw [if_neg h0] at h
    have h1 : (kidsD f a p n).2.2 = 0 := by simpa using h0
    simp only [Prod.mk.injEq] at h
    obtain ⟨g1, g2, g3⟩ := h
    refine ⟨(kidsD f a p n).1, (kidsD f a p n).2.1, (f (a + (n : Int)) (kidsD f a p n).1).2.1, by rw [← h1], ?_, g2.symm⟩
    rw [← g1, ← g3]
theorem cstL_app : ∀ (a b : List Nd), Nd.cstL (a ++ b) = Nd.cstL a + Nd.cstL b
  | [], b => by rw [List.nil_append]; simp [Nd.cstL]
  | t :: a, b => by rw [List.cons_append, Nd.cstL, Nd.cstL, cstL_app a b]; omega
theorem kidsD_all {f : Int → Int → Int × Nd × Int} {P : Int → Nd → Prop} (hf : ∀ a p q t, f a p = (q, t, 0) → P a t ∧ q = p + t.cst) (a p : Int) : ∀ (n : Nat) (r : Int) (ks : List Nd), kidsD f a p n = (r, ks, 0) → ks.length = n ∧ (∀ (j : Nat) (hj : j < ks.length), P (a + (j : Int)) ks[j]) ∧ r = p + Nd.cstL ks
  | 0, r, ks, h => by
    simp only [kidsD, Prod.mk.injEq] at h
    obtain ⟨rfl, rfl, -⟩ := h
    exact ⟨rfl, fun j hj => by simp at hj, by simp [Nd.cstL]⟩
  | n + 1, r, ks, h => by
    obtain ⟨q, ts, t, h1, h2, rfl⟩ := kidsD_zero h
    obtain ⟨i1, i2, i3⟩ := kidsD_all hf a p n q ts h1
    obtain ⟨j1, j2⟩ := hf _ _ _ _ h2
    refine ⟨by simp [i1], fun j hj => ?_, ?_⟩
    · by_cases hjn : j < n
      · rw [List.getElem_append_left (by omega)]; exact i2 j (by omega)
      · have hjn : j = n := by simp only [List.length_append, List.length_singleton] at hj; omega
        subst hjn
        rw [List.getElem_append_right (by omega)]
        simp only [i1, Nat.sub_self, List.getElem_cons_zero]
        exact j1
    · rw [cstL_app, Nd.cstL, Nd.cstL, j2, i3]; omega
theorem nodeD_dec {s : Src} (hr : ∀ seg a, ObR (followS s seg a).1) : ∀ (d : Nat) (seg a p q : Int) (t : Nd), nodeD s d seg a p = (q, t, 0) → (followS s seg a).2 = 0 ∧ Dec s (followS s seg a).1 t ∧ q = p + t.cst := by
  have step : ∀ (d : Nat), (d ≠ 0 → ∀ (seg a p q : Int) (t : Nd), nodeF s d seg a p = (q, t, 0) → ((followS s seg a).2 = 0 ∧ Dec s (followS s seg a).1 t) ∧ q = p + t.cst) → ∀ (seg a p q : Int) (t : Nd), nodeD s d seg a p = (q, t, 0) → (followS s seg a).2 = 0 ∧ Dec s (followS s seg a).1 t ∧ q = p + t.cst := by
    intro d hf seg a p q t h
    have hR := hr seg a
    have hK := followS_kind s seg a
    rw [nodeD_eq] at h
    unfold nodeK at h
    generalize ho : (followS s seg a).1 = o at h hR hK ⊢
    by_cases h1 : (followS s seg a).2 ≠ 0
    · rw [if_pos h1] at h; simp only [Prod.mk.injEq] at h; exact absurd h.2.2 h1
    · rw [if_neg h1] at h
      by_cases h2 : o.kind ≠ 0 ∧ (d == 0) = true
      · rw [if_pos h2] at h; simp at h
      · rw [if_neg h2] at h
        by_cases h3 : p + (1 + wordsO o) > 8192
        · rw [if_pos h3] at h; simp at h
        · rw [if_neg h3] at h
          generalize hks : kidsD (nodeF s d o.seg) (kidA o) (p + (1 + wordsO o)) (kidN o).toNat = K at h
          by_cases h4 : K.2.2 ≠ 0
          · rw [if_pos h4] at h; simp only [Prod.mk.injEq] at h; exact absurd h.2.2 h4
          · rw [if_neg h4] at h
            have h5 : K.2.2 = 0 := by simpa using h4
            simp only [Prod.mk.injEq] at h
            obtain ⟨rfl, rfl, -⟩ := h
            have hn0 : 0 ≤ kidN o := by unfold kidN; have := hR.count; have := hR.ptrs; split <;> omega
            have key : K.2.1.length = (kidN o).toNat ∧ (∀ (j : Nat) (hj : j < K.2.1.length), (followS s o.seg (kidA o + (j : Int))).2 = 0 ∧ Dec s (followS s o.seg (kidA o + (j : Int))).1 K.2.1[j]) ∧ K.1 = (p + (1 + wordsO o)) + Nd.cstL K.2.1 := by
              by_cases hz : o.kind = 0
              · have hkn := kidN_kind hK hz
                rw [hkn] at hks ⊢
                have hks2 : K = (p + (1 + wordsO o), [], 0) := hks.symm.trans rfl
                rw [hks2]
                exact ⟨rfl, fun j hj => by simp at hj, by simp [Nd.cstL]⟩
              · have hd : d ≠ 0 := fun hd => h2 ⟨hz, by rw [hd]; rfl⟩
                have hK5 : K = (K.1, K.2.1, 0) := by rw [← h5]
                exact kidsD_all (P := fun x t => (followS s o.seg x).2 = 0 ∧ Dec s (followS s o.seg x).1 t) (fun x p q t h => hf hd _ _ _ _ _ h) (kidA o) (p + (1 + wordsO o)) _ _ _ (hks.trans hK5)
            obtain ⟨k1, k2, k3⟩ := key
            have hD : Dec s o (.mk o.kind o.size (nodL s o) (nodB s o) K.2.1) := Dec.mk o K.2.1 (by omega) (fun j hj => (k2 j hj).1) (fun j hj => (k2 j hj).2)
            refine ⟨by simpa using h1, hD, ?_⟩
            rw [Nd.cst, dec_need hD hK hR, k3]; omega
  intro d
  induction d with
  | zero => exact step 0 (fun h => absurd rfl h)
  | succ d ih => exact step (d + 1) (fun _ seg a p q t h => by obtain ⟨i1, i2, i3⟩ := ih seg a p q t h; exact ⟨⟨i1, i2⟩, i3⟩)
/-! ### a step, and what is there -/
theorem dec_nil (s : Src) : Dec s Ob0 .nil := Dec.mk Ob0 [] rfl (fun j hj => by simp at hj) (fun j hj => by simp at hj)
theorem dec_step {s : Src} {o : Ob} {t : Nd} (h : Dec s o t) (hk : ObK o) {k : Int} (k0 : 0 ≤ k) :
    (stepS s o k).2 = (tstep t k).2 ∧ ((tstep t k).2 = 0 → Dec s (stepS s o k).1 (tstep t k).1) := by
  obtain ⟨o, ks, hl, he, hd⟩ := h
  rw [tstep_mk]
  unfold stepS
  have hkid : ∀ (_ : k < kidN o) (_ : k < ks.length), (followS s o.seg (kidA o + k)).2 = 0 ∧ Dec s (followS s o.seg (kidA o + k)).1 (ks.getD k.toNat .nil) := fun h1 h2 => by
    have h3 : k.toNat < ks.length := by omega
    have h4 := he k.toNat h3
    have h5 := hd k.toNat h3
    rw [show ((k.toNat : Nat) : Int) = k from by omega] at h4 h5
    rw [List.getD_eq_getElem?_getD, List.getElem?_eq_getElem h3]
    exact ⟨h4, h5⟩
  rcases hk with rfl | ⟨g1, g2, g3⟩ | ⟨g1, g2, g3, g4⟩
  · simp only [Ob0, true_or, if_true, ne_eq, not_true_eq_false, false_and, if_false]
    exact ⟨by first | rfl | trivial, fun _ => dec_nil s⟩
  · have hn : kidN o = o.ptrs := by unfold kidN; rw [if_neg (by omega)]
    have hA : kidA o + k = o.at_ + k + o.data := by unfold kidA; rw [if_neg (by omega)]; omega
    rw [if_neg (show ¬ ((o.kind ≠ 0 ∧ o.kind ≠ 1) ∧ o.size ≠ 6) by omega)]
    by_cases h1 : k ≥ o.ptrs
    · rw [if_pos (.inr ⟨g1, h1⟩), if_neg (by omega), if_neg (by omega)]
      exact ⟨rfl, fun _ => dec_nil s⟩
    · rw [if_neg (by omega), if_pos g1, if_pos (by omega)]
      obtain ⟨i1, i2⟩ := hkid (by omega) (by omega)
      rw [hA] at i1 i2
      exact ⟨i1, fun _ => i2⟩
  · by_cases h6 : o.size = 6
    · have hn : kidN o = o.count := by unfold kidN; rw [if_pos h6]
      have hA : kidA o + k = o.at_ + k := by unfold kidA; rw [if_pos h6]
      rw [if_neg (show ¬ (o.kind = 0 ∨ (o.kind = 1 ∧ k ≥ o.ptrs)) by omega), if_neg (by omega), if_neg (show ¬ (o.size ≠ 6) by omega), if_neg (show ¬ ((o.kind ≠ 0 ∧ o.kind ≠ 1) ∧ o.size ≠ 6) by omega)]
      by_cases h1 : k ≥ o.count
      · rw [if_pos h1, if_neg (by omega), if_pos (by omega)]
        exact ⟨rfl, fun h => absurd h (by decide)⟩
      · rw [if_neg h1, if_pos (by omega)]
        obtain ⟨i1, i2⟩ := hkid (by omega) (by omega)
        rw [hA] at i1 i2
        exact ⟨i1, fun _ => i2⟩
    · rw [if_neg (show ¬ (o.kind = 0 ∨ (o.kind = 1 ∧ k ≥ o.ptrs)) by omega), if_neg (by omega), if_pos h6, if_pos (show (o.kind ≠ 0 ∧ o.kind ≠ 1) ∧ o.size ≠ 6 by omega)]
      exact ⟨rfl, fun h => absurd h (by decide)⟩
/-- All words of what is found are there. -/
def InO (s : Src) (o : Ob) : Prop := ∀ i : Int, 0 ≤ i → i < wordsO o → (s.word o.seg (o.at_ + i)).2 = 0
theorem wordsS_get (s : Src) (seg a : Int) {n i : Nat} (h : i < n) : (wordsS s seg a n).getD i 0 = (s.word seg (a + (i : Int))).1 := by
  rw [getD_at (by rw [wordsS_len]; exact h)]
  simp [wordsS]
theorem bytesS_get (s : Src) (seg a : Int) {n i : Nat} (h : i < n) : (bytesS s seg a n).getD i 0 = byt1 (s.word seg (a + (i : Int) / 8)).1 (i % 8) := by
  have hl : i / 8 < (wordsS s seg a ((n + 7) / 8)).length := by rw [wordsS_len]; omega
  rw [List.getD_eq_getElem?_getD]
  unfold bytesS
  rw [List.getElem?_take_of_lt h, flat8_get _ _ (by rw [wordsS_len]; omega), wordsS_get _ _ _ (by omega)]
  rw [show ((i / 8 : Nat) : Int) = (i : Int) / 8 from by omega]
  rfl
theorem dec_at {s : Src} {o : Ob} {t : Nd} (h : Dec s o t) (hk : ObK o) (hr : ObR o) (hi : InO s o) {k : Int} (k0 : 0 ≤ k) : atS s o k = tat t k := by
  have hw := words_obK hk hr
  obtain ⟨o, ks, hl, he, hd⟩ := h
  have r1 := hr.data
  have r2 := hr.ptrs
  have r3 := hr.count
  rw [tat_mk]
  simp only [nodL_len, nodB_len]
  unfold atS
  rcases hk with rfl | ⟨g1, g2, g3⟩ | ⟨g1, g2, g3, g4⟩
  · simp [Ob0]
  · rw [if_pos g1] at hw
    rw [if_neg (show ¬ ((o.kind ≠ 0 ∧ o.kind ≠ 1) ∧ o.size = 6) by omega), if_neg (show ¬ (o.size = 5) by omega)]
    by_cases h1 : k ≥ o.data
    · rw [if_pos (.inr ⟨g1, h1⟩), if_neg (by omega), if_neg (by omega), if_neg (by omega)]
    · rw [if_neg (by omega), if_pos g1, if_pos (by omega)]
      have hz := hi k k0 (by omega)
      unfold nodL
      rw [if_neg (by omega), wordsS_get _ _ _ (by omega), show ((k.toNat : Nat) : Int) = k from by omega]
      exact Prod.ext rfl hz
  · rw [if_neg (by omega), if_pos g1] at hw
    rw [if_neg (show ¬ (o.kind = 0 ∨ (o.kind = 1 ∧ k ≥ o.data)) by omega), if_neg (by omega)]
    rcases g4 with h2 | h5 | h6
    · rw [if_pos h2] at hw
      rw [if_neg (show ¬ o.size = 6 by omega), if_neg (show ¬ ((o.kind ≠ 0 ∧ o.kind ≠ 1) ∧ o.size = 6) by omega), if_neg (show ¬ o.size = 5 by omega), if_neg (show ¬ o.size = 5 by omega), if_pos h2, if_neg (show ¬ (o.kind ≠ 0 ∧ k < (o.data.toNat : Int)) by omega)]
      by_cases h1 : k ≥ o.count
      · rw [if_pos h1, if_neg (by omega), if_pos (by omega)]
      · rw [if_neg h1, if_pos (by omega)]
        have hz := hi (k / 8) (by omega) (by omega)
        unfold nodB
        rw [if_pos h2, bytesS_get _ _ _ (by omega)]
        refine Prod.ext ?_ hz
        show _ = byt1 _ _
        unfold byt1
        rw [show ((k.toNat : Nat) : Int) = k from by omega, show (k % 8 * 8).toNat = 8 * (k.toNat % 8) from by omega]
    · rw [if_neg (by omega)] at hw
      rw [if_neg (show ¬ o.size = 6 by omega), if_neg (show ¬ ((o.kind ≠ 0 ∧ o.kind ≠ 1) ∧ o.size = 6) by omega), if_pos h5, if_pos h5, if_neg (show ¬ o.size = 2 by omega)]
      by_cases h1 : k ≥ o.count
      · rw [if_pos h1, if_neg (by omega), if_neg (by omega), if_pos (by omega)]
      · rw [if_neg h1, if_pos (by omega)]
        have hz := hi k k0 (by omega)
        unfold nodL
        rw [if_pos h5, wordsS_get _ _ _ (by omega), show ((k.toNat : Nat) : Int) = k from by omega]
        exact Prod.ext rfl hz
    · rw [if_pos h6, if_pos (by omega)]
theorem dec_val {s : Src} {o : Ob} {t : Nd} (h : Dec s o t) (hk : ObK o) (hr : ObR o) (hi : InO s o) (a : Int) : valS s o a = tval t a := by
  unfold valS tval
  have hkind : t.kind = o.kind := by obtain ⟨o, ks, hl, he, hd⟩ := h; rfl
  by_cases ha : a < 0
  · rw [if_pos ha, if_pos ha]
    refine Prod.ext ?_ rfl
    obtain ⟨o, ks, hl, he, hd⟩ := h
    have r1 := hr.data
    have r2 := hr.ptrs
    have r3 := hr.count
    unfold kidN at hl
    show isS o = ⟨o.kind, o.size, ((nodL s o).length : Int) + (nodB s o).length, ks.length, 0⟩
    rw [nodL_len, nodB_len, hl]
    unfold isS
    rcases hk with rfl | ⟨g1, g2, g3⟩ | ⟨g1, g2, g3, g4⟩
    · simp [Ob0]
    · rw [if_neg (by omega), if_neg (by omega), if_neg (show ¬ o.size = 5 by omega), if_neg (show ¬ o.size = 2 by omega), if_neg (show ¬ o.size = 6 by omega)]
      rw [Vl.mk.injEq]; omega
    · rcases g4 with h2 | h5 | h6
      · rw [if_pos (by omega), if_neg (by omega), if_neg (show ¬ o.size = 5 by omega), if_pos h2, if_neg (show ¬ o.size = 6 by omega)]
        rw [Vl.mk.injEq]; omega
      · rw [if_pos (by omega), if_neg (by omega), if_pos h5, if_neg (show ¬ o.size = 2 by omega), if_neg (show ¬ o.size = 6 by omega)]
        rw [Vl.mk.injEq]; omega
      · rw [if_neg (by omega), if_pos (by omega), if_neg (show ¬ o.size = 5 by omega), if_neg (show ¬ o.size = 2 by omega), if_pos h6]
        rw [Vl.mk.injEq]; omega
  · rw [if_neg ha, if_neg ha, dec_at h hk hr hi (by omega), hkind]
/-! ### a path -/
/-- What the steps of a path cost, in a tree. -/
def pcT : List Int → Nd → Int
  | [], _ => 0
  | k :: ks, t => if (tstep t k).2 ≠ 0 then 0 else 1 + (tstep t k).1.need + pcT ks (tstep t k).1
theorem pcT_nn : ∀ (ks : List Int) (t : Nd), 0 ≤ pcT ks t
  | [], t => by simp [pcT]
  | k :: ks, t => by
    rw [pcT]
    split
    · omega
    · have := pcT_nn ks (tstep t k).1; have := Nd.need_nn (tstep t k).1; omega
theorem stepS_k (s : Src) {o : Ob} (hk : ObK o) (k : Int) : ObK (stepS s o k).1 := by
  unfold stepS
  (repeat' split) <;> first | exact .inl rfl | exact hk | exact followS_kind _ _ _
theorem stepS_in {s : Src} (hf : ∀ seg a, InO s (followS s seg a).1) {o : Ob} (ho : InO s o) (k : Int) : InO s (stepS s o k).1 := by
  have h0 : InO s Ob0 := fun i i0 i1 => absurd i1 (by have : wordsO Ob0 = 0 := rfl; omega)
  unfold stepS
  (repeat' split) <;> first | exact h0 | exact ho | exact hf _ _
theorem stepS_r {s : Src} (hf : ∀ seg a, ObR (followS s seg a).1) {o : Ob} (ho : ObR o) (k : Int) : ObR (stepS s o k).1 := by
  unfold stepS
  (repeat' split) <;> first | exact Ob0_range | exact ho | exact hf _ _
theorem next_dec {s : Src} (hR : ∀ seg a, ObR (followS s seg a).1) (hI : ∀ seg a, InO s (followS s seg a).1) (a : Int) : ∀ (ks : List Int) (o : Ob) (t : Nd) (left : Int), Dec s o t → ObK o → ObR o → InO s o → (∀ k ∈ ks, 0 ≤ k) → pcT ks t ≤ left →
    nextS s a ks o left = if (tgo ks t).2 ≠ 0 then (Vl0, (tgo ks t).2) else tval (tgo ks t).1 a
  | [], o, t, left, h, hk, hr, hi, _, _ => by
    rw [nextS, tgo, if_neg (by simp)]
    exact dec_val h hk hr hi a
  | k :: ks, o, t, left, h, hk, hr, hi, h0, hc => by
    obtain ⟨s1, s2⟩ := dec_step h hk (h0 k (by simp))
    rw [nextS, s1, tgo]
    rw [pcT] at hc
    by_cases he : (tstep t k).2 ≠ 0
    · rw [if_pos he, if_pos he, if_pos he]
    · rw [if_neg he] at hc
      rw [if_neg he, if_neg he]
      have hd := s2 (by simpa using he)
      have hk2 := stepS_k s hk k
      have hr2 := stepS_r hR hr k
      have hw := dec_need hd hk2 hr2
      have hn := pcT_nn ks (tstep t k).1
      rw [if_neg (by omega)]
      exact next_dec hR hI a ks _ _ _ hd hk2 hr2 (stepS_in hI hi k) (fun x hx => h0 x (by simp [hx])) (by omega)
/-- In an arena that has a tree a path leads to what it leads to in the tree, if that may be paid. -/
theorem walk_dec {s : Src} (hR : ∀ seg a, ObR (followS s seg a).1) (hI : ∀ seg a, InO s (followS s seg a).1) {t : Nd} (h0 : (followS s 0 0).2 = 0) (hd : Dec s (followS s 0 0).1 t) {ks : List Int} {a c : Int} (hc : 1 + t.need + pcT ks t ≤ c) : walkS s ks a c = askT t ks a := by
  have hr := hR 0 0
  have hk := followS_kind s 0 0
  have hw := dec_need hd hk hr
  have hp := pcT_nn ks t
  have hn := Nd.need_nn t
  unfold walkS askT
  by_cases h1 : ∃ k ∈ ks, k < 0
  · rw [if_pos h1, if_pos h1]
  · rw [if_neg h1, if_neg h1]
    by_cases h2 : (ks.length : Int) > 32
    · rw [if_pos h2, if_pos h2]
    · rw [if_neg h2, if_neg h2, if_neg (by simp [h0]), ← hw, if_neg (by omega)]
      refine next_dec hR hI a ks _ t _ hd hk hr (hI 0 0) (fun k hk => ?_) (by omega)
      exact Int.not_lt.1 fun h3 => h1 ⟨k, hk, h3⟩
/-! ### what a path costs -/
theorem cstL_at : ∀ (ks : List Nd) (j : Nat) (hj : j < ks.length), ks[j].cst ≤ Nd.cstL ks
  | t :: ts, 0, _ => by have := Nd.cstL_nn ts; rw [Nd.cstL]; simp only [List.getElem_cons_zero]; omega
  | t :: ts, j + 1, hj => by
    have := cstL_at ts j (by simpa using hj)
    have := Nd.cst_pos t
    rw [Nd.cstL]; simp only [List.getElem_cons_succ]; omega
theorem pcT_cost : ∀ (ks : List Int) (t : Nd), (∀ k ∈ ks, 0 ≤ k) → 1 + t.need + pcT ks t ≤ t.cst + ks.length
  | [], .mk k z w b l, _ => by have := Nd.cstL_nn l; rw [pcT, Nd.cst]; simp only [List.length_nil]; omega
  | k :: ks, .mk q z w b l, h => by
    have hn := Nd.cstL_nn l
    rw [pcT]
    split
    · rw [Nd.cst]; simp only [List.length_cons]; omega
    · rename_i he
      have ih := pcT_cost ks (tstep (.mk q z w b l) k).1 (fun x hx => h x (by simp [hx]))
      have hk0 := h k (by simp)
      have hc : (tstep (.mk q z w b l) k).1.cst ≤ Nd.cstL l ∨ (tstep (.mk q z w b l) k).1 = .nil := by
        rw [tstep_mk]
        split
        · exact .inr rfl
        · split
          · rename_i h2
            have h3 : k.toNat < l.length := by omega
            left
            rw [List.getD_eq_getElem?_getD, List.getElem?_eq_getElem h3]
            exact cstL_at l _ h3
          · split <;> exact .inr rfl
      simp only [List.length_cons]
      rw [Nd.cst]
      rcases hc with hc | hc
      · omega
      · rw [hc] at ih ⊢
        have : Nd.nil.cst = 1 := by simp [Nd.nil, Nd.cst, Nd.cstL, Nd.need]
        have hz : Nd.nil.need = 0 := by simp [Nd.nil, Nd.need]
        omega
mutual
theorem Nd.cost_cst : ∀ (t : Nd), t.cst ≤ 9007199254740992 → t.cost = t.cst
  | .mk k z w b ks, h => by
    rw [Nd.cst] at h ⊢
    have h0 := Nd.need_nn (.mk k z w b ks)
    rw [Nd.cost, Nd.costL_cst ks _ (by omega) (by omega)]
theorem Nd.costL_cst : ∀ (ts : List Nd) (n : Int), 0 ≤ n → n + Nd.cstL ts ≤ 9007199254740992 → Nd.costL ts n = n + Nd.cstL ts
  | [], n, _, _ => by simp [Nd.costL, Nd.cstL]
  | t :: ts, n, h0, h => by
    rw [Nd.cstL] at h ⊢
    have h1 := Nd.cst_pos t
    have h2 := Nd.cstL_nn ts
    rw [Nd.costL, Nd.cost_cst t (by omega), show capM (n + t.cst) = n + t.cst from by unfold capM; rw [if_neg (by omega)], Nd.costL_cst ts _ (by omega) (by omega)]
    omega
end
/-! ### an arena as a source -/
theorem within_whole {A : List (List Int)} {seg a n : Int} (h : withinP (wholeS A).sizes seg a n = true) : 0 ≤ seg ∧ seg < A.length ∧ 0 ≤ a ∧ 0 ≤ n ∧ a + n ≤ len2 A seg.toNat := by
  unfold withinP addOk at h
  simp only [Bool.and_eq_true, decide_eq_true_eq] at h
  obtain ⟨⟨h3, h4⟩, h5, h6, h7, h8⟩ := h
  have hl : (wholeS A).sizes.length = A.length := by simp [wholeS]
  have hz : (wholeS A).sizes.getD seg.toNat 0 = (len2 A seg.toNat : Int) := sizesP_at A seg.toNat
  rw [hl] at h4
  rw [hz] at h7 h8
  omega
theorem foundS_in (A : List (List Int)) (p : Pt) (seg a : Int) : InO (wholeS A) (foundS (wholeS A) p seg a).1 := by
  have h0 : InO (wholeS A) Ob0 := fun i i0 i1 => absurd i1 (by have : wordsO Ob0 = 0 := rfl; omega)
  unfold foundS
  split
  · exact h0
  · split
    · exact h0
    · rename_i hw
      have hw := within_whole (by simpa using hw)
      intro i i0 i1
      have hn : wordsO (objP p seg a) = wordsN (objP p seg a).pt := by
        unfold wordsO
        by_cases h3 : (objP p seg a).kind = 3
        · unfold wordsO at i1; rw [if_pos h3] at i1; omega
        · rw [if_neg h3]
      show (wordA A seg (a + i)).2 = 0
      unfold wordA
      rw [if_pos (by simp only [objP] at *; omega)]
theorem followS_in (A : List (List Int)) (seg a : Int) : InO (wholeS A) (followS (wholeS A) seg a).1 := by
  have h0 : InO (wholeS A) Ob0 := fun i i0 i1 => absurd i1 (by have : wordsO Ob0 = 0 := rfl; omega)
  unfold followS
  split
  · exact h0
  · split
    · exact foundS_in A _ _ _
    · split
      · unfold twiceS
        (repeat' split) <;> first | exact h0 | exact foundS_in A _ _ _
      · unfold landedS
        (repeat' split) <;> first | exact h0 | exact foundS_in A _ _ _
theorem decT_dec {A : List (List Int)} (hR : ∀ seg a, ObR (followS (wholeS A) seg a).1) (h : (decT A).2 = 0) : rightB A = true ∧ (followS (wholeS A) 0 0).2 = 0 ∧ Dec (wholeS A) (followS (wholeS A) 0 0).1 (decT A).1 ∧ (decT A).1.cst ≤ 8192 := by
  unfold decT at h ⊢
  by_cases hr : rightB A = false
  · rw [if_pos hr] at h; exact absurd h (by decide)
  · rw [if_neg hr] at h ⊢
    have hE : nodeD (wholeS A) 32 0 0 0 = ((nodeD (wholeS A) 32 0 0 0).1, (nodeD (wholeS A) 32 0 0 0).2.1, 0) := Prod.ext rfl (Prod.ext rfl h)
    obtain ⟨h1, h2, h3⟩ := nodeD_dec hR 32 0 0 0 _ _ hE
    have h4 := (nodeD_paidR hR 32 0 0 0 (by decide) (by decide)).2.2 h
    exact ⟨by simpa using hr, h1, h2, by omega⟩
/-! ### small things -/
def okW (x : Int) : Bool := !nearP (decP x) || decide (wordsN (decP x) ≤ 100) || decide ((decP x).off < -5000) || decide ((decP x).off > 5000)
def AllW (A : List (List Int)) : Prop := ∀ q ∈ A, ∀ x ∈ q, okW x = true
theorem okW_enc {p : Pt} (h : nearP p = true → wordsN p ≤ 100) : okW (encR p) = true := by
  unfold encR
  split
  · rename_i he
    have hd := (of_decide_eq_true he).2
    unfold okW
    rw [hd]
    cases hn : nearP p with
    | false => rfl
    | true => rw [decide_eq_true (h hn)]; rfl
  · rfl
theorem AllW.getD {A : List (List Int)} (h : AllW A) (s : Nat) : ∀ x ∈ A.getD s [], okW x = true := by
  by_cases hs : s < A.length
  · rw [getD_at hs]; exact h _ (List.getElem_mem hs)
  · rw [List.getD_eq_getElem?_getD, List.getElem?_eq_none (by omega)]; intro x hx; simp at hx
theorem AllW.set {A : List (List Int)} (h : AllW A) (s i : Nat) {x : Int} (hx : okW x = true) : AllW (setP A s i x) := by
  intro q hq y hy
  rcases List.mem_or_eq_of_mem_set hq with hq | rfl
  · exact h q hq y hy
  · rcases List.mem_or_eq_of_mem_set hy with hy | rfl
    · exact h.getD s y hy
    · exact hx
theorem AllW.grow {A : List (List Int)} (h : AllW A) (q : Nat) {l : List Int} (hl : ∀ x ∈ l, okW x = true) : AllW (growA A q l) := by
  have hB : AllW (growB A q) := by
    unfold K.growB
    split
    · intro p hp y hy
      rcases List.mem_append.1 hp with hp | hp
      · exact h p hp y hy
      · simp only [List.mem_singleton] at hp; subst hp; simp at hy
    · exact h
  intro p hp y hy
  unfold growA at hp
  rcases List.mem_or_eq_of_mem_set hp with hp | rfl
  · exact hB p hp y hy
  · rcases List.mem_append.1 hy with hy | hy
    · exact hB.getD q y hy
    · exact hl y hy
mutual
/-- A tree of small things, whose words tell of small things only. -/
def Nd.sml : Nd → Prop
  | .mk k z w b ks => (w.length : Int) + ks.length + b.length ≤ 100 ∧ (∀ x ∈ w, okW x = true) ∧ (∀ x ∈ chunksP b, okW x = true) ∧ Nd.smlL ks
def Nd.smlL : List Nd → Prop
  | [] => True
  | t :: ts => t.sml ∧ Nd.smlL ts
end
theorem smlL_all : ∀ {ts : List Nd}, (∀ t ∈ ts, t.sml) → Nd.smlL ts
  | [], _ => trivial
  | t :: ts, h => ⟨h t (by simp), smlL_all fun u hu => h u (by simp [hu])⟩
theorem near_w {t : Nd} (h : t.sml) (off : Int) : okW (t.near off) = true := by
  cases t with
  | mk k z w b ks =>
    rw [Nd.sml] at h
    obtain ⟨h1, -⟩ := h
    refine okW_enc fun hn => ?_
    simp only [Nd.ptr] at hn ⊢
    by_cases hk1 : k = 1
    · rw [if_pos hk1]
      rw [wordsN_mk, if_neg (by omega), if_pos hk1, wrap_in (by simp only [inR]; omega)]
      omega
    · by_cases hk2 : k = 2
      · rw [if_neg hk1, if_pos hk2]
        rw [wordsN_mk, if_neg (by omega), if_neg hk1, if_neg (by omega), if_pos hk2]
        by_cases hz : z = 2
        · rw [if_pos hz, wrap_in (by simp only [inR]; omega : inR .i64 ((w.length : Int) + ks.length + b.length + 8)), wrap_in (by simp only [inR]; omega : inR .i64 ((w.length : Int) + ks.length + b.length + 8 - 1)), Int.tdiv_eq_ediv_of_nonneg (by omega), wrap_in (by simp only [inR]; omega)]
          omega
        · rw [if_neg hz]
          split <;> omega
      · rw [if_neg hk1, if_neg hk2] at hn
        simp [nearP, hk1, hk2] at hn
theorem place_w (size : Int) (t : Nd) (S : Lay) (s i : Nat) (ht : t.sml) (h : AllW S.A) : AllW (placeP size t S s i).S.A := by
  have hf : ∀ x y, okW (farP x y) = true := fun x y => okW_enc (fun hn => by simp [nearP] at hn)
  have h1 : ∀ x ∈ [t.near 0], okW x = true := fun x hx => by simp only [List.mem_singleton] at hx; subst hx; exact near_w ht 0
  unfold placeP
  split
  · exact h.set _ _ (near_w ht _)
  · split
    · exact (h.set _ _ (hf _ _)).grow _ h1
    · exact (h.set _ _ (hf _ _)).grow _ h1
theorem content_w {k z : Int} {w b : List Int} {ks : List Nd} (hw : ∀ x ∈ w, okW x = true) (hb : ∀ x ∈ chunksP b, okW x = true) : ∀ x ∈ (Nd.mk k z w b ks).content, okW x = true := by
  intro x hx
  simp only [Nd.content, List.mem_append, List.mem_replicate] at hx
  rcases hx with (hx | hx) | ⟨-, rfl⟩
  · exact hw x hx
  · exact hb x hx
  · rfl
mutual
theorem lay_w (size : Int) : ∀ (t : Nd) (S : Lay) (s i : Nat), t.sml → AllW S.A → AllW (t.lay size S s i).A
  | .mk k z w b ks, S, s, i, ht, h => by
    have ht2 := ht
    rw [Nd.sml] at ht2
    simp only [Nd.lay]
    split
    · exact h
    · split
      · exact h.set _ _ (near_w ht _)
      · exact lays_w size ks _ _ _ ht2.2.2.2 ((place_w size _ S s i ht h).grow _ (content_w ht2.2.1 ht2.2.2.1))
theorem lays_w (size : Int) : ∀ (ts : List Nd) (S : Lay) (s i : Nat), Nd.smlL ts → AllW S.A → AllW (Nd.lays size ts S s i).A
  | [], S, s, i, _, h => h
  | t :: ts, S, s, i, hw, h => by
    rw [Nd.smlL] at hw
    simp only [Nd.lays]
    exact lays_w size ts _ _ _ hw.2 (lay_w size t S s i hw.1 h)
end
theorem build_w {t : Nd} (size : Int) (ht : t.sml) : AllW (t.build size).1 := by
  unfold Nd.build
  split
  · intro q hq; simp at hq
  · split
    · intro q hq; simp at hq
    · refine lay_w size t _ 0 0 ht ?_
      intro q hq x hx
      simp only [List.mem_singleton] at hq
      subst hq
      simp only [List.mem_singleton] at hx
      subst hx
      rfl
def chkW (k : Nat) : Bool :=
  ((k % 8 != 1 && k % 8 != 2) || (chunksP ((List.range (3 * (k / 8 % 5) + k % 2)).map (bTree k))).all okW) && (((k % 8 != 3) || ((List.range (k / 8 % 5)).map (w3Tree k)).all okW) && ((List.range (k / 64)).map (w4Tree k)).all okW)
theorem chkW_all : ∀ k : _root_.Fin 256, chkW k.val = true := by decide +kernel
theorem chkW_of {k : Int} (h0 : 0 ≤ k) (h1 : k ≤ 255) : ((k % 8 = 1 ∨ k % 8 = 2) → ∀ x ∈ chunksP ((List.range (3 * (k / 8 % 5) + k % 2).toNat).map (bTree k)), okW x = true) ∧ (k % 8 = 3 → ∀ x ∈ (List.range (k / 8 % 5).toNat).map (w3Tree k), okW x = true) ∧ ∀ x ∈ (List.range (k / 64).toNat).map (w4Tree k), okW x = true := by
  obtain ⟨n, rfl⟩ := Int.eq_ofNat_of_zero_le h0
  have h := chkW_all ⟨n, by omega⟩
  simp only [chkW, Bool.and_eq_true, Bool.or_eq_true, List.all_eq_true, bne_iff_ne, ne_eq] at h
  obtain ⟨a1, a2, a3⟩ := h
  refine ⟨fun hk x hx => ?_, fun hk x hx => ?_, fun x hx => ?_⟩
  · rcases a1 with a1 | a1
    · omega
    · exact a1 x (by rw [show 3 * (n / 8 % 5) + n % 2 = (3 * ((n : Int) / 8 % 5) + (n : Int) % 2).toNat from by omega]; exact hx)
  · rcases a2 with a2 | a2
    · omega
    · exact a2 x (by rw [show n / 8 % 5 = ((n : Int) / 8 % 5).toNat from by omega]; exact hx)
  · exact a3 x (by rw [show n / 64 = ((n : Int) / 64).toNat from by omega]; exact hx)
theorem treesP_length (f : List Int → Nd × List Int) : ∀ (n : Nat) (c : List Int), (treesP f n c).1.length = n
  | 0, c => rfl
  | n + 1, c => by simp [treesP, treesP_length f n]
theorem treeP_sml : ∀ (d : Nat) (c : List Int), isU8 c → (treeP d c).1.sml
  | 0, c, _ => ⟨by simp, by simp, by simp [chunksP], trivial⟩
  | d + 1, [], _ => ⟨by simp, by simp, by simp [chunksP], trivial⟩
  | d + 1, k :: c, h => by
    have hk := h k (by simp)
    simp only [inR] at hk
    have hc : isU8 c := fun x hx => h x (by simp [hx])
    have hks : ∀ n, Nd.smlL (treesP (treeP d) n c).1 := fun n => smlL_all (treesP_all (f := treeP d) (Q := isU8) (R := Nd.sml) (fun c hq => ⟨treeP_rest d c hq, treeP_sml d c hq⟩) n c hc)
    have hlen := treesP_length (treeP d) (k / 8 % 5).toNat c
    obtain ⟨c1, c2, c3⟩ := chkW_of (k := k) (by omega) (by omega)
    have hn : ∀ x ∈ chunksP [], okW x = true := by simp [chunksP]
    simp only [treeP]
    split
    · exact ⟨by simp, by simp, hn, trivial⟩
    · split
      · rename_i h2
        exact ⟨by simp only [List.length_nil, List.length_map, List.length_range]; omega, by simp, c1 h2, trivial⟩
      · split
        · rename_i h3
          exact ⟨by simp only [List.length_nil, List.length_map, List.length_range]; omega, c2 h3, hn, trivial⟩
        · split
          · exact ⟨by simp only [List.length_nil, hlen]; omega, by simp, hn, hks _⟩
          · exact ⟨by simp only [List.length_nil, List.length_map, List.length_range, hlen]; omega, c3, hn, hks _⟩
theorem bent_w {xs : List Int} (h : isU8 xs) {k : Int} {A : List (List Int)} (hA : Bent1 xs k A) : AllW A := by
  have hB : AllW (bentB xs k) := by unfold bentB; split <;> exact build_w _ (treeP_sml 6 xs h)
  unfold Bent1 at hA
  induction hA with
  | refl => exact hB
  | @put A s i x y _ hs hi x0 x1 y0 y1 ih =>
    refine ih.set _ _ (okW_enc fun hn => ?_)
    unfold bentP at hn ⊢
    by_cases h1 : x % 3 = 0
    · rw [if_pos h1, wordsN_mk, if_neg (by decide), if_pos rfl, wrap_in (by simp only [inR]; omega)]; omega
    · rw [if_neg h1] at hn ⊢
      by_cases h2 : x % 3 = 1
      · rw [if_pos h2, wordsN_mk, if_neg (by decide), if_neg (by decide), if_neg (by decide), if_pos rfl]
        rw [wrap_in (by simp only [inR]; omega : inR .i64 (x / 16 + 8)), wrap_in (by simp only [inR]; omega : inR .i64 (x / 16 + 8 - 1)), Int.tdiv_eq_ediv_of_nonneg (by omega), wrap_in (by simp only [inR]; omega)]
        (repeat' split) <;> omega
      · rw [if_neg h2] at hn
        simp [nearP] at hn
/-- What is found where all words tell of small things is small. -/
theorem found_sml {A : List (List Int)} (hl : ∀ q, len2 A q ≤ 4096) {x : Int} (hx : okW x = true) (hn : nearP (decP x) = true) {seg a : Int} (ha : (decP x).off = 0 ∨ (∃ b, a = b + 1 + (decP x).off ∧ 0 ≤ b ∧ b ≤ 4096)) : wordsO (foundS (wholeS A) (decP x) seg a).1 ≤ 100 := by
  have h0 : wordsO Ob0 ≤ 100 := by decide
  unfold foundS
  split
  · exact h0
  · split
    · exact h0
    · rename_i hw
      have hw := within_whole (by simpa using hw)
      have h4 := hl seg.toNat
      have hk : (decP x).kind = 1 ∨ (decP x).kind = 2 := by simpa [nearP] using hn
      have hwo : wordsO (objP (decP x) seg a) = wordsN (decP x) := by
        unfold wordsO
        rw [if_neg (by show ¬ (decP x).kind = 3; omega)]
        generalize decP x = p at hk ⊢
        obtain ⟨y1, y2, y3, y4, y5, y6, y7, y8⟩ := p
        show wordsN ⟨y1, 0, y3, y4, y5, y6, 0, false⟩ = wordsN ⟨y1, y2, y3, y4, y5, y6, y7, y8⟩
        rw [wordsN_mk, wordsN_mk]
        have hk3 : ¬ y1 = 3 := by have : y1 = 1 ∨ y1 = 2 := hk; omega
        rw [if_neg hk3, if_neg hk3]
      have hsame : wordsN (objP (decP x) seg a).pt = wordsO (objP (decP x) seg a) := by unfold wordsO; rw [if_neg (by show ¬ (decP x).kind = 3; omega)]
      rw [hsame] at hw
      show wordsO (objP (decP x) seg a) ≤ 100
      rw [hwo] at hw ⊢
      unfold okW at hx
      simp only [hn, Bool.not_true, Bool.false_or, Bool.or_eq_true, decide_eq_true_eq] at hx
      rcases hx with (hx | hx) | hx
      · exact hx
      · rcases ha with ha | ⟨b, rfl, b0, b1⟩ <;> omega
      · rcases ha with ha | ⟨b, rfl, b0, b1⟩ <;> omega
theorem wordA_w {A : List (List Int)} (hW : AllW A) (seg a : Int) : okW (wordA A seg a).1 = true := by
  unfold wordA
  split
  · rename_i h
    obtain ⟨h1, h2, h3, h4⟩ := h
    exact hW.getD seg.toNat _ (getD_mem (by simp only [len2] at h4; omega))
  · rfl
theorem wordA_at {A : List (List Int)} (hl : ∀ q, len2 A q ≤ 4096) {seg a : Int} (h : (wordA A seg a).2 = 0) : 0 ≤ a ∧ a ≤ 4096 := by
  unfold wordA at h
  split at h
  · rename_i hc; have := hl seg.toNat; omega
  · exact absurd h (by decide)
theorem follow_sml {A : List (List Int)} (hW : AllW A) (hl : ∀ q, len2 A q ≤ 4096) (seg a : Int) : wordsO (followS (wholeS A) seg a).1 ≤ 100 := by
  have h0 : wordsO Ob0 ≤ 100 := by decide
  have hp : ∀ seg a, (ptrS (wholeS A) seg a).2 = 0 → (ptrS (wholeS A) seg a).1 = decP (wordA A seg a).1 ∧ 0 ≤ a ∧ a ≤ 4096 := fun seg a h => by
    unfold ptrS at h ⊢
    by_cases h1 : ((wholeS A).word seg a).2 ≠ 0
    · rw [if_pos h1] at h; exact absurd h h1
    · rw [if_neg h1]
      exact ⟨rfl, wordA_at hl (show (wordA A seg a).2 = 0 from by have h2 : ¬ (wordA A seg a).2 ≠ 0 := h1; simpa using h2)⟩
  unfold followS
  by_cases h1 : (ptrS (wholeS A) seg a).2 ≠ 0 ∨ (ptrS (wholeS A) seg a).1.kind = 0
  · rw [if_pos h1]; exact h0
  · rw [if_neg h1]
    obtain ⟨e1, b0, b1⟩ := hp seg a (by omega)
    split
    · rename_i h2
      rw [e1] at h2 ⊢
      exact found_sml hl (wordA_w hW _ _) h2 (.inr ⟨a, rfl, b0, b1⟩)
    · split
      · unfold twiceS
        split
        · exact h0
        · split
          · exact h0
          · split
            · exact h0
            · split
              · exact h0
              · split
                · exact h0
                · rename_i h3
                  have h4 : nearP (decP (wordA A (ptrS (wholeS A) seg a).1.seg ((ptrS (wholeS A) seg a).1.off + 1)).1) = true ∧ (decP (wordA A (ptrS (wholeS A) seg a).1.seg ((ptrS (wholeS A) seg a).1.off + 1)).1).off = 0 := by
                    refine ⟨?_, ?_⟩
                    · cases hq : nearP (decP (wordA A (ptrS (wholeS A) seg a).1.seg ((ptrS (wholeS A) seg a).1.off + 1)).1) with
                      | true => rfl
                      | false => exact absurd (.inr (.inr (.inl hq))) h3
                    · exact Int.not_lt.1 (fun hlt => h3 (.inr (.inr (.inr (Int.ne_of_lt hlt))))) |> fun g1 => Int.le_antisymm (Int.not_lt.1 fun hgt => h3 (.inr (.inr (.inr (Int.ne_of_gt hgt))))) g1
                  exact found_sml hl (wordA_w hW _ _) h4.1 (.inl h4.2)
      · unfold landedS
        split
        · exact h0
        · split
          · exact h0
          · rename_i h2 h3
            obtain ⟨e2, c0, c1⟩ := hp _ _ (by simpa using h2)
            have h3 : nearP (ptrS (wholeS A) (ptrS (wholeS A) seg a).1.seg (ptrS (wholeS A) seg a).1.off).1 = true := by simpa using h3
            rw [e2] at h3 ⊢
            exact found_sml hl (wordA_w hW _ _) h3 (.inr ⟨_, rfl, c0, c1⟩)
theorem pcT_sml {s : Src} (hR : ∀ seg a, ObR (followS s seg a).1) (hS : ∀ seg a, wordsO (followS s seg a).1 ≤ 100) : ∀ (ks : List Int) (o : Ob) (t : Nd), Dec s o t → ObK o → ObR o → wordsO o ≤ 100 → (∀ k ∈ ks, 0 ≤ k) → pcT ks t ≤ 101 * ks.length
  | [], o, t, h, hk, hr, ho, h0 => by rw [pcT]; simp
  | k :: ks, o, t, h, hk, hr, ho, h0 => by
    obtain ⟨s1, s2⟩ := dec_step h hk (h0 k (by simp))
    rw [pcT]
    simp only [List.length_cons]
    split
    · omega
    · rename_i he
      have hd := s2 (by simpa using he)
      have hk2 := stepS_k s hk k
      have hr2 := stepS_r hR hr k
      have ho2 : wordsO (stepS s o k).1 ≤ 100 := by
        unfold stepS
        (repeat' split) <;> first | exact (by decide : wordsO Ob0 ≤ 100) | exact ho | exact hS _ _
      have hw := dec_need hd hk2 hr2
      have ih := pcT_sml hR hS ks _ _ hd hk2 hr2 ho2 (fun x hx => h0 x (by simp [hx]))
      omega
theorem foundS_rngA {A : List (List Int)} (hA : A.length ≤ 16) (hl : ∀ q, len2 A q ≤ 4096) {p : Pt} (hp : PtR p) (hn : nearP p = true) (seg a : Int) : ObR (foundS (wholeS A) p seg a).1 := by
  unfold foundS
  split
  · exact Ob0_range
  · split
    · exact Ob0_range
    · rename_i hw
      obtain ⟨h1, h2, h3, h4, h5⟩ := within_whole (by simpa using hw)
      have h6 := hl seg.toNat
      have hk : p.kind = 1 ∨ p.kind = 2 := by simpa [nearP] using hn
      exact ⟨by show 0 ≤ p.kind ∧ p.kind ≤ 2; omega, by show 0 ≤ seg ∧ seg ≤ _; omega, by show 0 ≤ a ∧ a ≤ _; omega, hp.data, hp.ptrs, hp.size, hp.count⟩
theorem whole_rng {A : List (List Int)} (hA : A.length ≤ 16) (hl : ∀ q, len2 A q ≤ 4096) (hx : ∀ q ∈ A, ∀ x ∈ q, inR .u64 x) (seg a : Int) : ObR (followS (wholeS A) seg a).1 := by
  have hp : ∀ seg a, PtR (ptrS (wholeS A) seg a).1 := fun seg a => by
    obtain ⟨h1, h2, -, -⟩ := wordA_num hx seg a
    unfold ptrS
    split
    · exact Pt0_range
    · exact decP_range _ h1 h2
  unfold followS
  split
  · exact Ob0_range
  · split
    · rename_i h; exact foundS_rngA hA hl (hp _ _) h _ _
    · split
      · unfold twiceS
        split
        · exact Ob0_range
        · split
          · exact Ob0_range
          · split
            · exact Ob0_range
            · split
              · exact Ob0_range
              · split
                · exact Ob0_range
                · rename_i h
                  obtain ⟨n1, n2, -, -⟩ := wordA_num hx (ptrS (wholeS A) seg a).1.seg ((ptrS (wholeS A) seg a).1.off + 1)
                  refine foundS_rngA hA hl (decP_range _ n1 n2) ?_ _ _
                  cases hq : nearP (decP (wordA A (ptrS (wholeS A) seg a).1.seg ((ptrS (wholeS A) seg a).1.off + 1)).1) with
                  | true => rfl
                  | false => exact absurd (.inr (.inr (.inl hq))) h
      · unfold landedS
        split
        · exact Ob0_range
        · split
          · exact Ob0_range
          · rename_i h
            exact foundS_rngA hA hl (hp _ _) (by simpa using h) _ _
theorem right_len2 {A : List (List Int)} (h : rightB A = true) : A.length ≤ 16 ∧ ∀ q, len2 A q ≤ 4096 := by
  unfold rightB at h
  obtain ⟨-, h2, -, h4⟩ := of_decide_eq_true h
  exact ⟨h2, fun q => by have := seg_le_total A q; omega⟩
/-- The statement TreeWalks, of arenas and paths. -/
theorem tree_walks {xs : List Int} (h : isU8 xs) (hl : xs.length ≤ 200) {k : Int} {A : List (List Int)} (hA : Bent1 xs k A) (hd : (decT A).2 = 0) {ks : List Int} (h0 : ∀ x ∈ ks, 0 ≤ x) (h6 : ks.length ≤ 6) (a : Int) :
    walkS (wholeS A) ks a 8192 = askT (decT A).1 ks a ∧ walkS (wholeS A) ks a ((decT A).1.cost + ks.length) = askT (decT A).1 ks a ∧ (decT A).1.cost ≤ 8192 ∧ 1 ≤ (decT A).1.cost := by
  obtain ⟨hr, hx, -⟩ := hA.ok h hl
  obtain ⟨hlen, hl2⟩ := right_len2 hr
  have hR := whole_rng hlen hl2 hx
  obtain ⟨-, e0, hD, hc⟩ := decT_dec hR hd
  have hS := follow_sml (bent_w h hA) hl2
  have hk := followS_kind (wholeS A) 0 0
  have hn := dec_need hD hk (hR 0 0)
  have hs0 := hS 0 0
  have hp := pcT_sml hR hS ks _ _ hD hk (hR 0 0) hs0 h0
  have hq := pcT_cost ks (decT A).1 h0
  have hcst := Nd.cost_cst (decT A).1 (by omega)
  have hpos := Nd.cst_pos (decT A).1
  have hI := followS_in A
  exact ⟨walk_dec hR hI e0 hD (by omega), walk_dec hR hI e0 hD (by omega), by omega, by omega⟩
end Go.Proofs.Ytfhfecepcnapfaa.K

namespace Go.Proofs.Ytfhfecepcnapfaa.K
open Go Go.RowKit Go.Proofs
attribute [local irreducible] Run1 OpG WL W AO Gives
set_option maxRecDepth 100000 in
theorem TreeWalks_calls (w : World) {ad ae : Option Addr} {cp cq : Nat} {xs ys : List Int} (R : RowAt w 1 ad xs.length (xs.map (.int .u8))) (hx : ∀ x ∈ xs, inR .u8 x) (hcp : xs.length ≤ cp) (hcp2 : cp ≤ maxLen) (R2 : RowAt w 1 ae ys.length (ys.map (.int .u8))) (hy : ∀ x ∈ ys, inR .u8 x) {k : Int} (k0 : 0 ≤ k) (k1 : k ≤ 255) {af : Option Addr} {cr : Nat} {zs : List Int} (R3 : RowAt w 1 af zs.length (zs.map (.int .u8))) (hz : ∀ x ∈ zs, inR .u8 x) {at_ : Int} (a0 : 0 ≤ at_) (a1 : at_ ≤ 255) : Gives Try.prog 9 #[.slice ad xs.length cp, .slice ae ys.length cq, .slice af zs.length cr, .int .u8 k, .int .u8 at_] w (.bool true) := by
 have lR := R.lim
 have hpr := pathP_range (c := zs)
 have hpl := pathP_length zs
 have G := Grow.rfl' w
 refine gives_of Try.func9 Try.ntmps9 Try.results9 rfl rfl ?_
 refine W_seq (W_region rfl ?_)
 refine stp (r_assign (v := .bool false) rfl ?_)
 refine WL_nil ?_
 refine W_seq ?_
 refine W_seq (W_region rfl ?_)
 refine stp (r_move_slice rfl ?_)
 refine stp (r_len rfl rfl rfl ?_)
 refine stp (r_gtr rfl rfl ?_)
 refine WL_nil ?_
 refine W_cond2 (b := (decide ((xs.length : Int) > 200))) rfl (fun h1 => ?_) (fun h1 => ?_)
 ·-- true
  replace h1 := of_decide_eq_true h1
  refine W_seq (W_region rfl ?_)
  refine stp (r_gives (v := .bool true) rfl (known10_calls _) ?_)
  intro w1 g2
  replace G := G.tr g2
  clear g2
  refine stp (r_assign (v := .bool true) rfl ?_)
  refine WL_nil ?_
  refine W_ret ?_
  refine ret1 (res_tmp (v := .bool true) rfl) ⟨?_, G⟩
  rfl
 ·-- false
  replace h1 := of_decide_eq_false h1
  have hl : xs.length ≤ 200 := by omega
  refine W_skip ?_
  refine W_seq (W_region rfl ?_)
  refine stp (r_move_slice rfl ?_)
  refine stp (r_move_slice rfl ?_)
  refine stp (r_move_int rfl ?_)
  refine WL_some (og rfl ?_)
  refine r_call rfl (bent_calls _ (R.grow G) hx hcp hcp2 hl (R2.grow G) hy k0 k1) ?_
  rintro v_ w3 ⟨adp, cp, sgp, Ap, rfl, hOp, hBp, g_⟩
  replace G := G.tr g_
  clear g_
  obtain ⟨hrp, hup, -, -, h1p, h16p, hsp⟩ := Bent1.ok hBp hx hl
  have hAp := hOp.arena (by omega) hsp
  clear hOp
  refine stp (r_assign_slice rfl ?_)
  refine WL_nil ?_
  refine W_seq (W_region rfl ?_)
  refine stp (r_move_slice rfl ?_)
  refine WL_some (og rfl ?_)
  have her := decT_err hup
  refine r_call rfl (Decodeg_calls _ hAp (by omega) hup) ?_
  rintro v_ w4 ⟨cells_, rfl, hU_, g_⟩
  have hU := hU_.sees (Sees.seen _ _)
  clear hU_
  replace hAp := hAp.grow g_
  replace G := G.tr g_
  clear g_
  obtain ⟨y5, y6, a7, n8, c9, a10, n11, c12, a13, n14, c15, rfl⟩ := hU.cells
  refine stp (r_move (v := .tuple #[.agg #[.int .i64 y5, .int .i64 y6, .slice a7 n8 c9, .slice a10 n11 c12, .slice a13 n14 c15], .int .u16 ((decT Ap).2)]) rfl ?_)
  refine stp (r_extract (v := .agg #[.int .i64 y5, .int .i64 y6, .slice a7 n8 c9, .slice a10 n11 c12, .slice a13 n14 c15]) rfl rfl ?_)
  refine stp (r_extract (v := .int .u16 ((decT Ap).2)) rfl rfl ?_)
  refine stp (r_alloc ?_)
  intro b16 w17 hb18 hc19 g20
  refine stn (r_storeAll rfl rfl hc19 (by rfl) (by rfl) (by rfl) ?_)
  intro w21 hc22 u23
  have g24 := g20.upd u23 hb18
  have hge25 := Nat.le_trans G.size hb18
  replace hAp := hAp.grow g24
  replace hU := hU.grow g24
  replace G := G.tr g24
  clear u23 g20 hb18 hc19
  refine stp (r_assign_int rfl ?_)
  refine WL_nil ?_
  refine W_seq ?_
  refine W_seq (W_region rfl ?_)
  refine stp (r_move_int rfl ?_)
  refine stp (r_neq rfl rfl ?_)
  refine WL_nil ?_
  refine W_cond2 (b := (decide (((decT Ap).2) ≠ 0))) rfl (fun h2 => ?_) (fun h2 => ?_)
  ·-- true
   replace h2 := of_decide_eq_true h2
   refine W_seq (W_region rfl ?_)
   refine stp (r_gives (v := .bool true) rfl (known10_calls _) ?_)
   intro w26 g27
   replace hAp := hAp.grow g27
   replace hU := hU.grow g27
   replace hc22 := g27.heap hc22
   replace G := G.tr g27
   clear g27
   refine stp (r_assign (v := .bool true) rfl ?_)
   refine WL_nil ?_
   refine W_ret ?_
   refine ret1 (res_tmp (v := .bool true) rfl) ⟨?_, G⟩
   rfl
  ·-- false
   replace h2 := of_decide_eq_false h2
   have hz0 : (decT Ap).2 = 0 := by omega
   obtain ⟨hw1, hw2, hc1, hc2⟩ := tree_walks hx hl hBp hz0 (ks := (pathP zs)) (fun x_ hx_ => (hpr x_ hx_).1) (by omega) (at_ % 12 - 2)
   have hok := rightB_ok hrp hup
   have hiP : ∀ x ∈ (pathP zs), inR .i64 x := fun x_ hx_ => by have := hpr x_ hx_; simp only [inR]; omega
   obtain ⟨V, hV⟩ : ∃ V, V = askT (decT Ap).1 (pathP zs) (at_ % 12 - 2) := ⟨_, rfl⟩
   rw [← hV] at hw1 hw2
   refine W_skip ?_
   refine W_seq (W_region rfl ?_)
   refine stp (r_move_slice rfl ?_)
   refine stp (r_move_int rfl ?_)
   refine WL_some (og rfl ?_)
   refine r_call rfl (path_calls _ (R3.grow G) rfl hz a0 a1) ?_
   rintro v_ w28 ⟨adP, cP, rfl, R9, g_⟩
   replace hAp := hAp.grow g_
   replace hU := hU.grow g_
   replace hc22 := g_.heap hc22
   replace G := G.tr g_
   clear g_
   refine stp (r_alloc ?_)
   intro b29 w30 hb31 hc32 g33
   refine stn (r_storeAll rfl rfl hc32 (by rfl) (by rfl) (by rfl) ?_)
   intro w34 hc35 u36
   have g37 := g33.upd u36 hb31
   have hge38 := Nat.le_trans G.size hb31
   have ne39 := Nat.ne_of_lt (Nat.lt_of_lt_of_le (lt_of_heap hc22) hb31)
   replace hAp := hAp.grow g37
   replace hU := hU.grow g37
   replace hc22 := g37.heap hc22
   replace R9 := R9.grow g37
   replace G := G.tr g37
   clear u36 g33 hb31 hc32
   refine WL_nil ?_
   refine W_seq (W_region rfl ?_)
   refine stp (r_move_slice rfl ?_)
   refine stp (r_loadAll rfl hc35 (by rfl) ?_)
   refine stp (r_gives (v := .tuple #[.agg #[.int .i64 V.1.kind, .int .i64 V.1.size, .int .i64 V.1.words, .int .i64 V.1.kids, .int .u64 V.1.word], .int .u16 V.2]) rfl (gives_eq (Of_calls _ hAp hok (steps := (pathP zs)) (a := (at_ % 12 - 2)) (cost := 8192) R9 hiP (by simp only [inR]; omega) (by simp only [inR]; omega)) (y := .tuple #[.agg #[.int .i64 V.1.kind, .int .i64 V.1.size, .int .i64 V.1.words, .int .i64 V.1.kids, .int .u64 V.1.word], .int .u16 V.2]) (by rw [hw1])) ?_)
   intro w40 g41
   replace hAp := hAp.grow g41
   replace hU := hU.grow g41
   replace hc22 := g41.heap hc22
   replace R9 := R9.grow g41
   replace hc35 := g41.heap hc35
   replace G := G.tr g41
   clear g41
   refine stp (r_move (v := .tuple #[.agg #[.int .i64 V.1.kind, .int .i64 V.1.size, .int .i64 V.1.words, .int .i64 V.1.kids, .int .u64 V.1.word], .int .u16 V.2]) rfl ?_)
   refine stp (r_extract (v := .agg #[.int .i64 V.1.kind, .int .i64 V.1.size, .int .i64 V.1.words, .int .i64 V.1.kids, .int .u64 V.1.word]) rfl rfl ?_)
   refine stp (r_extract (v := .int .u16 V.2) rfl rfl ?_)
   refine stp (r_alloc ?_)
   intro b42 w43 hb44 hc45 g46
   refine stn (r_storeAll rfl rfl hc45 (by rfl) (by rfl) (by rfl) ?_)
   intro w47 hc48 u49
   have g50 := g46.upd u49 hb44
   have hge51 := Nat.le_trans G.size hb44
   have ne52 := Nat.ne_of_lt (Nat.lt_of_lt_of_le (lt_of_heap hc22) hb44)
   have ne53 := Nat.ne_of_lt (Nat.lt_of_lt_of_le (lt_of_heap hc35) hb44)
   replace hAp := hAp.grow g50
   replace hU := hU.grow g50
   replace hc22 := g50.heap hc22
   replace R9 := R9.grow g50
   replace hc35 := g50.heap hc35
   replace G := G.tr g50
   clear u49 g46 hb44 hc45
   refine stp (r_assign_int rfl ?_)
   refine WL_nil ?_
   refine W_seq (W_region rfl ?_)
   refine stp (r_loadAll rfl hc22 (by rfl) ?_)
   refine stp (r_loadAll rfl hc35 (by rfl) ?_)
   refine stp (r_gives (v := .tuple #[.agg #[.int .i64 V.1.kind, .int .i64 V.1.size, .int .i64 V.1.words, .int .i64 V.1.kids, .int .u64 V.1.word], .int .u16 V.2]) rfl (gives_eq (ask_calls _ hU R9 (steps := (pathP zs)) (a := (at_ % 12 - 2)) (by simp only [inR]; omega)) (y := .tuple #[.agg #[.int .i64 V.1.kind, .int .i64 V.1.size, .int .i64 V.1.words, .int .i64 V.1.kids, .int .u64 V.1.word], .int .u16 V.2]) (by rw [hV])) ?_)
   intro w54 g55
   replace hAp := hAp.grow g55
   replace hU := hU.grow g55
   replace hc22 := g55.heap hc22
   replace R9 := R9.grow g55
   replace hc35 := g55.heap hc35
   replace hc48 := g55.heap hc48
   replace G := G.tr g55
   clear g55
   refine stp (r_move (v := .tuple #[.agg #[.int .i64 V.1.kind, .int .i64 V.1.size, .int .i64 V.1.words, .int .i64 V.1.kids, .int .u64 V.1.word], .int .u16 V.2]) rfl ?_)
   refine stp (r_extract (v := .agg #[.int .i64 V.1.kind, .int .i64 V.1.size, .int .i64 V.1.words, .int .i64 V.1.kids, .int .u64 V.1.word]) rfl rfl ?_)
   refine stp (r_extract (v := .int .u16 V.2) rfl rfl ?_)
   refine stp (r_alloc ?_)
   intro b56 w57 hb58 hc59 g60
   refine stn (r_storeAll rfl rfl hc59 (by rfl) (by rfl) (by rfl) ?_)
   intro w61 hc62 u63
   have g64 := g60.upd u63 hb58
   have hge65 := Nat.le_trans G.size hb58
   have ne66 := Nat.ne_of_lt (Nat.lt_of_lt_of_le (lt_of_heap hc22) hb58)
   have ne67 := Nat.ne_of_lt (Nat.lt_of_lt_of_le (lt_of_heap hc35) hb58)
   have ne68 := Nat.ne_of_lt (Nat.lt_of_lt_of_le (lt_of_heap hc48) hb58)
   replace hAp := hAp.grow g64
   replace hU := hU.grow g64
   replace hc22 := g64.heap hc22
   replace R9 := R9.grow g64
   replace hc35 := g64.heap hc35
   replace hc48 := g64.heap hc48
   replace G := G.tr g64
   clear u63 g60 hb58 hc59
   refine stp (r_assign_int rfl ?_)
   refine WL_nil ?_
   have hsz69 : w61.heap.size ≤ w61.heap.size := Nat.le_refl _
   have ltf69_hc22 := lt_of_heap hc22
   have ltf69_hc35 := lt_of_heap hc35
   have ltf69_hc48 := lt_of_heap hc48
   have ltf69_hc62 := lt_of_heap hc62
   have hgz69 := G.size
   refine W_seq ?_
   have kb_hAp : ∀ w_, (ktR 57 w61.heap.size).r w61 w_ → ArenaR w_ (.slice adp Ap.length cp) Ap := fun w_ k_ => hAp.grow (KtP.to_grow k_ (Grow.rfl' _))
   have kb_hU : ∀ w_, (ktR 57 w61.heap.size).r w61 w_ → NodeR w_ [.int .i64 y5, .int .i64 y6, .slice a7 n8 c9, .slice a10 n11 c12, .slice a13 n14 c15] (decT Ap).1 := fun w_ k_ => hU.grow (KtP.to_grow k_ (Grow.rfl' _))
   have kb_hc22 : ∀ w_, (ktR 57 w61.heap.size).r w61 w_ → w_.heap[b16]? = some (.cells #[.int .i64 y5, .int .i64 y6, .slice a7 n8 c9, .slice a10 n11 c12, .slice a13 n14 c15] 37 (0, 0)) := fun w_ k_ => (KtP.to_grow k_ (Grow.rfl' _)).heap hc22
   have kb_R9 : ∀ w_, (ktR 57 w61.heap.size).r w61 w_ → RowAt w_ 1 adP (pathP zs).length ((pathP zs).map (.int .i64)) := fun w_ k_ => R9.grow (KtP.to_grow k_ (Grow.rfl' _))
   have kb_hc35 : ∀ w_, (ktR 57 w61.heap.size).r w61 w_ → w_.heap[b29]? = some (.cells #[.slice adP ((pathP zs).length) cP, .int .i64 (at_ % 12 - 2)] 33 (0, 0)) := fun w_ k_ => (KtP.to_grow k_ (Grow.rfl' _)).heap hc35
   have kb_hc48 : ∀ w_, (ktR 57 w61.heap.size).r w61 w_ → w_.heap[b42]? = some (.cells #[.int .i64 V.1.kind, .int .i64 V.1.size, .int .i64 V.1.words, .int .i64 V.1.kids, .int .u64 V.1.word] 57 (0, 0)) := fun w_ k_ => (KtP.to_grow k_ (Grow.rfl' _)).heap hc48
   have kb_hc62 : ∀ w_, (ktR 57 w61.heap.size).r w61 w_ → w_.heap[b56]? = some (.cells #[.int .i64 V.1.kind, .int .i64 V.1.size, .int .i64 V.1.words, .int .i64 V.1.kids, .int .u64 V.1.word] 57 (0, 0)) := fun w_ k_ => (KtP.to_grow k_ (Grow.rfl' _)).heap hc62
   have kb_hsz69 : ∀ w_, (ktR 57 w61.heap.size).r w61 w_ → w61.heap.size ≤ w_.heap.size := fun w_ k_ => Nat.le_trans hsz69 (KtP.to_grow k_ (Grow.rfl' _)).size
   have kb_G : ∀ w_, (ktR 57 w61.heap.size).r w61 w_ → Grow w w_ := fun w_ k_ => G.tr (KtP.to_grow k_ (Grow.rfl' _))
   refine W_anyU 14 [[], [], [], [0], [], [0], [1, 0], [4, 3, 2, 1, 0], [7, 6, 5, 4, 3, 2, 1, 0], [8, 7, 6, 5, 4, 3, 2, 1, 0], [9, 8, 7, 6, 5, 4, 3, 2, 1, 0], [10, 9, 8, 7, 6, 5, 4, 3, 2, 1], [], [12, 11, 10, 9, 8, 7, 6, 5, 4, 3, 2, 0]] [13] [19] (grQ (ktR 57 w61.heap.size)) (fun k_ e_ w_ => match k_ with | 0 => True | _ => ∃ b : Nat, e_ 19 = .pointer (some ⟨b, 0, none⟩) ∧ w61.heap.size ≤ b ∧ w_.heap[b]? = some (.cells #[.int .i64 V.1.kind, .int .i64 V.1.size, .int .i64 V.1.words, .int .i64 V.1.kids, .int .u64 V.1.word] 57 (0, 0))) mixed (by kernel_rfl) (by kernel_rfl) (by kernel_rfl) (by kernel_rfl) (by kernel_rfl) (fun k_ _ _ _ g_ h_ => match k_, h_ with | 0, _ => trivial | _ + 1, ⟨b_, h1_, h2_, h3_⟩ => ⟨b_, h1_, h2_, g_.heap h3_⟩) (fun k_ _ _ _ hu_ h_ => match k_, h_ with | 0, _ => trivial | _ + 1, ⟨b_, h1_, h2_, h3_⟩ => ⟨b_, (hu_ _ (by simp)).symm.trans h1_, h2_, h3_⟩) (fun _ _ _ h_ => h_) (fun _ _ => trivial) ?_
   intro w70 g71
   replace kb_hAp : ∀ w_, (ktR 57 w61.heap.size).r w70 w_ → ArenaR w_ (.slice adp Ap.length cp) Ap := fun w_ k_ => kb_hAp w_ ((ktR 57 w61.heap.size).tr ((ktR 57 w61.heap.size).grow g71) k_)
   replace kb_hU : ∀ w_, (ktR 57 w61.heap.size).r w70 w_ → NodeR w_ [.int .i64 y5, .int .i64 y6, .slice a7 n8 c9, .slice a10 n11 c12, .slice a13 n14 c15] (decT Ap).1 := fun w_ k_ => kb_hU w_ ((ktR 57 w61.heap.size).tr ((ktR 57 w61.heap.size).grow g71) k_)
   replace kb_hc22 : ∀ w_, (ktR 57 w61.heap.size).r w70 w_ → w_.heap[b16]? = some (.cells #[.int .i64 y5, .int .i64 y6, .slice a7 n8 c9, .slice a10 n11 c12, .slice a13 n14 c15] 37 (0, 0)) := fun w_ k_ => kb_hc22 w_ ((ktR 57 w61.heap.size).tr ((ktR 57 w61.heap.size).grow g71) k_)
   replace kb_R9 : ∀ w_, (ktR 57 w61.heap.size).r w70 w_ → RowAt w_ 1 adP (pathP zs).length ((pathP zs).map (.int .i64)) := fun w_ k_ => kb_R9 w_ ((ktR 57 w61.heap.size).tr ((ktR 57 w61.heap.size).grow g71) k_)
   replace kb_hc35 : ∀ w_, (ktR 57 w61.heap.size).r w70 w_ → w_.heap[b29]? = some (.cells #[.slice adP ((pathP zs).length) cP, .int .i64 (at_ % 12 - 2)] 33 (0, 0)) := fun w_ k_ => kb_hc35 w_ ((ktR 57 w61.heap.size).tr ((ktR 57 w61.heap.size).grow g71) k_)
   replace kb_hc48 : ∀ w_, (ktR 57 w61.heap.size).r w70 w_ → w_.heap[b42]? = some (.cells #[.int .i64 V.1.kind, .int .i64 V.1.size, .int .i64 V.1.words, .int .i64 V.1.kids, .int .u64 V.1.word] 57 (0, 0)) := fun w_ k_ => kb_hc48 w_ ((ktR 57 w61.heap.size).tr ((ktR 57 w61.heap.size).grow g71) k_)
   replace kb_hc62 : ∀ w_, (ktR 57 w61.heap.size).r w70 w_ → w_.heap[b56]? = some (.cells #[.int .i64 V.1.kind, .int .i64 V.1.size, .int .i64 V.1.words, .int .i64 V.1.kids, .int .u64 V.1.word] 57 (0, 0)) := fun w_ k_ => kb_hc62 w_ ((ktR 57 w61.heap.size).tr ((ktR 57 w61.heap.size).grow g71) k_)
   replace kb_hsz69 : ∀ w_, (ktR 57 w61.heap.size).r w70 w_ → w61.heap.size ≤ w_.heap.size := fun w_ k_ => kb_hsz69 w_ ((ktR 57 w61.heap.size).tr ((ktR 57 w61.heap.size).grow g71) k_)
   replace kb_G : ∀ w_, (ktR 57 w61.heap.size).r w70 w_ → Grow w w_ := fun w_ k_ => kb_G w_ ((ktR 57 w61.heap.size).tr ((ktR 57 w61.heap.size).grow g71) k_)
   have k0_ : (ktR 57 w61.heap.size).r w61 w70 := ((ktR 57 w61.heap.size).grow g71)
   apply AOU_ex (hm := by rfl)
   ·intro w_ g_; refine og rfl ?_; refine r_move_slice rfl ?_; exact ⟨Grow.rfl' _, rfl⟩
   apply AOU_ex (hm := by rfl)
   ·intro w_ g_; refine og rfl ?_; refine r_loadAll rfl (kb_hc35 _ g_) (by rfl) ?_; exact ⟨Grow.rfl' _, rfl⟩
   apply AOU_ex (hm := by rfl)
   ·intro w_ g_; refine og rfl ?_; refine r_loadAll rfl (kb_hc22 _ g_) (by rfl) ?_; exact ⟨Grow.rfl' _, rfl⟩
   apply AOU_ex (hm := by rfl)
   ·intro w_ g_; refine og rfl ?_; exact r_gives (v := .int .i64 ((decT Ap).1.cost)) rfl (cost_calls _ _ (kb_hU _ g_) (Nat.le_refl _)) (fun w2_ g2_ => ⟨g2_, rfl⟩)
   apply AOU_ex (hm := by rfl)
   ·intro w_ g_; refine og rfl ?_; refine r_fieldAddr rfl ?_; exact ⟨Grow.rfl' _, rfl⟩
   apply AOU_ex (hm := by rfl)
   ·intro w_ g_; refine og rfl ?_; refine r_load (v := .slice adP ((pathP zs).length) cP) rfl (kb_hc35 _ g_) rfl ?_; exact ⟨Grow.rfl' _, rfl⟩
   apply AOU_ex (hm := by rfl)
   ·intro w_ g_; refine og rfl ?_; refine r_len rfl rfl rfl ?_; exact ⟨Grow.rfl' _, rfl⟩
   apply AOU_ex (hm := by rfl)
   ·intro w_ g_; refine og rfl ?_; refine r_add rfl rfl ?_ ?_; constructor <;> omega; exact ⟨Grow.rfl' _, rfl⟩
   apply AOU_ex (hm := by rfl)
   ·intro w_ g_; refine og rfl ?_; exact r_gives (v := .tuple #[.agg #[.int .i64 V.1.kind, .int .i64 V.1.size, .int .i64 V.1.words, .int .i64 V.1.kids, .int .u64 V.1.word], .int .u16 V.2]) rfl (gives_eq (Of_calls _ (kb_hAp _ g_) hok (steps := (pathP zs)) (a := (at_ % 12 - 2)) (cost := ((decT Ap).1.cost + ((pathP zs).length : Int))) (kb_R9 _ g_) hiP (by simp only [inR]; omega) (by simp only [inR]; omega)) (y := .tuple #[.agg #[.int .i64 V.1.kind, .int .i64 V.1.size, .int .i64 V.1.words, .int .i64 V.1.kids, .int .u64 V.1.word], .int .u16 V.2]) (by rw [hw2])) (fun w2_ g2_ => ⟨g2_, rfl⟩)
   apply AOU_ex (hm := by rfl)
   ·intro w_ g_; refine og rfl ?_; refine r_move (v := .tuple #[.agg #[.int .i64 V.1.kind, .int .i64 V.1.size, .int .i64 V.1.words, .int .i64 V.1.kids, .int .u64 V.1.word], .int .u16 V.2]) rfl ?_; exact ⟨Grow.rfl' _, rfl⟩
   apply AOU_ex (hm := by rfl)
   ·intro w_ g_; refine og rfl ?_; refine r_extract (v := .agg #[.int .i64 V.1.kind, .int .i64 V.1.size, .int .i64 V.1.words, .int .i64 V.1.kids, .int .u64 V.1.word]) rfl rfl ?_; exact ⟨Grow.rfl' _, rfl⟩
   apply AOU_ex (hm := by rfl)
   ·intro w_ g_; refine og rfl ?_; refine r_extract (v := .int .u16 V.2) rfl rfl ?_; exact ⟨Grow.rfl' _, rfl⟩
   refine AOU_so (fun w_ v_ => ∃ b cs, v_ = .pointer (some ⟨b, 0, none⟩) ∧ w61.heap.size ≤ b ∧ cs.size = 5 ∧ w_.heap[b]? = some (.cells cs 57 (0, 0))) (fun _ _ _ g_ ⟨b, cs, h1_, h2_, h3_, h4_⟩ => by obtain ⟨cs2, h5_, h6_⟩ := KtP.new g_ b cs h4_; exact ⟨b, cs2, h1_, h2_, h5_.trans h3_, h6_⟩) (by rfl) ?_ ?_
   ·intro w_ g_
    refine og rfl ?_
    refine r_alloc ?_
    intro b_ w2_ hb_ hc_ g2_
    exact ⟨g2_, b_, _, rfl, Nat.le_trans (kb_hsz69 _ g_) hb_, rfl, hc_⟩
   apply AOU_mut 0 (hm := by rfl)
   ·intro w_ g_
    intro v12_ hv12_
    intro s_
    show OpG _ _ _ _ _ _
    refine og rfl ?_
    obtain ⟨b_, cs_, rfl, hge_, hsz_, hb_⟩ := hv12_
    refine r_storeAll rfl rfl hb_ (by rfl) hsz_ (by rfl) ?_
    intro w2_ s2_ u_
    exact ⟨KtP.of_upd u_ hge_ hb_ s2_ hsz_.symm, ⟨b_, rfl, hge_, s2_⟩, rfl⟩
   refine AOU_nil ?_
   intro w72 g73
   replace k0_ := ((ktR 57 w61.heap.size).tr k0_ g73)
   replace hAp := kb_hAp _ g73
   clear kb_hAp
   replace hU := kb_hU _ g73
   clear kb_hU
   replace hc22 := kb_hc22 _ g73
   clear kb_hc22
   replace R9 := kb_R9 _ g73
   clear kb_R9
   replace hc35 := kb_hc35 _ g73
   clear kb_hc35
   replace hc48 := kb_hc48 _ g73
   clear kb_hc48
   replace hc62 := kb_hc62 _ g73
   clear kb_hc62
   replace hsz69 := kb_hsz69 _ g73
   clear kb_hsz69
   replace G := kb_G _ g73
   clear kb_G
   intro v_x69 hv_x69
   rintro ⟨bx69, hbe69, hge69, hc69⟩
   have hbv69 : v_x69 = .pointer (some ⟨bx69, 0, none⟩) := hbe69
   subst hbv69
   clear hv_x69 hbe69
   have hgx69 := Nat.le_trans hgz69 hge69
   refine stp (r_assign_int rfl ?_)
   refine WL_nil ?_
   refine W_seq (W_region rfl ?_)
   refine stp (r_gives (v := .bool true) rfl (known10_calls _) ?_)
   intro w74 g75
   replace hAp := hAp.grow g75
   replace hU := hU.grow g75
   replace hc22 := g75.heap hc22
   replace R9 := R9.grow g75
   replace hc35 := g75.heap hc35
   replace hc48 := g75.heap hc48
   replace hc62 := g75.heap hc62
   replace hsz69 := Nat.le_trans hsz69 g75.size
   replace hc69 := g75.heap hc69
   replace G := G.tr g75
   clear g75
   refine stp (r_move (v := .bool true) rfl ?_)
   refine stp (r_loadAll rfl hc48 (by rfl) ?_)
   refine stp (r_loadAll rfl hc62 (by rfl) ?_)
   refine stp (r_eqlS' (r' := true) rfl rfl (by rfl) (by simp) ?_)
   refine stp (r_pick_t (v := .bool true) rfl rfl rfl ?_)
   refine stp (r_move (v := .bool true) rfl ?_)
   refine stp (r_move_int rfl ?_)
   refine stp (r_move_int rfl ?_)
   refine stp (r_eql_t rfl rfl (rfl) ?_)
   refine stp (r_pick_t (v := .bool true) rfl rfl rfl ?_)
   refine stp (r_move (v := .bool true) rfl ?_)
   refine stp (r_loadAll rfl hc69 (by rfl) ?_)
   refine stp (r_loadAll rfl hc48 (by rfl) ?_)
   refine stp (r_eqlS' (r' := true) rfl rfl (by rfl) (by simp) ?_)
   refine stp (r_pick_t (v := .bool true) rfl rfl rfl ?_)
   refine stp (r_move (v := .bool true) rfl ?_)
   refine stp (r_move_int rfl ?_)
   refine stp (r_move_int rfl ?_)
   refine stp (r_eql_t rfl rfl (rfl) ?_)
   refine stp (r_pick_t (v := .bool true) rfl rfl rfl ?_)
   refine stp (r_assign (v := .bool true) rfl ?_)
   refine WL_nil ?_
   refine W_ret ?_
   refine ret1 (res_tmp (v := .bool true) rfl) ⟨?_, G⟩
   rfl
end Go.Proofs.Ytfhfecepcnapfaa.K

namespace Go.Proofs.Ytfhfecepcnapfaa.K
open Go Go.RowKit Go.ChangeShapes Go.WideShapes

section
variable {H : Type} {enc : TypeId × Value → H} {P : Program} {w : World}
/-- What is told of an argument, or of a part of it: it is read so, and is no greater than memory is. -/
structure Told (enc : TypeId × Value → H) (P : Program) (w : World) (fuel : Nat) (t : TypeId) (cs : List Value) : Prop where
  h : ∃ d p, DataW.trod enc P w 0 (fun _ => true) true fuel t cs = some (d, p) ∧ ∀ n ∈ d.weights P t, n ≤ reachBytes
theorem told_of {ts : List TypeId} {ds : List (DataW H)} {j : Nat} {t : TypeId} {d : DataW H} {v : Value} {p : List MemPlace} (h : DataW.Trod enc P w 0 (fun _ => true) true t v d p) (hz : (DataW.weightsEach P ts ds).all (· ≤ reachBytes) = true) (ht : ts[j]? = some t) (hd : ds[j]? = some d) : ∃ fuel, Told enc P w fuel t v.cells.toList := by
  obtain ⟨fuel, hf⟩ := h
  exact ⟨fuel, ⟨d, p, hf, fun n hn => by simpa using List.all_eq_true.1 hz n (DataW.weights_mem_each ht hd n hn)⟩⟩
theorem mapM_ex {α β : Type} {f : α → Option β} : ∀ {l : List α} {r : List β}, l.mapM f = some r → ∀ (i : Nat) (x : α), l[i]? = some x → ∃ y, f x = some y ∧ r[i]? = some y := by
  intro l r h i x hx
  have h1 := mapM_some_get h i x hx
  have hl := mapM_some_length h
  have hi : i < r.length := by rw [hl]; exact (List.getElem?_eq_some_iff.1 hx).1
  rw [List.getElem?_eq_getElem hi] at h1
  exact ⟨_, h1, List.getElem?_eq_getElem hi⟩
theorem weightsAll_mem {e : TypeId} : ∀ {ds : List (DataW H)} {i : Nat} {d : DataW H}, ds[i]? = some d → ∀ n ∈ d.weights P e, n ∈ DataW.weightsAll P e ds
  | [], i, d, h, _, _ => by simp at h
  | x :: ds, 0, d, h, n, hn => by
    simp only [List.getElem?_cons_zero, Option.some.injEq] at h
    subst h
    simp only [DataW.weightsAll, List.mem_append]; exact .inl hn
  | x :: ds, i + 1, d, h, n, hn => by
    simp only [DataW.weightsAll, List.mem_append]; exact .inr (weightsAll_mem (by simpa using h) n hn)
/-- A slice, opened: what it holds, and each element. -/
theorem told_slice {t e : TypeId} {sz by_ fuel : Nat} {cs : List Value} (ht : P.underlying t = some (.slice e)) (hc : P.cellsOf e = sz) (hsz : 0 < sz) (hby : P.bytesOf e = by_) (hby1 : 1 ≤ by_) (h : Told enc P w fuel t cs) :
    ∃ f ad n c xs, fuel = f + 1 ∧ cs = [.slice ad n c] ∧ n ≤ c ∧ c ≤ maxLen ∧ RowAt w sz ad n xs ∧ ∀ i, i < n → Told enc P w f e ((xs.drop (i * sz)).take sz) := by
  obtain ⟨d, p, hd, hw⟩ := h
  rcases DataW.trod_slice ht hd with ⟨rfl, hx⟩ | ⟨a, len, cap, elems, rest, n, rfl, rfl, hx, _, hl, hm, hlen, hel, _, _⟩
  · cases fuel with
    | zero => simp [DataW.trod] at hd
    | succ f => exact ⟨f, none, 0, 0, [], rfl, rfl, Nat.le_refl _, Nat.zero_le _, RowAt.empty _ _ _, fun i hi => by omega⟩
  · simp only [Prod.mk.injEq] at hx
    obtain ⟨rfl, _⟩ := hx
    have hwt : ∀ n ∈ DataW.weightsAll P e (elems.map (·.1)), n ≤ reachBytes := fun n hn => hw n (by simp only [DataW.weights, ht, List.mem_cons, List.mem_append]; exact .inr (.inl hn))
    have hlim : len * by_ ≤ reachBytes := by
      have := hw (((elems.map (·.1)).length + (rest.map (·.1)).length) * P.bytesOf e) (by simp only [DataW.weights, ht, List.mem_cons, true_or])
      rw [hby, List.length_map, hlen, List.length_map, Nat.add_mul] at this
      omega
    have hlen2 : len ≤ 140737488355328 := by
      have h1 : len * 1 ≤ len * by_ := Nat.mul_le_mul_left _ hby1
      have h2 : reachBytes ≤ 140737488355328 := by decide
      omega
    -- each element
    have each : ∀ i, i < len → ∃ ys x, w.cells? 0 (a.add (i * sz)) sz = some ys ∧ DataW.trod enc P w 0 (fun _ => true) true n e ys = some x ∧ elems[i]? = some x := by
      intro i hi
      have hh := hel i hi
      have hi2 : i < elems.length := by omega
      rw [List.getElem?_eq_getElem hi2, hc] at hh
      simp only [Option.bind_eq_some_iff] at hh
      obtain ⟨ys, h1, h2⟩ := hh
      exact ⟨ys, _, h1, h2, List.getElem?_eq_getElem hi2⟩
    rcases Nat.eq_zero_or_pos len with h0 | h0
    · subst h0
      exact ⟨n, some a, 0, cap, [], rfl, rfl, hl, hm, RowAt.empty _ _ _, fun i hi => by omega⟩
    · -- the block
      have cell : ∀ i j, i < len → j < sz → ∃ v, w.cell? ((a.add (i * sz)).add j) = some v := by
        intro i j hi hj
        obtain ⟨ys, x, h1, _, _⟩ := each i hi
        unfold World.cells? at h1
        rw [if_pos (Nat.zero_le _)] at h1
        obtain ⟨y, hy, _⟩ := mapM_ex h1 j j (by simp [hj])
        exact ⟨y, hy⟩
      obtain ⟨blk, off, spot⟩ := a
      obtain ⟨v0, hv0⟩ := cell 0 0 h0 hsz
      have hadd0 : ((⟨blk, off, spot⟩ : Addr).add (0 * sz)).add 0 = ⟨blk, off, spot⟩ := by simp [Addr.add]
      rw [hadd0] at hv0
      unfold World.cell? at hv0
      cases hb : w.heap[blk]? with
      | none => rw [hb] at hv0; cases hv0
      | some o =>
        rw [hb] at hv0
        cases o with
        | cells c T fr =>
          simp only at hv0
          have hspot : spot = none := by
            cases spot with
            | none => rfl
            | some _ => simp at hv0
          subst hspot
          have hcell : ∀ k, k < len * sz → ∃ v, c[off + k]? = some v := by
            intro k hk
            have hdm := Nat.div_add_mod k sz
            have h1 : k / sz < len := (Nat.div_lt_iff_lt_mul hsz).2 hk
            obtain ⟨v, hv⟩ := cell (k / sz) (k % sz) h1 (Nat.mod_lt _ hsz)
            rw [add_lit, add_lit, cell_of_row w blk _ c T fr hb] at hv
            refine ⟨v, ?_⟩
            have : off + k / sz * sz + k % sz = off + k := by rw [Nat.mul_comm]; omega
            rwa [this] at hv
          have hsize : off + len * sz ≤ c.size := by
            have hp : 0 < len * sz := Nat.mul_pos h0 hsz
            obtain ⟨v, hv⟩ := hcell (len * sz - 1) (by omega)
            have := (Array.getElem?_eq_some_iff.1 hv).1
            omega
          refine ⟨n, some ⟨blk, off, none⟩, len, cap, (c.toList.drop off).take (len * sz), rfl, rfl, hl, hm, ⟨by rw [List.length_take, List.length_drop, Array.length_toList]; omega, hlen2, fun _ => ⟨blk, off, c, T, fr, rfl, hb, rfl⟩⟩, fun i hi => ?_⟩
          obtain ⟨ys, x, h1, h2, h3⟩ := each i hi
          have hys : ys = (((c.toList.drop off).take (len * sz)).drop (i * sz)).take sz := by
            unfold World.cells? at h1
            rw [if_pos (Nat.zero_le _)] at h1
            have hl2 := mapM_some_length h1
            simp only [List.length_range] at hl2
            have hle : (i + 1) * sz ≤ len * sz := Nat.mul_le_mul_right _ hi
            rw [Nat.add_mul, Nat.one_mul] at hle
            apply List.ext_getElem?
            intro j
            by_cases hj : j < sz
            · obtain ⟨y, hy, hy2⟩ := mapM_ex h1 j j (by simp [hj])
              rw [add_lit, add_lit, cell_of_row w blk _ c T fr hb] at hy
              rw [hy2, List.getElem?_take, if_pos hj, List.getElem?_drop, List.getElem?_take, if_pos (by omega), List.getElem?_drop, Array.getElem?_toList, ← Nat.add_assoc, hy]
            · rw [List.getElem?_eq_none (by omega), List.getElem?_eq_none (by rw [List.length_take]; omega)]
          rw [← hys]
          exact ⟨⟨x.1, x.2, h2, fun m hm_ => hwt m (weightsAll_mem (i := i) (by rw [List.getElem?_map, h3]; rfl) m hm_)⟩⟩
        | _ => cases hv0
theorem told_int {t : TypeId} {k : IntKind} {fuel : Nat} {cs : List Value} (ht : P.underlying t = some (.int k)) (h : Told enc P w fuel t cs) : ∃ n, cs = [.int k n] ∧ inR k n := by
  obtain ⟨d, p, hd, _⟩ := h
  obtain ⟨n, h1, _, hw⟩ := DataW.trod_int ht hd
  refine ⟨n, h1, ?_⟩
  cases k <;> simpa [Lit.wf, IntKind.min, IntKind.max, IntKind.bits, IntKind.signed, inR] using hw
/-- A row of which each element is one cell, told by a function. -/
theorem row_map {α : Type} {sz n : Nat} {xs : List Value} {f : α → Value} (hl : xs.length = n) (h : ∀ i, i < n → ∃ a, (xs.drop (i * 1)).take 1 = [f a]) : ∃ l : List α, l.length = n ∧ xs = l.map f := by
  induction xs generalizing n with
  | nil => exact ⟨[], by simpa using hl, rfl⟩
  | cons x xs ih =>
    obtain ⟨a, ha⟩ := h 0 (by simp at hl; omega)
    simp at ha
    obtain ⟨l, h1, h2⟩ := ih (n := n - 1) (by simp at hl; omega) fun i hi => by
      obtain ⟨b, hb⟩ := h (i + 1) (by omega)
      exact ⟨b, by simpa using hb⟩
    exact ⟨a :: l, by simp at hl ⊢; omega, by simp [ha, h2]⟩
theorem told_ints {t e : TypeId} {k : IntKind} {fuel by_ : Nat} {cs : List Value} (ht : P.underlying t = some (.slice e)) (he : P.underlying e = some (.int k)) (hc : P.cellsOf e = 1) (hby : P.bytesOf e = by_) (hby1 : 1 ≤ by_) (h : Told enc P w fuel t cs) :
    ∃ ad n c, ∃ zs : List Int, cs = [.slice ad n c] ∧ n = zs.length ∧ n ≤ c ∧ c ≤ maxLen ∧ RowAt w 1 ad n (zs.map (.int k)) ∧ ∀ z ∈ zs, inR k z := by
  obtain ⟨f, ad, n, c, xs, rfl, rfl, h1, h2, R, hel⟩ := told_slice ht hc (by omega) hby hby1 h
  obtain ⟨l, hl, rfl⟩ := row_map (sz := 1) (f := fun a : { z : Int // inR k z } => Value.int k a.1) (by rw [R.len, Nat.mul_one]) fun i hi => by
    obtain ⟨z, hz, hr⟩ := told_int he (hel i hi)
    exact ⟨⟨z, hr⟩, hz⟩
  refine ⟨ad, n, c, l.map (·.1), rfl, by simp [hl], h1, h2, by rw [List.map_map]; exact R, fun z hz => ?_⟩
  obtain ⟨a, _, rfl⟩ := List.mem_map.1 hz
  exact a.2
theorem cells_slice {t e : TypeId} {r : Reach} {b0 : Nat} {v : Value} (ht : P.underlying t = some (.slice e)) (hv : Value.okWide P w r b0 t v) {ad : Option Addr} {n c : Nat} (h : v.cells.toList = [.slice ad n c]) : v = .slice ad n c := by
  unfold Value.okWide at hv
  rw [ht] at hv
  unfold Cell.okWide at hv
  rw [ht] at hv
  cases v <;> first | (simp only [Cell.ok, ht] at hv; done) | (simp [Value.cells] at h; try (obtain ⟨rfl, rfl, rfl⟩ := h); try rfl) | skip
end
end Go.Proofs.Ytfhfecepcnapfaa.K

