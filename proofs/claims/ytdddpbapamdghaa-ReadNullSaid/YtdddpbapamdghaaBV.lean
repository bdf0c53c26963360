/- The walks of chapter 09's statements (printed by l09.py). -/
import Derived.Test.YtdddpbapamdghaaT
import Derived.Test.YtdddpbapamdghaaJ14
import Derived.Test.YtdddpbapamdghaaR09
import Derived.Test.YtdddpbapamdghaaU09
import Derived.Test.YtdddpbapamdghaaPtr
import Derived.Test.YtdddpbapamdghaaBD
import Derived.Test.YtdddpbapamdghaaBF
import Derived.Test.YtdddpbapamdghaaBR
import Derived.Test.YtdddpbapamdghaaQ08
import Derived.Test.YtdddpbapamdghaaBK
set_option linter.unusedVariables false
set_option linter.unusedSimpArgs false
namespace Go.Proofs.Ytdddpbapamdghaa.K
open Go Go.RowKit Go.Proofs
attribute [local irreducible] Run1 OpG WL W AO Gives
set_option maxRecDepth 100000 in
theorem ReadNull_calls (w : World) {n cp : Nat} {ad : Option Addr} {xs : List Int} (R : RowAt w 1 ad n (xs.map (.int .u8))) (hn : n = xs.length) (hx : isU8 xs) (hcp : n ≤ cp) (hcp2 : cp ≤ maxLen) {at_ n2 : Int} (a0 : 0 ≤ at_) (a1 : at_ ≤ 255) (n0 : 0 ≤ n2) (n1 : n2 ≤ 255) : Gives Try.prog 3 #[.slice ad n cp, .int .u8 at_, .int .u8 n2] w (.bool true) := by
 obtain ⟨m, hm⟩ : ∃ m : Nat, (m : Int) = 1 + n2 % 30 := ⟨(1 + n2 % 30).toNat, by omega⟩
 have hm1 : 1 ≤ m := by omega
 have hm2 : m ≤ 30 := by omega
 have hpr := pathP_range (c := xs)
 have hpl := pathP_length xs
 have G := Grow.rfl' w
 refine gives_of Try.func3 Try.ntmps3 Try.results3 rfl rfl ?_
 refine W_seq (W_region rfl ?_)
 refine stp (r_assign (v := .bool false) rfl ?_)
 refine WL_nil ?_
 refine W_seq (W_region rfl ?_)
 refine stp (r_move_int rfl ?_)
 refine stp (r_rem rfl rfl ?_ ?_ ?_); omega; omega
 refine stp (r_conv rfl ?_ ?_); constructor <;> omega
 refine WL_some (og rfl ?_)
 refine r_add rfl rfl ?_ ?_; constructor <;> omega
 rw [← hm]
 refine stp (r_make (n := m) (base := w.heap.size) rfl rfl (by first | omega | (simp only [maxLen]; omega)) (by first | omega | (simp only [maxLen]; omega)) G.size ?_)
 intro bm4 w1 hb2 own5 g3
 rw [show (madeCells (Value.cells (.int .u64 0 : Value)) (m * 1)).toList = List.replicate m (.int .u64 0) from by rw [Nat.mul_one]; exact toList_madeCells_one _ _] at own5
 replace G := G.tr g3
 clear g3
 refine stp (r_buildSlice (cs := #[.slice (some ⟨bm4, 0, none⟩) m m]) (el := 23) (fun w => by kernel_rfl) ?_)
 intro bs6 w7 hb8 hc9 g10
 have hge11 := Nat.le_trans G.size hb8
 replace own5 := own_grow own5 g10
 replace G := G.tr g10
 clear g10
 refine stp (r_assign_slice rfl ?_)
 refine WL_nil ?_
 have hA : ArenaR w7 (.slice (some ⟨bs6, 0, none⟩) 1 1) (noughts m) := arena_one hc9 (by rw [wordsV_zero, List.length_replicate]; exact own_row own5 (by omega))
 refine W_seq (W_region rfl ?_)
 refine stp (r_move_slice rfl ?_)
 refine stp (r_move_int rfl ?_)
 refine WL_some (og rfl ?_)
 refine r_call rfl (path_calls _ (R.grow G) hn hx a0 a1) ?_
 rintro v_ w12 ⟨ad9, c9, rfl, R9, g_⟩
 replace own5 := own_grow own5 g_
 replace hc9 := g_.heap hc9
 replace hA := hA.grow g_
 replace G := G.tr g_
 clear g_
 refine stp (r_alloc ?_)
 intro b13 w14 hb15 hc16 g17
 refine stn (r_storeAll rfl rfl hc16 (by rfl) (by rfl) (by rfl) ?_)
 intro w18 hc19 u20
 have g21 := g17.upd u20 hb15
 have hge22 := Nat.le_trans G.size hb15
 have ne23 := Nat.ne_of_lt (Nat.lt_of_lt_of_le (lt_of_heap hc9) hb15)
 replace own5 := own_grow own5 g21
 replace hc9 := g21.heap hc9
 replace hA := hA.grow g21
 replace R9 := R9.grow g21
 replace G := G.tr g21
 clear u20 g17 hb15 hc16
 refine WL_nil ?_
 refine W_seq (W_region rfl ?_)
 refine stp (r_move_slice rfl ?_)
 refine stp (r_loadAll rfl hc19 (by rfl) ?_)
 refine stp (r_gives (v := .tuple #[.agg #[.int .i64 0, .int .i64 0, .int .i64 0, .int .i64 0, .int .u64 0], .int .u16 0]) rfl (gives_eq (Of_calls _ hA (noughts_ok hm1 hm2) (steps := (pathP xs)) (a := (at_ % 12 - 2)) (cost := 100) R9 (by intro x_ hx_; have := hpr x_ hx_; simp only [inR]; omega) (by simp only [inR]; omega) (by simp only [inR]; omega)) (y := .tuple #[.agg #[.int .i64 0, .int .i64 0, .int .i64 0, .int .i64 0, .int .u64 0], .int .u16 0]) (by rw [noughts_walk hm1 (fun x_ hx_ => (hpr x_ hx_).1) (by omega)] <;> rfl)) ?_)
 intro w24 g25
 replace own5 := own_grow own5 g25
 replace hc9 := g25.heap hc9
 replace hA := hA.grow g25
 replace R9 := R9.grow g25
 replace hc19 := g25.heap hc19
 replace G := G.tr g25
 clear g25
 refine stp (r_move (v := .tuple #[.agg #[.int .i64 0, .int .i64 0, .int .i64 0, .int .i64 0, .int .u64 0], .int .u16 0]) rfl ?_)
 refine stp (r_extract (v := .agg #[.int .i64 0, .int .i64 0, .int .i64 0, .int .i64 0, .int .u64 0]) rfl rfl ?_)
 refine stp (r_extract (v := .int .u16 0) rfl rfl ?_)
 refine stp (r_alloc ?_)
 intro b26 w27 hb28 hc29 g30
 refine stn (r_storeAll rfl rfl hc29 (by rfl) (by rfl) (by rfl) ?_)
 intro w31 hc32 u33
 have g34 := g30.upd u33 hb28
 have hge35 := Nat.le_trans G.size hb28
 have ne36 := Nat.ne_of_lt (Nat.lt_of_lt_of_le (lt_of_heap hc9) hb28)
 have ne37 := Nat.ne_of_lt (Nat.lt_of_lt_of_le (lt_of_heap hc19) hb28)
 replace own5 := own_grow own5 g34
 replace hc9 := g34.heap hc9
 replace hA := hA.grow g34
 replace R9 := R9.grow g34
 replace hc19 := g34.heap hc19
 replace G := G.tr g34
 clear u33 g30 hb28 hc29
 refine stp (r_assign_int rfl ?_)
 refine WL_nil ?_
 have hsz9 : w31.heap.size ≤ w31.heap.size := Nat.le_refl _
 refine W_seq ?_
 have kb_hsz9 : ∀ w_, (ktR 32 w31.heap.size).r w31 w_ → w31.heap.size ≤ w_.heap.size := fun w_ k_ => KtP.size k_
 have kb_hc19 : ∀ w_, (ktR 32 w31.heap.size).r w31 w_ → w_.heap[b13]? = some (.cells #[.slice ad9 ((pathP xs).length) c9, .int .i64 (at_ % 12 - 2)] 28 (0, 0)) := fun w_ k_ => KtP.old k_ b13 (lt_of_heap hc19) (.inl (lt_of_heap hc19)) ▸ hc19
 have kb_hc32 : ∀ w_, (ktR 32 w31.heap.size).r w31 w_ → w_.heap[b26]? = some (.cells #[.int .i64 0, .int .i64 0, .int .i64 0, .int .i64 0, .int .u64 0] 32 (0, 0)) := fun w_ k_ => KtP.old k_ b26 (lt_of_heap hc32) (.inl (lt_of_heap hc32)) ▸ hc32
 have kb_hA : ∀ w_, (ktR 32 w31.heap.size).r w31 w_ → ArenaR w_ (.slice (some ⟨bs6, 0, none⟩) 1 1) (noughts m) := fun w_ k_ => hA.grow (KtP.to_grow k_ (Grow.rfl' _))
 have kb_G : ∀ w_, (ktR 32 w31.heap.size).r w31 w_ → Grow w w_ := fun w_ k_ => G.tr (KtP.to_grow k_ (Grow.rfl' _))
 refine W_anyR 11 [[], [], [], [0], [2, 1, 0], [4, 3, 2, 1, 0], [5, 4, 3, 2, 1, 0], [6, 5, 4, 3, 2, 1, 0], [7, 6, 5, 4, 3, 2, 1], [], [9, 8, 7, 6, 5, 4, 3, 2, 0]] [10] (ktR 32 w31.heap.size) (fun k_ w_ => match k_ with | 0 => True | _ => True) mixed (by kernel_rfl) (by kernel_rfl) (by kernel_rfl) (by kernel_rfl) (fun k_ _ _ _ _ => match k_ with | 0 => trivial | _ + 1 => trivial) (fun _ _ => trivial) ?_
 intro w38 g39
 replace kb_hsz9 : ∀ w_, (ktR 32 w31.heap.size).r w38 w_ → w31.heap.size ≤ w_.heap.size := fun w_ k_ => kb_hsz9 w_ ((ktR 32 w31.heap.size).tr ((ktR 32 w31.heap.size).grow g39) k_)
 replace kb_hc19 : ∀ w_, (ktR 32 w31.heap.size).r w38 w_ → w_.heap[b13]? = some (.cells #[.slice ad9 ((pathP xs).length) c9, .int .i64 (at_ % 12 - 2)] 28 (0, 0)) := fun w_ k_ => kb_hc19 w_ ((ktR 32 w31.heap.size).tr ((ktR 32 w31.heap.size).grow g39) k_)
 replace kb_hc32 : ∀ w_, (ktR 32 w31.heap.size).r w38 w_ → w_.heap[b26]? = some (.cells #[.int .i64 0, .int .i64 0, .int .i64 0, .int .i64 0, .int .u64 0] 32 (0, 0)) := fun w_ k_ => kb_hc32 w_ ((ktR 32 w31.heap.size).tr ((ktR 32 w31.heap.size).grow g39) k_)
 replace kb_hA : ∀ w_, (ktR 32 w31.heap.size).r w38 w_ → ArenaR w_ (.slice (some ⟨bs6, 0, none⟩) 1 1) (noughts m) := fun w_ k_ => kb_hA w_ ((ktR 32 w31.heap.size).tr ((ktR 32 w31.heap.size).grow g39) k_)
 replace kb_G : ∀ w_, (ktR 32 w31.heap.size).r w38 w_ → Grow w w_ := fun w_ k_ => kb_G w_ ((ktR 32 w31.heap.size).tr ((ktR 32 w31.heap.size).grow g39) k_)
 have k0_ : (ktR 32 w31.heap.size).r w31 w38 := ((ktR 32 w31.heap.size).grow g39)
 apply AOR_ex (hm := by rfl)
 ·intro w_ g_; refine og rfl ?_; refine r_move_slice rfl ?_; exact ⟨Grow.rfl' _, rfl⟩
 refine AOR_so (fun w_ v_ => ∃ b cs, v_ = .slice (some ⟨b, 0, none⟩) 33 33 ∧ w_.heap[b]? = some (.cells cs 3 (0, 0)) ∧ RowAt w_ 1 (some ⟨b, 0, none⟩) 33 (List.replicate 33 (.int .i64 0))) (fun _ _ _ g_ ⟨b, cs, h1_, h2_, h3_⟩ => ⟨b, cs, h1_, KtP.heap g_ h2_ (by decide), KtP.rowat g_ h2_ (by decide) h3_⟩) (by rfl) ?_ ?_
 ·intro w_ g_
  refine og rfl ?_
  refine r_make (n := 33) (base := w_.heap.size) rfl rfl (by decide) (by decide) (Nat.le_refl _) ?_
  intro bm_ w2_ hb_ ho_ g2_
  rw [show (madeCells (Value.cells (.int .i64 0 : Value)) (33 * 1)).toList = List.replicate 33 (.int .i64 0) from by rw [Nat.mul_one]; exact toList_madeCells_one _ _] at ho_
  obtain ⟨cap_, cur_, hv_, hb2_, _⟩ := own_block_cells (own_raise ho_ (fun _ _ => Nat.zero_le _)) rfl
  obtain ⟨ad, c, h1_, _, _, h2_⟩ := own_row ho_ (by decide)
  simp only [Value.slice.injEq] at h1_
  obtain ⟨rfl, -, -⟩ := h1_
  exact ⟨g2_, bm_, cur_, rfl, hb2_, h2_⟩
 apply AOR_ex (hm := by rfl)
 ·intro w_ g_; refine og rfl ?_; refine r_fieldAddr rfl ?_; exact ⟨Grow.rfl' _, rfl⟩
 apply AOR_ex (hm := by rfl)
 ·intro w_ g_; refine og rfl ?_; refine r_load (v := .int .i64 (at_ % 12 - 2)) rfl (kb_hc19 _ g_) rfl ?_; exact ⟨Grow.rfl' _, rfl⟩
 refine AOR_so (fun w_ v_ => ∃ b cs, v_ = .agg #[.slice (some ⟨b, 0, none⟩) 33 33, .int .i64 (at_ % 12 - 2)] ∧ w_.heap[b]? = some (.cells cs 3 (0, 0)) ∧ RowAt w_ 1 (some ⟨b, 0, none⟩) 33 (List.replicate 33 (.int .i64 0))) (fun _ _ _ g_ ⟨b, cs, h1_, h2_, h3_⟩ => ⟨b, cs, h1_, KtP.heap g_ h2_ (by decide), KtP.rowat g_ h2_ (by decide) h3_⟩) (by rfl) ?_ ?_
 ·intro w_ g_
  intro v1_ hv1_; show OpG _ _ _ _ _ _
  refine og rfl ?_
  obtain ⟨b, cs, rfl, h2_, h3_⟩ := hv1_
  refine r_build (v := .agg #[.slice (some ⟨b, 0, none⟩) 33 33, .int .i64 (at_ % 12 - 2)]) (fun w => by kernel_rfl) ?_
  exact ⟨Grow.rfl' _, b, cs, rfl, h2_, h3_⟩
 apply AOR_ex (hm := by rfl)
 ·intro w_ g_; intro v1_ hv1_; intro v4_ hv4_; show OpG _ _ _ _ _ _; refine og rfl ?_; obtain ⟨b, cs, rfl, h2_, h3_⟩ := hv4_; exact r_gives (v := .tuple #[.agg #[.int .i64 0, .int .i64 0, .int .i64 0, .int .i64 0, .int .u64 0], .int .u16 3]) rfl (gives_eq (Of_calls _ (kb_hA _ g_) (noughts_ok hm1 hm2) (steps := List.replicate 33 0) (a := at_ % 12 - 2) (cost := 100) (by rw [List.length_replicate, List.map_replicate]; exact h3_) (by intro x_ hx_; have := List.eq_of_mem_replicate hx_; subst this; simp [inR]) (by simp only [inR]; omega) (by simp only [inR]; omega)) (y := .tuple #[.agg #[.int .i64 0, .int .i64 0, .int .i64 0, .int .i64 0, .int .u64 0], .int .u16 3]) (by rw [long_walk _ (fun x_ hx_ => by have := List.eq_of_mem_replicate hx_; omega) (by rw [List.length_replicate]; decide)] <;> rfl)) (fun w2_ g2_ => ⟨g2_, rfl⟩)
 apply AOR_ex (hm := by rfl)
 ·intro w_ g_; intro v1_ hv1_; intro v4_ hv4_; show OpG _ _ _ _ _ _; refine og rfl ?_; refine r_move (v := .tuple #[.agg #[.int .i64 0, .int .i64 0, .int .i64 0, .int .i64 0, .int .u64 0], .int .u16 3]) rfl ?_; exact ⟨Grow.rfl' _, rfl⟩
 apply AOR_ex (hm := by rfl)
 ·intro w_ g_; intro v1_ hv1_; intro v4_ hv4_; show OpG _ _ _ _ _ _; refine og rfl ?_; refine r_extract (v := .agg #[.int .i64 0, .int .i64 0, .int .i64 0, .int .i64 0, .int .u64 0]) rfl rfl ?_; exact ⟨Grow.rfl' _, rfl⟩
 apply AOR_ex (hm := by rfl)
 ·intro w_ g_; intro v1_ hv1_; intro v4_ hv4_; show OpG _ _ _ _ _ _; refine og rfl ?_; refine r_extract (v := .int .u16 3) rfl rfl ?_; exact ⟨Grow.rfl' _, rfl⟩
 refine AOR_so (fun w_ v_ => ∃ b cs, v_ = .pointer (some ⟨b, 0, none⟩) ∧ w31.heap.size ≤ b ∧ cs.size = 5 ∧ w_.heap[b]? = some (.cells cs 32 (0, 0))) (fun _ _ _ g_ ⟨b, cs, h1_, h2_, h3_, h4_⟩ => by obtain ⟨cs2, h5_, h6_⟩ := KtP.new g_ b cs h4_; exact ⟨b, cs2, h1_, h2_, h5_.trans h3_, h6_⟩) (by rfl) ?_ ?_
 ·intro w_ g_
  refine og rfl ?_
  refine r_alloc ?_
  intro b_ w2_ hb_ hc_ g2_
  exact ⟨g2_, b_, _, rfl, Nat.le_trans (kb_hsz9 _ g_) hb_, rfl, hc_⟩
 apply AOR_mut 0 (hm := by rfl)
 ·intro w_ g_ s_
  intro v1_ hv1_; intro v4_ hv4_; intro v9_ hv9_; show OpG _ _ _ _ _ _
  refine og rfl ?_
  obtain ⟨b_, cs_, rfl, hge_, hsz_, hb_⟩ := hv9_
  refine r_storeAll rfl rfl hb_ (by rfl) hsz_ (by rfl) ?_
  intro w2_ s2_ u_
  exact ⟨KtP.of_upd u_ hge_ hb_ s2_ hsz_.symm, trivial, rfl⟩
 refine AOR_nil ?_
 intro w40 g41 S_
 replace k0_ := ((ktR 32 w31.heap.size).tr k0_ g41)
 replace hsz9 := kb_hsz9 _ g41
 clear kb_hsz9
 replace hc19 := kb_hc19 _ g41
 clear kb_hc19
 replace hc32 := kb_hc32 _ g41
 clear kb_hc32
 replace hA := kb_hA _ g41
 clear kb_hA
 replace G := kb_G _ g41
 clear kb_G
 intro v_m hv_m
 intro v_b hv_b
 intro v_a hv_a
 refine stp (r_assign_int rfl ?_)
 refine WL_nil ?_
 refine W_seq (W_region rfl ?_)
 refine stp (r_gives (v := .bool true) rfl (known9_calls _) ?_)
 intro w42 g43
 replace hA := hA.grow g43
 replace hc19 := g43.heap hc19
 replace hc32 := g43.heap hc32
 replace hsz9 := Nat.le_trans hsz9 g43.size
 replace G := G.tr g43
 clear g43
 refine stp (r_move (v := .bool true) rfl ?_)
 refine stp (r_move_int rfl ?_)
 refine stp (r_eql_t rfl rfl (by decide) ?_)
 refine stp (r_pick_t (v := .bool true) rfl rfl rfl ?_)
 refine stp (r_move (v := .bool true) rfl ?_)
 refine stp (r_loadAll rfl hc32 (by rfl) ?_)
 refine stp (r_build (v := .agg #[.int .i64 0, .int .i64 0, .int .i64 0, .int .i64 0, .int .u64 0]) (fun w => by kernel_rfl) ?_)
 refine stp (r_eqlS' (r' := true) rfl rfl (by rfl) (by decide) ?_)
 refine stp (r_pick_t (v := .bool true) rfl rfl rfl ?_)
 refine stp (r_move (v := .bool true) rfl ?_)
 refine stp (r_move_int rfl ?_)
 refine stp (r_eql_t rfl rfl (by decide) ?_)
 refine stp (r_pick_t (v := .bool true) rfl rfl rfl ?_)
 refine stp (r_assign (v := .bool true) rfl ?_)
 refine WL_nil ?_
 refine W_ret ?_
 refine ret1 (res_tmp (v := .bool true) rfl) ⟨?_, G⟩
 rfl
end Go.Proofs.Ytdddpbapamdghaa.K
