/- package span (printed by sp04.py). -/
import Derived.Test.YtldlfhodboigeaaSA
import Derived.Shelf.SlSortCmp.NoneTotal
set_option linter.unusedVariables false
set_option linter.unusedSimpArgs false
namespace Go.Proofs.Ytldlfhodboigeaa.K
open Go Go.RowKit Go.Proofs Go.Shelf
attribute [local irreducible] Run1 OpG WL W AO Gives
def sortL_ren : Go.Shelf.Ren := ⟨fun | 6 => 25 | 15 => 39 | 14 => 38 | 28 => 49 | 29 => 50 | 20 => 41 | 21 => 42 | 22 => 43 | 23 => 44 | 24 => 45 | 25 => 46 | 26 => 47 | 27 => 48 | 46 => 51 | 47 => 52 | 48 => 53 | 49 => 54 | 50 => 55 | 57 => 56 | n => n, fun | 22 => 23 | 24 => 26 | 25 => 48 | 3 => 3 | 39 => 41 | 0 => 0 | 53 => 67 | 55 => 50 | 4 => 4 | 46 => 60 | 45 => 59 | 50 => 64 | 5 => 5 | 9 => 9 | 66 => 69 | 70 => 73 | 76 => 75 | 77 => 76 | n => n, fun | n => n⟩
theorem sortL : Go.Proofs.SlLaysF0.n6 Try.prog sortL_ren := {
  mixed := by kernel_rfl
  f6 := ⟨Try.f25.name, by decide, Try.func25.trans (congrArg some (by kernel_rfl))⟩
  f14 := ⟨Try.f38.name, by decide, Try.func38.trans (congrArg some (by kernel_rfl))⟩
  f15 := Try.func39.trans (congrArg some (by kernel_rfl))
  f20 := ⟨Try.f41.name, by decide, Try.func41.trans (congrArg some (by kernel_rfl))⟩
  f21 := ⟨Try.f42.name, by decide, Try.func42.trans (congrArg some (by kernel_rfl))⟩
  f22 := ⟨Try.f43.name, by decide, Try.func43.trans (congrArg some (by kernel_rfl))⟩
  f23 := ⟨Try.f44.name, by decide, Try.func44.trans (congrArg some (by kernel_rfl))⟩
  f24 := ⟨Try.f45.name, by decide, Try.func45.trans (congrArg some (by kernel_rfl))⟩
  f25 := ⟨Try.f46.name, by decide, Try.func46.trans (congrArg some (by kernel_rfl))⟩
  f26 := ⟨Try.f47.name, by decide, Try.func47.trans (congrArg some (by kernel_rfl))⟩
  f27 := ⟨Try.f48.name, by decide, Try.func48.trans (congrArg some (by kernel_rfl))⟩
  f28 := Try.func49.trans (congrArg some (by kernel_rfl))
  f29 := Try.func50.trans (congrArg some (by kernel_rfl))
  f46 := ⟨Try.f51.name, by decide, Try.func51.trans (congrArg some (by kernel_rfl))⟩
  f47 := Try.func52.trans (congrArg some (by kernel_rfl))
  f48 := Try.func53.trans (congrArg some (by kernel_rfl))
  f49 := ⟨Try.f54.name, by decide, Try.func54.trans (congrArg some (by kernel_rfl))⟩
  f50 := ⟨Try.f55.name, by decide, Try.func55.trans (congrArg some (by kernel_rfl))⟩
  f57 := ⟨Try.f56.name, by decide, Try.func56.trans (congrArg some (by kernel_rfl))⟩
  t0 := Try.underlying0
  a0 := Try.isAgg0
  z0 := Try.sizeOf0
  v0 := Try.zeroValue0
  t3 := Try.underlying3
  a3 := Try.isAgg3
  z3 := Try.sizeOf3
  v3 := Try.zeroValue3
  t4 := Try.underlying4
  a4 := Try.isAgg4
  z4 := Try.sizeOf4
  v4 := Try.zeroValue4
  t5 := Try.underlying5
  a5 := Try.isAgg5
  z5 := Try.sizeOf5
  v5 := Try.zeroValue5
  t9 := Try.underlying9
  a9 := Try.isAgg9
  z9 := Try.sizeOf9
  v9 := Try.zeroValue9
  t22 := Try.underlying23
  a22 := Try.isAgg23
  z22 := Try.sizeOf23
  v22 := Try.zeroValue23
  t25 := Try.underlying48
  a25 := Try.isAgg48
  z25 := Try.sizeOf48
  v25 := Try.zeroValue48
  t39 := Try.underlying41
  a39 := Try.isAgg41
  z39 := Try.sizeOf41
  v39 := Try.zeroValue41
  t45 := Try.underlying59
  a45 := Try.isAgg59
  z45 := Try.sizeOf59
  v45 := Try.zeroValue59
  t46 := Try.underlying60
  a46 := Try.isAgg60
  z46 := Try.sizeOf60
  v46 := Try.zeroValue60
  t50 := Try.underlying64
  a50 := Try.isAgg64
  z50 := Try.sizeOf64
  v50 := Try.zeroValue64
  t53 := Try.underlying67
  a53 := Try.isAgg67
  z53 := Try.sizeOf67
  v53 := Try.zeroValue67
  t55 := Try.underlying50
  a55 := Try.isAgg50
  z55 := Try.sizeOf50
  v55 := Try.zeroValue50
  t66 := Try.underlying69
  a66 := Try.isAgg69
  z66 := Try.sizeOf69
  v66 := Try.zeroValue69
  t70 := Try.underlying73
  a70 := Try.isAgg73
  z70 := Try.sizeOf73
  v70 := Try.zeroValue73
  t76 := Try.underlying75
  a76 := Try.isAgg75
  z76 := Try.sizeOf75
  v76 := Try.zeroValue75
  t77 := Try.underlying76
  a77 := Try.isAgg76
  z77 := Try.sizeOf76
  v77 := Try.zeroValue76 }

theorem sort_calls (w : World) {g cap : Nat} {cur : Array Value} {L : List Spn} (hb : w.heap[g]? = some (.cells cur 26 (0, 0))) (hx : cur.toList.take (L.length * 2) = encL L) (hf : L.length * 2 ≤ cur.size) (hl : L.length ≤ 140737488355328) :
    Calls Try.prog 25 #[.slice (some ⟨g, 0, none⟩) L.length cap, .func (.func 26) #[] #[]] w (Ret fun v w' => ∃ (M : List Spn) (cur' : Array Value), M.Perm L ∧ M.Pairwise (fun a b => a.1 ≤ b.1) ∧ w'.heap[g]? = some (.cells cur' 26 (0, 0)) ∧ cur'.size = cur.size ∧ cur'.toList.take (L.length * 2) = encL M ∧ Kp [g] w w') := by
  have eg : ∀ args w, (callFunc 26 args).run Try.prog w = .ok (.enter 26 args) w := enters_of Try.func26 (by kernel_rfl) rfl
  have hc : CmpLays Try.prog 26 #[] encS 2 cfS g 0 L.toArray.size w := fun m os dk hs x y => by
    refine (norm1_calls _ x.1 x.2 y.1 y.2).mono ?_
    rintro e w' ⟨v, rfl, rfl, q, os', hq⟩
    exact ⟨rfl, q, os', hq⟩
  have hH : Sort.HoldsK encS 2 w g 0 L.toArray := holds_flat hb (by simpa using hx)
  have h := AnyQ.slices_SortFunc sortL 2 (fun w => by kernel_rfl) (fun w => by kernel_rfl) encS (fun _ => rfl) (fun x v hv => by simp [encS] at hv; rcases hv with rfl | rfl <;> rfl) cfS swoS 26 #[] g 0 cap L.toArray w eg hc hH (lt_of_heap hb) (by simp; omega)
  change Calls Try.prog 25 _ _ _ at h
  refine Calls.mono h ?_
  rintro e w' ⟨rfl, d', n, os, hp, hs, rfl⟩
  have hsz : d'.size = L.length := by have := hp.1; simpa using this
  obtain ⟨cur', h1, h2, h3, h4⟩ := sorted_row (n := n) (d := d') (os := os) hb (by omega)
  exact ⟨_, rfl, d'.toList, cur', by simpa using perm_of hp, pair_of hp.1 hs, h1, h2, by rw [← hsz]; exact h3, h4⟩
theorem sortnil_calls (w : World) (p : Option Addr) (cap : Nat) (fv : Value) : Calls Try.prog 25 #[.slice p 0 cap, fv] w (Ret fun v w' => w' = w) := by
  have h := AnyF.slices_SortFunc_none { sortL with } p cap fv w
  change Calls Try.prog 25 _ _ _ at h
  refine Calls.mono h ?_
  rintro e w' ⟨rfl, rfl⟩
  exact ⟨_, rfl, rfl⟩

theorem sort2_calls (w : World) {base c : Nat} {ad : Option Addr} {L : List Spn} (own : w.ownsRow base 26 2 (.slice ad L.length c) L.length (encL L)) (hbase : base ≤ w.heap.size) (hl : L.length ≤ 140737488355328) :
    Calls Try.prog 25 #[.slice ad L.length c, .func (.func 26) #[] #[]] w (Ret fun v w' => ∃ M : List Spn, M.Perm L ∧ M.Pairwise (fun a b => a.1 ≤ b.1) ∧ w'.ownsRow base 26 2 (.slice ad L.length c) L.length (encL M) ∧ Below base w w') := by
  rcases Nat.eq_zero_or_pos L.length with h0 | h0
  · have hn := List.eq_nil_of_length_eq_zero h0
    subst hn
    refine Calls.mono (sortnil_calls w ad c _) ?_
    rintro e w' ⟨v, rfl, rfl⟩
    exact ⟨_, rfl, [], List.Perm.refl _, List.Pairwise.nil, own, Below.refl _ _⟩
  · obtain ⟨q, cap, cur, hv, hq, hgc, hn1, hn2, hcs, hct⟩ := own_pos own h0
    simp only [Value.slice.injEq, true_and] at hv
    obtain ⟨rfl, rfl⟩ := hv
    refine Calls.mono (sort_calls w hgc hct (by omega) hl) ?_
    rintro e w' ⟨v, rfl, M, cur', hp, hs, hg', hz, hx, hk⟩
    exact ⟨_, rfl, M, hp, hs, ⟨by rw [encL_len, hp.length_eq], .inr ⟨q, c, cur', rfl, hq, hg', hn1, hn2, by rw [hz, hcs], hx⟩⟩, hk.below (fun x hx => by simp at hx; omega) hbase⟩

set_option maxRecDepth 100000 in
theorem clone1_calls (w : World) {b : Addr} {n c : Nat} {xs : List Value} (hc : n ≤ c) (hc2 : c ≤ maxLen) (R : RowAt w 2 (some b) n xs) (h1 : ∀ q ∈ xs, q.oneCell' = true) (hb : n ≤ 8796093022208) : Calls Try.prog 23 #[.slice (some b) n c] w (Ret fun v w' => w'.ownsRow w.heap.size 26 2 v n xs ∧ Grow w w') := by
 have G := Grow.rfl' w
 refine calls_ret Try.func23 Try.ntmps23 Try.results23 rfl rfl ?_
 refine W_seq (W_region rfl ?_)
 refine stp (r_assign_slice rfl ?_)
 refine WL_nil ?_
 refine W_seq ?_
 refine W_seq (W_region rfl ?_)
 refine stp (r_move_slice rfl ?_)
 refine stp (r_eqlNil rfl rfl ?_)
 refine WL_nil ?_
 refine W_false rfl ?_
 refine W_skip ?_
 refine W_seq (W_region rfl ?_)
 refine stp (r_buildSlice (cs := #[]) (el := 26) (fun w => by kernel_rfl) ?_)
 intro bs_ w5_ hbs_ hcs_ g5_
 replace G := G.tr g5_
 clear g5_
 have own0 := own_lit0 (base := w.heap.size) (sz := 2) hcs_ (by have := G.size; omega)
 refine stp (r_move_slice rfl ?_)
 refine stp (r_append rfl rfl rfl rfl own0 ⟨_, c, rfl, hc, hc2, R.grow G⟩ h1 (by simp only [maxLen]; omega) (by omega) G.size ?_)
 intro v6 w6 own6 gr6
 have G6 := G.grown gr6 (own_ge own0)
 rw [Nat.zero_add, List.nil_append] at own6
 refine stp (r_assign (v := v6) rfl ?_)
 refine WL_nil ?_
 refine W_ret ?_
 exact ret1 (res_tmp rfl) ⟨own6, G6⟩

set_option maxRecDepth 100000 in
theorem cloneN_calls (w : World) {c : Nat} : Calls Try.prog 23 #[.slice none 0 c] w (Ret fun v w' => v = .slice none 0 0 ∧ Grow w w') := by
 have G := Grow.rfl' w
 refine calls_ret Try.func23 Try.ntmps23 Try.results23 rfl rfl ?_
 refine W_seq (W_region rfl ?_)
 refine stp (r_assign_slice rfl ?_)
 refine WL_nil ?_
 refine W_seq ?_
 refine W_seq (W_region rfl ?_)
 refine stp (r_move_slice rfl ?_)
 refine stp (r_eqlNil rfl rfl ?_)
 refine WL_nil ?_
 refine W_true rfl ?_
 refine W_seq (W_region rfl ?_)
 refine stp (r_assign_slice rfl ?_)
 refine WL_nil ?_
 refine W_ret ?_
 refine ret1 (res_tmp (v := .slice none 0 0) rfl) ⟨rfl, G⟩

theorem clone_calls (w : World) {ad : Option Addr} {n c : Nat} {L : List Spn} (hc : n ≤ c) (hc2 : c ≤ maxLen) (R : RowAt w 2 ad n (encL L)) (hb : n ≤ 8796093022208) : Calls Try.prog 23 #[.slice ad n c] w (Ret fun v w' => w'.ownsRow w.heap.size 26 2 v n (encL L) ∧ Grow w w') := by
  cases ad with
  | some b => exact clone1_calls w hc hc2 R encL_one hb
  | none =>
    have hn : n = 0 := by
      rcases Nat.eq_zero_or_pos n with h | h
      · exact h
      · obtain ⟨b, o, cs, T, fr, h1, _⟩ := R.at_ h; cases h1
    subst hn
    have hl := row_lenS R
    have := List.eq_nil_of_length_eq_zero hl
    subst this
    refine Calls.mono (cloneN_calls w) ?_
    rintro e w' ⟨v, rfl, rfl, G⟩
    exact ⟨_, rfl, World.ownsRow_nil _ _ _ _, G⟩
end Go.Proofs.Ytldlfhodboigeaa.K
