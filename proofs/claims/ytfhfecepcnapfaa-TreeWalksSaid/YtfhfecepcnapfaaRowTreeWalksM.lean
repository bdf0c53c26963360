/- 'scullerlaw10.TreeWalks': whatever the input, it answers true; the input reads as it did. No condition. -/
import Derived.Test.YtfhfecepcnapfaaX5
import Derived.Test.YtfhfecepcnapfaaRows
import Derived.ShutString
import Derived.Below
namespace Go.Proofs.Ytfhfecepcnapfaa.treeWalks
open Go.ChangeShapes Go.WideShapes Go.ChangeAt Go.RowKit
set_option linter.unusedVariables false
set_option linter.unusedSimpArgs false
theorem laid : laidOutB Try.prog = true := by kernel_rfl
theorem own : ownKnob Try.prog.godebug = none := by kernel_rfl
set_option maxRecDepth 100000 in
theorem lifted (os : Os) (started : os.Started) (H : Type) (enc : TypeId × Value → H) :
    ReturnsInHanded {} Try.checked os 9 .any (Rows.treeWalksSpec.pre6 enc Try.prog Try.f9 Rows.treeWalksRow.domain false) (Rows.treeWalksSpec.post enc Try.prog Try.f9 false true false false) := by
  refine returnsInHanded_of_change_sized (C := Try.checked) own started (by kernel_rfl) Try.func9
    (ChangeSpec.witness6 (enc := enc) (C := Try.checked) false ⟨#[], #[.slice none 0 0, .slice none 0 0, .slice none 0 0, .int .u8 0, .int .u8 0], []⟩ 8 (by kernel_rfl) (by kernel_rfl) (by kernel_rfl) (by kernel_rfl)) ?_
  intro W base args ds gs before hval0 hW hcnd hsz0 _
  have hsz : (DataW.weightsEach Try.prog (Try.f9.params.toList ++ Rows.treeWalksSpec.plain.varTypes Try.prog) (ds ++ gs)).all (· ≤ reachBytes) = true := hsz0
  have hval : ∀ (j : Nat) t v, Try.f9.params[j]? = some t → args[j]? = some v → Value.okWide Try.prog W .any base t v := hval0
  have hW' := hW
  obtain ⟨p, q, hA0, hV, rfl, hfz, hnd⟩ := hW
  have hA : DataW.TrodAll enc Try.prog W 0 (fun _ => true) true Try.f9.params.toList args.toList ds p := hA0
  rw [Try.params9] at hA hval hsz
  obtain ⟨v0, vs0, d0, ds0, p0, q0, hargs, rfl, rfl, h0, r0_⟩ := trodAll_cons hA
  obtain ⟨v1, vs1, d1, ds1, p1, q1, rfl, rfl, rfl, h1, r1_⟩ := trodAll_cons r0_
  obtain ⟨v2, vs2, d2, ds2, p2, q2, rfl, rfl, rfl, h2, r2_⟩ := trodAll_cons r1_
  obtain ⟨v3, vs3, d3, ds3, p3, q3, rfl, rfl, rfl, h3, r3_⟩ := trodAll_cons r2_
  obtain ⟨v4, vs4, d4, ds4, p4, q4, rfl, rfl, rfl, h4, r4_⟩ := trodAll_cons r3_
  obtain ⟨rfl, rfl, rfl⟩ := trodAll_nil r4_
  obtain rfl : args = #[v0, v1, v2, v3, v4] := by cases args; simp_all
  obtain ⟨rfl, rfl⟩ := trodVars_none hV
  have h0k := h0
  obtain ⟨fu0, to0⟩ := K.told_of (j := 0) h0 hsz rfl rfl
  obtain ⟨ad0, n0, c0, z0, cs0, hn0, hc0, hm0, R0, hz0⟩ := K.told_ints Try.underlying24 Try.underlying5 (by kernel_rfl) (by_ := 1) (by kernel_rfl) (by decide) to0
  obtain rfl := K.cells_slice Try.underlying24 (hval 0 24 v0 rfl rfl) cs0
  have h1k := h1
  obtain ⟨fu1, to1⟩ := K.told_of (j := 1) h1 hsz rfl rfl
  obtain ⟨ad1, n1, c1, z1, cs1, hn1, hc1, hm1, R1, hz1⟩ := K.told_ints Try.underlying24 Try.underlying5 (by kernel_rfl) (by_ := 1) (by kernel_rfl) (by decide) to1
  obtain rfl := K.cells_slice Try.underlying24 (hval 1 24 v1 rfl rfl) cs1
  have h2k := h2
  obtain ⟨fu2, to2⟩ := K.told_of (j := 2) h2 hsz rfl rfl
  obtain ⟨ad2, n2, c2, z2, cs2, hn2, hc2, hm2, R2, hz2⟩ := K.told_ints Try.underlying24 Try.underlying5 (by kernel_rfl) (by_ := 1) (by kernel_rfl) (by decide) to2
  obtain rfl := K.cells_slice Try.underlying24 (hval 2 24 v2 rfl rfl) cs2
  obtain ⟨a3, rfl, rfl, rfl, w3⟩ := open_int Try.underlying5 (hval 3 5 v3 rfl rfl) h3
  obtain ⟨a4, rfl, rfl, rfl, w4⟩ := open_int Try.underlying5 (hval 4 5 v4 rfl rfl) h4
  have r3 : 0 ≤ a3 ∧ a3 ≤ 255 := by simpa [Lit.wf, IntKind.min, IntKind.max, IntKind.bits, IntKind.signed] using w3
  have r4 : 0 ≤ a4 ∧ a4 ≤ 255 := by simpa [Lit.wf, IntKind.min, IntKind.max, IntKind.bits, IntKind.signed] using w4
  clear hA0 hval0 hsz0
  subst hn0
  subst hn1
  subst hn2
  refine Calls.mono (K.TreeWalks_calls W R0 hz0 hc0 hm0 R1 hz1 r3.1 r3.2 R2 hz2 r4.1 r4.2) fun e W' ⟨v, he, hv, bel⟩ => ?_
  subst hv; subst he
  exact ⟨_, rfl, _, _, _, [], _, [], hW', trodAll_mk1 (shut_bool Try.underlying4 _), (trodAll_cons_mk (Below.trod laid (by kernel_rfl) (of_decide_eq_true (by kernel_rfl)) h0k bel (fun x hx => hW'.lt x (by simp [hx]))) (trodAll_cons_mk (Below.trod laid (by kernel_rfl) (of_decide_eq_true (by kernel_rfl)) h1k bel (fun x hx => hW'.lt x (by simp [hx]))) (trodAll_cons_mk (Below.trod laid (by kernel_rfl) (of_decide_eq_true (by kernel_rfl)) h2k bel (fun x hx => hW'.lt x (by simp [hx]))) (trodAll_cons_mk (shut_int Try.underlying5 w3) (trodAll_cons_mk (shut_int Try.underlying5 w4) trodAll_mk0))))), rfl, bel.frame _, fun h => by cases h⟩
theorem over : Rows.treeWalksRow.holds Try.pinned (OpenSpec.ofChange Rows.treeWalksSpec) :=
  OpenClaim.holds_of_wide 9 Try.f9 rfl rfl rfl rfl rfl rfl rfl ⟨rfl, rfl, rfl, rfl, rfl⟩ rfl rfl rfl rfl rfl (by kernel_rfl) Try.func9 (by kernel_rfl)
    (of_decide_eq_true (by kernel_rfl)) (by unfold Func.isWrapper; first | (rw [if_pos (by decide +kernel)]; kernel_rfl) | (rw [if_neg (by decide +kernel)]; exact ⟨rfl, rfl⟩))
    (fun os started H enc _ => lifted os started H enc)
theorem proved : Rows.TreeWalksSaid := over
#print axioms proved
end Go.Proofs.Ytfhfecepcnapfaa.treeWalks
namespace Go.Proofs.Ytfhfecepcnapfaa
/-- The statement, for the claim. -/
theorem treeWalks_holds : Rows.TreeWalksSaid := treeWalks.proved
end Go.Proofs.Ytfhfecepcnapfaa
