/- 'scullerlaw11.ValidChecks': whatever the input, it answers true; the input reads as it did. No condition. -/
import Derived.Test.YtkkbbhpbcfcplaaGreatX6
import Derived.Test.YtkkbbhpbcfcplaaGreatRows
import Derived.ShutString
import Derived.Below
namespace Go.Proofs.YtkkbbhpbcfcplaaGreat.validChecks
open Go.ChangeShapes Go.WideShapes Go.ChangeAt Go.RowKit
set_option linter.unusedVariables false
set_option linter.unusedSimpArgs false
theorem laid : laidOutB Tryz.prog = true := by kernel_rfl
theorem own : ownKnob Tryz.prog.godebug = none := by kernel_rfl
set_option maxRecDepth 100000 in
theorem jH4 (os : Os) (started : os.Started) (H : Type) (enc : TypeId × Value → H) :
    ReturnsInHanded {} Tryz.checked os 7 .any (Rows.validChecksSpec.pre6 enc Tryz.prog Tryz.f7 Rows.validChecksRow.domain false) (Rows.validChecksSpec.post enc Tryz.prog Tryz.f7 false true false false) := by
  refine returnsInHanded_of_change_sized (C := Tryz.checked) own started (by kernel_rfl) Tryz.func7
    (ChangeSpec.witness6 (enc := enc) (C := Tryz.checked) false ⟨#[], #[.slice none 0 0, .slice none 0 0, .slice none 0 0, .slice none 0 0, .int .u8 0], []⟩ 8 (by kernel_rfl) (by kernel_rfl) (by kernel_rfl) (by kernel_rfl)) ?_
  intro W base args ds gs before hval0 hW hcnd hsz0 _
  have hsz : (DataW.weightsEach Tryz.prog (Tryz.f7.params.toList ++ Rows.validChecksSpec.plain.varTypes Tryz.prog) (ds ++ gs)).all (· ≤ reachBytes) = true := hsz0
  have hval : ∀ (j : Nat) t v, Tryz.f7.params[j]? = some t → args[j]? = some v → Value.okWide Tryz.prog W .any base t v := hval0
  have hW' := hW
  obtain ⟨p, q, hA0, hV, rfl, hfz, hnd⟩ := hW
  have hA : DataW.TrodAll enc Tryz.prog W 0 (fun _ => true) true Tryz.f7.params.toList args.toList ds p := hA0
  rw [Tryz.params7] at hA hval hsz
  obtain ⟨v0, vs0, d0, ds0, p0, q0, hargs, rfl, rfl, h0, r0_⟩ := trodAll_cons hA
  obtain ⟨v1, vs1, d1, ds1, p1, q1, rfl, rfl, rfl, h1, r1_⟩ := trodAll_cons r0_
  obtain ⟨v2, vs2, d2, ds2, p2, q2, rfl, rfl, rfl, h2, r2_⟩ := trodAll_cons r1_
  obtain ⟨v3, vs3, d3, ds3, p3, q3, rfl, rfl, rfl, h3, r3_⟩ := trodAll_cons r2_
  obtain ⟨v4, vs4, d4, ds4, p4, q4, rfl, rfl, rfl, h4, r4_⟩ := trodAll_cons r3_
  obtain ⟨rfl, rfl, rfl⟩ := trodAll_nil r4_
  obtain rfl : args = #[v0, v1, v2, v3, v4] := by cases args; simp_all
  obtain ⟨rfl, rfl⟩ := trodVars_none hV
  have h0k := h0
  obtain ⟨fu0, to0⟩ := K.jI2 (j := 0) h0 hsz rfl rfl
  obtain ⟨ad0, n0, c0, A0, cs0, hn0, hA0, hx0, hl0⟩ := K.jF4 Tryz.underlying26 Tryz.underlying37 Tryz.underlying23 (by kernel_rfl) (by kernel_rfl) (by kernel_rfl) (by kernel_rfl) to0
  obtain rfl := K.jF3 Tryz.underlying26 (hval 0 26 v0 rfl rfl) cs0
  have h1k := h1
  obtain ⟨fu1, to1⟩ := K.jI2 (j := 1) h1 hsz rfl rfl
  obtain ⟨ad1, n1, c1, A1, cs1, hn1, hA1, hx1, hl1⟩ := K.jF4 Tryz.underlying26 Tryz.underlying37 Tryz.underlying23 (by kernel_rfl) (by kernel_rfl) (by kernel_rfl) (by kernel_rfl) to1
  obtain rfl := K.jF3 Tryz.underlying26 (hval 1 26 v1 rfl rfl) cs1
  have h2k := h2
  obtain ⟨fu2, to2⟩ := K.jI2 (j := 2) h2 hsz rfl rfl
  obtain ⟨ad2, n2, c2, z2, cs2, hn2, hc2, hm2, R2, hz2⟩ := K.yV4 Tryz.underlying22 Tryz.underlying5 (by kernel_rfl) (by_ := 1) (by kernel_rfl) (by decide) to2
  obtain rfl := K.jF3 Tryz.underlying22 (hval 2 22 v2 rfl rfl) cs2
  have h3k := h3
  obtain ⟨fu3, to3⟩ := K.jI2 (j := 3) h3 hsz rfl rfl
  obtain ⟨ad3, n3, c3, z3, cs3, hn3, hc3, hm3, R3, hz3⟩ := K.yV4 Tryz.underlying22 Tryz.underlying5 (by kernel_rfl) (by_ := 1) (by kernel_rfl) (by decide) to3
  obtain rfl := K.jF3 Tryz.underlying22 (hval 3 22 v3 rfl rfl) cs3
  obtain ⟨a4, rfl, rfl, rfl, w4⟩ := open_int Tryz.underlying5 (hval 4 5 v4 rfl rfl) h4
  have r4 : 0 ≤ a4 ∧ a4 ≤ 255 := by simpa [Lit.wf, IntKind.min, IntKind.max, IntKind.bits, IntKind.signed] using w4
  clear hA0 hval0 hsz0
  subst hn2
  subst hn3
  refine Calls.mono (K.yN5 W hA0 hl0 hx0 hA1 hl1 hx1 R2 hz2 hc2 hm2 R3 hz3 r4.1 r4.2) fun e W' ⟨v, he, hv, bel⟩ => ?_
  subst hv; subst he
  exact ⟨_, rfl, _, _, _, [], _, [], hW', trodAll_mk1 (shut_bool Tryz.underlying4 _), (trodAll_cons_mk (Below.trod laid (by kernel_rfl) (of_decide_eq_true (by kernel_rfl)) h0k bel (fun x hx => hW'.lt x (by simp [hx]))) (trodAll_cons_mk (Below.trod laid (by kernel_rfl) (of_decide_eq_true (by kernel_rfl)) h1k bel (fun x hx => hW'.lt x (by simp [hx]))) (trodAll_cons_mk (Below.trod laid (by kernel_rfl) (of_decide_eq_true (by kernel_rfl)) h2k bel (fun x hx => hW'.lt x (by simp [hx]))) (trodAll_cons_mk (Below.trod laid (by kernel_rfl) (of_decide_eq_true (by kernel_rfl)) h3k bel (fun x hx => hW'.lt x (by simp [hx]))) (trodAll_cons_mk (shut_int Tryz.underlying5 w4) trodAll_mk0))))), rfl, bel.frame _, fun h => by cases h⟩
theorem over : Rows.validChecksRow.holds Tryz.pinned (OpenSpec.ofChange Rows.validChecksSpec) :=
  OpenClaim.holds_of_wide 7 Tryz.f7 rfl rfl rfl rfl rfl rfl rfl ⟨rfl, rfl, rfl, rfl, rfl⟩ rfl rfl rfl rfl rfl (by kernel_rfl) Tryz.func7 (by kernel_rfl)
    (of_decide_eq_true (by kernel_rfl)) (by unfold Func.isWrapper; first | (rw [if_pos (by decide +kernel)]; kernel_rfl) | (rw [if_neg (by decide +kernel)]; exact ⟨rfl, rfl⟩))
    (fun os started H enc _ => jH4 os started H enc)
theorem proved : Rows.ValidChecksSaid := over
#print axioms proved
end Go.Proofs.YtkkbbhpbcfcplaaGreat.validChecks
namespace Go.Proofs.YtkkbbhpbcfcplaaGreat
/-- The statement, for the claim. -/
theorem validChecks_holds : Rows.ValidChecksSaid := validChecks.proved
end Go.Proofs.YtkkbbhpbcfcplaaGreat
