/- 'scullerlaw16.PartDoes': whatever the input, it answers true; the input reads as it did. No condition. -/
import Derived.Test.YtifhcfhdajkhlaaGreatX7
import Derived.Test.YtifhcfhdajkhlaaGreatRows
import Derived.ShutString
import Derived.Below
namespace Go.Proofs.YtifhcfhdajkhlaaGreat.partDoes
open Go.ChangeShapes Go.WideShapes Go.ChangeAt Go.RowKit
set_option linter.unusedVariables false
set_option linter.unusedSimpArgs false
theorem laid : laidOutB Tryz.prog = true := by kernel_rfl
theorem own : ownKnob Tryz.prog.godebug = none := by kernel_rfl
set_option maxRecDepth 100000 in
theorem yP0 (os : Os) (started : os.Started) (H : Type) (enc : TypeId × Value → H) :
    ReturnsInHanded {} Tryz.checked os 5 .any (Rows.partDoesSpec.pre6 enc Tryz.prog Tryz.f5 Rows.partDoesRow.domain false) (Rows.partDoesSpec.post enc Tryz.prog Tryz.f5 false true false false) := by
  refine returnsInHanded_of_change_sized (C := Tryz.checked) own started (by kernel_rfl) Tryz.func5
    (ChangeSpec.witness6 (enc := enc) (C := Tryz.checked) false ⟨#[], #[.agg #[.int .u64 0, .slice none 0 0, .int .u32 0], .slice none 0 0, .slice none 0 0, .int .u8 0, .slice none 0 0, .slice none 0 0, .agg #[.slice none 0 0, .int .i64 0], .int .u8 0], []⟩ 8 (by kernel_rfl) (by kernel_rfl) (by kernel_rfl) (by kernel_rfl)) ?_
  intro W base args ds gs before hval0 hW hcnd hsz0 _
  have hsz : (DataW.weightsEach Tryz.prog (Tryz.f5.params.toList ++ Rows.partDoesSpec.plain.varTypes Tryz.prog) (ds ++ gs)).all (· ≤ reachBytes) = true := hsz0
  have hval : ∀ (j : Nat) t v, Tryz.f5.params[j]? = some t → args[j]? = some v → Value.okWide Tryz.prog W .any base t v := hval0
  have hW' := hW
  obtain ⟨p, q, hA0, hV, rfl, hfz, hnd⟩ := hW
  have hA : DataW.TrodAll enc Tryz.prog W 0 (fun _ => true) true Tryz.f5.params.toList args.toList ds p := hA0
  rw [Tryz.params5] at hA hval hsz
  obtain ⟨v0, vs0, d0, ds0, p0, q0, hargs, rfl, rfl, h0, r0_⟩ := trodAll_cons hA
  obtain ⟨v1, vs1, d1, ds1, p1, q1, rfl, rfl, rfl, h1, r1_⟩ := trodAll_cons r0_
  obtain ⟨v2, vs2, d2, ds2, p2, q2, rfl, rfl, rfl, h2, r2_⟩ := trodAll_cons r1_
  obtain ⟨v3, vs3, d3, ds3, p3, q3, rfl, rfl, rfl, h3, r3_⟩ := trodAll_cons r2_
  obtain ⟨v4, vs4, d4, ds4, p4, q4, rfl, rfl, rfl, h4, r4_⟩ := trodAll_cons r3_
  obtain ⟨v5, vs5, d5, ds5, p5, q5, rfl, rfl, rfl, h5, r5_⟩ := trodAll_cons r4_
  obtain ⟨v6, vs6, d6, ds6, p6, q6, rfl, rfl, rfl, h6, r6_⟩ := trodAll_cons r5_
  obtain ⟨v7, vs7, d7, ds7, p7, q7, rfl, rfl, rfl, h7, r7_⟩ := trodAll_cons r6_
  obtain ⟨rfl, rfl, rfl⟩ := trodAll_nil r7_
  obtain rfl : args = #[v0, v1, v2, v3, v4, v5, v6, v7] := by cases args; simp_all
  obtain ⟨rfl, rfl⟩ := trodVars_none hV
  have h0k := h0
  have nt0 : K.ManiT Tryz.prog 51 33 27 3 49 := ⟨by kernel_rfl, by kernel_rfl, by kernel_rfl, by kernel_rfl, by kernel_rfl, by kernel_rfl, Tryz.underlying33, Tryz.underlying27, Tryz.underlying3, Tryz.underlying49, by kernel_rfl, by kernel_rfl, by kernel_rfl, by kernel_rfl, by kernel_rfl, by kernel_rfl⟩
  obtain ⟨fu0, to0⟩ := K.yP5 (j := 0) h0 hsz rfl rfl
  obtain ⟨se0, ad0, c0, z0, sm0, es0, hc0, hm0, R0, hz0⟩ := K.yO9 nt0 to0
  have va0 := K.yO7 Tryz.underlying51 (hval 0 51 v0 rfl rfl)
  rw [show v0.cells = [Value.int .u64 se0, .slice ad0 z0.length c0, .int .u32 sm0].toArray from Array.toList_inj.1 es0] at va0
  subst va0
  have h1k := h1
  obtain ⟨fu1, to1⟩ := K.yP5 (j := 1) h1 hsz rfl rfl
  obtain ⟨ad1, n1, c1, z1, cs1, hn1, hc1, hm1, R1, hz1⟩ := K.qP1 Tryz.underlying22 Tryz.underlying5 (by kernel_rfl) (by_ := 1) (by kernel_rfl) (by decide) to1
  obtain rfl := K.yN4 Tryz.underlying22 (hval 1 22 v1 rfl rfl) cs1
  have h2k := h2
  obtain ⟨fu2, to2⟩ := K.yP5 (j := 2) h2 hsz rfl rfl
  obtain ⟨ad2, n2, c2, z2, cs2, hn2, hc2, hm2, R2, hz2⟩ := K.qP1 Tryz.underlying22 Tryz.underlying5 (by kernel_rfl) (by_ := 1) (by kernel_rfl) (by decide) to2
  obtain rfl := K.yN4 Tryz.underlying22 (hval 2 22 v2 rfl rfl) cs2
  obtain ⟨a3, rfl, rfl, rfl, w3⟩ := open_int Tryz.underlying5 (hval 3 5 v3 rfl rfl) h3
  have h4k := h4
  obtain ⟨fu4, to4⟩ := K.yP5 (j := 4) h4 hsz rfl rfl
  obtain ⟨ad4, n4, c4, z4, cs4, hn4, hc4, hm4, R4, hz4⟩ := K.qP1 Tryz.underlying22 Tryz.underlying5 (by kernel_rfl) (by_ := 1) (by kernel_rfl) (by decide) to4
  obtain rfl := K.yN4 Tryz.underlying22 (hval 4 22 v4 rfl rfl) cs4
  have h5k := h5
  obtain ⟨fu5, to5⟩ := K.yP5 (j := 5) h5 hsz rfl rfl
  obtain ⟨ad5, n5, c5, z5, cs5, hn5, hc5, hm5, R5, hz5⟩ := K.qP1 Tryz.underlying22 Tryz.underlying5 (by kernel_rfl) (by_ := 1) (by kernel_rfl) (by decide) to5
  obtain rfl := K.yN4 Tryz.underlying22 (hval 5 22 v5 rfl rfl) cs5
  have h6k := h6
  have nt6 : K.PathT Tryz.prog 29 27 3 := ⟨by kernel_rfl, by kernel_rfl, by kernel_rfl, by kernel_rfl, Tryz.underlying27, Tryz.underlying3, by kernel_rfl, by kernel_rfl, by kernel_rfl, by kernel_rfl⟩
  obtain ⟨fu6, to6⟩ := K.yP5 (j := 6) h6 hsz rfl rfl
  obtain ⟨ad6, c6, z6, pa6, es6, hc6, hm6, R6, hz6, ha6⟩ := K.yO8 nt6 to6
  have va6 := K.yO7 Tryz.underlying29 (hval 6 29 v6 rfl rfl)
  rw [show v6.cells = [Value.slice ad6 z6.length c6, .int .i64 pa6].toArray from Array.toList_inj.1 es6] at va6
  subst va6
  obtain ⟨a7, rfl, rfl, rfl, w7⟩ := open_int Tryz.underlying5 (hval 7 5 v7 rfl rfl) h7
  have r3 : 0 ≤ a3 ∧ a3 ≤ 255 := by simpa [Lit.wf, IntKind.min, IntKind.max, IntKind.bits, IntKind.signed] using w3
  have r7 : 0 ≤ a7 ∧ a7 ≤ 255 := by simpa [Lit.wf, IntKind.min, IntKind.max, IntKind.bits, IntKind.signed] using w7
  clear hA0 hval0 hsz0
  subst hn1
  subst hn2
  subst hn4
  subst hn5
  refine Calls.mono (K.yG2 W R0 hz0 hc0 hm0 R1 hz1 hc1 hm1 R2 hz2 hc2 hm2 r3.1 r3.2 R4 hz4 hc4 hm4 R5 hz5 hc5 hm5 R6 hz6 ha6 r7.1 r7.2) fun e W' ⟨v, he, hv, bel⟩ => ?_
  subst hv; subst he
  exact ⟨_, rfl, _, _, _, [], _, [], hW', trodAll_mk1 (shut_bool Tryz.underlying4 _), (trodAll_cons_mk (Below.trod laid (by kernel_rfl) (of_decide_eq_true (by kernel_rfl)) h0k bel (fun x hx => hW'.lt x (by simp [hx]))) (trodAll_cons_mk (Below.trod laid (by kernel_rfl) (of_decide_eq_true (by kernel_rfl)) h1k bel (fun x hx => hW'.lt x (by simp [hx]))) (trodAll_cons_mk (Below.trod laid (by kernel_rfl) (of_decide_eq_true (by kernel_rfl)) h2k bel (fun x hx => hW'.lt x (by simp [hx]))) (trodAll_cons_mk (shut_int Tryz.underlying5 w3) (trodAll_cons_mk (Below.trod laid (by kernel_rfl) (of_decide_eq_true (by kernel_rfl)) h4k bel (fun x hx => hW'.lt x (by simp [hx]))) (trodAll_cons_mk (Below.trod laid (by kernel_rfl) (of_decide_eq_true (by kernel_rfl)) h5k bel (fun x hx => hW'.lt x (by simp [hx]))) (trodAll_cons_mk (Below.trod laid (by kernel_rfl) (of_decide_eq_true (by kernel_rfl)) h6k bel (fun x hx => hW'.lt x (by simp [hx]))) (trodAll_cons_mk (shut_int Tryz.underlying5 w7) trodAll_mk0)))))))), rfl, bel.frame _, fun h => by cases h⟩
theorem over : Rows.partDoesRow.holds Tryz.pinned (OpenSpec.ofChange Rows.partDoesSpec) :=
  OpenClaim.holds_of_wide 5 Tryz.f5 rfl rfl rfl rfl rfl rfl rfl ⟨rfl, rfl, rfl, rfl, rfl⟩ rfl rfl rfl rfl rfl (by kernel_rfl) Tryz.func5 (by kernel_rfl)
    (of_decide_eq_true (by kernel_rfl)) (by unfold Func.isWrapper; first | (rw [if_pos (by decide +kernel)]; kernel_rfl) | (rw [if_neg (by decide +kernel)]; exact ⟨rfl, rfl⟩))
    (fun os started H enc _ => yP0 os started H enc)
theorem proved : Rows.PartDoesSaid := over
#print axioms proved
end Go.Proofs.YtifhcfhdajkhlaaGreat.partDoes
namespace Go.Proofs.YtifhcfhdajkhlaaGreat
/-- The statement, for the claim. -/
theorem partDoes_holds : Rows.PartDoesSaid := partDoes.proved
end Go.Proofs.YtifhcfhdajkhlaaGreat
