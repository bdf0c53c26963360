/- 'scullerlaw04.SpanBits': whatever the input, it answers true; the input reads as it did. No condition. -/
import Derived.Test.YtldlfhodboigeaaRows
import Derived.Test.YtldlfhodboigeaaLB
import Derived.Test.YtldlfhodboigeaaH04
import Derived.ShutString
import Derived.Below
import Derived.Test.YtldlfhodboigeaaRo
namespace Go.Proofs.Ytldlfhodboigeaa.spanBits
open Go.ChangeShapes Go.WideShapes Go.ChangeAt Go.RowKit
set_option linter.unusedVariables false
set_option linter.unusedSimpArgs false
theorem laid : laidOutB Try.prog = true := by kernel_rfl
theorem own : ownKnob Try.prog.godebug = none := by kernel_rfl
set_option maxRecDepth 100000 in
theorem lifted (os : Os) (started : os.Started) (H : Type) (enc : TypeId × Value → H) :
    ReturnsInHanded {} Try.checked os 9 .any (Rows.spanBitsSpec.pre6 enc Try.prog Try.f9 Rows.spanBitsRow.domain false) (Rows.spanBitsSpec.post enc Try.prog Try.f9 false true false false) := by
  refine returnsInHanded_of_change_sized (C := Try.checked) own started (by kernel_rfl) Try.func9
    (ChangeSpec.witness6 (enc := enc) (C := Try.checked) false ⟨#[], #[.slice none 0 0, .int .u16 0], []⟩ 8 (by kernel_rfl) (by kernel_rfl) (by kernel_rfl) (by kernel_rfl)) ?_
  intro W base args ds gs before hval0 hW hcnd hsz0 _
  have hsz : (DataW.weightsEach Try.prog (Try.f9.params.toList ++ Rows.spanBitsSpec.plain.varTypes Try.prog) (ds ++ gs)).all (· ≤ reachBytes) = true := hsz0
  have hval : ∀ (j : Nat) t v, Try.f9.params[j]? = some t → args[j]? = some v → Value.okWide Try.prog W .any base t v := hval0
  have hW' := hW
  obtain ⟨p, q, hA0, hV, rfl, hfz, hnd⟩ := hW
  have hA : DataW.TrodAll enc Try.prog W 0 (fun _ => true) true Try.f9.params.toList args.toList ds p := hA0
  rw [Try.params9] at hA hval hsz
  obtain ⟨v0, vs0, d0, ds0, p0, q0, hargs, rfl, rfl, h0, r0_⟩ := trodAll_cons hA
  obtain ⟨v1, vs1, d1, ds1, p1, q1, rfl, rfl, rfl, h1, r1_⟩ := trodAll_cons r0_
  obtain ⟨rfl, rfl, rfl⟩ := trodAll_nil r1_
  obtain rfl : args = #[v0, v1] := by cases args; simp_all
  obtain ⟨rfl, rfl⟩ := trodVars_none hV
  have h0k := h0
  obtain ⟨fu0, to0⟩ := K.told_of (j := 0) h0 hsz rfl rfl
  obtain ⟨ad0, n0, c0, z0, cs0, hn0, hc0, hm0, R0, hz0⟩ := K.told_ints Try.underlying22 Try.underlying5 (by kernel_rfl) (by_ := 1) (by kernel_rfl) (by decide) to0
  obtain rfl := K.cells_slice Try.underlying22 (hval 0 22 v0 rfl rfl) cs0
  obtain ⟨a1, rfl, rfl, rfl, w1⟩ := open_int Try.underlying40 (hval 1 40 v1 rfl rfl) h1
  have r1 : 0 ≤ a1 ∧ a1 ≤ 65535 := by simpa [Lit.wf, IntKind.min, IntKind.max, IntKind.bits, IntKind.signed] using w1
  clear hA0 hval0 hsz0
  refine Calls.mono (K.SpanBits_calls W (fun x hx => by have := hz0 x hx; simp only [K.inR] at this; omega) hc0 hm0 R0 r1.1 r1.2) fun e W' ⟨v, he, hv, bel⟩ => ?_
  subst hv; subst he
  exact ⟨_, rfl, _, _, _, [], _, [], hW', trodAll_mk1 (shut_bool Try.underlying4 _), (trodAll_cons_mk (Below.trod laid (by kernel_rfl) (of_decide_eq_true (by kernel_rfl)) h0k bel (fun x hx => hW'.lt x (by simp [hx]))) (trodAll_cons_mk (shut_int Try.underlying40 w1) trodAll_mk0)), rfl, bel.frame _, fun h => by cases h⟩
theorem over : Rows.spanBitsRow.holds Try.pinned (OpenSpec.ofChange Rows.spanBitsSpec) :=
  OpenClaim.holds_of_wide 9 Try.f9 rfl rfl rfl rfl rfl rfl rfl ⟨rfl, rfl, rfl, rfl, rfl⟩ rfl rfl rfl rfl rfl (by kernel_rfl) Try.func9 (by kernel_rfl)
    (of_decide_eq_true (by kernel_rfl)) (by unfold Func.isWrapper; first | (rw [if_pos (by decide +kernel)]; kernel_rfl) | (rw [if_neg (by decide +kernel)]; exact ⟨rfl, rfl⟩))
    (fun os started H enc _ => lifted os started H enc)
theorem proved : Rows.SpanBitsSaid := over
#print axioms proved
end Go.Proofs.Ytldlfhodboigeaa.spanBits
namespace Go.Proofs.Ytldlfhodboigeaa
/-- The statement, for the claim. -/
theorem spanBits_holds : Rows.SpanBitsSaid := spanBits.proved
end Go.Proofs.Ytldlfhodboigeaa
