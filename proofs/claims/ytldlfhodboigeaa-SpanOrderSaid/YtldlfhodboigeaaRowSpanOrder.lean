/- 'scullerlaw04.SpanOrder': whatever the input, it answers true; the input reads as it did. No condition. -/
import Derived.Test.YtldlfhodboigeaaRows
import Derived.Test.YtldlfhodboigeaaLO
import Derived.Test.YtldlfhodboigeaaH04
import Derived.ShutString
import Derived.Below
import Derived.Test.YtldlfhodboigeaaRo
namespace Go.Proofs.Ytldlfhodboigeaa.spanOrder
open Go.ChangeShapes Go.WideShapes Go.ChangeAt Go.RowKit
set_option linter.unusedVariables false
set_option linter.unusedSimpArgs false
theorem laid : laidOutB Try.prog = true := by kernel_rfl
theorem own : ownKnob Try.prog.godebug = none := by kernel_rfl
set_option maxRecDepth 100000 in
theorem lifted (os : Os) (started : os.Started) (H : Type) (enc : TypeId × Value → H) :
    ReturnsInHanded {} Try.checked os 6 .any (Rows.spanOrderSpec.pre6 enc Try.prog Try.f6 Rows.spanOrderRow.domain false) (Rows.spanOrderSpec.post enc Try.prog Try.f6 false true false false) := by
  refine returnsInHanded_of_change_sized (C := Try.checked) own started (by kernel_rfl) Try.func6
    (ChangeSpec.witness6 (enc := enc) (C := Try.checked) false ⟨#[], #[.slice none 0 0, .int .u8 0], []⟩ 8 (by kernel_rfl) (by kernel_rfl) (by kernel_rfl) (by kernel_rfl)) ?_
  intro W base args ds gs before hval0 hW hcnd hsz0 _
  have hsz : (DataW.weightsEach Try.prog (Try.f6.params.toList ++ Rows.spanOrderSpec.plain.varTypes Try.prog) (ds ++ gs)).all (· ≤ reachBytes) = true := hsz0
  have hval : ∀ (j : Nat) t v, Try.f6.params[j]? = some t → args[j]? = some v → Value.okWide Try.prog W .any base t v := hval0
  have hW' := hW
  obtain ⟨p, q, hA0, hV, rfl, hfz, hnd⟩ := hW
  have hA : DataW.TrodAll enc Try.prog W 0 (fun _ => true) true Try.f6.params.toList args.toList ds p := hA0
  rw [Try.params6] at hA hval hsz
  obtain ⟨v0, vs0, d0, ds0, p0, q0, hargs, rfl, rfl, h0, r0_⟩ := trodAll_cons hA
  obtain ⟨v1, vs1, d1, ds1, p1, q1, rfl, rfl, rfl, h1, r1_⟩ := trodAll_cons r0_
  obtain ⟨rfl, rfl, rfl⟩ := trodAll_nil r1_
  obtain rfl : args = #[v0, v1] := by cases args; simp_all
  obtain ⟨rfl, rfl⟩ := trodVars_none hV
  have h0k := h0
  have nt0 : K.SpanT Try.prog 26 3 := ⟨by kernel_rfl, by kernel_rfl, by kernel_rfl, by kernel_rfl, Try.underlying3, by kernel_rfl, by kernel_rfl, ⟨_, rfl, by decide +kernel⟩⟩
  obtain ⟨fu0, to0⟩ := K.told_of (j := 0) h0 hsz rfl rfl
  obtain ⟨ad0, n0, c0, L0, cs0, hn0, hc0, hm0, R0, hr0⟩ := K.told_spans nt0 Try.underlying23 to0
  have va0 := K.cells_slice Try.underlying23 (hval 0 23 v0 rfl rfl) cs0
  subst va0
  subst hn0
  obtain ⟨a1, rfl, rfl, rfl, w1⟩ := open_int Try.underlying5 (hval 1 5 v1 rfl rfl) h1
  have r1 : 0 ≤ a1 ∧ a1 ≤ 255 := by simpa [Lit.wf, IntKind.min, IntKind.max, IntKind.bits, IntKind.signed] using w1
  clear hA0 hval0 hsz0
  refine Calls.mono (K.SpanOrder_calls W hc0 hm0 R0 r1.1 r1.2) fun e W' ⟨v, he, hv, bel⟩ => ?_
  subst hv; subst he
  exact ⟨_, rfl, _, _, _, [], _, [], hW', trodAll_mk1 (shut_bool Try.underlying4 _), (trodAll_cons_mk (Below.trod laid (by kernel_rfl) (of_decide_eq_true (by kernel_rfl)) h0k bel (fun x hx => hW'.lt x (by simp [hx]))) (trodAll_cons_mk (shut_int Try.underlying5 w1) trodAll_mk0)), rfl, bel.frame _, fun h => by cases h⟩
theorem over : Rows.spanOrderRow.holds Try.pinned (OpenSpec.ofChange Rows.spanOrderSpec) :=
  OpenClaim.holds_of_wide 6 Try.f6 rfl rfl rfl rfl rfl rfl rfl ⟨rfl, rfl, rfl, rfl, rfl⟩ rfl rfl rfl rfl rfl (by kernel_rfl) Try.func6 (by kernel_rfl)
    (of_decide_eq_true (by kernel_rfl)) (by unfold Func.isWrapper; first | (rw [if_pos (by decide +kernel)]; kernel_rfl) | (rw [if_neg (by decide +kernel)]; exact ⟨rfl, rfl⟩))
    (fun os started H enc _ => lifted os started H enc)
theorem proved : Rows.SpanOrderSaid := over
#print axioms proved
end Go.Proofs.Ytldlfhodboigeaa.spanOrder
namespace Go.Proofs.Ytldlfhodboigeaa
/-- The statement, for the claim. -/
theorem spanOrder_holds : Rows.SpanOrderSaid := spanOrder.proved
end Go.Proofs.Ytldlfhodboigeaa
