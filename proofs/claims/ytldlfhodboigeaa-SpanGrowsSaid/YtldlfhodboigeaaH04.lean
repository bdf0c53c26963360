/- What a row knows of its arguments: spans, and rows of them, opened. Generic in the program. -/
import Derived.Test.YtldlfhodboigeaaRo
import Derived.Test.YtldlfhodboigeaaA04
set_option linter.unusedVariables false
set_option linter.unusedSimpArgs false
namespace Go.Proofs.Ytldlfhodboigeaa.K
open Go Go.RowKit Go.ChangeShapes Go.WideShapes
structure SpanT (P : Program) (TS TI : TypeId) : Prop where
  f0 : fldS P TS 0 = some 0
  f1 : fldS P TS 1 = some 1
  t0 : ftS P TS 0 = some TI
  t1 : ftS P TS 1 = some TI
  uI : P.underlying TI = some (.int .i64)
  cS : P.cellsOf TS = 2
  cI : P.cellsOf TI = 1
  bS : ∃ n, P.bytesOf TS = n ∧ 1 ≤ n
section
variable {H : Type} {enc : TypeId × Value → H} {P : Program} {w : World} {TS TI : TypeId}
theorem two_take {c : List Value} {x0 x1 : Value} (h : c.length = 2) (h0 : (c.drop 0).take 1 = [x0]) (h1 : (c.drop 1).take 1 = [x1]) : c = [x0, x1] := by
  match c, h with
  | [y0, y1], _ => simp at h0 h1; simp [*]
theorem told_span (K : SpanT P TS TI) {fuel : Nat} {cs : List Value} (h : Told enc P w fuel TS cs) : ∃ s : Spn, cs = encS s ∧ inR .i64 s.1 ∧ inR .i64 s.2 := by
  obtain ⟨g, rfl, hl, q0⟩ := told_fld K.f0 K.t0 h
  obtain ⟨g1, hg1, _, q1⟩ := told_fld K.f1 K.t1 h
  rw [K.cI] at q0 q1
  rw [K.cS] at hl
  obtain ⟨a, e0, r0⟩ := told_int K.uI q0
  obtain ⟨b, e1, r1⟩ := told_int K.uI q1
  exact ⟨(a, b), two_take hl e0 e1, r0, r1⟩
theorem row_spans {P1 : Spn → Prop} : ∀ (n : Nat) (xs : List Value), xs.length = n * 2 → (∀ i, i < n → ∃ s, (xs.drop (i * 2)).take 2 = encS s ∧ P1 s) → ∃ L : List Spn, L.length = n ∧ xs = encL L ∧ ∀ s ∈ L, P1 s
  | 0, xs, hl, _ => ⟨[], rfl, List.eq_nil_of_length_eq_zero (by simpa using hl), fun s hs => by simp at hs⟩
  | n + 1, xs, hl, h => by
    obtain ⟨s, hs, hp⟩ := h 0 (by omega)
    obtain ⟨L, h1, h2, h3⟩ := row_spans (P1 := P1) n (xs.drop 2) (by rw [List.length_drop]; omega) fun i hi => by
      obtain ⟨u, hu⟩ := h (i + 1) (by omega)
      refine ⟨u, ?_⟩
      rw [List.drop_drop, show 2 + i * 2 = (i + 1) * 2 from by omega]
      exact hu
    refine ⟨s :: L, by simp [h1], ?_, fun t ht => (List.mem_cons.1 ht).elim (fun h => h ▸ hp) (h3 t)⟩
    rw [← List.take_append_drop 2 xs, h2]
    have : xs.take 2 = encS s := by simpa using hs
    rw [this]; rfl
theorem told_spans (K : SpanT P TS TI) {t : TypeId} (ht : P.underlying t = some (.slice TS)) {fuel : Nat} {cs : List Value} (h : Told enc P w fuel t cs) :
    ∃ ad n c, ∃ L : List Spn, cs = [.slice ad n c] ∧ n = L.length ∧ n ≤ c ∧ c ≤ maxLen ∧ RowAt w 2 ad n (encL L) ∧ ∀ s ∈ L, -9223372036854775808 ≤ s.1 ∧ s.2 ≤ 9223372036854775807 := by
  obtain ⟨bn, hb1, hb2⟩ := K.bS
  obtain ⟨f, ad, n, c, xs, rfl, rfl, h1, h2, R, hel⟩ := told_slice ht K.cS (by omega) hb1 hb2 h
  obtain ⟨L, hl, rfl, hp⟩ := row_spans (P1 := fun s => inR .i64 s.1 ∧ inR .i64 s.2) n xs R.len fun i hi => told_span K (hel i hi)
  exact ⟨ad, n, c, L, rfl, hl.symm, h1, h2, R, fun s hs => by have := hp s hs; simp only [inR] at this; omega⟩
end
end Go.Proofs.Ytldlfhodboigeaa.K
