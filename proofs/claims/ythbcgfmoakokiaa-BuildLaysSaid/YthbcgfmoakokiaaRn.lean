/- What a row knows of its arguments: trees, opened. Generic in the program. -/
import Derived.Test.YthbcgfmoakokiaaRo
set_option linter.unusedVariables false
set_option linter.unusedSimpArgs false
namespace Go.Proofs.Ythbcgfmoakokiaa.K
open Go Go.RowKit Go.ChangeShapes Go.WideShapes

theorem kids_of {w : World} : ∀ (n : Nat) (xs : List Value), xs.length = n * 5 → (∀ i, i < n → ∃ t, NodeR w ((xs.drop (i * 5)).take 5) t) → ∃ ts : List Nd, ts.length = n ∧ KidsR w xs ts
  | 0, xs, hl, _ => by
    have : xs = [] := List.eq_nil_of_length_eq_zero (by simpa using hl)
    subst this; exact ⟨[], rfl, .nil⟩
  | n + 1, xs, hl, h => by
    obtain ⟨t, ht⟩ := h 0 (by omega)
    obtain ⟨ts, h1, h2⟩ := kids_of n (xs.drop 5) (by rw [List.length_drop]; omega) fun i hi => by
      obtain ⟨u, hu⟩ := h (i + 1) (by omega)
      refine ⟨u, ?_⟩
      rw [List.drop_drop, show 5 + i * 5 = (i + 1) * 5 from by omega]
      exact hu
    refine ⟨t :: ts, by simp [h1], ?_⟩
    have := KidsR.cons (by simpa using ht) h2
    rwa [List.take_append_drop] at this
structure NodeT (P : Program) (TN TI TWs TW TBs TB TKs : TypeId) : Prop where
  f0 : fldS P TN 0 = some 0
  f1 : fldS P TN 1 = some 1
  f2 : fldS P TN 2 = some 2
  f3 : fldS P TN 3 = some 3
  f4 : fldS P TN 4 = some 4
  t0 : ftS P TN 0 = some TI
  t1 : ftS P TN 1 = some TI
  t2 : ftS P TN 2 = some TWs
  t3 : ftS P TN 3 = some TBs
  t4 : ftS P TN 4 = some TKs
  uI : P.underlying TI = some (.int .i64)
  uWs : P.underlying TWs = some (.slice TW)
  uW : P.underlying TW = some (.int .u64)
  uBs : P.underlying TBs = some (.slice TB)
  uB : P.underlying TB = some (.int .u8)
  uKs : P.underlying TKs = some (.slice TN)
  cN : P.cellsOf TN = 5
  cI : P.cellsOf TI = 1
  cWs : P.cellsOf TWs = 1
  cW : P.cellsOf TW = 1
  cBs : P.cellsOf TBs = 1
  cB : P.cellsOf TB = 1
  cKs : P.cellsOf TKs = 1
  bN : ∃ n, P.bytesOf TN = n ∧ 1 ≤ n
  bW : P.bytesOf TW = 8
  bB : P.bytesOf TB = 1
section
variable {H : Type} {enc : TypeId × Value → H} {P : Program} {w : World} {TN TI TWs TW TBs TB TKs : TypeId}
theorem five_take {c : List Value} {x0 x1 x2 x3 x4 : Value} (h : c.length = 5) (h0 : (c.drop 0).take 1 = [x0]) (h1 : (c.drop 1).take 1 = [x1]) (h2 : (c.drop 2).take 1 = [x2]) (h3 : (c.drop 3).take 1 = [x3]) (h4 : (c.drop 4).take 1 = [x4]) : c = [x0, x1, x2, x3, x4] := by
  match c, h with
  | [y0, y1, y2, y3, y4], _ => simp at h0 h1 h2 h3 h4; simp [*]
theorem told_node (K : NodeT P TN TI TWs TW TBs TB TKs) : ∀ (fuel : Nat) (cs : List Value), Told enc P w fuel TN cs → ∃ t, NodeR w cs t := by
  intro fuel
  induction fuel using Nat.strongRecOn with
  | _ fuel ih =>
    intro cs h
    obtain ⟨g, rfl, hl, q0⟩ := told_fld K.f0 K.t0 h
    obtain ⟨g1, hg1, _, q1⟩ := told_fld K.f1 K.t1 h
    obtain ⟨g2, hg2, _, q2⟩ := told_fld K.f2 K.t2 h
    obtain ⟨g3, hg3, _, q3⟩ := told_fld K.f3 K.t3 h
    obtain ⟨g4, hg4, _, q4⟩ := told_fld K.f4 K.t4 h
    rw [K.cI] at q0 q1
    rw [K.cWs] at q2
    rw [K.cBs] at q3
    rw [K.cKs] at q4
    rw [K.cN] at hl
    obtain ⟨k, e0, r0⟩ := told_int K.uI q0
    obtain ⟨s, e1, r1⟩ := told_int K.uI q1
    obtain ⟨ad2, n2, c2, zw, e2, hn2, hc2, hm2, R2, hr2⟩ := told_ints K.uWs K.uW K.cW K.bW (by omega) q2
    obtain ⟨ad3, n3, c3, zb, e3, hn3, hc3, hm3, R3, hr3⟩ := told_ints K.uBs K.uB K.cB K.bB (by omega) q3
    obtain ⟨bn, hb1, hb2⟩ := K.bN
    obtain ⟨f, ad4, n4, c4, xs, hf, e4, hc4, hm4, R4, hel⟩ := told_slice K.uKs K.cN (by omega) hb1 hb2 q4
    obtain ⟨ts, ht1, ht2⟩ := kids_of n4 xs R4.len fun i hi => ih f (by omega) _ (hel i hi)
    refine ⟨.mk k s zw zb ts, ?_⟩
    rw [five_take hl e0 e1 e2 e3 e4]
    subst hn2; subst hn3; subst ht1
    exact .mk r0 r1 ⟨_, _, rfl, hc2, hm2, R2⟩ hr2 ⟨_, _, rfl, hc3, hm3, R3⟩ hr3 ⟨_, _, rfl, hc4, hm4, R4⟩ ht2
end
end Go.Proofs.Ythbcgfmoakokiaa.K
