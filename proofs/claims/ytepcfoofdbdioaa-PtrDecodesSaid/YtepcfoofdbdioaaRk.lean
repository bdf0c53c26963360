/- What a row knows of its arguments: a struct of numbers and bools, opened. Generic in the program. -/
import Derived.Test.YtepcfoofdbdioaaK6
import Derived.WalkKit
import Derived.ProofKit
import Derived.OpenShut
import Derived.ChangeOld
import Derived.Carry
set_option linter.unusedVariables false
set_option linter.unusedSimpArgs false
namespace Go.Proofs.Ytepcfoofdbdioaa.K
open Go Go.RowKit Go.ChangeShapes Go.WideShapes

def FlatVals : List FK → List Value → Prop
  | [], [] => True
  | .i k :: ks, v :: vs => (∃ n, v = .int k n ∧ (Lit.int k n).wf = true) ∧ FlatVals ks vs
  | .b :: ks, v :: vs => (∃ b, v = .bool b) ∧ FlatVals ks vs
  | _, _ => False
theorem flat_i {k : IntKind} {ks : List FK} {l : List Value} (h : FlatVals (.i k :: ks) l) : ∃ n l', l = .int k n :: l' ∧ (Lit.int k n).wf = true ∧ FlatVals ks l' := by
  cases l with
  | nil => exact h.elim
  | cons v vs => obtain ⟨⟨n, rfl, hw⟩, h2⟩ := h; exact ⟨n, vs, rfl, hw, h2⟩
theorem flat_b {ks : List FK} {l : List Value} (h : FlatVals (.b :: ks) l) : ∃ b l', l = .bool b :: l' ∧ FlatVals ks l' := by
  cases l with
  | nil => exact h.elim
  | cons v vs => obtain ⟨⟨b, rfl⟩, h2⟩ := h; exact ⟨b, vs, rfl, h2⟩
theorem flat_nil {l : List Value} (h : FlatVals [] l) : l = [] := by
  cases l with
  | nil => rfl
  | cons v vs => exact h.elim
section
variable {H : Type} {enc : TypeId × Value → H} {P : Program} {w : World} {base : Nat} {spare : Nat → Bool} {held : Bool}
theorem cellsOf_one {t : TypeId} {n : Nat} {b : Bool} (h : tyS P t = some (n, b)) : P.cellsOf t = n := by
  unfold tyS at h
  split at h
  · rename_i i d hi hu
    simp only [Option.some.injEq, Prod.mk.injEq] at h
    simp [Program.cellsOf, hi, h.1]
  · cases h
theorem flat_vals {m : Nat} {cs : List Value} {fs0 : Array Field} {xs : List (DataW H × List MemPlace)} (hxl : xs.length = fs0.size)
    (hg : ∀ (i : Nat) (f : Field), fs0[i]? = some f → DataW.trod enc P w base spare held m f.type ((cs.drop f.offset).take (P.cellsOf f.type)) = xs[i]?) :
    ∀ (fs : List Field) (n : Nat) (ks : List FK), fs0.toList.drop n = fs → flatF P fs n = some ks → cs.length = n + ks.length → FlatVals ks (cs.drop n)
  | [], n, ks, hd, hf, hl => by
    simp only [flatF, Option.some.injEq] at hf
    subst hf
    rw [List.drop_of_length_le (by simpa using Nat.le_of_eq hl)]
    exact trivial
  | f :: fs, n, ks, hd, hf, hl => by
    have hfn : fs0[n]? = some f := by
      have h1 : fs0.toList[n]? = (fs0.toList.drop n)[0]? := by simp
      rw [hd] at h1
      simpa using h1
    have hd2 : fs0.toList.drop (n + 1) = fs := by rw [← List.drop_drop, hd]; rfl
    have hnx : n < xs.length := by rw [hxl]; exact (Array.getElem?_eq_some_iff.1 hfn).1
    have hgn := hg n f hfn
    rw [List.getElem?_eq_getElem hnx] at hgn
    unfold flatF at hf
    split at hf
    · rename_i hn
      simp only [ne_eq, Bool.and_eq_true, decide_eq_true_eq, beq_iff_eq] at hn
      obtain ⟨hnm, ho⟩ := hn
      split at hf
      · rename_i k r' hu ht hr
        cases hf
        rw [cellsOf_one ht, ho] at hgn
        obtain ⟨z, hz, _, hw⟩ := DataW.trod_int hu hgn
        have hdrop : cs.drop n = .int k z :: cs.drop (n + 1) := by
          have hlt : n < cs.length := by rw [hl]; simp
          have he := List.drop_eq_getElem_cons hlt
          rw [he] at hz
          rw [he]
          have hz2 : cs[n] = _ := (List.cons.inj hz).1
          rw [hz2]
        rw [hdrop]
        exact ⟨⟨z, rfl, hw⟩, flat_vals hxl hg fs (n + 1) r' hd2 hr (by rw [hl]; simp; omega)⟩
      · rename_i r' hu ht hr
        cases hf
        rw [cellsOf_one ht, ho] at hgn
        obtain ⟨z, hz, _⟩ := DataW.trod_bool hu hgn
        have hdrop : cs.drop n = .bool z :: cs.drop (n + 1) := by
          have hlt : n < cs.length := by rw [hl]; simp
          have he := List.drop_eq_getElem_cons hlt
          rw [he] at hz
          rw [he]
          have hz2 : cs[n] = _ := (List.cons.inj hz).1
          rw [hz2]
        rw [hdrop]
        exact ⟨⟨z, rfl⟩, flat_vals hxl hg fs (n + 1) r' hd2 hr (by rw [hl]; simp; omega)⟩
      · cases hf
    · cases hf
theorem open_flat {r : Reach} {b0 : Nat} {t : TypeId} {ks : List FK} {v : Value} {d : DataW H} {p : List MemPlace} (hf : flatS P t = some ks) (hC : P.cellsOf t = ks.length)
    (hv : Value.okWide P w r b0 t v) (h : DataW.Trod enc P w base spare held t v d p) : ∃ l, v = .agg l.toArray ∧ FlatVals ks l := by
  unfold flatS at hf
  split at hf
  · rename_i fs hu
    split at hf
    · cases hf
    · obtain ⟨cs, rfl, hsz⟩ := okWide_struct hu hv
      obtain ⟨fuel, hfu⟩ := h
      obtain ⟨xs, n, _, _, hlen, hxl, hg⟩ := DataW.trod_struct hu hfu
      refine ⟨cs.toList, by simp, ?_⟩
      have := flat_vals hxl hg fs.toList 0 ks (by simp) hf (by simpa [Value.cells] using hsz.trans hC)
      simpa [Value.cells] using this
  · cases hf
end
end Go.Proofs.Ytepcfoofdbdioaa.K
