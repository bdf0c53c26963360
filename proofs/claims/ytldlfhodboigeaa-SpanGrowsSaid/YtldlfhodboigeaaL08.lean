/- Plain laws of chapter 08: how a tree is laid. No program here. -/
import Derived.Test.YtldlfhodboigeaaB08
set_option linter.unusedVariables false
set_option linter.unusedSimpArgs false
namespace Go.Proofs.Ytldlfhodboigeaa.K
open Go Go.RowKit

abbrev len2 (A : List (List Int)) (j : Nat) : Nat := (A.getD j []).length
def setP (A : List (List Int)) (s i : Nat) (x : Int) : List (List Int) := A.set s ((A.getD s []).set i x)
theorem getD_set {α : Type} (A : List α) (s j : Nat) (x d : α) (hs : s < A.length) : (A.set s x).getD j d = if j = s then x else A.getD j d := by
  rw [List.getD_eq_getElem?_getD, List.getD_eq_getElem?_getD]
  by_cases h : j = s
  · subst h; rw [List.getElem?_set_self hs, if_pos rfl]; rfl
  · rw [List.getElem?_set_ne (Ne.symm h), if_neg h]
theorem setP_length (A : List (List Int)) (s i : Nat) (x : Int) : (setP A s i x).length = A.length := by simp [setP]
theorem setP_getD (A : List (List Int)) (s i j : Nat) (x : Int) (hs : s < A.length) : (setP A s i x).getD j [] = if j = s then (A.getD s []).set i x else A.getD j [] := getD_set A s j _ _ hs
theorem setP_len2 (A : List (List Int)) (s i j : Nat) (x : Int) : len2 (setP A s i x) j = len2 A j := by
  by_cases hs : s < A.length
  · simp only [len2, setP_getD A s i j x hs]
    split
    · subst_vars; simp
    · rfl
  · simp only [len2, setP, List.set_eq_of_length_le (by omega : A.length ≤ s)]
theorem totalP_set : ∀ (A : List (List Int)) (s : Nat) (l : List Int), s < A.length → totalP (A.set s l) = totalP A - (A.getD s []).length + l.length
  | [], s, l, h => by simp at h
  | a :: A, 0, l, h => by simp [totalP]; omega
  | a :: A, s + 1, l, h => by
    have := totalP_set A s l (by simpa using h)
    simp only [List.set_cons_succ, totalP, this, List.getD_cons_succ]; omega
theorem totalP_setP (A : List (List Int)) (s i : Nat) (x : Int) : totalP (setP A s i x) = totalP A := by
  by_cases hs : s < A.length
  · unfold setP; rw [totalP_set A s _ hs, List.length_set]; omega
  · rw [setP, List.set_eq_of_length_le (by omega : A.length ≤ s)]
theorem growB_length (A : List (List Int)) (q : Nat) : (growB A q).length = if q = A.length then A.length + 1 else A.length := by
  unfold growB; split <;> simp
theorem growB_getD (A : List (List Int)) (q j : Nat) : (growB A q).getD j [] = A.getD j [] := by
  unfold growB
  split
  · rw [List.getD_eq_getElem?_getD, List.getD_eq_getElem?_getD]
    rcases Nat.lt_trichotomy j A.length with h | h | h
    · rw [List.getElem?_append_left h]
    · subst h; rw [List.getElem?_append_right (Nat.le_refl _), List.getElem?_eq_none (Nat.le_refl _)]; simp
    · rw [List.getElem?_eq_none (by simp; omega), List.getElem?_eq_none (by omega)]
  · rfl
theorem growA_length (A : List (List Int)) (q : Nat) (l : List Int) : (growA A q l).length = if q = A.length then A.length + 1 else A.length := by
  unfold growA; rw [List.length_set, growB_length]
theorem growA_getD (A : List (List Int)) (q j : Nat) (l : List Int) (hq : q ≤ A.length) : (growA A q l).getD j [] = if j = q then A.getD q [] ++ l else A.getD j [] := by
  unfold growA
  rw [getD_set _ _ _ _ _ (growB_len hq).1, growB_getD, growB_getD]
theorem totalP_growB (A : List (List Int)) (q : Nat) : totalP (growB A q) = totalP A := by
  unfold growB; split
  · rw [totalP_append]; simp [totalP]
  · rfl
theorem totalP_growA (A : List (List Int)) (q : Nat) (l : List Int) (hq : q ≤ A.length) : totalP (growA A q l) = totalP A + l.length := by
  unfold growA
  rw [totalP_set _ _ _ (growB_len hq).1, totalP_growB, List.length_append]; omega
/-- What is laid; Full: there was no room. -/
structure Lay where
  A : List (List Int)
  full : Bool
def fullP (size : Int) (A : List (List Int)) (q : Nat) : Bool := !(decide ((A.length : Int) ≤ 16) && (decide ((len2 A q : Int) ≤ size) && decide (totalP A ≤ 4096)))
def moreP (size : Int) (S : Lay) (q : Nat) (l : List Int) : Lay := ⟨growA S.A q l, S.full || fullP size (growA S.A q l) q⟩
structure Plc where
  S : Lay
  seg : Nat
  at_ : Nat
def lastP (A : List (List Int)) : Nat := A.length - 1
def newSeg (size : Int) (t : Nd) (A : List (List Int)) (s : Nat) : Bool := decide (s = lastP A) || decide ((len2 A (lastP A) : Int) + t.need + 1 > size)
def placeP (size : Int) (t : Nd) (S : Lay) (s i : Nat) : Plc :=
  if s = lastP S.A ∧ (len2 S.A (lastP S.A) : Int) + t.need ≤ size then ⟨⟨setP S.A s i (t.near ((len2 S.A (lastP S.A) : Int) - i - 1)), S.full⟩, lastP S.A, len2 S.A (lastP S.A)⟩
  else if newSeg size t S.A s then ⟨moreP size ⟨setP S.A s i (farP ((lastP S.A : Int) + 1) 0), S.full⟩ (lastP S.A + 1) [t.near 0], lastP S.A + 1, 1⟩
  else ⟨moreP size ⟨setP S.A s i (farP (lastP S.A) (len2 S.A (lastP S.A))), S.full⟩ (lastP S.A) [t.near 0], lastP S.A, len2 S.A (lastP S.A) + 1⟩
mutual
def Nd.lay (size : Int) : Nd → Lay → Nat → Nat → Lay
  | .mk k z w b ks, S, s, i =>
    if k = 0 ∨ S.full = true then S
    else if (Nd.mk k z w b ks).need = 0 then ⟨setP S.A s i ((Nd.mk k z w b ks).near (if k = 1 then -1 else 0)), S.full⟩
    else Nd.lays size ks (moreP size (placeP size (.mk k z w b ks) S s i).S (placeP size (.mk k z w b ks) S s i).seg (Nd.mk k z w b ks).content) (placeP size (.mk k z w b ks) S s i).seg ((placeP size (.mk k z w b ks) S s i).at_ + ((Nd.mk k z w b ks).need.toNat - ks.length))
def Nd.lays (size : Int) : List Nd → Lay → Nat → Nat → Lay
  | [], S, _, _ => S
  | t :: ts, S, s, i => Nd.lays size ts (Nd.lay size t S s i) s (i + 1)
end
theorem Nd.lay_full {size : Int} {S : Lay} (h : S.full = true) (t : Nd) (s i : Nat) : t.lay size S s i = S := by
  cases t; simp [Nd.lay, h]
theorem Nd.lays_full {size : Int} {S : Lay} (h : S.full = true) : ∀ (ts : List Nd) (s i : Nat), Nd.lays size ts S s i = S
  | [], _, _ => rfl
  | t :: ts, s, i => by simp only [Nd.lays]; rw [Nd.lay_full h]; exact Nd.lays_full h ts s (i + 1)
theorem Nd.lays_append {size : Int} : ∀ (a b : List Nd) (S : Lay) (s i : Nat), Nd.lays size (a ++ b) S s i = Nd.lays size b (Nd.lays size a S s i) s (i + a.length)
  | [], b, S, s, i => rfl
  | t :: a, b, S, s, i => by
    simp only [List.cons_append, Nd.lays, List.length_cons]
    rw [Nd.lays_append a b]; congr 1; omega
theorem Nd.lays_take {size : Int} {ks : List Nd} {k : Nat} (h : k < ks.length) (S : Lay) (s i : Nat) : Nd.lays size (ks.take (k + 1)) S s i = ks[k].lay size (Nd.lays size (ks.take k) S s i) s (i + k) := by
  rw [List.take_add_one, List.getElem?_eq_getElem h, Nd.lays_append]
  simp only [Option.toList_some, Nd.lays, List.length_take]
  rw [Nat.min_eq_left (by omega)]
/-- If it is full at last, it was full behind some of the first. -/
theorem Nd.lays_full_take {size : Int} {ks : List Nd} {k : Nat} {S : Lay} {s i : Nat} (h : (Nd.lays size (ks.take k) S s i).full = true) : (Nd.lays size ks S s i).full = true := by
  have : Nd.lays size ks S s i = Nd.lays size (ks.drop k) (Nd.lays size (ks.take k) S s i) s (i + (ks.take k).length) := by
    rw [← Nd.lays_append, List.take_append_drop]
  rw [this, Nd.lays_full h]; exact h
/-- There is room in all. -/
structure Fit (size : Int) (A : List (List Int)) : Prop where
  one : 1 ≤ A.length
  most : A.length ≤ 16
  seg : ∀ j, (len2 A j : Int) ≤ size
  all : totalP A ≤ 4096
theorem Fit.set {size : Int} {A : List (List Int)} (h : Fit size A) (s i : Nat) (x : Int) : Fit size (setP A s i x) :=
  ⟨by rw [setP_length]; exact h.one, by rw [setP_length]; exact h.most, fun j => by rw [setP_len2]; exact h.seg j, by rw [totalP_setP]; exact h.all⟩
theorem fullP_false {size : Int} {A : List (List Int)} {q : Nat} (h : fullP size A q = false) : A.length ≤ 16 ∧ (len2 A q : Int) ≤ size ∧ totalP A ≤ 4096 := by
  simp only [fullP, Bool.not_eq_false', Bool.and_eq_true, decide_eq_true_eq] at h; omega
theorem Fit.more {size : Int} {A : List (List Int)} (h : Fit size A) {q : Nat} {l : List Int} (hq : q ≤ A.length) (hf : fullP size (growA A q l) q = false) : Fit size (growA A q l) := by
  obtain ⟨h1, h2, h3⟩ := fullP_false hf
  refine ⟨?_, h1, fun j => ?_, h3⟩
  · rw [growA_length]; have := h.one; split <;> omega
  · by_cases hj : j = q
    · subst hj; exact h2
    · have h4 := h.seg j
      simp only [len2] at h4 ⊢
      rw [growA_getD A q j l hq, if_neg hj]; exact h4
theorem growA_len2 (A : List (List Int)) (q j : Nat) (l : List Int) (hq : q ≤ A.length) : len2 A j ≤ len2 (growA A q l) j := by
  simp only [len2]; rw [growA_getD A q j l hq]
  split
  · subst_vars; simp
  · exact Nat.le_refl _
theorem growA_len (A : List (List Int)) (q : Nat) (l : List Int) : A.length ≤ (growA A q l).length := by rw [growA_length]; split <;> omega
/-- It has grown only. -/
structure Grew (A B : List (List Int)) : Prop where
  len : A.length ≤ B.length
  seg : ∀ j, len2 A j ≤ len2 B j
theorem Grew.refl (A : List (List Int)) : Grew A A := ⟨Nat.le_refl _, fun _ => Nat.le_refl _⟩
theorem Grew.trans {A B C : List (List Int)} (h : Grew A B) (k : Grew B C) : Grew A C := ⟨Nat.le_trans h.len k.len, fun j => Nat.le_trans (h.seg j) (k.seg j)⟩
theorem Grew.set (A : List (List Int)) (s i : Nat) (x : Int) : Grew A (setP A s i x) := ⟨by rw [setP_length]; exact Nat.le_refl _, fun j => by rw [setP_len2]; exact Nat.le_refl _⟩
theorem Grew.more (A : List (List Int)) (q : Nat) (l : List Int) (hq : q ≤ A.length) : Grew A (growA A q l) := ⟨growA_len A q l, fun j => growA_len2 A q j l hq⟩
structure PlcOk (size : Int) (t : Nd) (S : Lay) (s i : Nat) : Prop where
  grew : Grew S.A (placeP size t S s i).S.A
  seg : (placeP size t S s i).seg < (placeP size t S s i).S.A.length
  at_ : (placeP size t S s i).at_ = len2 (placeP size t S s i).S.A (placeP size t S s i).seg
  fit : Fit size S.A → (placeP size t S s i).S.full = false → Fit size (placeP size t S s i).S.A
  full : S.full = true → (placeP size t S s i).S.full = true
theorem len2_none {A : List (List Int)} {j : Nat} (h : A.length ≤ j) : len2 A j = 0 := by
  simp only [len2]; rw [List.getD_eq_getElem?_getD, List.getElem?_eq_none h]; rfl
theorem placeP_ok (size : Int) (t : Nd) (S : Lay) (s i : Nat) (h1 : 1 ≤ S.A.length) : PlcOk size t S s i := by
  have hl : lastP S.A + 1 = S.A.length := by unfold lastP; omega
  unfold placeP at *
  by_cases h : s = lastP S.A ∧ (len2 S.A (lastP S.A) : Int) + t.need ≤ size
  · constructor <;> simp only [placeP, if_pos h]
    · exact Grew.set _ _ _ _
    · rw [setP_length]; omega
    · rw [setP_len2]
    · intro hF _; exact hF.set _ _ _
    · exact id
  · by_cases hn : newSeg size t S.A s = true
    · have hq : lastP S.A + 1 ≤ (setP S.A s i (farP ((lastP S.A : Int) + 1) 0)).length := by rw [setP_length]; omega
      constructor <;> simp only [placeP, if_neg h, if_pos hn, moreP]
      · exact (Grew.set S.A s i (farP ((lastP S.A : Int) + 1) 0)).trans (Grew.more _ _ _ hq)
      · rw [growA_length, setP_length]; split <;> omega
      · rw [len2, growA_getD _ _ _ _ hq, if_pos rfl, List.length_append]
        have : len2 (setP S.A s i (farP ((lastP S.A : Int) + 1) 0)) (lastP S.A + 1) = 0 := len2_none (by rw [setP_length]; omega)
        simp only [len2] at this; rw [this]; rfl
      · intro hF hf; simp only [Bool.or_eq_false_iff] at hf; exact (hF.set _ _ _).more hq hf.2
      · intro h; simp [h]
    · have hq : lastP S.A ≤ (setP S.A s i (farP (lastP S.A) (len2 S.A (lastP S.A)))).length := by rw [setP_length]; omega
      constructor <;> simp only [placeP, if_neg h, if_neg hn, moreP]
      · exact (Grew.set S.A s i (farP (lastP S.A) (len2 S.A (lastP S.A)))).trans (Grew.more _ _ _ hq)
      · rw [growA_length, setP_length]; split <;> omega
      · have h2 := setP_len2 S.A s i (lastP S.A) (farP (lastP S.A) (len2 S.A (lastP S.A)))
        have h3 : len2 (growA (setP S.A s i (farP (lastP S.A) (len2 S.A (lastP S.A)))) (lastP S.A) [t.near 0]) (lastP S.A) = len2 (setP S.A s i (farP (lastP S.A) (len2 S.A (lastP S.A)))) (lastP S.A) + 1 := by
          rw [len2, growA_getD _ _ _ _ hq, if_pos rfl, List.length_append]; rfl
        rw [h3, h2]
      · intro hF hf; simp only [Bool.or_eq_false_iff] at hf; exact (hF.set _ _ _).more hq hf.2
      · intro h; simp [h]
structure LayOk (size : Int) (S R : Lay) : Prop where
  grew : Grew S.A R.A
  fit : Fit size S.A → R.full = false → Fit size R.A
  full : S.full = true → R.full = true
theorem LayOk.refl (size : Int) (S : Lay) : LayOk size S S := ⟨Grew.refl _, fun h _ => h, id⟩
theorem LayOk.trans {size : Int} {S R Q : Lay} (h : LayOk size S R) (k : LayOk size R Q) : LayOk size S Q :=
  ⟨h.grew.trans k.grew, fun hF hq => k.fit (h.fit hF (by cases hR : R.full with | false => rfl | true => rw [k.full hR] at hq; exact absurd hq (by simp))) hq, fun hS => k.full (h.full hS)⟩
theorem LayOk.more (size : Int) (S : Lay) (q : Nat) (l : List Int) (hq : q ≤ S.A.length) : LayOk size S (moreP size S q l) :=
  ⟨Grew.more _ _ _ hq, fun hF hf => by simp only [moreP, Bool.or_eq_false_iff] at hf; exact hF.more hq hf.2, fun h => by simp [moreP, h]⟩
mutual
theorem Nd.lay_ok (size : Int) : ∀ (t : Nd) (S : Lay) (s i : Nat), 1 ≤ S.A.length → LayOk size S (t.lay size S s i)
  | .mk k z w b ks, S, s, i, h1 => by
    simp only [Nd.lay]
    split
    · exact LayOk.refl _ _
    · split
      · exact ⟨Grew.set _ _ _ _, fun hF _ => hF.set _ _ _, id⟩
      · have hp := placeP_ok size (.mk k z w b ks) S s i h1
        refine LayOk.trans ⟨hp.grew, hp.fit, hp.full⟩ (LayOk.trans (LayOk.more size _ _ (Nd.mk k z w b ks).content (Nat.le_of_lt hp.seg)) ?_)
        refine Nd.lays_ok size ks _ _ _ ?_
        have := hp.grew.len
        have := growA_len (placeP size (.mk k z w b ks) S s i).S.A (placeP size (.mk k z w b ks) S s i).seg (Nd.mk k z w b ks).content
        simp only [moreP]; omega
theorem Nd.lays_ok (size : Int) : ∀ (ts : List Nd) (S : Lay) (s i : Nat), 1 ≤ S.A.length → LayOk size S (Nd.lays size ts S s i)
  | [], S, _, _, _ => LayOk.refl _ _
  | t :: ts, S, s, i, h1 => by
    simp only [Nd.lays]
    have h := Nd.lay_ok size t S s i h1
    exact h.trans (Nd.lays_ok size ts _ _ _ (Nat.le_trans h1 h.grew.len))
end
theorem Nd.content_length (t : Nd) (hk : t.kind = 1 ∨ t.kind = 2) (hb : t.kind = 1 → t.bytes = []) : (t.content.length : Int) = t.need := by
  obtain ⟨k, z, w, b, ks⟩ := t
  simp only [Nd.kind, Nd.bytes] at hk hb
  simp only [Nd.content, Nd.need, chunksP, List.length_append, List.length_map, List.length_range, List.length_replicate]
  rcases hk with h | h
  · have := hb h; subst this; simp [h]
  · simp [h]; omega
/-- The arena of a tree. -/
def Nd.build (t : Nd) (size : Int) : List (List Int) × Int :=
  if size < 1 ∨ size > 4096 ∨ t.right 32 = false then ([], 1)
  else if (t.lay size ⟨[[0]], false⟩ 0 0).full then ([], 24) else ((t.lay size ⟨[[0]], false⟩ 0 0).A, 0)
end Go.Proofs.Ytldlfhodboigeaa.K
