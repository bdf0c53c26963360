/- Plain laws, rules and walks of this claim's functions, laid together. -/
import Derived.Test.YtkkbbhpbcfcplaaGreatX1
set_option linter.unusedVariables false
set_option linter.unusedSimpArgs false
set_option maxRecDepth 100000
namespace Go.Proofs.YtkkbbhpbcfcplaaGreat.K
open Go Go.RowKit
abbrev len2 (A : List (List Int)) (j : Nat) : Nat := (A.getD j []).length
def setP (A : List (List Int)) (s i : Nat) (x : Int) : List (List Int) := A.set s ((A.getD s []).set i x)
theorem qQ6 {α : Type} (A : List α) (s j : Nat) (x d : α) (hs : s < A.length) : (A.set s x).getD j d = if j = s then x else A.getD j d := by
  rw [List.getD_eq_getElem?_getD, List.getD_eq_getElem?_getD]
  by_cases h : j = s
  · subst h; rw [List.getElem?_set_self hs, if_pos rfl]; rfl
  · rw [List.getElem?_set_ne (Ne.symm h), if_neg h]
theorem zD5 (A : List (List Int)) (s i : Nat) (x : Int) : (setP A s i x).length = A.length := by simp [setP]
theorem qU6 (A : List (List Int)) (s i j : Nat) (x : Int) (hs : s < A.length) : (setP A s i x).getD j [] = if j = s then (A.getD s []).set i x else A.getD j [] := qQ6 A s j _ _ hs
theorem zN4 (A : List (List Int)) (s i j : Nat) (x : Int) : len2 (setP A s i x) j = len2 A j := by
  by_cases hs : s < A.length
  · simp only [len2, qU6 A s i j x hs]
    split
    · subst_vars; simp
    · rfl
  · simp only [len2, setP, List.set_eq_of_length_le (by omega : A.length ≤ s)]
theorem qF3 : ∀ (A : List (List Int)) (s : Nat) (l : List Int), s < A.length → zB9 (A.set s l) = zB9 A - (A.getD s []).length + l.length
  | [], s, l, h => by simp at h
  | a :: A, 0, l, h => by simp [zB9]; omega
  | a :: A, s + 1, l, h => by
    have := qF3 A s l (by simpa using h)
    simp only [List.set_cons_succ, zB9, this, List.getD_cons_succ]; omega
theorem zJ4 (A : List (List Int)) (s i : Nat) (x : Int) : zB9 (setP A s i x) = zB9 A := by
  by_cases hs : s < A.length
  · unfold setP; rw [qF3 A s _ hs, List.length_set]; omega
  · rw [setP, List.set_eq_of_length_le (by omega : A.length ≤ s)]
theorem zS1 (A : List (List Int)) (q : Nat) : (growB A q).length = if q = A.length then A.length + 1 else A.length := by
  unfold growB; split <;> simp
theorem qF4 (A : List (List Int)) (q j : Nat) : (growB A q).getD j [] = A.getD j [] := by
  unfold growB
  split
  · rw [List.getD_eq_getElem?_getD, List.getD_eq_getElem?_getD]
    rcases Nat.lt_trichotomy j A.length with h | h | h
    · rw [List.getElem?_append_left h]
    · subst h; rw [List.getElem?_append_right (Nat.le_refl _), List.getElem?_eq_none (Nat.le_refl _)]; simp
    · rw [List.getElem?_eq_none (by simp; omega), List.getElem?_eq_none (by omega)]
  · rfl
theorem zM6 (A : List (List Int)) (q : Nat) (l : List Int) : (zI9 A q l).length = if q = A.length then A.length + 1 else A.length := by
  unfold zI9; rw [List.length_set, zS1]
theorem zJ0 (A : List (List Int)) (q j : Nat) (l : List Int) (hq : q ≤ A.length) : (zI9 A q l).getD j [] = if j = q then A.getD q [] ++ l else A.getD j [] := by
  unfold zI9
  rw [qQ6 _ _ _ _ _ (zT6 hq).1, qF4, qF4]
theorem qU7 (A : List (List Int)) (q : Nat) : zB9 (growB A q) = zB9 A := by
  unfold growB; split
  · rw [zQ0]; simp [zB9]
  · rfl
theorem zS2 (A : List (List Int)) (q : Nat) (l : List Int) (hq : q ≤ A.length) : zB9 (zI9 A q l) = zB9 A + l.length := by
  unfold zI9
  rw [qF3 _ _ _ (zT6 hq).1, qU7, List.length_append]; omega
structure Lay where
  A : List (List Int)
  full : Bool
def qQ7 (size : Int) (A : List (List Int)) (q : Nat) : Bool := !(decide ((A.length : Int) ≤ 16) && (decide ((len2 A q : Int) ≤ size) && decide (zB9 A ≤ 4096)))
def zG8 (size : Int) (S : Lay) (q : Nat) (l : List Int) : Lay := ⟨zI9 S.A q l, S.full || qQ7 size (zI9 S.A q l) q⟩
structure Plc where
  S : Lay
  seg : Nat
  at_ : Nat
def zA8 (A : List (List Int)) : Nat := A.length - 1
def qJ7 (size : Int) (t : Nd) (A : List (List Int)) (s : Nat) : Bool := decide (s = zA8 A) || decide ((len2 A (zA8 A) : Int) + t.need + 1 > size)
def zC6 (size : Int) (t : Nd) (S : Lay) (s i : Nat) : Plc :=
  if s = zA8 S.A ∧ (len2 S.A (zA8 S.A) : Int) + t.need ≤ size then ⟨⟨setP S.A s i (t.near ((len2 S.A (zA8 S.A) : Int) - i - 1)), S.full⟩, zA8 S.A, len2 S.A (zA8 S.A)⟩
  else if qJ7 size t S.A s then ⟨zG8 size ⟨setP S.A s i (farP ((zA8 S.A : Int) + 1) 0), S.full⟩ (zA8 S.A + 1) [t.near 0], zA8 S.A + 1, 1⟩
  else ⟨zG8 size ⟨setP S.A s i (farP (zA8 S.A) (len2 S.A (zA8 S.A))), S.full⟩ (zA8 S.A) [t.near 0], zA8 S.A, len2 S.A (zA8 S.A) + 1⟩
mutual
def Nd.lay (size : Int) : Nd → Lay → Nat → Nat → Lay
  | .mk k z w b ks, S, s, i =>
    if k = 0 ∨ S.full = true then S
    else if (Nd.mk k z w b ks).need = 0 then ⟨setP S.A s i ((Nd.mk k z w b ks).near (if k = 1 then -1 else 0)), S.full⟩
    else Nd.lays size ks (zG8 size (zC6 size (.mk k z w b ks) S s i).S (zC6 size (.mk k z w b ks) S s i).seg (Nd.mk k z w b ks).content) (zC6 size (.mk k z w b ks) S s i).seg ((zC6 size (.mk k z w b ks) S s i).at_ + ((Nd.mk k z w b ks).need.toNat - ks.length))
def Nd.lays (size : Int) : List Nd → Lay → Nat → Nat → Lay
  | [], S, _, _ => S
  | t :: ts, S, s, i => Nd.lays size ts (Nd.lay size t S s i) s (i + 1)
end
theorem Nd.lay_full {size : Int} {S : Lay} (h : S.full = true) (t : Nd) (s i : Nat) : t.lay size S s i = S := by
  cases t; simp [Nd.lay, h]
theorem Nd.lays_full {size : Int} {S : Lay} (h : S.full = true) : ∀ (ts : List Nd) (s i : Nat), Nd.lays size ts S s i = S
  | [], _, _ => rfl
  | t :: ts, s, i => by simp only [Nd.lays]; rw [Nd.lay_full h]; exact Nd.lays_full h ts s (i + 1)
theorem Nd.lays_append {size : Int} : ∀ (a b : List Nd) (S : Lay) (s i : Nat), Nd.lays size (a ++ b) S s i = Nd.lays size b (Nd.lays size a S s i) s (i + a.length)
  | [], b, S, s, i => rfl
  | t :: a, b, S, s, i => by
    simp only [List.cons_append, Nd.lays, List.length_cons]
    rw [Nd.lays_append a b]; congr 1; omega
theorem Nd.lays_take {size : Int} {ks : List Nd} {k : Nat} (h : k < ks.length) (S : Lay) (s i : Nat) : Nd.lays size (ks.take (k + 1)) S s i = ks[k].lay size (Nd.lays size (ks.take k) S s i) s (i + k) := by
  rw [List.take_add_one, List.getElem?_eq_getElem h, Nd.lays_append]
  simp only [Option.toList_some, Nd.lays, List.length_take]
  rw [Nat.min_eq_left (by omega)]
theorem Nd.lays_full_take {size : Int} {ks : List Nd} {k : Nat} {S : Lay} {s i : Nat} (h : (Nd.lays size (ks.take k) S s i).full = true) : (Nd.lays size ks S s i).full = true := by
  have : Nd.lays size ks S s i = Nd.lays size (ks.drop k) (Nd.lays size (ks.take k) S s i) s (i + (ks.take k).length) := by
    rw [← Nd.lays_append, List.take_append_drop]
  rw [this, Nd.lays_full h]; exact h
structure Fit (size : Int) (A : List (List Int)) : Prop where
  one : 1 ≤ A.length
  most : A.length ≤ 16
  seg : ∀ j, (len2 A j : Int) ≤ size
  all : zB9 A ≤ 4096
theorem Fit.set {size : Int} {A : List (List Int)} (h : Fit size A) (s i : Nat) (x : Int) : Fit size (setP A s i x) :=
  ⟨by rw [zD5]; exact h.one, by rw [zD5]; exact h.most, fun j => by rw [zN4]; exact h.seg j, by rw [zJ4]; exact h.all⟩
theorem qZ6 {size : Int} {A : List (List Int)} {q : Nat} (h : qQ7 size A q = false) : A.length ≤ 16 ∧ (len2 A q : Int) ≤ size ∧ zB9 A ≤ 4096 := by
  simp only [qQ7, Bool.not_eq_false', Bool.and_eq_true, decide_eq_true_eq] at h; omega
theorem Fit.more {size : Int} {A : List (List Int)} (h : Fit size A) {q : Nat} {l : List Int} (hq : q ≤ A.length) (hf : qQ7 size (zI9 A q l) q = false) : Fit size (zI9 A q l) := by
  obtain ⟨h1, h2, h3⟩ := qZ6 hf
  refine ⟨?_, h1, fun j => ?_, h3⟩
  · rw [zM6]; have := h.one; split <;> omega
  · by_cases hj : j = q
    · subst hj; exact h2
    · have h4 := h.seg j
      simp only [len2] at h4 ⊢
      rw [zJ0 A q j l hq, if_neg hj]; exact h4
theorem yH5 (A : List (List Int)) (q j : Nat) (l : List Int) (hq : q ≤ A.length) : len2 A j ≤ len2 (zI9 A q l) j := by
  simp only [len2]; rw [zJ0 A q j l hq]
  split
  · subst_vars; simp
  · exact Nat.le_refl _
theorem qJ8 (A : List (List Int)) (q : Nat) (l : List Int) : A.length ≤ (zI9 A q l).length := by rw [zM6]; split <;> omega
structure Grew (A B : List (List Int)) : Prop where
  len : A.length ≤ B.length
  seg : ∀ j, len2 A j ≤ len2 B j
theorem Grew.refl (A : List (List Int)) : Grew A A := ⟨Nat.le_refl _, fun _ => Nat.le_refl _⟩
theorem Grew.trans {A B C : List (List Int)} (h : Grew A B) (k : Grew B C) : Grew A C := ⟨Nat.le_trans h.len k.len, fun j => Nat.le_trans (h.seg j) (k.seg j)⟩
theorem Grew.set (A : List (List Int)) (s i : Nat) (x : Int) : Grew A (setP A s i x) := ⟨by rw [zD5]; exact Nat.le_refl _, fun j => by rw [zN4]; exact Nat.le_refl _⟩
theorem Grew.more (A : List (List Int)) (q : Nat) (l : List Int) (hq : q ≤ A.length) : Grew A (zI9 A q l) := ⟨qJ8 A q l, fun j => yH5 A q j l hq⟩
structure PlcOk (size : Int) (t : Nd) (S : Lay) (s i : Nat) : Prop where
  grew : Grew S.A (zC6 size t S s i).S.A
  seg : (zC6 size t S s i).seg < (zC6 size t S s i).S.A.length
  at_ : (zC6 size t S s i).at_ = len2 (zC6 size t S s i).S.A (zC6 size t S s i).seg
  fit : Fit size S.A → (zC6 size t S s i).S.full = false → Fit size (zC6 size t S s i).S.A
  full : S.full = true → (zC6 size t S s i).S.full = true
theorem zR0 {A : List (List Int)} {j : Nat} (h : A.length ≤ j) : len2 A j = 0 := by
  simp only [len2]; rw [List.getD_eq_getElem?_getD, List.getElem?_eq_none h]; rfl
theorem qD3 (size : Int) (t : Nd) (S : Lay) (s i : Nat) (h1 : 1 ≤ S.A.length) : PlcOk size t S s i := by
  have hl : zA8 S.A + 1 = S.A.length := by unfold zA8; omega
  unfold zC6 at *
  by_cases h : s = zA8 S.A ∧ (len2 S.A (zA8 S.A) : Int) + t.need ≤ size
  · constructor <;> simp only [zC6, if_pos h]
    · exact Grew.set _ _ _ _
    · rw [zD5]; omega
    · rw [zN4]
    · intro hF _; exact hF.set _ _ _
    · exact id
  · by_cases hn : qJ7 size t S.A s = true
    · have hq : zA8 S.A + 1 ≤ (setP S.A s i (farP ((zA8 S.A : Int) + 1) 0)).length := by rw [zD5]; omega
      constructor <;> simp only [zC6, if_neg h, if_pos hn, zG8]
      · exact (Grew.set S.A s i (farP ((zA8 S.A : Int) + 1) 0)).trans (Grew.more _ _ _ hq)
      · rw [zM6, zD5]; split <;> omega
      · rw [len2, zJ0 _ _ _ _ hq, if_pos rfl, List.length_append]
        have : len2 (setP S.A s i (farP ((zA8 S.A : Int) + 1) 0)) (zA8 S.A + 1) = 0 := zR0 (by rw [zD5]; omega)
        simp only [len2] at this; rw [this]; rfl
      · intro hF hf; simp only [Bool.or_eq_false_iff] at hf; exact (hF.set _ _ _).more hq hf.2
      · intro h; simp [h]
    · have hq : zA8 S.A ≤ (setP S.A s i (farP (zA8 S.A) (len2 S.A (zA8 S.A)))).length := by rw [zD5]; omega
      constructor <;> simp only [zC6, if_neg h, if_neg hn, zG8]
      · exact (Grew.set S.A s i (farP (zA8 S.A) (len2 S.A (zA8 S.A)))).trans (Grew.more _ _ _ hq)
      · rw [zM6, zD5]; split <;> omega
      · have h2 := zN4 S.A s i (zA8 S.A) (farP (zA8 S.A) (len2 S.A (zA8 S.A)))
        have h3 : len2 (zI9 (setP S.A s i (farP (zA8 S.A) (len2 S.A (zA8 S.A)))) (zA8 S.A) [t.near 0]) (zA8 S.A) = len2 (setP S.A s i (farP (zA8 S.A) (len2 S.A (zA8 S.A)))) (zA8 S.A) + 1 := by
          rw [len2, zJ0 _ _ _ _ hq, if_pos rfl, List.length_append]; rfl
        rw [h3, h2]
      · intro hF hf; simp only [Bool.or_eq_false_iff] at hf; exact (hF.set _ _ _).more hq hf.2
      · intro h; simp [h]
structure LayOk (size : Int) (S R : Lay) : Prop where
  grew : Grew S.A R.A
  fit : Fit size S.A → R.full = false → Fit size R.A
  full : S.full = true → R.full = true
theorem LayOk.refl (size : Int) (S : Lay) : LayOk size S S := ⟨Grew.refl _, fun h _ => h, id⟩
theorem LayOk.trans {size : Int} {S R Q : Lay} (h : LayOk size S R) (k : LayOk size R Q) : LayOk size S Q :=
  ⟨h.grew.trans k.grew, fun hF hq => k.fit (h.fit hF (by cases hR : R.full with | false => rfl | true => rw [k.full hR] at hq; exact absurd hq (by simp))) hq, fun hS => k.full (h.full hS)⟩
theorem LayOk.more (size : Int) (S : Lay) (q : Nat) (l : List Int) (hq : q ≤ S.A.length) : LayOk size S (zG8 size S q l) :=
  ⟨Grew.more _ _ _ hq, fun hF hf => by simp only [zG8, Bool.or_eq_false_iff] at hf; exact hF.more hq hf.2, fun h => by simp [zG8, h]⟩
mutual
theorem Nd.lay_ok (size : Int) : ∀ (t : Nd) (S : Lay) (s i : Nat), 1 ≤ S.A.length → LayOk size S (t.lay size S s i)
  | .mk k z w b ks, S, s, i, h1 => by
    simp only [Nd.lay]
    split
    · exact LayOk.refl _ _
    · split
      · exact ⟨Grew.set _ _ _ _, fun hF _ => hF.set _ _ _, id⟩
      · have hp := qD3 size (.mk k z w b ks) S s i h1
        refine LayOk.trans ⟨hp.grew, hp.fit, hp.full⟩ (LayOk.trans (LayOk.more size _ _ (Nd.mk k z w b ks).content (Nat.le_of_lt hp.seg)) ?_)
        refine Nd.lays_ok size ks _ _ _ ?_
        have := hp.grew.len
        have := qJ8 (zC6 size (.mk k z w b ks) S s i).S.A (zC6 size (.mk k z w b ks) S s i).seg (Nd.mk k z w b ks).content
        simp only [zG8]; omega
theorem Nd.lays_ok (size : Int) : ∀ (ts : List Nd) (S : Lay) (s i : Nat), 1 ≤ S.A.length → LayOk size S (Nd.lays size ts S s i)
  | [], S, _, _, _ => LayOk.refl _ _
  | t :: ts, S, s, i, h1 => by
    simp only [Nd.lays]
    have h := Nd.lay_ok size t S s i h1
    exact h.trans (Nd.lays_ok size ts _ _ _ (Nat.le_trans h1 h.grew.len))
end
theorem Nd.content_length (t : Nd) (hk : t.kind = 1 ∨ t.kind = 2) (hb : t.kind = 1 → t.bytes = []) : (t.content.length : Int) = t.need := by
  obtain ⟨k, z, w, b, ks⟩ := t
  simp only [Nd.kind, Nd.bytes] at hk hb
  simp only [Nd.content, Nd.need, zF3, List.length_append, List.length_map, List.length_range, List.length_replicate]
  rcases hk with h | h
  · have := hb h; subst this; simp [h]
  · simp [h]; omega
def Nd.build (t : Nd) (size : Int) : List (List Int) × Int :=
  if size < 1 ∨ size > 4096 ∨ t.right 32 = false then ([], 1)
  else if (t.lay size ⟨[[0]], false⟩ 0 0).full then ([], 24) else ((t.lay size ⟨[[0]], false⟩ 0 0).A, 0)
theorem zV2 {w w' : World} {base g n c i : Nat} {T : TypeId} {xs : List Value} {x : Value} {cur cur' : Array Value} (h : w.ownsRow base T 1 (.slice (some ⟨g, 0, none⟩) n c) n xs) (hb : w.heap[g]? = some (.cells cur T (0, 0)))
    (hb' : w'.heap[g]? = some (.cells cur' T (0, 0))) (hs : cur'.toList = cur.toList.set i x) : w'.ownsRow base T 1 (.slice (some ⟨g, 0, none⟩) n c) n (xs.set i x) := by
  obtain ⟨h1, h2⟩ := h
  refine ⟨by rw [List.length_set]; exact h1, .inr ?_⟩
  rcases h2 with ⟨h0, _⟩ | ⟨q, cap, cur0, hv, hq, hg, h3, h4, h5, h6⟩
  · cases h0
  · simp only [Value.slice.injEq, Option.some.injEq, Addr.mk.injEq, and_true, true_and] at hv
    obtain ⟨rfl, rfl⟩ := hv
    rw [hb] at hg
    simp only [Option.some.injEq, Obj.cells.injEq, and_true] at hg
    subst hg
    refine ⟨g, c, cur', rfl, hq, hb', h3, h4, ?_, ?_⟩
    · rw [← Array.length_toList, hs, List.length_set, Array.length_toList, h5]
    · rw [hs, List.take_set, h6]
structure OwnA (TO TW : TypeId) (w : World) (base : Nat) (so : Value) (segs : List Value) (A : List (List Int)) : Prop where
  out : w.ownsRow base TO 1 so A.length segs
  seg : ∀ (i : Nat) (v : Value) (ws : List Int), segs[i]? = some v → A[i]? = some ws → w.ownsRow base TW 1 v ws.length (zI7 ws)
  dis : ∀ (i j : Nat) (v u : Value) (b : Nat), segs[i]? = some v → segs[j]? = some u → v.ownBlock = some b → u.ownBlock = some b → i = j
section
variable {TO TW : TypeId} {w w' : World} {base : Nat} {so so' : Value} {segs : List Value} {A : List (List Int)}
theorem OwnA.len (h : OwnA TO TW w base so segs A) : segs.length = A.length := by rw [h.out.1, Nat.mul_one]
theorem OwnA.at_ (h : OwnA TO TW w base so segs A) {i : Nat} (hi : i < A.length) : ∃ v, segs[i]? = some v ∧ w.ownsRow base TW 1 v A[i].length (zI7 A[i]) :=
  ⟨segs[i]'(by rw [h.len]; exact hi), List.getElem?_eq_getElem _, h.seg i _ _ (List.getElem?_eq_getElem _) (List.getElem?_eq_getElem hi)⟩
theorem OwnA.grow (h : OwnA TO TW w base so segs A) (g : Grow w w') : OwnA TO TW w' base so segs A :=
  ⟨zB8 h.out g, fun i v ws hv hw => zB8 (h.seg i v ws hv hw) g, h.dis⟩
theorem OwnA.arena (h : OwnA TO TW w base so segs A) (hA : A.length ≤ 1000) (hs : ∀ s ∈ A, s.length ≤ 100000) : zG1 w so A := by
  refine ⟨segs, zH3 h.out (by omega), fun i s hi => ?_⟩
  have hl : i < A.length := (List.getElem?_eq_some_iff.1 hi).1
  obtain ⟨v, hv, ho⟩ := h.at_ hl
  have he : A[i] = s := by rw [List.getElem?_eq_getElem hl] at hi; exact Option.some.inj hi
  rw [he] at ho
  exact ⟨v, hv, zH3 ho (by have := hs s (List.mem_of_getElem? hi); omega)⟩
def growV (segs : List Value) (q : Nat) : List Value := if q = segs.length then segs ++ [.slice none 0 0] else segs
theorem qI3 {q i : Nat} {v : Value} (h : (growV segs q)[i]? = some v) : segs[i]? = some v ∨ (i = segs.length ∧ v = .slice none 0 0) := by
  unfold growV at h
  split at h
  · rcases Nat.lt_or_ge i segs.length with hi | hi
    · rw [List.getElem?_append_left hi] at h; exact .inl h
    · rw [List.getElem?_append_right hi] at h
      have h2 := List.getElem?_eq_some_iff.1 h
      simp at h2
      obtain ⟨h3, h4⟩ := h2
      exact .inr ⟨by omega, h4.symm⟩
  · exact .inl h
theorem OwnA.copy {q : Nat} {u : Value} {ws : List Int} (h : OwnA TO TW w base so segs A) (hbw : base ≤ w.heap.size) (g : Grow w w') (hq : q ≤ A.length) (hu : w'.ownsRow w.heap.size TW 1 u ws.length (zI7 ws)) (ho : w'.ownsRow base TO 1 so' (growB A q).length ((growV segs q).set q u)) :
    OwnA TO TW w' base so' ((growV segs q).set q u) ((growB A q).set q ws) := by
  have hlen : (growV segs q).length = (growB A q).length := by unfold growV growB; rw [h.len]; split <;> simp [h.len]
  have hqB := (zT6 hq).1
  have old : ∀ (i : Nat) (v : Value), (growV segs q)[i]? = some v → ∀ b, v.ownBlock = some b → b < w.heap.size := by
    intro i v hv b hb
    rcases qI3 hv with hv | ⟨_, rfl⟩
    · have hi : i < A.length := by rw [← h.len]; exact (List.getElem?_eq_some_iff.1 hv).1
      exact ((h.seg i v _ hv (List.getElem?_eq_getElem hi)).lt b hb).2
    · simp [Value.ownBlock] at hb
  refine ⟨by rw [List.length_set]; exact ho, fun i v s hv hs => ?_, fun i j v x b hv hx h1 h2 => ?_⟩
  · by_cases hi : i = q
    · subst hi
      rw [List.getElem?_set_self (by rw [hlen]; exact hqB)] at hv
      rw [List.getElem?_set_self hqB] at hs
      obtain rfl := Option.some.inj hv
      obtain rfl := Option.some.inj hs
      exact qC7 hu hbw
    · rw [List.getElem?_set_ne (Ne.symm hi)] at hv hs
      have hil : i < A.length := by
        have := (List.getElem?_eq_some_iff.1 hs).1
        have hg := zS1 A q
        split at hg <;> omega
      have hs' : A[i]? = some s := by
        unfold growB at hs; split at hs
        · rwa [List.getElem?_append_left hil] at hs
        · exact hs
      rcases qI3 hv with hv | ⟨hi2, rfl⟩
      · exact zB8 (h.seg i v s hv hs') g
      · rw [h.len] at hi2; omega
  · by_cases hi : i = q
    · by_cases hj : j = q
      · rw [hi, hj]
      · subst hi
        rw [List.getElem?_set_self (by rw [hlen]; exact hqB)] at hv
        rw [List.getElem?_set_ne (Ne.symm hj)] at hx
        obtain rfl := Option.some.inj hv
        have := (hu.lt b h1).1
        have := old j x hx b h2
        omega
    · rw [List.getElem?_set_ne (Ne.symm hi)] at hv
      by_cases hj : j = q
      · subst hj
        rw [List.getElem?_set_self (by rw [hlen]; exact hqB)] at hx
        obtain rfl := Option.some.inj hx
        have := (hu.lt b h2).1
        have := old i v hv b h1
        omega
      · rw [List.getElem?_set_ne (Ne.symm hj)] at hx
        rcases qI3 hv with hv | ⟨_, rfl⟩
        · rcases qI3 hx with hx | ⟨_, rfl⟩
          · exact h.dis i j v x b hv hx h1 h2
          · simp [Value.ownBlock] at h2
        · simp [Value.ownBlock] at h1
end
theorem zW9 {w : World} {base n sz : Nat} {T : TypeId} {v : Value} {xs : List Value} (h : w.ownsRow base T sz v n xs) : ∃ ad c, v = .slice ad n c ∧ n ≤ c := by
  rcases h.2 with ⟨rfl, rfl⟩ | ⟨q, cap, cur, rfl, _, _, hn, _⟩
  · exact ⟨_, _, rfl, Nat.le_refl _⟩
  · exact ⟨_, _, rfl, hn⟩
theorem zV3 {n : Nat} {segs : List Value} {len : Nat → Nat} (h : ∀ i, i < n → ∃ ad c, segs[i]? = some (.slice ad (len i) c)) : ∃ (sa : Nat → Option Addr) (sc : Nat → Nat), ∀ i, i < n → segs[i]? = some (.slice (sa i) (len i) (sc i)) := by
  have h2 : ∀ i, ∃ p : Option Addr × Nat, i < n → segs[i]? = some (.slice p.1 (len i) p.2) := fun i => by
    by_cases hi : i < n
    · obtain ⟨ad, c, h⟩ := h i hi; exact ⟨(ad, c), fun _ => h⟩
    · exact ⟨(none, 0), fun h => absurd h hi⟩
  obtain ⟨f, hf⟩ := Classical.axiomOfChoice h2
  exact ⟨fun i => (f i).1, fun i => (f i).2, hf⟩
section
variable {TB TO TW : TypeId} {w w' : World} {bB : Nat} {so : Value} {segs : List Value} {A : List (List Int)} {size all : Int}
theorem BldAt.fn (h : BldAt TB TO TW w bB so segs A size all) (hA : A.length ≤ 1000) : ∃ (ado : Option Addr) (co : Nat) (sa : Nat → Option Addr) (sc : Nat → Nat), so = .slice ado A.length co ∧ A.length ≤ co ∧ RowAt w 1 ado A.length segs ∧ ∀ i, i < A.length → segs[i]? = some (.slice (sa i) (len2 A i) (sc i)) := by
  obtain ⟨ado, co, h1, h2, _, h3⟩ := zH3 h.out (by omega)
  obtain ⟨sa, sc, h4⟩ := zV3 (n := A.length) (segs := segs) (len := len2 A) fun i hi => by
    obtain ⟨v, hv, ho⟩ := h.at_ hi
    obtain ⟨ad, c, rfl, _⟩ := zW9 ho
    exact ⟨ad, c, by rw [len2, zF5 hi]; exact hv⟩
  exact ⟨ado, co, sa, sc, h1, h2, h3, h4⟩
theorem BldAt.setwK {q i g cap : Nat} {sv : Value} {ws : List Int} {x : Int} {cur cur' : Array Value} (hWB : TW ≠ TB) (hOW : TO ≠ TW) (h : BldAt TB TO TW w bB so segs A size all) (hA : A[q]? = some ws) (hs : segs[q]? = some sv)
    (hsv : sv = .slice (some ⟨g, 0, none⟩) ws.length cap) (hcur : w.heap[g]? = some (.cells cur TW (0, 0))) (hcur' : w'.heap[g]? = some (.cells cur' TW (0, 0))) (hset : cur'.toList = cur.toList.set i (.int .u64 x)) (u : Kp [g] w w') :
    BldAt TB TO TW w' bB so segs (A.set q (ws.set i x)) size all := by
  have hqA : q < A.length := (List.getElem?_eq_some_iff.1 hA).1
  have hgB : bB ≠ g := by intro he; subst he; have := hcur.symm.trans h.box; simp only [Option.some.injEq, Obj.cells.injEq] at this; exact hWB this.2.1
  have hbs : sv.ownBlock = some g := by rw [hsv]; rfl
  have keep : ∀ {n sz : Nat} {T : TypeId} {v : Value} {xs : List Value}, w.ownsRow 0 T sz v n xs → v.ownBlock ≠ some g → w'.ownsRow 0 T sz v n xs := fun ho hne => qD2 ho u fun k hk hm => by
    simp only [List.mem_singleton] at hm; subst hm; exact hne hk
  refine ⟨u.heap h.box (by simpa using hgB), by rw [List.length_set]; exact keep h.out (zD3 h.out hcur hOW), fun j v wj hv hw => ?_, h.dis⟩
  by_cases hj : j = q
  · subst hj
    rw [List.getElem?_set_self hqA] at hw
    rw [hs] at hv
    obtain rfl := Option.some.inj hv
    obtain rfl := Option.some.inj hw
    subst hsv
    have := zV2 (h.seg j _ ws hs hA) hcur hcur' hset
    rw [List.length_set, zI7, List.map_set]
    exact this
  · rw [List.getElem?_set_ne (Ne.symm hj)] at hw
    have hsj := h.seg j v wj hv hw
    exact keep hsj fun he => hj (h.dis j q v sv g hv hs he hbs)
theorem BldAt.put {s i : Nat} (hWB : TW ≠ TB) (hOW : TO ≠ TW) (h : BldAt TB TO TW w bB so segs A size all) (hs : s < A.length) (hi : i < len2 A s) :
    ∃ g cap cur, segs[s]? = some (.slice (some ⟨g, 0, none⟩) (len2 A s) cap) ∧ w.heap[g]? = some (.cells cur TW (0, 0)) ∧ i < cur.size ∧ g ∈ blks bB so segs ∧ so.ownBlock ≠ some g ∧ bB ≠ g ∧
      ∀ (w' : World) (cur' : Array Value) (x : Int), w'.heap[g]? = some (.cells cur' TW (0, 0)) → cur'.toList = cur.toList.set i (.int .u64 x) → Kp [g] w w' → BldAt TB TO TW w' bB so segs (setP A s i x) size all := by
  have hl : len2 A s = A[s].length := by rw [len2, zF5 hs]
  obtain ⟨v, hv, ho⟩ := h.at_ hs
  rcases ho.2 with ⟨rfl, h0⟩ | ⟨g, cap, cur, rfl, _, hg, h1, h2, h3, h4⟩
  · omega
  · refine ⟨g, cap, cur, by rw [hl]; exact hv, hg, by omega, zG2.2 (.inr (.inr ⟨s, _, hv, rfl⟩)), zD3 h.out hg hOW, fun he => ?_, fun w' cur' x hc hset u => ?_⟩
    · subst he; have := hg.symm.trans h.box; simp only [Option.some.injEq, Obj.cells.injEq] at this; exact hWB this.2.1
    · have := h.setwK (i := i) hWB hOW (List.getElem?_eq_getElem hs) hv rfl hg hc hset u
      rw [setP, zF5 hs]
      exact this
theorem zX0 {a b : Option Addr} {n m c d : Nat} (h : some (Value.slice a n c) = some (Value.slice b m d)) : a = b := by
  simp only [Option.some.injEq, Value.slice.injEq] at h; exact h.1
theorem RowAt.keep1 {w w' : World} {g sz n : Nat} {ad : Option Addr} {xs : List Value} (h : RowAt w sz ad n xs) (k : Kp [g] w w') (hn : ∀ b o, ad = some ⟨b, o, none⟩ → b ≠ g) : RowAt w' sz ad n xs :=
  ⟨h.len, h.lim, fun hp => by
    obtain ⟨b, o, cs, T, fr, rfl, hb, hx⟩ := h.at_ hp
    exact ⟨b, o, cs, T, fr, rfl, k.heap hb (by simpa using hn b o rfl), hx⟩⟩
theorem Grow.kp1 {g : Nat} {w0 w w' : World} (h : Grow w0 w) (k : Kp [g] w w') (hg : w0.heap.size ≤ g) : Grow w0 w' := h.trK k fun x hx => by simp only [List.mem_singleton] at hx; subst hx; exact hg
end
theorem Fit.small {size : Int} {A : List (List Int)} (h : Fit size A) (hs : size ≤ 4096) : A.length ≤ 1000 ∧ ∀ s ∈ A, s.length ≤ 100000 := by
  refine ⟨by have := h.most; omega, fun s hm => ?_⟩
  obtain ⟨i, hi, rfl⟩ := List.getElem_of_mem hm
  have := h.seg i
  rw [len2, zF5 hi] at this
  omega
theorem qJ9 {size : Int} {A : List (List Int)} {q : Nat} {l : List Int} (hq : q ≤ A.length) : (decide (((zI9 A q l).length : Int) ≤ 16) && (decide ((((zI9 A q l).getD q []).length : Int) ≤ size) && decide (zB9 A + l.length ≤ 4096))) = !(zG8 size ⟨A, false⟩ q l).full := by
  rw [← zS2 A q l hq]
  simp only [zG8, qQ7, Bool.false_or, Bool.not_not, len2]
theorem qQ8 {A : List (List Int)} (h : 1 ≤ A.length) : zA8 A < A.length ∧ ((A.length : Int) - 1) = (zA8 A : Int) := by unfold zA8; omega
def Nd.fine (t : Nd) : Prop := ∃ l, t.right l = true
theorem Nd.fine_own {t : Nd} (h : t.fine) : t.own = true := by
  obtain ⟨l, h⟩ := h
  obtain ⟨k, s, w, b, ks⟩ := t
  simp only [Nd.right, Bool.and_eq_true] at h
  exact h.1.1
theorem qU8 {left : Nat} : ∀ {ks : List Nd} {k : Nat} (h : k < ks.length), Nd.rights ks left = true → ks[k].right left = true
  | t :: ts, 0, _, h => by simp only [Nd.rights, Bool.and_eq_true] at h; exact h.1
  | t :: ts, k + 1, hk, h => by
    simp only [Nd.rights, Bool.and_eq_true] at h
    have := qU8 (ks := ts) (k := k) (by simpa using hk) h.2
    simpa using this
theorem Nd.fine_kid {k s : Int} {w b : List Int} {ks : List Nd} {j : Nat} (h : (Nd.mk k s w b ks).fine) (hj : j < ks.length) : ks[j].fine := by
  obtain ⟨l, h⟩ := h
  simp only [Nd.right, Bool.and_eq_true] at h
  exact ⟨_, qU8 hj h.2⟩
structure OwnB (k : Int) (w b : List Int) (ks : List Nd) (need : Int) : Prop where
  kd : k = 0 ∨ k = 1 ∨ k = 2
  lw : w.length ≤ 4096
  lb : b.length ≤ 4096
  lk : ks.length ≤ 4096
  nn : 0 ≤ need
  most : need ≤ 5000
  kids : k ≠ 0 → (ks.length : Int) ≤ need
  b1 : k = 1 → b = []
theorem Nd.own_b {k s : Int} {w b : List Int} {ks : List Nd} (h : (Nd.mk k s w b ks).own = true) : OwnB k w b ks (Nd.mk k s w b ks).need := by
  simp only [Nd.own] at h
  split at h
  · rename_i h0
    simp only [Bool.and_eq_true, decide_eq_true_eq] at h
    exact ⟨.inl h0, by omega, by omega, by omega, by simp [Nd.need, h0], by simp [Nd.need, h0], fun h => absurd h0 h, fun h => by omega⟩
  · rename_i h0
    split at h
    · rename_i h1
      simp only [Bool.and_eq_true, decide_eq_true_eq] at h
      obtain ⟨_, h2, h3⟩ := h
      have : w.length ≤ 100 ∧ ks.length ≤ 100 := by split at h3 <;> omega
      refine ⟨.inr (.inl h1), by omega, by omega, by omega, ?_, ?_, fun _ => ?_, fun _ => List.eq_nil_of_length_eq_zero (by omega)⟩ <;> simp only [Nd.need, if_pos h1] <;> omega
    · rename_i h1
      split at h
      · rename_i h2
        have : w.length ≤ 4096 ∧ b.length ≤ 4096 ∧ ks.length ≤ 4096 ∧ (w.length + ks.length = 0 ∨ (b.length = 0 ∧ (w.length = 0 ∨ ks.length = 0))) := by
          split at h
          · simp only [Bool.and_eq_true, decide_eq_true_eq] at h; omega
          · split at h
            · simp only [Bool.and_eq_true, decide_eq_true_eq] at h; omega
            · split at h
              · simp only [Bool.and_eq_true, decide_eq_true_eq] at h; omega
              · cases h
        refine ⟨.inr (.inr h2), by omega, by omega, by omega, ?_, ?_, fun _ => ?_, fun h => absurd h h1⟩ <;> simp only [Nd.need, if_neg h1, if_pos h2] <;> omega
      · cases h
theorem Lay.eta {X : Lay} (h : X.full = false) : (⟨X.A, false⟩ : Lay) = X := by
  cases X; simp only at h; rw [h]
theorem NodeR.cells {w : World} {c : List Value} {t : Nd} (h : NodeR w c t) : ∃ k s a n cp a2 n2 c2 a3 n3 c3, c = [.int .i64 k, .int .i64 s, .slice a n cp, .slice a2 n2 c2, .slice a3 n3 c3] := by
  obtain @⟨kind, size, words, bytes, kids, ws, bs, ks, kc, hk, hs, hW, hwr, hB, hbr, hK, hKs⟩ := h
  obtain ⟨aw, cw, rfl, -⟩ := hW
  obtain ⟨ab, cb, rfl, -⟩ := hB
  obtain ⟨ak, ck, rfl, -⟩ := hK
  exact ⟨_, _, _, _, _, _, _, _, _, _, _, rfl⟩
theorem qU9 {w : World} {base base' n sz : Nat} {T : TypeId} {v : Value} {xs : List Value} (h : w.ownsRow base T sz v n xs) (hb : ∀ k, v.ownBlock = some k → base' ≤ k) : w.ownsRow base' T sz v n xs := by
  refine ⟨h.1, ?_⟩
  rcases h.2 with hn | ⟨q, cap, cur, rfl, _, rest⟩
  · exact .inl hn
  · exact .inr ⟨q, cap, cur, rfl, hb q rfl, rest⟩
theorem BldAt.owns {TB TO TW : TypeId} {w : World} {bB base : Nat} {so : Value} {segs : List Value} {A : List (List Int)} {size all : Int} (h : BldAt TB TO TW w bB so segs A size all) (hb : ∀ k ∈ blks bB so segs, base ≤ k) : OwnA TO TW w base so segs A :=
  ⟨qU9 h.out fun k hk => hb k (zG2.2 (.inr (.inl hk))), fun i v ws hv hw => qU9 (h.seg i v ws hv hw) fun k hk => hb k (zG2.2 (.inr (.inr ⟨i, v, hv, hk⟩))), h.dis⟩
theorem BldAt.rows {TB TO TW : TypeId} {w : World} {bB : Nat} {so : Value} {segs : List Value} {A : List (List Int)} {size all : Int} (h : BldAt TB TO TW w bB so segs A size all) (hs : ∀ s ∈ A, s.length ≤ 100000) : ∀ (i : Nat) (s : List Int), A[i]? = some s → ∃ v, segs[i]? = some v ∧ Row w 1 v s.length (zI7 s) := by
  intro i s hi
  have hl : i < A.length := (List.getElem?_eq_some_iff.1 hi).1
  obtain ⟨v, hv, ho⟩ := h.at_ hl
  have he : A[i] = s := by rw [List.getElem?_eq_getElem hl] at hi; exact Option.some.inj hi
  rw [he] at ho
  exact ⟨v, hv, zH3 ho (by have := hs s (List.mem_of_getElem? hi); omega)⟩
theorem BldAt.init {TB TO TW : TypeId} {w : World} {bB b1 b2 : Nat} {size : Int} (hb : w.heap[bB]? = some (.cells #[.slice (some ⟨b2, 0, none⟩) 1 1, .int .i64 size, .int .i64 1] TB (0, 0))) (ho : w.heap[b2]? = some (.cells #[.slice (some ⟨b1, 0, none⟩) 1 1] TO (0, 0))) (hw : w.heap[b1]? = some (.cells #[.int .u64 0] TW (0, 0))) :
    BldAt TB TO TW w bB (.slice (some ⟨b2, 0, none⟩) 1 1) [.slice (some ⟨b1, 0, none⟩) 1 1] [[0]] size (zB9 [[0]]) := by
  refine ⟨hb, qF1 ho (Nat.zero_le _) rfl (by decide), fun i v ws hv hw2 => ?_, fun i j v u b hv hu _ _ => ?_⟩
  · match i, hv, hw2 with
    | 0, hv, hw2 =>
      simp only [List.getElem?_cons_zero, Option.some.injEq] at hv hw2
      subst hv; subst hw2
      exact qF1 hw (Nat.zero_le _) rfl (by decide)
    | i + 1, hv, _ => simp at hv
  · have h1 := (List.getElem?_eq_some_iff.1 hv).1
    have h2 := (List.getElem?_eq_some_iff.1 hu).1
    simp at h1 h2; omega
theorem Fit.init {size : Int} (h : 1 ≤ size) : Fit size [[0]] := ⟨by simp, by simp, fun j => by
  match j with
  | 0 => simp [len2]; exact h
  | j + 1 => simp [len2]; omega, by simp [zB9]⟩
theorem OwnA.nil (TO TW : TypeId) (w : World) (base : Nat) : OwnA TO TW w base (.slice none 0 0) [] [] :=
  ⟨⟨by simp, .inl ⟨rfl, rfl⟩⟩, fun i v ws hv _ => by simp at hv, fun i j v u b hv _ _ _ => by simp at hv⟩
theorem OwnA.fn {TO TW : TypeId} {w : World} {base : Nat} {so : Value} {segs : List Value} {A : List (List Int)} (h : OwnA TO TW w base so segs A) (hA : A.length ≤ 1000) : ∃ (ado : Option Addr) (co : Nat) (sa : Nat → Option Addr) (sc : Nat → Nat), so = .slice ado A.length co ∧ A.length ≤ co ∧ co ≤ maxLen ∧ RowAt w 1 ado A.length segs ∧ ∀ i, i < A.length → segs[i]? = some (.slice (sa i) (len2 A i) (sc i)) ∧ w.ownsRow base TW 1 (.slice (sa i) (len2 A i) (sc i)) (len2 A i) (zI7 (A.getD i [])) := by
  obtain ⟨ado, co, h1, h2, h2', h3⟩ := zH3 h.out (by omega)
  obtain ⟨sa, sc, h4⟩ := zV3 (n := A.length) (segs := segs) (len := len2 A) fun i hi => by
    obtain ⟨v, hv, ho⟩ := h.at_ hi
    obtain ⟨ad, c, rfl, _⟩ := zW9 ho
    exact ⟨ad, c, by rw [len2, zF5 hi]; exact hv⟩
  refine ⟨ado, co, sa, sc, h1, h2, h2', h3, fun i hi => ⟨h4 i hi, ?_⟩⟩
  have := h.seg i _ _ (h4 i hi) (List.getElem?_eq_getElem hi)
  rw [len2, zF5 hi] at *
  exact this
theorem OwnA.one {TO TW : TypeId} {w : World} {base : Nat} {so : Value} {segs : List Value} {A : List (List Int)} (h : OwnA TO TW w base so segs A) : ∀ q ∈ segs, q.oneCell' = true := by
  intro q hq
  obtain ⟨i, hi, rfl⟩ := List.getElem_of_mem hq
  have hl : i < A.length := by rw [← h.len]; exact hi
  obtain ⟨v, hv, ho⟩ := h.at_ hl
  rw [List.getElem?_eq_getElem hi] at hv
  obtain rfl := Option.some.inj hv
  exact qQ0 ho
def LayV (TO TW : TypeId) (w : World) (base : Nat) (lim : Int) (v : Value) (S : Lay) : Prop := ∃ so segs, v = .agg #[so, .int .i64 lim, .bool S.full] ∧ OwnA TO TW w base so segs S.A
theorem LayV.grow {TO TW : TypeId} {w w' : World} {base : Nat} {lim : Int} {v : Value} {S : Lay} (h : LayV TO TW w base lim v S) (g : Grow w w') : LayV TO TW w' base lim v S := by
  obtain ⟨so, segs, h1, h2⟩ := h; exact ⟨so, segs, h1, h2.grow g⟩
structure Sml (A : List (List Int)) : Prop where
  len : A.length ≤ 900
  seg : ∀ j, len2 A j ≤ 50000
theorem Sml.all {A : List (List Int)} (h : Sml A) : ∀ s ∈ A, s.length ≤ 100000 := by
  intro s hm
  obtain ⟨i, hi, rfl⟩ := List.getElem_of_mem hm
  have := h.seg i
  rw [len2, zF5 hi] at this
  omega
theorem Fit.sml {size : Int} {A : List (List Int)} (h : Fit size A) (hs : size ≤ 4096) : Sml A := ⟨by have := h.most; omega, fun j => by have := h.seg j; omega⟩
structure Near (a b : Nat) (A B : List (List Int)) : Prop where
  len : B.length ≤ A.length + a
  seg : ∀ j, len2 B j ≤ len2 A j + b
theorem Near.set (A : List (List Int)) (s i : Nat) (x : Int) : Near 0 0 A (setP A s i x) := ⟨by rw [zD5]; omega, fun j => by rw [zN4]; omega⟩
theorem Near.more (A : List (List Int)) (q : Nat) (l : List Int) (hq : q ≤ A.length) : Near 1 l.length A (zI9 A q l) := ⟨by rw [zM6]; split <;> omega, fun j => by
  simp only [len2]; rw [zJ0 A q j l hq]; split
  · subst_vars; rw [List.length_append]; exact Nat.le_refl _
  · omega⟩
theorem Near.trans {a b c d : Nat} {A B C : List (List Int)} (h : Near a b A B) (k : Near c d B C) : Near (a + c) (b + d) A C := ⟨by have := h.len; have := k.len; omega, fun j => by have := h.seg j; have := k.seg j; omega⟩
theorem qZ7 (size : Int) (t : Nd) (S : Lay) (s i : Nat) (h1 : 1 ≤ S.A.length) : Near 1 1 S.A (zC6 size t S s i).S.A := by
  unfold zC6
  split
  · have := Near.set S.A s i (t.near ((len2 S.A (zA8 S.A) : Int) - i - 1)); exact ⟨Nat.le_trans this.len (Nat.le_succ _), fun j => Nat.le_trans (this.seg j) (Nat.le_succ _)⟩
  · split
    · exact (Near.set _ _ _ _).trans (Near.more _ _ [t.near 0] (by rw [zD5]; unfold zA8; omega))
    · exact (Near.set _ _ _ _).trans (Near.more _ _ [t.near 0] (by rw [zD5]; unfold zA8; omega))
theorem OwnA.upd {TO TW T : TypeId} {w w' : World} {base b : Nat} {so : Value} {segs : List Value} {A : List (List Int)} {cs : Array Value} {fr : Nat × Nat} (h : OwnA TO TW w base so segs A) (u : Upd b w w') (hb : w.heap[b]? = some (.cells cs T fr)) (hO : TO ≠ T) (hW : TW ≠ T) : OwnA TO TW w' base so segs A :=
  ⟨zF1 h.out u (zD3 h.out hb hO), fun i v ws hv hw => zF1 (h.seg i v ws hv hw) u (zD3 (h.seg i v ws hv hw) hb hW), h.dis⟩
theorem OwnA.rows {TO TW : TypeId} {w : World} {base : Nat} {so : Value} {segs : List Value} {A : List (List Int)} (h : OwnA TO TW w base so segs A) (hs : ∀ s ∈ A, s.length ≤ 100000) : ∀ (i : Nat) (s : List Int), A[i]? = some s → ∃ v, segs[i]? = some v ∧ Row w 1 v s.length (zI7 s) := by
  intro i s hi
  have hl : i < A.length := (List.getElem?_eq_some_iff.1 hi).1
  obtain ⟨v, hv, ho⟩ := h.at_ hl
  have he : A[i] = s := by rw [List.getElem?_eq_getElem hl] at hi; exact Option.some.inj hi
  rw [he] at ho
  exact ⟨v, hv, zH3 ho (by have := hs s (List.mem_of_getElem? hi); omega)⟩
theorem OwnA.growV {TO TW : TypeId} {w : World} {base q : Nat} {so : Value} {segs : List Value} {A : List (List Int)} (h : OwnA TO TW w base so segs A) (hq : q ≤ A.length) : ∃ ad c, (growV segs q)[q]? = some (.slice ad (len2 A q) c) ∧ w.ownsRow base TW 1 (.slice ad (len2 A q) c) (len2 A q) (zI7 (A.getD q [])) := by
  unfold K.growV
  by_cases he : q = segs.length
  · rw [if_pos he, List.getElem?_append_right (by omega)]
    have h0 : len2 A q = 0 := zR0 (by rw [← h.len]; omega)
    have h1 : A.getD q [] = [] := List.eq_nil_of_length_eq_zero h0
    refine ⟨none, 0, by rw [h0]; simp [he], ?_⟩
    rw [h0, h1]; exact ⟨rfl, .inl ⟨rfl, rfl⟩⟩
  · have hl : q < A.length := by rw [h.len] at he; omega
    obtain ⟨v, hv, ho⟩ := h.at_ hl
    obtain ⟨ad, c, rfl, _⟩ := zW9 ho
    rw [if_neg he]
    have e : len2 A q = A[q].length := by rw [len2, zF5 hl]
    rw [e, zF5 hl]
    exact ⟨ad, c, hv, ho⟩
theorem qV0 {segs : List Value} {A : List (List Int)} {q : Nat} (h : segs.length = A.length) : (growV segs q).length = (growB A q).length := by
  unfold K.growV growB; rw [h]; split <;> simp [h]
theorem yY4 (f : Bool) (a b c lim : Int) : (((f || decide (a > lim)) || decide (b > 16)) || decide (c > 4096)) = (f || !(decide (b ≤ 16) && (decide (a ≤ lim) && decide (c ≤ 4096)))) := by
  cases f
  · rw [Bool.eq_iff_iff]
    simp only [Bool.false_or, Bool.or_eq_true, decide_eq_true_eq, Bool.not_eq_true', Bool.and_eq_false_iff, decide_eq_false_iff_not]
    omega
  · simp
theorem OwnA.rowat {TO TW : TypeId} {w : World} {base n c : Nat} {ad : Option Addr} {segs : List Value} {A : List (List Int)} (h : OwnA TO TW w base (.slice ad n c) segs A) (hA : A.length ≤ 1000) : n = A.length ∧ RowAt w 1 ad n segs := by
  obtain ⟨a, b, h1, _, _, h2⟩ := zH3 h.out (by omega)
  simp only [Value.slice.injEq] at h1
  obtain ⟨rfl, rfl, rfl⟩ := h1
  exact ⟨rfl, h2⟩
theorem Sml.set {A : List (List Int)} (h : Sml A) (s i : Nat) (x : Int) : Sml (setP A s i x) := ⟨by rw [zD5]; exact h.len, fun j => by rw [zN4]; exact h.seg j⟩
theorem OwnA.init {TO TW : TypeId} {w : World} {base b1 b2 : Nat} (ho : w.heap[b2]? = some (.cells #[.slice (some ⟨b1, 0, none⟩) 1 1] TO (0, 0))) (hw : w.heap[b1]? = some (.cells #[.int .u64 0] TW (0, 0))) (h2 : base ≤ b2) (h1 : base ≤ b1) : OwnA TO TW w base (.slice (some ⟨b2, 0, none⟩) 1 1) [.slice (some ⟨b1, 0, none⟩) 1 1] [[0]] := by
  refine ⟨qF1 ho h2 rfl (by decide), fun i v ws hv hw2 => ?_, fun i j v u b hv hu _ _ => ?_⟩
  · match i, hv, hw2 with
    | 0, hv, hw2 =>
      simp only [List.getElem?_cons_zero, Option.some.injEq] at hv hw2
      subst hv; subst hw2
      exact qF1 hw h1 rfl (by decide)
    | i + 1, hv, _ => simp at hv
  · have h1 := (List.getElem?_eq_some_iff.1 hv).1
    have h2 := (List.getElem?_eq_some_iff.1 hu).1
    simp at h1 h2; omega
theorem zG1.fn {w : World} {v : Value} {A : List (List Int)} (h : zG1 w v A) : ∃ (ad : Option Addr) (c : Nat) (segs : List Value) (sa : Nat → Option Addr) (sc : Nat → Nat), v = .slice ad A.length c ∧ A.length ≤ c ∧ c ≤ maxLen ∧ RowAt w 1 ad A.length segs ∧ (∀ i, i < A.length → segs[i]? = some (.slice (sa i) (len2 A i) (sc i))) ∧ ∀ i, i < A.length → len2 A i ≤ sc i ∧ sc i ≤ maxLen ∧ RowAt w 1 (sa i) (len2 A i) (zI7 (A.getD i [])) := by
  obtain ⟨segs, ⟨ad, c, h1, h2, h3, h4⟩, h5⟩ := h
  obtain ⟨sa, sc, h6⟩ := zV3 (n := A.length) (segs := segs) (len := len2 A) fun i hi => by
    obtain ⟨u, hu, ad, c, rfl, _⟩ := h5 i _ (List.getElem?_eq_getElem hi)
    exact ⟨ad, c, by rw [len2, zF5 hi]; exact hu⟩
  refine ⟨ad, c, segs, sa, sc, h1, h2, h3, h4, h6, fun i hi => ?_⟩
  obtain ⟨u, hu, ad, c, rfl, h7, h8, h9⟩ := h5 i _ (List.getElem?_eq_getElem hi)
  have h10 := h6 i hi
  rw [hu] at h10
  simp only [Option.some.injEq, Value.slice.injEq] at h10
  obtain ⟨rfl, _, rfl⟩ := h10
  rw [len2, zF5 hi]
  exact ⟨h7, h8, h9⟩
theorem qQ9 {α : Type} {A B : List α} {d : α} (hl : A.length = B.length) (h : ∀ j, j < A.length → A.getD j d = B.getD j d) : A = B := by
  apply List.ext_getElem hl
  intro j h1 h2
  have := h j h1
  rwa [zF5 h1, zF5 h2] at this
theorem Nd.build_sml (t : Nd) (n : Int) : Sml (t.build n).1 := by
  unfold Nd.build
  split
  · exact ⟨by simp, fun j => by simp [len2]⟩
  · rename_i h
    split
    · exact ⟨by simp, fun j => by simp [len2]⟩
    · rename_i hf
      have hf : (t.lay n ⟨[[0]], false⟩ 0 0).full = false := by simpa using hf
      exact ((t.lay_ok n ⟨[[0]], false⟩ 0 0 (by simp)).fit (Fit.init (by omega)) hf).sml (by omega)
theorem zG1.slice {w : World} {v : Value} {A : List (List Int)} (h : zG1 w v A) : ∃ ad n c, v = .slice ad n c := by
  obtain ⟨segs, ⟨ad, c, h1, _⟩, _⟩ := h; exact ⟨_, _, _, h1⟩
class MethI (P : Program) (t : TypeId) (name : String) (f : FuncId) : Prop where
  h : ∀ (v : Value) (args : Array Value) (w : World), (callMethod (.iface t v) name args).run P w = .ok (.enter f (#[v] ++ args)) w
class IfcI (P : Program) (t : TypeId) : Prop where
  h : ∃ ms, P.underlying t = some (.interface ms)
theorem qA6 {P : Program} {b : Frame} {a : Act} {k : List Item} {cs : List Frame} {w : World} {c : Code} : step P (lone (b.atR a (.code (.scope c) :: k)) cs w) = .next (lone (b.atR a (.code c :: .inScope c :: k)) cs w) :=
  step_lone_go (by simp [stepG, stepG.exec, Frame.atR])
theorem qR0 {P : Program} {b : Frame} {a : Act} {k : List Item} {cs : List Frame} {w : World} {c : Code} : step P (lone (b.atR a (.inScope c :: k)) cs w) = .next (lone (b.atR a k) cs w) :=
  step_lone_go (by simp [stepG, stepG.exec, Frame.atR])
theorem yY5 {P : Program} {n : Nat} {Q : Ex → Env → World → Prop} {e : Env} {w : World} {c : Code} (h : W P n c Q e w) : W P n (.scope c) Q e w := by
  intro b a k cs hs he
  obtain ⟨t, a1, w1, h1, h2, h3⟩ := h b a (.inScope c :: k) cs hs he
  cases t with
  | normal => exact ⟨.normal, a1, w1, h1, h2, .head qA6 (Steps.trans h3 (.one qR0))⟩
  | exit i => exact ⟨.exit i, a1, w1, h1, h2, .past (y := .inScope c) (fun _ => rfl) (by simp) (.of (.one qA6) h3)⟩
  | ret => exact ⟨.ret, a1, w1, h1, h2, .past (y := .inScope c) (fun _ => rfl) (by simp) (.of (.one qA6) h3)⟩
section
variable {P : Program} {ops : Array Oper} {e : Env} {w : World} {K : Value → World → Prop} {d : Option Nat} {ty : TypeId} {pos : String} {af : Array Edge} {g : Option (Nat × Bool)} {t u : TypeId} {x y z : Operand}
theorem qI4 {name : String} {args : Array Operand} {at_ : Array TypeId} {f : FuncId} {v : Value} {F : Value → World → Prop} {T : TypeId} (hm : MethI P T name f) (hx : ev e x = .iface T v)
    (hc : Calls P f (v :: args.toList.map (ev e)).toArray w (Ret F)) (h : ∀ v w', F v w' → K v w') : Run1 P ⟨d, .call ⟨.invoke x name, args, at_⟩, ty, pos, af, g⟩ e w K := by
  have ha : ((#[ev e x] ++ args.map (ev e)).extract 1 (#[ev e x] ++ args.map (ev e)).size) = args.map (ev e) := by
    apply Array.ext'
    simp
    exact List.take_of_length_le (by simp)
  have h0 : (#[ev e x] ++ args.map (ev e))[0]? = some (.iface T v) := by rw [hx, Array.getElem?_append_left (by simp)]; rfl
  have hb : #[v] ++ args.map (ev e) = (v :: args.toList.map (ev e)).toArray := by
    apply Array.ext'
    simp
  have hr : (execOp (ev e) ⟨d, .call ⟨.invoke x name, args, at_⟩, ty, pos, af, g⟩).run P w = .ok (.enter f (v :: args.toList.map (ev e)).toArray) w := by
    simp only [execOp, resolve, Sem.run_bind, Sem.run_pure, Result.andThen_ok, invoke, h0, ha]
    rw [hm.h, hb]
  unfold Run1
  rw [hr]
  exact hc.mono fun r w' ⟨v, hv, hF⟩ => ⟨v, hv, h v w' hF⟩
theorem yE8 {T : TypeId} {v : Value} [hi : IfcI P t] (hx : ev e x = .iface T v) (hy : ev e y = .nilIface) (h : K (.bool false) w) : Run1 P ⟨d, .binOp .eql t x y u, ty, pos, af, g⟩ e w K := by
  obtain ⟨ms, hi⟩ := hi.h
  exact zE3 (w' := w) (by
    have hg : ∀ w : World, (eqGuard .eql t x y (.iface T v) .nilIface).run P w = .ok () w := fun _ => rfl
    have hq : (Op.equal t (.iface T v) .nilIface).run P w = .ok false w := by
      show (Op.equalIn (9999 + 1) t (.iface T v) .nilIface).run P w = _
      rw [Op.equalIn]
      simp only [underlying, program, Sem.run_bind, Sem.run, hi, Sem.run_pure, Result.andThen_ok]
    simp only [execOp, hx, hy, Sem.run_bind, hg, Result.andThen_ok, binOp, hq, Sem.run_pure]) h
end
structure Ob where
  kind : Int
  seg : Int
  at_ : Int
  data : Int
  ptrs : Int
  size : Int
  count : Int
  deriving DecidableEq
def Ob0 : Ob := ⟨0, 0, 0, 0, 0, 0, 0⟩
def Ob.pt (o : Ob) : Pt := ⟨o.kind, 0, o.data, o.ptrs, o.size, o.count, 0, false⟩
structure Src where
  sizes : List Int
  word : Int → Int → Int × Int
def zL3 (a b m : Int) : Bool := decide (0 ≤ a ∧ 0 ≤ b ∧ a ≤ m ∧ b ≤ m - a)
def zG9 (sizes : List Int) (seg at_ n : Int) : Bool := decide (0 ≤ seg ∧ seg < sizes.length) && zL3 at_ n (sizes.getD seg.toNat 0)
def zI3 (A : List (List Int)) (seg at_ : Int) : Int × Int := if 0 ≤ seg ∧ seg < A.length ∧ 0 ≤ at_ ∧ at_ < len2 A seg.toNat then ((A.getD seg.toNat []).getD at_.toNat 0, 0) else (0, 20)
def zC4 (A : List (List Int)) : Src := ⟨A.map fun s => (s.length : Int), zI3 A⟩
def zK1 (p : Pt) : Bool := decide (p.kind = 1) || decide (p.kind = 2)
def zD8 (o : Ob) : Int := if o.kind = 3 then 0 else zH4 o.pt
def ptrS (s : Src) (seg at_ : Int) : Pt × Int := if (s.word seg at_).2 ≠ 0 then (Pt0, (s.word seg at_).2) else (decP (s.word seg at_).1, decE (s.word seg at_).1)
def objP (p : Pt) (seg at_ : Int) : Ob := ⟨p.kind, seg, at_, p.data, p.ptrs, p.size, p.count⟩
def zB5 (s : Src) (p : Pt) (seg at_ : Int) : Ob × Int :=
  if zI4 (objP p seg at_).pt ≠ 0 then (Ob0, zI4 (objP p seg at_).pt)
  else if zG9 s.sizes seg at_ (zH4 (objP p seg at_).pt) = false then (Ob0, 20)
  else (objP p seg at_, 0)
def zD6 (s : Src) (p : Pt) : Ob × Int :=
  if (ptrS s p.seg p.off).2 ≠ 0 then (Ob0, (ptrS s p.seg p.off).2)
  else if zK1 (ptrS s p.seg p.off).1 = false then (Ob0, 23)
  else zB5 s (ptrS s p.seg p.off).1 p.seg (p.off + 1 + (ptrS s p.seg p.off).1.off)
def zD9 (s : Src) (p : Pt) : Ob × Int :=
  if (s.word p.seg p.off).2 ≠ 0 then (Ob0, (s.word p.seg p.off).2)
  else if (s.word p.seg (p.off + 1)).2 ≠ 0 then (Ob0, (s.word p.seg (p.off + 1)).2)
  else if decE (s.word p.seg p.off).1 ≠ 0 then (Ob0, decE (s.word p.seg p.off).1)
  else if decE (s.word p.seg (p.off + 1)).1 ≠ 0 then (Ob0, decE (s.word p.seg (p.off + 1)).1)
  else if (decP (s.word p.seg p.off).1).kind ≠ 3 ∨ (decP (s.word p.seg p.off).1).dbl = true ∨ zK1 (decP (s.word p.seg (p.off + 1)).1) = false ∨ (decP (s.word p.seg (p.off + 1)).1).off ≠ 0 then (Ob0, 23)
  else zB5 s (decP (s.word p.seg (p.off + 1)).1) (decP (s.word p.seg p.off).1).seg (decP (s.word p.seg p.off).1).off
def zA0 (s : Src) (seg at_ : Int) : Ob × Int :=
  if (ptrS s seg at_).2 ≠ 0 ∨ (ptrS s seg at_).1.kind = 0 then (Ob0, (ptrS s seg at_).2)
  else if zK1 (ptrS s seg at_).1 = true then zB5 s (ptrS s seg at_).1 seg (at_ + 1 + (ptrS s seg at_).1.off)
  else if (ptrS s seg at_).1.dbl = true then zD9 s (ptrS s seg at_).1
  else zD6 s (ptrS s seg at_).1
def zJ9 (s : Src) (o : Ob) (k : Int) : Ob × Int :=
  if o.kind = 0 ∨ (o.kind = 1 ∧ k ≥ o.ptrs) then (Ob0, 0)
  else if o.kind = 1 then zA0 s o.seg (o.at_ + k + o.data)
  else if o.size ≠ 6 then (o, 23)
  else if k ≥ o.count then (o, 20)
  else zA0 s o.seg (o.at_ + k)
def atS (s : Src) (o : Ob) (k : Int) : Int × Int :=
  if o.kind = 0 ∨ (o.kind = 1 ∧ k ≥ o.data) then (0, 0)
  else if o.kind = 1 then s.word o.seg (o.at_ + k)
  else if o.size = 6 then (0, 23)
  else if k ≥ o.count then (0, 20)
  else if o.size = 5 then s.word o.seg (o.at_ + k)
  else ((s.word o.seg (o.at_ + k / 8)).1 / 2 ^ (k % 8 * 8).toNat % 256, (s.word o.seg (o.at_ + k / 8)).2)
structure Vl where
  kind : Int
  size : Int
  words : Int
  kids : Int
  word : Int
  deriving DecidableEq
def Vl0 : Vl := ⟨0, 0, 0, 0, 0⟩
def isS (o : Ob) : Vl := ⟨o.kind, o.size, if o.kind = 2 ∧ o.size ≠ 6 then o.count else o.data, if o.kind = 2 ∧ o.size = 6 then o.count else o.ptrs, 0⟩
def valS (s : Src) (o : Ob) (at_ : Int) : Vl × Int :=
  if at_ < 0 then (isS o, 0) else if (atS s o at_).2 ≠ 0 then (Vl0, (atS s o at_).2) else (⟨o.kind, 0, 0, 0, (atS s o at_).1⟩, 0)
def qR1 (s : Src) (at_ : Int) : List Int → Ob → Int → Vl × Int
  | [], o, _ => valS s o at_
  | k :: ks, o, left =>
    if (zJ9 s o k).2 ≠ 0 then (Vl0, (zJ9 s o k).2)
    else if left - (1 + zD8 (zJ9 s o k).1) < 0 then (Vl0, 22)
    else qR1 s at_ ks (zJ9 s o k).1 (left - (1 + zD8 (zJ9 s o k).1))
def zL4 (s : Src) (steps : List Int) (at_ cost : Int) : Vl × Int :=
  if ∃ k ∈ steps, k < 0 then (Vl0, 1)
  else if (steps.length : Int) > 32 then (Vl0, 3)
  else if (zA0 s 0 0).2 ≠ 0 then (Vl0, (zA0 s 0 0).2)
  else if max cost (-1) - (1 + zD8 (zA0 s 0 0).1) < 0 then (Vl0, 22)
  else qR1 s at_ steps (zA0 s 0 0).1 (max cost (-1) - (1 + zD8 (zA0 s 0 0).1))
structure PtR (p : Pt) : Prop where
  kind : 0 ≤ p.kind ∧ p.kind ≤ 3
  off : -536870912 ≤ p.off ∧ p.off ≤ 536870911
  data : 0 ≤ p.data ∧ p.data ≤ 65535
  ptrs : 0 ≤ p.ptrs ∧ p.ptrs ≤ 65535
  size : 0 ≤ p.size ∧ p.size ≤ 7
  count : 0 ≤ p.count ∧ p.count ≤ 536870911
  seg : 0 ≤ p.seg ∧ p.seg ≤ 4294967295
  far : p.kind = 3 → 0 ≤ p.off
theorem qZ8 (n : Int) (h0 : 0 ≤ n) (h1 : n < 1073741824) : -536870912 ≤ zW0 n ∧ zW0 n ≤ 536870911 := by unfold zW0; split <;> omega
theorem zK8 (x : Int) (h0 : 0 ≤ x) (h1 : x ≤ 18446744073709551615) : PtR (decP x) := by
  have hs := qZ8 (x / 4 % 1073741824) (by omega) (by omega)
  unfold decP
  repeat' split
  all_goals first
    | (constructor <;> (simp [Pt0]; done))
    | (constructor <;> simp only [] <;> omega)
theorem qK0 : PtR Pt0 := by constructor <;> simp [Pt0]
theorem PtR.of {p : Pt} (h : PtR p) : PtR ⟨p.kind, 0, p.data, p.ptrs, p.size, p.count, 0, false⟩ := ⟨h.kind, by simp, h.data, h.ptrs, h.size, h.count, by simp, fun _ => by simp⟩
theorem zX1 {p : Pt} (h : PtR p) : 0 ≤ zH4 p ∧ zH4 p ≤ 536870912 := by
  have h1 := h.data
  have h2 := h.ptrs
  have h3 := h.count
  unfold zH4
  rw [zJ6 (by simp only [inR]; omega : inR .i64 (p.data + p.ptrs)), zJ6 (by simp only [inR]; omega : inR .i64 (p.count + 8)), zJ6 (by simp only [inR]; omega : inR .i64 (p.count + 8 - 1)), Int.tdiv_eq_ediv_of_nonneg (by omega), zJ6 (by simp only [inR]; omega : inR .i64 ((p.count + 8 - 1) / 8))]
  repeat' split
  all_goals omega
theorem qR2 {L : List Int} {j : Nat} (h : j < L.length) : L.getD j 0 ∈ L := by rw [zF5 h]; exact List.getElem_mem h
structure ObR (o : Ob) : Prop where
  kind : 0 ≤ o.kind ∧ o.kind ≤ 2
  seg : 0 ≤ o.seg ∧ o.seg ≤ 1000000
  at_ : 0 ≤ o.at_ ∧ o.at_ ≤ 140737488355328
  data : 0 ≤ o.data ∧ o.data ≤ 65535
  ptrs : 0 ≤ o.ptrs ∧ o.ptrs ≤ 65535
  size : 0 ≤ o.size ∧ o.size ≤ 7
  count : 0 ≤ o.count ∧ o.count ≤ 536870911
theorem zF9 : ObR Ob0 := by constructor <;> simp [Ob0]
theorem zM7 {o : Ob} (h : ObR o) : 0 ≤ zD8 o ∧ zD8 o ≤ 536870912 := by
  have hp : PtR o.pt := ⟨⟨h.kind.1, by have := h.kind.2; show o.kind ≤ 3; omega⟩, by simp [Ob.pt], h.data, h.ptrs, h.size, h.count, by simp [Ob.pt], fun _ => by simp [Ob.pt]⟩
  have := zX1 hp
  unfold zD8
  split
  · omega
  · exact this
theorem yS4 (x m : Int) (h0 : 0 ≤ x) (h1 : x ≤ 18446744073709551615) (m0 : 0 ≤ m) (m1 : m ≤ 56) : qC3 .and .u64 (x / 2 ^ min m.toNat 64) 255 = x / 2 ^ m.toNat % 256 := by
  have h := zQ9 m.toNat 8 (by omega) (by decide) x h0 h1
  rw [← show (2 : Int) ^ 8 = 256 from rfl, ← h, getF]
  rw [show ((m.toNat : Nat) : Int).toNat = m.toNat from by omega]
  rfl
structure SrcOk (P : Program) (w : World) (v : Value) (s : Src) : Prop where
  word : ∃ t u f, v = .iface t u ∧ MethI P t "Word" f ∧ ∀ w', Grow w w' → ∀ seg at_ : Int, zC5 P f #[u, .int .i64 seg, .int .i64 at_] w' (.tuple #[.int .u64 (s.word seg at_).1, .int .u16 (s.word seg at_).2])
  sizes : ∃ t u f, v = .iface t u ∧ MethI P t "Sizes" f ∧ ∀ w', Grow w w' → Calls P f #[u] w' (Ret fun r w2 => ∃ ad c, r = .slice ad s.sizes.length c ∧ RowAt w2 1 ad s.sizes.length (s.sizes.map (.int .i64)) ∧ Grow w' w2)
  num : ∀ seg at_ : Int, 0 ≤ (s.word seg at_).1 ∧ (s.word seg at_).1 ≤ 18446744073709551615 ∧ 0 ≤ (s.word seg at_).2 ∧ (s.word seg at_).2 ≤ 65535
  ok : ∀ seg at_ : Int, (s.word seg at_).2 = 0 → 0 ≤ seg ∧ seg < s.sizes.length ∧ 0 ≤ at_ ∧ at_ ≤ 140737488355328
  len : s.sizes.length ≤ 1000000
  each : ∀ i, i < s.sizes.length → 0 ≤ s.sizes.getD i 0 ∧ s.sizes.getD i 0 ≤ 140737488355328
theorem SrcOk.grow {P : Program} {w w' : World} {v : Value} {s : Src} (h : SrcOk P w v s) (g : Grow w w') : SrcOk P w' v s := by
  obtain ⟨⟨t, u, f, h1, h2, h3⟩, ⟨t', u', f', h4, h5, h6⟩, h7, h8, h9, h10⟩ := h
  exact ⟨⟨t, u, f, h1, h2, fun w2 g2 => h3 w2 (g.tr g2)⟩, ⟨t', u', f', h4, h5, fun w2 g2 => h6 w2 (g.tr g2)⟩, h7, h8, h9, h10⟩
theorem zY5 {P : Program} {w : World} {v : Value} {s : Src} (H : SrcOk P w v s) (seg at_ : Int) : PtR (ptrS s seg at_).1 := by
  obtain ⟨h1, h2, -, -⟩ := H.num seg at_
  unfold ptrS
  split
  · exact qK0
  · exact zK8 _ h1 h2
theorem yY6 {P : Program} {w : World} {v : Value} {s : Src} (H : SrcOk P w v s) {seg at_ : Int} (h : (ptrS s seg at_).2 = 0) : 0 ≤ seg ∧ seg < s.sizes.length ∧ 0 ≤ at_ ∧ at_ ≤ 140737488355328 := by
  refine H.ok seg at_ ?_
  by_cases h0 : (s.word seg at_).2 = 0
  · exact h0
  · unfold ptrS at h; rw [if_pos h0] at h; exact absurd h h0
theorem zX2 {P : Program} {w : World} {v : Value} {s : Src} (H : SrcOk P w v s) {p : Pt} (hp : PtR p) (hn : zK1 p = true) (seg at_ : Int) : ObR (zB5 s p seg at_).1 := by
  unfold zB5
  split
  · exact zF9
  · split
    · exact zF9
    · rename_i h1 h2
      simp only [Bool.not_eq_false] at h2
      unfold zG9 zL3 at h2
      simp only [Bool.and_eq_true, decide_eq_true_eq] at h2
      obtain ⟨⟨h3, h4⟩, h5, h6, h7, h8⟩ := h2
      have h9 := H.each seg.toNat (by omega)
      have h10 := H.len
      have hk : p.kind = 1 ∨ p.kind = 2 := by simpa [zK1] using hn
      exact ⟨by show 0 ≤ p.kind ∧ p.kind ≤ 2; omega, by show 0 ≤ seg ∧ seg ≤ _; omega, by show 0 ≤ at_ ∧ at_ ≤ _; omega, hp.data, hp.ptrs, hp.size, hp.count⟩
theorem zV4 {P : Program} {w : World} {v : Value} {s : Src} (H : SrcOk P w v s) (seg at_ : Int) : ObR (zA0 s seg at_).1 := by
  unfold zA0
  split
  · exact zF9
  · split
    · rename_i h; exact zX2 H (zY5 H seg at_) h _ _
    · split
      · unfold zD9
        split
        · exact zF9
        · split
          · exact zF9
          · split
            · exact zF9
            · split
              · exact zF9
              · split
                · exact zF9
                · rename_i h
                  obtain ⟨n1, n2, -, -⟩ := H.num (ptrS s seg at_).1.seg ((ptrS s seg at_).1.off + 1)
                  refine zX2 H (zK8 _ n1 n2) ?_ _ _
                  cases hq : zK1 (decP (s.word (ptrS s seg at_).1.seg ((ptrS s seg at_).1.off + 1)).1) with
                  | true => rfl
                  | false => exact absurd (.inr (.inr (.inl hq))) h
      · unfold zD6
        split
        · exact zF9
        · split
          · exact zF9
          · rename_i h
            exact zX2 H (zY5 H _ _) (by simpa using h) _ _
structure OkA (A : List (List Int)) : Prop where
  one : 1 ≤ A.length
  most : A.length ≤ 16
  first : 1 ≤ (A.getD 0 []).length
  all : zB9 A ≤ 4096
  num : ∀ q ∈ A, ∀ x ∈ q, inR .u64 x
theorem zS3 : ∀ (A : List (List Int)) (j : Nat), (len2 A j : Int) ≤ zB9 A
  | [], j => by simp [len2, zB9]
  | q :: A, 0 => by have := zK5 A; simp only [len2, zB9, List.getD_cons_zero]; omega
  | q :: A, j + 1 => by have := zS3 A j; simp only [len2, zB9, List.getD_cons_succ] at this ⊢; omega
theorem qD4 {A : List (List Int)} (h : ∀ q ∈ A, ∀ x ∈ q, inR .u64 x) (seg a : Int) : 0 ≤ (zI3 A seg a).1 ∧ (zI3 A seg a).1 ≤ 18446744073709551615 ∧ 0 ≤ (zI3 A seg a).2 ∧ (zI3 A seg a).2 ≤ 65535 := by
  unfold zI3
  split
  · rename_i hc
    obtain ⟨h1, h2, h3, h4⟩ := hc
    have hs : seg.toNat < A.length := by omega
    have ha : a.toNat < (A.getD seg.toNat []).length := by simp only [len2] at h4; omega
    have hq := h (A.getD seg.toNat []) (by rw [zF5 hs]; exact List.getElem_mem hs) _ (qR2 ha)
    simp only [inR] at hq
    exact ⟨hq.1, hq.2, by show (0 : Int) ≤ 0; decide, by show (0 : Int) ≤ 65535; decide⟩
  · exact ⟨by decide, by decide, by decide, by decide⟩
theorem yN3 {P : Program} {w : World} {u : Value} {A : List (List Int)} {t : TypeId} {fw fs : FuncId} (hr : OkA A) (mw : MethI P t "Word" fw) (ms : MethI P t "Sizes" fs)
    (hw : ∀ w', Grow w w' → ∀ seg a : Int, zC5 P fw #[.agg #[u], .int .i64 seg, .int .i64 a] w' (.tuple #[.int .u64 (zI3 A seg a).1, .int .u16 (zI3 A seg a).2]))
    (hs : ∀ w', Grow w w' → Calls P fs #[.agg #[u]] w' (Ret fun r w2 => ∃ ad c, r = .slice ad A.length c ∧ RowAt w2 1 ad A.length (A.map fun s => .int .i64 (s.length : Int)) ∧ Grow w' w2)) : SrcOk P w (.iface t (.agg #[u])) (zC4 A) := by
  have hl : (zC4 A).sizes.length = A.length := by simp [zC4]
  have hm : (zC4 A).sizes.map (Value.int .i64) = A.map fun s => .int .i64 (s.length : Int) := by simp [zC4, Function.comp_def]
  have h16 := hr.most
  have hall := hr.all
  have hat : ∀ i, i < A.length → (zC4 A).sizes.getD i 0 = (len2 A i : Int) := fun i hi => by
    rw [zF5 (by rw [hl]; exact hi)]
    simp only [zC4, List.getElem_map, len2]
    rw [zF5 hi]
  refine ⟨⟨t, _, fw, rfl, mw, hw⟩, ⟨t, _, fs, rfl, ms, ?_⟩, qD4 hr.num, ?_, by rw [hl]; omega, ?_⟩
  · rw [hl, hm]; exact hs
  · intro seg a h
    simp only [zC4, zI3] at h
    split at h
    · rename_i hc
      have := zS3 A seg.toNat
      rw [hl]
      omega
    · simp at h
  · intro i hi
    rw [hl] at hi
    rw [hat i hi]
    have := zS3 A i
    omega
section
variable {P : Program} {ops : Array Oper} {e : Env} {w w0 : World} {K : Value → World → Prop} {d : Option Nat} {ty : TypeId} {pos : String} {af : Array Edge} {g : Option (Nat × Bool)} {x y z : Operand}
theorem qD5 {v : Value} {s : Src} {at_ : Array TypeId} {seg a : Int} (H : SrcOk P w0 v s) (G : Grow w0 w) (hx : ev e x = v) (hy : ev e y = .int .i64 seg) (hz : ev e z = .int .i64 a)
    (h : ∀ w', Grow w w' → K (.tuple #[.int .u64 (s.word seg a).1, .int .u16 (s.word seg a).2]) w') : Run1 P ⟨d, .call ⟨.invoke x "Word", #[y, z], at_⟩, ty, pos, af, g⟩ e w K := by
  obtain ⟨t, u, f, rfl, hm, hc⟩ := H.word
  refine qI4 (F := fun r w' => r = .tuple #[.int .u64 (s.word seg a).1, .int .u16 (s.word seg a).2] ∧ Grow w w') hm hx ?_ (fun r w' ⟨hr, hg⟩ => by subst hr; exact h w' hg)
  have h0 := hc w G seg a
  unfold zC5 at h0
  rw [show ((u :: (#[y, z] : Array Operand).toList.map (ev e)).toArray) = #[u, .int .i64 seg, .int .i64 a] from by simp [hy, hz]]
  exact h0
theorem yH6 {v : Value} {s : Src} {at_ : Array TypeId} (H : SrcOk P w0 v s) (G : Grow w0 w) (hx : ev e x = v)
    (h : ∀ ad c w', Grow w w' → RowAt w' 1 ad s.sizes.length (s.sizes.map (.int .i64)) → K (.slice ad s.sizes.length c) w') : Run1 P ⟨d, .call ⟨.invoke x "Sizes", #[], at_⟩, ty, pos, af, g⟩ e w K := by
  obtain ⟨t, u, f, rfl, hm, hc⟩ := H.sizes
  refine qI4 (F := fun r w2 => ∃ ad c, r = .slice ad s.sizes.length c ∧ RowAt w2 1 ad s.sizes.length (s.sizes.map (.int .i64)) ∧ Grow w w2) hm hx ?_ (fun r w' ⟨ad, c, hr, hR, hg⟩ => by subst hr; exact h ad c w' hg hR)
  rw [show ((u :: (#[] : Array Operand).toList.map (ev e)).toArray) = #[u] from rfl]
  exact hc w G
end
open Classical in
/-- Memory of which only so many blocks are seen. -/
noncomputable def see (V : Nat → Prop) (w : World) : World := { w with heap := w.heap.mapIdx fun i o => if V i then o else .deferred none }
theorem zT7 {V : Nat → Prop} {k : Nat} {w : World} {cs : Array Value} {T : TypeId} {fr : Nat × Nat} : (see V w).heap[k]? = some (.cells cs T fr) ↔ V k ∧ w.heap[k]? = some (.cells cs T fr) := by
  have h0 : (see V w).heap[k]? = (w.heap[k]?).map fun o => @ite _ (V k) (Classical.propDecidable _) o (.deferred none) := by simp only [see, Array.getElem?_mapIdx]
  rw [h0]
  constructor
  · intro h
    cases hk : w.heap[k]? with
    | none => rw [hk] at h; cases h
    | some o =>
      rw [hk] at h
      simp only [Option.map_some, Option.some.injEq] at h
      split at h
      · subst h; rename_i hv; exact ⟨hv, rfl⟩
      · cases h
  · rintro ⟨h1, h2⟩
    rw [h2, Option.map_some, if_pos h1]
noncomputable abbrev hide (B : Nat) (w : World) : World := see (fun x => B ≤ x) w
def Sees (w w' : World) : Prop := ∀ (b : Nat) (cs : Array Value) (T : TypeId) (fr : Nat × Nat), w.heap[b]? = some (.cells cs T fr) → w'.heap[b]? = some (.cells cs T fr)
theorem Sees.seen (V : Nat → Prop) (w : World) : Sees (see V w) w := fun _ _ _ _ h => (zT7.1 h).2
theorem Sees.more {V V' : Nat → Prop} (w : World) (h : ∀ x, x < w.heap.size → V x → V' x) : Sees (see V w) (see V' w) := fun b _ _ _ x =>
  have y := zT7.1 x
  zT7.2 ⟨h b (zC1 y.2) y.1, y.2⟩
theorem Sees.low {B B' : Nat} (h : B ≤ B') (w : World) : Sees (hide B' w) (hide B w) := Sees.more w fun x _ hx => Nat.le_trans h hx
theorem Sees.kp {F : List Nat} {V : Nat → Prop} {w w' : World} (k : Kp F w w') (hF : ∀ x ∈ F, ¬ V x) : Sees (see V w) (see V w') := fun b _ _ _ x =>
  have h := zT7.1 x
  zT7.2 ⟨h.1, k.heap h.2 fun hm => hF b hm h.1⟩
theorem Sees.grow {V : Nat → Prop} {w w' : World} (g : Grow w w') : Sees (see V w) (see V w') := Sees.kp (F := []) (Kp.of_grow g) (fun x hx => by simp at hx)
theorem Sees.upd {b : Nat} {V : Nat → Prop} {w w' : World} (u : Upd b w w') (hb : ¬ V b) : Sees (see V w) (see V w') := Sees.kp (F := [b]) (Kp.of_upd u (by simp)) (fun x hx => by simp only [List.mem_singleton] at hx; subst hx; exact hb)
theorem vlt {V : Nat → Prop} {B n m : Nat} (h : ∀ x, V x → B ≤ x ∧ x < n) (hn : n ≤ m) : ∀ x, V x → B ≤ x ∧ x < m := fun x hx => ⟨(h x hx).1, Nat.lt_of_lt_of_le (h x hx).2 hn⟩
theorem RowAt.sees {w w' : World} (g : Sees w w') {sz : Nat} {ad : Option Addr} {n : Nat} {xs : List Value} (h : RowAt w sz ad n xs) : RowAt w' sz ad n xs := h.keep fun _ _ _ _ _ hb => g _ _ _ _ hb
theorem Row.sees {w w' : World} (g : Sees w w') {sz : Nat} {v : Value} {n : Nat} {xs : List Value} (h : Row w sz v n xs) : Row w' sz v n xs := by
  obtain ⟨ad, c, h1, h2, h3, h4⟩ := h
  exact ⟨ad, c, h1, h2, h3, h4.sees g⟩
mutual
theorem NodeR.sees {w w' : World} (g : Sees w w') : ∀ {c : List Value} {t : Nd}, NodeR w c t → NodeR w' c t
  | _, _, .mk h1 h2 h3 h4 h5 h6 h7 h8 => .mk h1 h2 (h3.sees g) h4 (h5.sees g) h6 (h7.sees g) (KidsR.sees g h8)
theorem KidsR.sees {w w' : World} (g : Sees w w') : ∀ {c : List Value} {t : List Nd}, KidsR w c t → KidsR w' c t
  | _, _, .nil => .nil
  | _, _, .cons h1 h2 => .cons (NodeR.sees g h1) (KidsR.sees g h2)
end
theorem zY6 {w : World} {base n sz : Nat} {T : TypeId} {v : Value} {xs : List Value} (h : w.ownsRow base T sz v n xs) (hl : n ≤ 140737488355328) : Row (hide base w) sz v n xs := by
  obtain ⟨h1, h2⟩ := h
  rcases h2 with ⟨rfl, rfl⟩ | ⟨g, cap, cur, rfl, hb, hg, hnc, hcm, hcs, ht⟩
  · have : xs = [] := List.eq_nil_of_length_eq_zero (by simpa using h1)
    subst this; exact Row.nil _ sz
  · exact ⟨_, cap, rfl, hnc, hcm, h1, hl, fun _ => ⟨g, 0, cur, T, (0, 0), rfl, zT7.2 ⟨hb, hg⟩, by rw [List.drop_zero]; exact ht⟩⟩
theorem zQ1 {w : World} {base n m : Nat} {T : TypeId} {v : Value} {k : IntKind} {f : Nat → Int} (h : w.ownsRow base T 1 v n ((List.range n).map fun i => .int k (f i))) (hm : n = m) (hl : n ≤ 1000) : Row (hide base w) 1 v ((List.range m).map f).length (((List.range m).map f).map (.int k)) := by
  subst hm
  rw [List.length_map, List.length_range, List.map_map]
  exact zY6 h (by omega)
def Nd.nil : Nd := .mk 0 0 [] [] []
theorem NodeR.zero (w : World) : NodeR w [.int .i64 0, .int .i64 0, .slice none 0 0, .slice none 0 0, .slice none 0 0] Nd.nil :=
  .mk (by simp [inR]) (by simp [inR]) (Row.nil _ _) (by simp) (Row.nil _ _) (by simp) (Row.nil _ _) .nil
/-! ### choices -/
def qZ9 (k : Int) (i : Nat) : Int := IntKind.u8.wrap (k + i)
def yE9 (k : Int) (i : Nat) : Int := IntKind.u64.wrap (IntKind.u64.wrap (k * 81985529216486895) + i)
def qV1 (k : Int) (i : Nat) : Int := IntKind.u64.wrap (IntKind.u64.wrap (k * 2 ^ min (8 * (i : Int)).toNat IntKind.u64.bits) + i)
def zH7 (f : List Int → Nd × List Int) : Nat → List Int → List Nd × List Int
  | 0, c => ([], c)
  | n + 1, c => ((zH7 f n c).1 ++ [(f (zH7 f n c).2).1], (f (zH7 f n c).2).2)
def zE9 : Nat → List Int → Nd × List Int
  | 0, c => (.nil, c)
  | _ + 1, [] => (.nil, [])
  | d + 1, k :: c =>
    if k % 8 = 0 then (.nil, c)
    else if k % 8 = 1 ∨ k % 8 = 2 then (.mk 2 2 [] ((List.range (3 * (k / 8 % 5) + k % 2).toNat).map (qZ9 k)) [], c)
    else if k % 8 = 3 then (.mk 2 5 ((List.range (k / 8 % 5).toNat).map (yE9 k)) [] [], c)
    else if k % 8 > 6 then (.mk 2 6 [] [] (zH7 (zE9 d) (k / 8 % 5).toNat c).1, (zH7 (zE9 d) (k / 8 % 5).toNat c).2)
    else (.mk 1 0 ((List.range (k / 64).toNat).map (qV1 k)) [] (zH7 (zE9 d) (k / 8 % 5).toNat c).1, (zH7 (zE9 d) (k / 8 % 5).toNat c).2)
theorem yH7 {d : Nat} {xs : List Int} (h : xs = [] ∨ d = 0) : zE9 d xs = (.nil, xs) := by
  match d, xs, h with
  | 0, xs, _ => simp [zE9]
  | d + 1, [], _ => simp [zE9]
  | d + 1, x :: xs, h => rcases h with h | h <;> simp at h
theorem yF0 (n : Int) : inR .u8 (IntKind.u8.wrap n) := by simp only [inR, IntKind.wrap_u8]; omega
theorem qV2 (n : Int) : inR .u64 (IntKind.u64.wrap n) := by simp only [inR, IntKind.wrap_u64]; omega
theorem zY7 {f : List Int → Nd × List Int} {Q : List Int → Prop} (hf : ∀ c, Q c → Q (f c).2) : ∀ (n : Nat) (c : List Int), Q c → Q (zH7 f n c).2
  | 0, c, h => h
  | n + 1, c, h => hf _ (zY7 hf n c h)
theorem qF5 {Q : Int → Prop} : ∀ (d : Nat) (c : List Int), (∀ x ∈ c, Q x) → ∀ x ∈ (zE9 d c).2, Q x
  | 0, c, h => by simpa [zE9] using h
  | d + 1, [], h => by simp [zE9]
  | d + 1, k :: c, h => by
    have hc : ∀ x ∈ c, Q x := fun x hx => h x (by simp [hx])
    have ht := zY7 (f := zE9 d) (Q := fun c => ∀ x ∈ c, Q x) (fun c hq => qF5 d c hq) (k / 8 % 5).toNat c hc
    simp only [zE9]
    split
    · exact hc
    · split
      · exact hc
      · split
        · exact hc
        · split <;> exact ht
theorem qA7 {Q : Int → Prop} (d n : Nat) (c : List Int) (h : ∀ x ∈ c, Q x) : ∀ x ∈ (zH7 (zE9 d) n c).2, Q x :=
  zY7 (f := zE9 d) (Q := fun c => ∀ x ∈ c, Q x) (fun c hq => qF5 d c hq) n c h
theorem zP0 (f : List Int → Nd × List Int) : ∀ (n : Nat) (c : List Int), (zH7 f n c).1.length = n
  | 0, _ => rfl
  | n + 1, c => by simp [zH7, zP0 f n c]
/-! ### what choices make may be -/
theorem qN7 {left : Nat} : ∀ {ks : List Nd}, Nd.rights ks left = true ↔ ∀ t ∈ ks, t.right left = true
  | [] => by simp [Nd.rights]
  | t :: ts => by simp only [Nd.rights, Bool.and_eq_true, qN7 (ks := ts), List.mem_cons, forall_eq_or_imp]
theorem qK1 (l : Nat) : Nd.nil.right l = true := by simp [Nd.nil, Nd.right, Nd.own, Nd.rights]
theorem qN8 {f : List Int → Nd × List Int} {Q : List Int → Prop} {R : Nd → Prop} (hf : ∀ c, Q c → Q (f c).2 ∧ R (f c).1) : ∀ (n : Nat) (c : List Int), Q c → ∀ t ∈ (zH7 f n c).1, R t
  | 0, c, h => by simp [zH7]
  | n + 1, c, h => by
    have h2 := zY7 (f := f) (Q := Q) (fun c hc => (hf c hc).1) n c h
    intro t ht
    simp only [zH7, List.mem_append, List.mem_singleton] at ht
    rcases ht with ht | rfl
    · exact qN8 hf n c h t ht
    · exact (hf _ h2).2
def isU8 (c : List Int) : Prop := ∀ x ∈ c, inR .u8 x
theorem qK2 : ∀ (d : Nat) (c : List Int) (l : Nat), d ≤ l → isU8 c → (zE9 d c).1.right l = true
  | 0, c, l, _, _ => by simp [zE9, qK1]
  | d + 1, [], l, _, _ => by simp [zE9, qK1]
  | d + 1, k :: c, l, hl, hc => by
    have hk := hc k (by simp)
    simp only [inR] at hk
    have hcc : isU8 c := fun x hx => hc x (by simp [hx])
    have hr : Nd.rights (zH7 (zE9 d) (k / 8 % 5).toNat c).1 (l - 1) = true := qN7.2 (qN8 (f := zE9 d) (Q := isU8) (R := fun t => t.right (l - 1) = true) (fun c hq => ⟨qF5 d c hq, qK2 d c (l - 1) (by omega) hq⟩) _ c hcc)
    have hn := zP0 (zE9 d) (k / 8 % 5).toNat c
    have hl0 : ¬ l = 0 := by omega
    simp only [zE9]
    split
    · exact qK1 l
    · split
      · simp [Nd.right, Nd.rights, Nd.own, hl0]; omega
      · split
        · simp [Nd.right, Nd.rights, Nd.own, hl0]; omega
        · split
          · simp only [Nd.right, hr, Nd.own, Bool.and_true]
            simp [hl0]; omega
          · simp only [Nd.right, hr, Nd.own, Bool.and_true]
            simp [hl0]; split <;> omega
theorem qK3 : ∀ (d : Nat) (c : List Int), isU8 c → (zE9 d c).1.needs + 7 * ((zE9 d c).2.length : Int) ≤ 7 * c.length
  | 0, c, _ => by simp [zE9, Nd.nil, Nd.needs, Nd.needsL, Nd.need]
  | d + 1, [], _ => by simp [zE9, Nd.nil, Nd.needs, Nd.needsL, Nd.need]
  | d + 1, k :: c, hc => by
    have hk := hc k (by simp)
    simp only [inR] at hk
    have hcc : isU8 c := fun x hx => hc x (by simp [hx])
    have key : ∀ (n : Nat) (c : List Int), isU8 c → Nd.needsL (zH7 (zE9 d) n c).1 + 7 * ((zH7 (zE9 d) n c).2.length : Int) ≤ 7 * c.length := by
      intro n
      induction n with
      | zero => intro c _; simp [zH7, Nd.needsL]
      | succ n ih =>
        intro c hq
        have h1 := ih c hq
        have h2 := qK3 d (zH7 (zE9 d) n c).2 (qA7 d n c hq)
        simp only [zH7, qD0, Nd.needsL]
        omega
    have hs := key (k / 8 % 5).toNat c hcc
    have hn := zP0 (zE9 d) (k / 8 % 5).toNat c
    simp only [zE9]
    split
    · simp [Nd.nil, Nd.needs, Nd.needsL, Nd.need]; omega
    · split
      · simp [Nd.needs, Nd.needsL, Nd.need]; omega
      · split
        · simp [Nd.needs, Nd.needsL, Nd.need]; omega
        · split
          · simp only [Nd.needs, Nd.need, List.length_nil, List.length_cons, hn]; simp only [show ¬ ((2 : Int) = 1) from by decide, if_false, if_true]; omega
          · simp only [Nd.needs, Nd.need, List.length_map, List.length_range, List.length_cons, hn, if_true]; omega
/-! ### in one segment -/
theorem jB7 (s l : List Int) : zI9 [s] 0 l = [s ++ l] := by simp [zI9, growB]
theorem jB8 (s : List Int) (i : Nat) (x : Int) : setP [s] 0 i x = [s.set i x] := by simp [setP]
theorem jD2 {size : Int} {s : List Int} (h1 : (s.length : Int) ≤ size) (h2 : s.length ≤ 4096) : qQ7 size [s] 0 = false := by
  simp [qQ7, len2, zB9]; omega
mutual
theorem Nd.lay_one (size : Int) : ∀ (t : Nd) (s : List Int) (i : Nat), t.fine → i < s.length → (s.length : Int) + t.needs ≤ size → (s.length : Int) + t.needs ≤ 4096 →
    ∃ s', t.lay size ⟨[s], false⟩ 0 i = ⟨[s'], false⟩ ∧ (s'.length : Int) = s.length + t.needs
  | .mk k z w b ks, s, i, hR, hi, h1, h2 => by
    obtain ⟨hkd, hlw, hlb, hlk, hnn, hnm, hkn, hb1⟩ := Nd.own_b (Nd.fine_own hR)
    have hnl := Nd.needsL_nn ks
    simp only [Nd.needs] at h1 h2
    simp only [Nd.lay, Bool.false_eq_true, or_false]
    by_cases hk : k = 0
    · have hks : ks = [] := qI2 (Nd.fine_own hR) (by omega)
      subst hks
      rw [if_pos hk]
      exact ⟨s, rfl, by simp [Nd.needs, Nd.need, hk, Nd.needsL]⟩
    · rw [if_neg hk]
      by_cases hn : (Nd.mk k z w b ks).need = 0
      · rw [if_pos hn, jB8]
        have hks : ks = [] := List.eq_nil_of_length_eq_zero (by have := hkn hk; omega)
        subst hks
        exact ⟨_, rfl, by rw [List.length_set]; simp [Nd.needs, hn, Nd.needsL]⟩
      · rw [if_neg hn]
        have hp : zC6 size (.mk k z w b ks) ⟨[s], false⟩ 0 i = ⟨⟨[s.set i ((Nd.mk k z w b ks).near ((s.length : Int) - i - 1))], false⟩, 0, s.length⟩ := by
          unfold zC6
          rw [if_pos (by refine ⟨rfl, ?_⟩; show ((s.length : Nat) : Int) + _ ≤ _; omega)]
          show (⟨⟨setP [s] 0 i _, false⟩, 0, _⟩ : Plc) = _
          rw [jB8]
          rfl
        have hco : ((Nd.mk k z w b ks).content.length : Int) = (Nd.mk k z w b ks).need := Nd.content_length _ (by simp only [Nd.kind]; omega) (by simpa only [Nd.kind, Nd.bytes] using hb1)
        rw [hp]
        have hm : zG8 size ⟨[s.set i ((Nd.mk k z w b ks).near ((s.length : Int) - i - 1))], false⟩ 0 (Nd.mk k z w b ks).content = ⟨[s.set i ((Nd.mk k z w b ks).near ((s.length : Int) - i - 1)) ++ (Nd.mk k z w b ks).content], false⟩ := by
          simp only [zG8, jB7, Bool.false_or]
          rw [jD2 (by rw [List.length_append, List.length_set]; omega) (by rw [List.length_append, List.length_set]; omega)]
        simp only [hm]
        obtain ⟨s', h3, h4⟩ := Nd.lays_one size ks (s.set i ((Nd.mk k z w b ks).near ((s.length : Int) - i - 1)) ++ (Nd.mk k z w b ks).content) (s.length + ((Nd.mk k z w b ks).need.toNat - ks.length)) (fun j hj => Nd.fine_kid hR hj)
          (by rw [List.length_append, List.length_set]; have := hkn hk; omega) (by rw [List.length_append, List.length_set]; omega) (by rw [List.length_append, List.length_set]; omega)
        refine ⟨s', h3, ?_⟩
        rw [h4, List.length_append, List.length_set]
        simp only [Nd.needs]
        omega
theorem Nd.lays_one (size : Int) : ∀ (ts : List Nd) (s : List Int) (i : Nat), (∀ (j : Nat) (h : j < ts.length), ts[j].fine) → i + ts.length ≤ s.length → (s.length : Int) + Nd.needsL ts ≤ size → (s.length : Int) + Nd.needsL ts ≤ 4096 →
    ∃ s', Nd.lays size ts ⟨[s], false⟩ 0 i = ⟨[s'], false⟩ ∧ (s'.length : Int) = s.length + Nd.needsL ts
  | [], s, i, _, _, _, _ => ⟨s, rfl, by simp [Nd.needsL]⟩
  | t :: ts, s, i, hR, hi, h1, h2 => by
    have ha := Nd.needs_nn t
    have hb := Nd.needsL_nn ts
    simp only [Nd.needsL, List.length_cons] at h1 h2 hi
    obtain ⟨s1, h3, h4⟩ := Nd.lay_one size t s i (hR 0 (by simp)) (by omega) (by omega) (by omega)
    obtain ⟨s2, h5, h6⟩ := Nd.lays_one size ts s1 (i + 1) (fun j hj => by have := hR (j + 1) (by simpa using hj); simpa using this) (by omega) (by omega) (by omega)
    refine ⟨s2, by simp only [Nd.lays, h3, h5], ?_⟩
    simp only [Nd.needsL]
    omega
end
theorem Nd.build_one {t : Nd} {size : Int} (hR : t.right 32 = true) (h1 : 1 + t.needs ≤ size) (h2 : size ≤ 4096) : ∃ s, t.build size = ([s], 0) ∧ (s.length : Int) = 1 + t.needs := by
  have hn := Nd.needs_nn t
  obtain ⟨s, h3, h4⟩ := Nd.lay_one size t [0] 0 ⟨32, hR⟩ (by simp) (by simpa using h1) (by simp; omega)
  refine ⟨s, ?_, by simpa using h4⟩
  unfold Nd.build
  rw [if_neg (by rw [hR]; simp; omega), h3, if_neg (by simp)]
theorem Nd.build_fit {t : Nd} {size : Int} (h : (t.build size).2 = 0) : Fit size (t.build size).1 := by
  unfold Nd.build at h ⊢
  split
  · rename_i hc; rw [if_pos hc] at h; simp at h
  · rename_i hc
    rw [if_neg hc] at h
    split
    · rename_i hf; rw [if_pos hf] at h; simp at h
    · rename_i hf
      have hf : (t.lay size ⟨[[0]], false⟩ 0 0).full = false := by simpa using hf
      exact (t.lay_ok size ⟨[[0]], false⟩ 0 0 (by simp)).fit (Fit.init (by omega)) hf
/-! ### one in the other -/
/-! ### things without words -/
def zT8 : List (List Int) := [[4294967296, 7]]
theorem qV3 : (Nd.mk 1 0 [7] [] []).build 9 = (zT8, 0) := by decide +kernel
/-! ### jD3 -/
theorem jB9 {w : World} {b : Nat} {u : Value} {q : List Int} {T : TypeId} {fr : Nat × Nat} (hb : w.heap[b]? = some (.cells #[u] T fr)) (hu : Row w 1 u q.length (zI7 q)) : zG1 w (.slice (some ⟨b, 0, none⟩) 1 1) [q] := by
  refine ⟨[u], Row.of_block (n := 1) hb rfl rfl (by decide), fun i s hi => ?_⟩
  cases i with
  | zero => simp only [List.getElem?_cons_zero, Option.some.injEq] at hi; subst hi; exact ⟨u, rfl, hu⟩
  | succ i => simp at hi
/-! ### decoding -/
def zP7 (s : Src) (seg a : Int) (n : Nat) : List Int := (List.range n).map fun (i : Nat) => (s.word seg (a + (i : Int))).1
def byt1 (x : Int) (i : Nat) : Int := x / 2 ^ (8 * i) % 256
def byt8 (x : Int) : List Int := (List.range 8).map (byt1 x)
def qK4 (s : Src) (seg a : Int) (n : Nat) : List Int := ((zP7 s seg a ((n + 7) / 8)).flatMap byt8).take n
theorem zK4 (s : Src) (seg a : Int) (n : Nat) : (zP7 s seg a n).length = n := by simp [zP7]
theorem yA0 (s : Src) (seg a : Int) (n : Nat) : zP7 s seg a (n + 1) = zP7 s seg a n ++ [(s.word seg (a + (n : Int))).1] := by simp [zP7, List.range_succ]
theorem qR3 (x : Int) : (byt8 x).length = 8 := by simp [byt8]
theorem qK5 (l : List Int) : (l.flatMap byt8).length = 8 * l.length := by
  induction l with
  | nil => rfl
  | cons x l ih => rw [List.flatMap_cons, List.length_append, ih, qR3, List.length_cons]; omega
theorem yH8 (s : Src) (seg a : Int) (n : Nat) : (qK4 s seg a n).length = n := by
  rw [qK4, List.length_take, qK5, zK4]; omega
theorem yH9 (x : Int) (i : Nat) : 0 ≤ byt1 x i ∧ byt1 x i ≤ 255 := by unfold byt1; omega
theorem yN4 (s : Src) (seg a : Int) (n : Nat) : ∀ x ∈ qK4 s seg a n, inR .u8 x := by
  intro x hx
  obtain ⟨y, -, hy⟩ := List.mem_flatMap.1 (List.mem_of_mem_take hx)
  obtain ⟨i, -, rfl⟩ := List.mem_map.1 hy
  have := yH9 y i
  simp only [inR]; omega
theorem qN9 {P : Program} {w : World} {v : Value} {s : Src} (H : SrcOk P w v s) (seg a : Int) (n : Nat) : ∀ x ∈ zP7 s seg a n, inR .u64 x := by
  intro x hx
  obtain ⟨i, -, rfl⟩ := List.mem_map.1 hx
  have := H.num seg (a + i)
  simp only [inR]; omega
theorem yS5 (x : Int) (k : Nat) (h0 : 0 ≤ x) (h1 : x ≤ 18446744073709551615) (hk : k ≤ 7) : IntKind.u8.wrap (x / 2 ^ min (8 * (k : Int)).toNat (IntKind.bits .u64)) = byt1 x k := by
  have e : min (8 * (k : Int)).toNat (IntKind.bits .u64) = 8 * k := by show min _ 64 = _; omega
  rw [e, IntKind.wrap_u8, byt1]
def putCells (x : Int) (k : Nat) : List Value := ((List.range k).map fun i => .int .u8 (byt1 x i)) ++ List.replicate (8 - k) (.int .u8 0)
theorem qV4 (x : Int) (k : Nat) (hk : k < 8) : (putCells x k).set k (.int .u8 (byt1 x k)) = putCells x (k + 1) := by
  have hr : 8 - k = (8 - (k + 1)) + 1 := by omega
  unfold putCells
  rw [hr, List.replicate_succ, List.set_append_right _ _ (by simp)]
  simp [List.range_succ]
theorem qV5 (x : Int) (k : Nat) (hk : k ≤ 8) : (putCells x k).length = 8 := by simp [putCells]; omega
theorem qV6 (x : Int) : putCells x 8 = (byt8 x).map (.int .u8) := by simp [putCells, byt8, Function.comp_def]
theorem qM1 {w : World} {base n : Nat} {T : TypeId} {v : Value} {k : IntKind} {xs : List Int} (h : w.ownsRow base T 1 v n (xs.map (.int k))) (hm : xs.length = n) (hl : n ≤ 140737488355328) : Row (hide base w) 1 v n (xs.map (.int k)) := by
  subst hm
  exact zY6 h hl
theorem own_made' {w : World} {base b n : Nat} {T : TypeId} {xs : List Value} (h : w.ownsRow base T 1 (.slice (some ⟨b, 0, none⟩) n n) n xs) : base ≤ b ∧ ∃ cur : Array Value, w.heap[b]? = some (.cells cur T (0, 0)) ∧ cur.size = n ∧ cur.toList = xs := by
  obtain ⟨h0, h1⟩ := h
  rcases h1 with ⟨h1, -⟩ | ⟨q, cap, cur, hv, hq, hg, h1, h2, h3, h4⟩
  · simp at h1
  · simp only [Value.slice.injEq, Option.some.injEq, Addr.mk.injEq, and_true, true_and] at hv
    obtain ⟨rfl, rfl⟩ := hv
    refine ⟨hq, cur, hg, by omega, ?_⟩
    rw [← h4, List.take_of_length_le (by rw [Array.length_toList]; omega)]
def kidN (o : Ob) : Int := if o.size = 6 then o.count else o.ptrs
def kidA (o : Ob) : Int := if o.size = 6 then o.at_ else o.at_ + o.data
def nodL (s : Src) (o : Ob) : List Int := zP7 s o.seg o.at_ (if o.size = 5 then o.count else o.data).toNat
def nodB (s : Src) (o : Ob) : List Int := if o.size = 2 then qK4 s o.seg o.at_ o.count.toNat else []
def zI6 (f : Int → Int → Int × Nd × Int) (a p : Int) : Nat → Int × List Nd × Int
  | 0 => (p, [], 0)
  | n + 1 => if (zI6 f a p n).2.2 ≠ 0 then zI6 f a p n
    else ((f (a + (n : Int)) (zI6 f a p n).1).1, (zI6 f a p n).2.1 ++ [(f (a + (n : Int)) (zI6 f a p n).1).2.1], (f (a + (n : Int)) (zI6 f a p n).1).2.2)
def qK6 (s : Src) (last : Bool) (f : Int → Int → Int → Int × Nd × Int) (seg a paid : Int) : Int × Nd × Int :=
  if (zA0 s seg a).2 ≠ 0 then (paid, .nil, (zA0 s seg a).2)
  else if (zA0 s seg a).1.kind ≠ 0 ∧ last = true then (paid + (1 + zD8 (zA0 s seg a).1), .nil, 21)
  else if paid + (1 + zD8 (zA0 s seg a).1) > 8192 then (paid + (1 + zD8 (zA0 s seg a).1), .nil, 22)
  else if (zI6 (f (zA0 s seg a).1.seg) (kidA (zA0 s seg a).1) (paid + (1 + zD8 (zA0 s seg a).1)) (kidN (zA0 s seg a).1).toNat).2.2 ≠ 0 then
    ((zI6 (f (zA0 s seg a).1.seg) (kidA (zA0 s seg a).1) (paid + (1 + zD8 (zA0 s seg a).1)) (kidN (zA0 s seg a).1).toNat).1, .nil, (zI6 (f (zA0 s seg a).1.seg) (kidA (zA0 s seg a).1) (paid + (1 + zD8 (zA0 s seg a).1)) (kidN (zA0 s seg a).1).toNat).2.2)
  else ((zI6 (f (zA0 s seg a).1.seg) (kidA (zA0 s seg a).1) (paid + (1 + zD8 (zA0 s seg a).1)) (kidN (zA0 s seg a).1).toNat).1,
    .mk (zA0 s seg a).1.kind (zA0 s seg a).1.size (nodL s (zA0 s seg a).1) (nodB s (zA0 s seg a).1) (zI6 (f (zA0 s seg a).1.seg) (kidA (zA0 s seg a).1) (paid + (1 + zD8 (zA0 s seg a).1)) (kidN (zA0 s seg a).1).toNat).2.1, 0)
def zK2 (s : Src) : Nat → Int → Int → Int → Int × Nd × Int
  | 0, seg, a, paid => qK6 s true (fun _ _ p => (p, .nil, 0)) seg a paid
  | d + 1, seg, a, paid => qK6 s false (fun seg a p => zK2 s d seg a p) seg a paid
def qM2 (s : Src) : Nat → Int → Int → Int → Int × Nd × Int
  | 0 => fun _ _ p => (p, .nil, 0)
  | d + 1 => zK2 s d
theorem qR4 (s : Src) (d : Nat) (seg a paid : Int) : zK2 s d seg a paid = qK6 s (d == 0) (qM2 s d) seg a paid := by
  cases d with
  | zero => rfl
  | succ d => rfl
theorem qO0 {f : Int → Int → Int × Nd × Int} {a p : Int} {k : Nat} (h : (zI6 f a p k).2.2 ≠ 0) : ∀ (n : Nat), zI6 f a p (k + n) = zI6 f a p k
  | 0 => rfl
  | n + 1 => by
    rw [← Nat.add_assoc, zI6, qO0 h n, if_pos h]
theorem kidsD_stop' {f : Int → Int → Int × Nd × Int} {a p : Int} {k n : Nat} (h : (zI6 f a p k).2.2 ≠ 0) (hk : k ≤ n) : zI6 f a p n = zI6 f a p k := by
  obtain ⟨m, rfl⟩ := Nat.exists_eq_add_of_le hk
  exact qO0 h m
theorem qK7 {f : Int → Int → Int × Nd × Int} {a p : Int} : ∀ (n : Nat), (zI6 f a p n).2.2 = 0 → (zI6 f a p n).2.1.length = n
  | 0, _ => rfl
  | n + 1, h => by
    rw [zI6] at h ⊢
    by_cases h0 : (zI6 f a p n).2.2 ≠ 0
    · rw [if_pos h0] at h; exact absurd h h0
    · rw [if_neg h0]
      rw [List.length_append, qK7 n (by simpa using h0)]; rfl
def ObK (o : Ob) : Prop := o = Ob0 ∨ (o.kind = 1 ∧ o.size = 0 ∧ o.count = 0) ∨ (o.kind = 2 ∧ o.data = 0 ∧ o.ptrs = 0 ∧ (o.size = 2 ∨ o.size = 5 ∨ o.size = 6))
theorem yN5 (x : Int) : ((decP x).kind = 1 → (decP x).size = 0 ∧ (decP x).count = 0) ∧ ((decP x).kind = 2 → (decP x).data = 0 ∧ (decP x).ptrs = 0) := by
  unfold decP
  repeat' split
  all_goals simp [Pt0]
theorem zX3 (k f d p z c s : Int) (b : Bool) : zI4 ⟨k, f, d, p, z, c, s, b⟩ = if k = 0 then 0 else if k = 1 then 0 else if k = 3 then 0 else if k = 2 then (if z = 2 then 0 else if z = 5 ∨ z = 6 then 0 else 23) else 23 := rfl
theorem zT9 (k f d p z c s : Int) (b : Bool) : zH4 ⟨k, f, d, p, z, c, s, b⟩ = if k = 0 then 0 else if k = 1 then IntKind.i64.wrap (d + p) else if k = 3 then (if b then 2 else 1)
  else if k = 2 then (if z = 2 then IntKind.i64.wrap ((IntKind.i64.wrap (IntKind.i64.wrap (c + 8) - 1)).tdiv 8) else if z = 5 ∨ z = 6 then c else 0) else 0 := rfl
theorem qA8 (s : Src) (x : Int) (hn : zK1 (decP x) = true) (seg a : Int) : ObK (zB5 s (decP x) seg a).1 := by
  obtain ⟨h1, h2⟩ := yN5 x
  have hk : (decP x).kind = 1 ∨ (decP x).kind = 2 := by simpa [zK1] using hn
  unfold zB5
  split
  · exact .inl rfl
  · rename_i he
    split
    · exact .inl rfl
    · rcases hk with hk | hk
      · exact .inr (.inl ⟨hk, (h1 hk).1, (h1 hk).2⟩)
      · refine .inr (.inr ⟨hk, (h2 hk).1, (h2 hk).2, ?_⟩)
        have he2 : ¬ zI4 ⟨(decP x).kind, 0, (decP x).data, (decP x).ptrs, (decP x).size, (decP x).count, 0, false⟩ ≠ 0 := he
        clear he
        have he := he2
        rw [zX3] at he
        rw [if_neg (by omega), if_neg (by omega), if_neg (by omega), if_pos hk] at he
        show (decP x).size = 2 ∨ (decP x).size = 5 ∨ (decP x).size = 6
        split at he
        · rename_i h; exact .inl h
        · split at he
          · rename_i h; exact .inr h
          · exact absurd (show (23 : Int) ≠ 0 by decide) he
theorem yF1 (s : Src) (seg a : Int) : ∃ x, (ptrS s seg a).1 = decP x := by
  unfold ptrS
  split
  · exact ⟨0, rfl⟩
  · exact ⟨_, rfl⟩
theorem zX4 (s : Src) (seg a : Int) : ObK (zA0 s seg a).1 := by
  obtain ⟨x, hx⟩ := yF1 s seg a
  unfold zA0
  split
  · exact .inl rfl
  · split
    · rename_i h
      rw [hx] at h ⊢
      exact qA8 s x h _ _
    · split
      · unfold zD9
        split
        · exact .inl rfl
        · split
          · exact .inl rfl
          · split
            · exact .inl rfl
            · split
              · exact .inl rfl
              · split
                · exact .inl rfl
                · rename_i h
                  refine qA8 s _ ?_ _ _
                  cases hq : zK1 (decP (s.word (ptrS s seg a).1.seg ((ptrS s seg a).1.off + 1)).1) with
                  | true => rfl
                  | false => exact absurd (.inr (.inr (.inl hq))) h
      · unfold zD6
        obtain ⟨y, hy⟩ := yF1 s (ptrS s seg a).1.seg (ptrS s seg a).1.off
        split
        · exact .inl rfl
        · split
          · exact .inl rfl
          · rename_i h
            rw [hy] at h ⊢
            exact qA8 s y (by simpa using h) _ _
theorem yS6 {o : Ob} (ho : ObR o) (hk : ObK o) (hw : zD8 o ≤ 8191) : o.data ≤ 8191 ∧ o.ptrs ≤ 8191 ∧ (o.size = 5 → o.count ≤ 8191) ∧ (o.size = 2 → o.count ≤ 65528) ∧ 0 ≤ kidN o ∧ kidN o ≤ 8191 := by
  obtain ⟨r1, r2, r3, r4, r5, r6, r7⟩ := ho
  rcases hk with rfl | ⟨h1, h2, h3⟩ | ⟨h1, h2, h3, h4⟩
  · simp [Ob0, kidN]
  · have hv : zD8 o = o.data + o.ptrs := by
      unfold zD8
      rw [if_neg (by omega)]
      unfold Ob.pt
      rw [zT9]
      rw [if_neg (by omega), if_pos h1, zJ6 (by simp only [inR]; omega)]
    unfold kidN
    rw [if_neg (by omega)]
    omega
  · have hv : (o.size = 2 → zD8 o = (o.count + 7) / 8) ∧ (o.size ≠ 2 → zD8 o = o.count) := by
      unfold zD8
      rw [if_neg (by omega)]
      unfold Ob.pt
      rw [zT9]
      rw [if_neg (by omega), if_neg (by omega), if_neg (by omega), if_pos h1]
      refine ⟨fun h => ?_, fun h => ?_⟩
      · rw [if_pos h, zJ6 (by simp only [inR]; omega : inR .i64 (o.count + 8)), zJ6 (by simp only [inR]; omega : inR .i64 (o.count + 8 - 1)), Int.tdiv_eq_ediv_of_nonneg (by omega), zJ6 (by simp only [inR]; omega : inR .i64 ((o.count + 8 - 1) / 8))]
        congr 1
        omega
      · rw [if_neg h, if_pos (by omega)]
    obtain ⟨v1, v2⟩ := hv
    unfold kidN
    refine ⟨by omega, by omega, fun h => by have := v2 (by omega); omega, fun h => by have := v1 h; omega, ?_⟩
    split
    · have := v2 (by omega); omega
    · omega
theorem qO1 {f : Int → Int → Int × Nd × Int} (hf : ∀ a p, 0 ≤ p → p ≤ 8192 → 0 ≤ (f a p).1 ∧ (f a p).1 ≤ 1000000000 ∧ ((f a p).2.2 = 0 → (f a p).1 ≤ 8192)) {a p : Int} (h0 : 0 ≤ p) (h1 : p ≤ 8192) : ∀ n, 0 ≤ (zI6 f a p n).1 ∧ (zI6 f a p n).1 ≤ 1000000000 ∧ ((zI6 f a p n).2.2 = 0 → (zI6 f a p n).1 ≤ 8192)
  | 0 => ⟨h0, by show p ≤ _; omega, fun _ => h1⟩
  | n + 1 => by
    obtain ⟨i1, i2, i3⟩ := qO1 hf (a := a) h0 h1 n
    rw [zI6]
    by_cases h : (zI6 f a p n).2.2 ≠ 0
    · rw [if_pos h]; exact ⟨i1, i2, i3⟩
    · rw [if_neg h]
      exact hf _ _ i1 (i3 (by simpa using h))
theorem yI0 {P : Program} {w : World} {v : Value} {s : Src} (H : SrcOk P w v s) : ∀ (d : Nat) (seg a p : Int), 0 ≤ p → p ≤ 8192 → 0 ≤ (zK2 s d seg a p).1 ∧ (zK2 s d seg a p).1 ≤ 1000000000 ∧ ((zK2 s d seg a p).2.2 = 0 → (zK2 s d seg a p).1 ≤ 8192) := by
  have step : ∀ (d : Nat) (seg a p : Int), (∀ seg a p, 0 ≤ p → p ≤ 8192 → 0 ≤ (qM2 s d seg a p).1 ∧ (qM2 s d seg a p).1 ≤ 1000000000 ∧ ((qM2 s d seg a p).2.2 = 0 → (qM2 s d seg a p).1 ≤ 8192)) → 0 ≤ p → p ≤ 8192 → 0 ≤ (zK2 s d seg a p).1 ∧ (zK2 s d seg a p).1 ≤ 1000000000 ∧ ((zK2 s d seg a p).2.2 = 0 → (zK2 s d seg a p).1 ≤ 8192) := by
    intro d seg a p hf h0 h1
    obtain ⟨w0, w1⟩ := zM7 (zV4 H seg a)
    rw [qR4]
    unfold qK6
    split
    · exact ⟨h0, by show p ≤ _; omega, fun _ => h1⟩
    · split
      · exact ⟨by simp only []; omega, by simp only []; omega, fun h => by simp at h⟩
      · split
        · exact ⟨by simp only []; omega, by simp only []; omega, fun h => by simp at h⟩
        · rename_i hp
          obtain ⟨k1, k2, k3⟩ := qO1 (hf (zA0 s seg a).1.seg) (a := kidA (zA0 s seg a).1) (p := p + (1 + zD8 (zA0 s seg a).1)) (by omega) (by omega) (kidN (zA0 s seg a).1).toNat
          split
          · rename_i he
            exact ⟨k1, k2, fun h => absurd h he⟩
          · rename_i he
            exact ⟨k1, k2, fun _ => k3 (by simpa using he)⟩
  intro d
  induction d with
  | zero => exact fun seg a p => step 0 seg a p (fun seg a p h0 h1 => ⟨h0, by show p ≤ _; omega, fun _ => h1⟩)
  | succ d ih => exact fun seg a p => step (d + 1) seg a p (fun seg a p h0 h1 => ih seg a p h0 h1)
theorem yS7 {P : Program} {w : World} {v : Value} {s : Src} (H : SrcOk P w v s) (o : Ob) : ∀ x ∈ nodL s o, inR .u64 x := qN9 H _ _ _
theorem yY7 (s : Src) (o : Ob) : ∀ x ∈ nodB s o, inR .u8 x := by
  unfold nodB
  split
  · exact yN4 _ _ _ _
  · intro x hx; simp at hx
theorem yS8 {o : Ob} {d : Nat} {j : Nat} (hok : ObK o) (h2 : ¬ (o.kind ≠ 0 ∧ (d == 0) = true)) (hj : (j : Int) < kidN o) : ∃ e, d = e + 1 := by
  cases d with
  | succ e => exact ⟨e, rfl⟩
  | zero =>
    exfalso
    have h0 : o.kind = 0 := by
      by_cases h : o.kind = 0
      · exact h
      · exact absurd ⟨h, rfl⟩ h2
    rcases hok with rfl | h | h
    · simp [kidN, Ob0] at hj; omega
    · omega
    · omega
/-! ### memory -/
theorem Kp.upd_new {F : List Nat} {w w1 w2 : World} {b : Nat} (K : Kp F w w1) (u : Upd b w1 w2) (hb : w.heap.size ≤ b) : Kp F w w2 := K.trans (Kp.of_upd u (List.mem_singleton.2 rfl)) fun x hx => by simp only [List.mem_singleton] at hx; subst hx; exact .inr hb
theorem jC0 {F : List Nat} {w w' : World} {base n sz : Nat} {T : TypeId} {v : Value} {xs : List Value} (h : w.ownsRow base T sz v n xs) (k : Kp F w w') (hF : ∀ x ∈ F, x < base) : w'.ownsRow base T sz v n xs := by
  refine ⟨h.1, ?_⟩
  rcases h.2 with hn | ⟨q, cap, cur, rfl, hb, hg, rest⟩
  · exact .inl hn
  · exact .inr ⟨q, cap, cur, rfl, hb, k.heap hg (fun hm => by have := hF q hm; omega), rest⟩
/-! ### any arena -/
def zC9 (A : List (List Int)) : List Int := A.map fun s => (s.length : Int)
theorem zM8 (A : List (List Int)) : (zC9 A).length = A.length := by simp [zC9]
theorem zR1 (A : List (List Int)) (i : Nat) : (zC9 A).getD i 0 = (len2 A i : Int) := by
  by_cases hi : i < A.length
  · rw [zF5 (by rw [zM8]; exact hi)]
    simp only [zC9, List.getElem_map, len2]
    rw [zF5 hi]
  · rw [zR0 (by omega), List.getD_eq_getElem?_getD, List.getElem?_eq_none (by rw [zM8]; omega)]
    rfl
theorem yA1 {A : List (List Int)} {k : Nat} (h : k < A.length) : zC9 (A.take (k + 1)) = zC9 (A.take k) ++ [(len2 A k : Int)] := by
  simp only [zC9, len2]
  rw [List.take_add_one, List.getElem?_eq_getElem h, List.map_append, zF5 h]
  rfl
def zG0 (A : List (List Int)) : Bool := decide (1 ≤ A.length ∧ A.length ≤ 16 ∧ 1 ≤ len2 A 0 ∧ zB9 A ≤ 4096)
theorem yN6 {A : List (List Int)} (h : zG0 A = true) (hx : ∀ q ∈ A, ∀ x ∈ q, inR .u64 x) : OkA A := by
  unfold zG0 at h
  obtain ⟨h1, h2, h3, h4⟩ := qT h
  exact ⟨h1, h2, h3, h4, hx⟩
def decT (A : List (List Int)) : Nd × Int := if zG0 A = false then (.nil, 1) else (zK2 (zC4 A) 32 0 0 0).2
end Go.Proofs.YtkkbbhpbcfcplaaGreat.K
namespace Go.Proofs.YtkkbbhpbcfcplaaGreat.K
open Go Go.RowKit Go.Proofs
attribute [local irreducible] Run1 OpG WL W AO zC5
theorem zK9 (w : World)  : zC5 Tryz.prog 141 #[] w (.agg #[.int .i64 0, .int .i64 2]) := by
 have G := Grow.rfl' w
 refine zB1 Tryz.func141 Tryz.ntmps141 Tryz.results141 rfl rfl ?_
 refine qZ 2 ?_
 refine stp (zB2 ?_)
 intro b1 w2 hb3 hc4 g5
 refine qZ 3 ?_
 refine stp (zA7 (v := .agg #[.int .i64 0, .int .i64 2]) (fun w => by kernel_rfl) ?_)
 refine stn (qS hc4 ?_)
 intro w6 hc7 u8
 have g9 := g5.upd u8 hb3
 have hge10 := Nat.le_trans G.size hb3
 replace G := G.tr g9
 clear u8 g5 hb3 hc4
 refine qZ 2 ?_
 exact ret1 (zB0 rfl (by assumption) (by rfl)) ⟨rfl, G⟩
theorem zP1 (w : World)  : zC5 Tryz.prog 151 #[] w (.agg #[.int .i64 2, .int .i64 30]) := by
 have G := Grow.rfl' w
 refine zB1 Tryz.func151 Tryz.ntmps151 Tryz.results151 rfl rfl ?_
 refine qZ 2 ?_
 refine stp (zB2 ?_)
 intro b1 w2 hb3 hc4 g5
 refine qZ 3 ?_
 refine stp (zA7 (v := .agg #[.int .i64 2, .int .i64 30]) (fun w => by kernel_rfl) ?_)
 refine stn (qS hc4 ?_)
 intro w6 hc7 u8
 have g9 := g5.upd u8 hb3
 have hge10 := Nat.le_trans G.size hb3
 replace G := G.tr g9
 clear u8 g5 hb3 hc4
 refine qZ 2 ?_
 exact ret1 (zB0 rfl (by assumption) (by rfl)) ⟨rfl, G⟩
theorem qF6 (w : World)  : zC5 Tryz.prog 143 #[] w (.agg #[.int .i64 32, .int .i64 16]) := by
 have G := Grow.rfl' w
 refine zB1 Tryz.func143 Tryz.ntmps143 Tryz.results143 rfl rfl ?_
 refine qZ 2 ?_
 refine stp (zB2 ?_)
 intro b1 w2 hb3 hc4 g5
 refine qZ 3 ?_
 refine stp (zA7 (v := .agg #[.int .i64 32, .int .i64 16]) (fun w => by kernel_rfl) ?_)
 refine stn (qS hc4 ?_)
 intro w6 hc7 u8
 have g9 := g5.upd u8 hb3
 have hge10 := Nat.le_trans G.size hb3
 replace G := G.tr g9
 clear u8 g5 hb3 hc4
 refine qZ 2 ?_
 exact ret1 (zB0 rfl (by assumption) (by rfl)) ⟨rfl, G⟩
theorem qF7 (w : World)  : zC5 Tryz.prog 144 #[] w (.agg #[.int .i64 48, .int .i64 16]) := by
 have G := Grow.rfl' w
 refine zB1 Tryz.func144 Tryz.ntmps144 Tryz.results144 rfl rfl ?_
 refine qZ 2 ?_
 refine stp (zB2 ?_)
 intro b1 w2 hb3 hc4 g5
 refine qZ 3 ?_
 refine stp (zA7 (v := .agg #[.int .i64 48, .int .i64 16]) (fun w => by kernel_rfl) ?_)
 refine stn (qS hc4 ?_)
 intro w6 hc7 u8
 have g9 := g5.upd u8 hb3
 have hge10 := Nat.le_trans G.size hb3
 replace G := G.tr g9
 clear u8 g5 hb3 hc4
 refine qZ 2 ?_
 exact ret1 (zB0 rfl (by assumption) (by rfl)) ⟨rfl, G⟩
theorem qF8 (w : World)  : zC5 Tryz.prog 145 #[] w (.agg #[.int .i64 32, .int .i64 3]) := by
 have G := Grow.rfl' w
 refine zB1 Tryz.func145 Tryz.ntmps145 Tryz.results145 rfl rfl ?_
 refine qZ 2 ?_
 refine stp (zB2 ?_)
 intro b1 w2 hb3 hc4 g5
 refine qZ 3 ?_
 refine stp (zA7 (v := .agg #[.int .i64 32, .int .i64 3]) (fun w => by kernel_rfl) ?_)
 refine stn (qS hc4 ?_)
 intro w6 hc7 u8
 have g9 := g5.upd u8 hb3
 have hge10 := Nat.le_trans G.size hb3
 replace G := G.tr g9
 clear u8 g5 hb3 hc4
 refine qZ 2 ?_
 exact ret1 (zB0 rfl (by assumption) (by rfl)) ⟨rfl, G⟩
theorem qA9 (w : World)  : zC5 Tryz.prog 146 #[] w (.agg #[.int .i64 35, .int .i64 29]) := by
 have G := Grow.rfl' w
 refine zB1 Tryz.func146 Tryz.ntmps146 Tryz.results146 rfl rfl ?_
 refine qZ 2 ?_
 refine stp (zB2 ?_)
 intro b1 w2 hb3 hc4 g5
 refine qZ 3 ?_
 refine stp (zA7 (v := .agg #[.int .i64 35, .int .i64 29]) (fun w => by kernel_rfl) ?_)
 refine stn (qS hc4 ?_)
 intro w6 hc7 u8
 have g9 := g5.upd u8 hb3
 have hge10 := Nat.le_trans G.size hb3
 replace G := G.tr g9
 clear u8 g5 hb3 hc4
 refine qZ 2 ?_
 exact ret1 (zB0 rfl (by assumption) (by rfl)) ⟨rfl, G⟩
theorem zP2 (w : World)  : zC5 Tryz.prog 149 #[] w (.agg #[.int .i64 2, .int .i64 1]) := by
 have G := Grow.rfl' w
 refine zB1 Tryz.func149 Tryz.ntmps149 Tryz.results149 rfl rfl ?_
 refine qZ 2 ?_
 refine stp (zB2 ?_)
 intro b1 w2 hb3 hc4 g5
 refine qZ 3 ?_
 refine stp (zA7 (v := .agg #[.int .i64 2, .int .i64 1]) (fun w => by kernel_rfl) ?_)
 refine stn (qS hc4 ?_)
 intro w6 hc7 u8
 have g9 := g5.upd u8 hb3
 have hge10 := Nat.le_trans G.size hb3
 replace G := G.tr g9
 clear u8 g5 hb3 hc4
 refine qZ 2 ?_
 exact ret1 (zB0 rfl (by assumption) (by rfl)) ⟨rfl, G⟩
theorem zR2 (w : World)  : zC5 Tryz.prog 147 #[] w (.agg #[.int .i64 3, .int .i64 29]) := by
 have G := Grow.rfl' w
 refine zB1 Tryz.func147 Tryz.ntmps147 Tryz.results147 rfl rfl ?_
 refine qZ 2 ?_
 refine stp (zB2 ?_)
 intro b1 w2 hb3 hc4 g5
 refine qZ 3 ?_
 refine stp (zA7 (v := .agg #[.int .i64 3, .int .i64 29]) (fun w => by kernel_rfl) ?_)
 refine stn (qS hc4 ?_)
 intro w6 hc7 u8
 have g9 := g5.upd u8 hb3
 have hge10 := Nat.le_trans G.size hb3
 replace G := G.tr g9
 clear u8 g5 hb3 hc4
 refine qZ 2 ?_
 exact ret1 (zB0 rfl (by assumption) (by rfl)) ⟨rfl, G⟩
theorem zX5 (w : World)  : zC5 Tryz.prog 148 #[] w (.agg #[.int .i64 32, .int .i64 32]) := by
 have G := Grow.rfl' w
 refine zB1 Tryz.func148 Tryz.ntmps148 Tryz.results148 rfl rfl ?_
 refine qZ 2 ?_
 refine stp (zB2 ?_)
 intro b1 w2 hb3 hc4 g5
 refine qZ 3 ?_
 refine stp (zA7 (v := .agg #[.int .i64 32, .int .i64 32]) (fun w => by kernel_rfl) ?_)
 refine stn (qS hc4 ?_)
 intro w6 hc7 u8
 have g9 := g5.upd u8 hb3
 have hge10 := Nat.le_trans G.size hb3
 replace G := G.tr g9
 clear u8 g5 hb3 hc4
 refine qZ 2 ?_
 exact ret1 (zB0 rfl (by assumption) (by rfl)) ⟨rfl, G⟩
theorem zN5 (w : World) (x at_ wide : Int) (h0 : 0 ≤ at_) (h1 : 0 ≤ wide) : zC5 Tryz.prog 142 #[.agg #[.int .i64 at_, .int .i64 wide], .int .u64 x] w (.int .u64 (getF at_ wide x)) := by
 have G := Grow.rfl' w
 refine zB1 Tryz.func142 Tryz.ntmps142 Tryz.results142 rfl rfl ?_
 refine qZ 2 ?_
 refine stp ?_
 refine qC ?_
 intro b1 w2 hb3 hc4 g5
 have hge6 := Nat.le_trans G.size hb3
 replace G := G.tr g5
 clear g5 hb3
 refine qO 3 ?_
 refine zK0 10 [[], [], [0], [2, 1, 0], [], [0], [1, 0], [2, 1, 0], [7, 6, 5, 4, 3, 2, 1, 0], [8, 7, 6, 5, 4, 3, 2, 1, 0]] mixed (by kernel_rfl) (by kernel_rfl) (by kernel_rfl) ?_
 intro w7 g8
 replace hc4 := g8.heap hc4
 replace G := G.tr g8
 clear g8
 refine qA 3 ?_
 apply zA5
 ·intro w_ g_; refine og rfl ?_; (refine yR5 rfl rfl ?_ ?_; omega); exact qX
 refine qA 2 ?_
 apply zA5
 ·intro w_ g_; refine og rfl ?_; (refine qZ2 rfl rfl ?_ ?_; omega); exact qX
 apply zA5
 ·intro w_ g_; refine og rfl ?_; (first | (refine zL2 rfl rfl ?_ ?_; (constructor <;> omega)) | refine zQ5 rfl rfl ?_); exact qX
 apply zA5
 ·intro w_ g_; exact og rfl (yX2 rfl rfl qX)
 refine qA 1 ?_
 refine zG5 ?_
 intro w9 g10
 replace hc4 := g10.heap hc4
 replace G := G.tr g10
 clear g10
 refine qZ 2 ?_
 exact ret1 (zA1 rfl) ⟨rfl, G⟩
theorem yS9 (w : World) (x : Int) (h0 : 0 ≤ x) (h1 : x ≤ 18446744073709551615) : zC5 Tryz.prog 142 #[.agg #[.int .i64 0, .int .i64 2], .int .u64 x] w (.int .u64 (x % 4)) := by
  have e : getF 0 2 x = x % 4 := (zQ9 0 2 (by omega) (by omega) x h0 h1).trans (by simp)
  have h := zN5 w x 0 2 (by omega) (by omega)
  rw [e] at h
  exact h
theorem yN7 (w : World) (x : Int) (h0 : 0 ≤ x) (h1 : x ≤ 18446744073709551615) : zC5 Tryz.prog 142 #[.agg #[.int .i64 2, .int .i64 30], .int .u64 x] w (.int .u64 (x / 4 % 1073741824)) := by
  have e : getF 2 30 x = x / 4 % 1073741824 := (zQ9 2 30 (by omega) (by omega) x h0 h1).trans (by simp)
  have h := zN5 w x 2 30 (by omega) (by omega)
  rw [e] at h
  exact h
theorem yT0 (w : World) (x : Int) (h0 : 0 ≤ x) (h1 : x ≤ 18446744073709551615) : zC5 Tryz.prog 142 #[.agg #[.int .i64 32, .int .i64 16], .int .u64 x] w (.int .u64 (x / 4294967296 % 65536)) := by
  have e : getF 32 16 x = x / 4294967296 % 65536 := (zQ9 32 16 (by omega) (by omega) x h0 h1).trans (by simp)
  have h := zN5 w x 32 16 (by omega) (by omega)
  rw [e] at h
  exact h
theorem yT1 (w : World) (x : Int) (h0 : 0 ≤ x) (h1 : x ≤ 18446744073709551615) : zC5 Tryz.prog 142 #[.agg #[.int .i64 48, .int .i64 16], .int .u64 x] w (.int .u64 (x / 281474976710656 % 65536)) := by
  have e : getF 48 16 x = x / 281474976710656 % 65536 := (zQ9 48 16 (by omega) (by omega) x h0 h1).trans (by simp)
  have h := zN5 w x 48 16 (by omega) (by omega)
  rw [e] at h
  exact h
theorem yT2 (w : World) (x : Int) (h0 : 0 ≤ x) (h1 : x ≤ 18446744073709551615) : zC5 Tryz.prog 142 #[.agg #[.int .i64 32, .int .i64 3], .int .u64 x] w (.int .u64 (x / 4294967296 % 8)) := by
  have e : getF 32 3 x = x / 4294967296 % 8 := (zQ9 32 3 (by omega) (by omega) x h0 h1).trans (by simp)
  have h := zN5 w x 32 3 (by omega) (by omega)
  rw [e] at h
  exact h
theorem yN8 (w : World) (x : Int) (h0 : 0 ≤ x) (h1 : x ≤ 18446744073709551615) : zC5 Tryz.prog 142 #[.agg #[.int .i64 35, .int .i64 29], .int .u64 x] w (.int .u64 (x / 34359738368 % 536870912)) := by
  have e : getF 35 29 x = x / 34359738368 % 536870912 := (zQ9 35 29 (by omega) (by omega) x h0 h1).trans (by simp)
  have h := zN5 w x 35 29 (by omega) (by omega)
  rw [e] at h
  exact h
theorem yI1 (w : World) (x : Int) (h0 : 0 ≤ x) (h1 : x ≤ 18446744073709551615) : zC5 Tryz.prog 142 #[.agg #[.int .i64 2, .int .i64 1], .int .u64 x] w (.int .u64 (x / 4 % 2)) := by
  have e : getF 2 1 x = x / 4 % 2 := (zQ9 2 1 (by omega) (by omega) x h0 h1).trans (by simp)
  have h := zN5 w x 2 1 (by omega) (by omega)
  rw [e] at h
  exact h
theorem yN9 (w : World) (x : Int) (h0 : 0 ≤ x) (h1 : x ≤ 18446744073709551615) : zC5 Tryz.prog 142 #[.agg #[.int .i64 3, .int .i64 29], .int .u64 x] w (.int .u64 (x / 8 % 536870912)) := by
  have e : getF 3 29 x = x / 8 % 536870912 := (zQ9 3 29 (by omega) (by omega) x h0 h1).trans (by simp)
  have h := zN5 w x 3 29 (by omega) (by omega)
  rw [e] at h
  exact h
theorem yY8 (w : World) (x : Int) (h0 : 0 ≤ x) (h1 : x ≤ 18446744073709551615) : zC5 Tryz.prog 142 #[.agg #[.int .i64 32, .int .i64 32], .int .u64 x] w (.int .u64 (x / 4294967296 % 4294967296)) := by
  have e : getF 32 32 x = x / 4294967296 % 4294967296 := (zQ9 32 32 (by omega) (by omega) x h0 h1).trans (by simp)
  have h := zN5 w x 32 32 (by omega) (by omega)
  rw [e] at h
  exact h
theorem qH0 (w : World) (n : Int) (h0 : 0 ≤ n) (h1 : n < 1073741824) : zC5 Tryz.prog 150 #[.int .u64 n, .int .i64 30] w (.int .i64 (zW0 n)) := by
 have G := Grow.rfl' w
 refine zB1 Tryz.func150 Tryz.ntmps150 Tryz.results150 rfl rfl ?_
 refine qO 7 ?_
 refine stp ?_
 (first | (refine qA3 rfl rfl rfl ?_ ?_; omega) | (refine qA4 rfl rfl rfl ?_ ?_; omega) | refine qA2 rfl rfl rfl ?_)
 refine stp ?_
 (first | (refine yM1 rfl rfl rfl ?_ ?_; omega) | (refine yM2 rfl rfl rfl ?_ ?_; omega) | refine qT5 rfl rfl rfl ?_)
 refine stp ?_
 (first | (refine zL2 rfl rfl ?_ ?_; (constructor <;> omega)) | refine zQ5 rfl rfl ?_)
 refine qO 6 ?_
 refine stp ?_
 (refine qZ2 rfl rfl ?_ ?_; omega)
 refine stp ?_
 (first | (refine zH8 rfl ?_ ?_; (constructor <;> omega)) | refine zJ2 rfl ?_)
 refine qO 1 ?_
 refine stp ?_
 (refine yR5 rfl rfl ?_ ?_; omega)
 refine qO 3 ?_
 exact ret1 (zA1 rfl) ⟨congrArg (Value.int .i64) (yM8 n h0 h1), G⟩
theorem zF4 (w : World) (x : Int) (hx0 : 0 ≤ x) (hx1 : x ≤ 18446744073709551615) : zC5 Tryz.prog 116 #[.int .u64 x] w (.tuple #[(decP x).v, .int .u16 (decE x)]) := by
 have G := Grow.rfl' w
 refine zB1 Tryz.func116 Tryz.ntmps116 Tryz.results116 rfl rfl ?_
 refine qZ 2 ?_
 refine stp (zB2 ?_)
 intro b1 w2 hb3 hc4 g5
 refine qO 6 ?_
 refine stp ?_
 refine qC ?_
 refine zA6 ?_
 have hge6 := Nat.le_trans G.size hb3
 replace G := G.tr g5
 clear g5 hb3
 refine zA3 rfl (fun h0 => ?_) (fun h0 => ?_)
 ·
  first | replace h0 := qT h0 | replace h0 := qF h0 | skip
  refine qZ 2 ?_
  refine stp (zA7 (v := .agg #[.int .i64 (0), .int .i64 (0), .int .i64 (0), .int .i64 (0), .int .i64 (0), .int .i64 (0), .int .i64 (0), .bool false]) (fun w => by kernel_rfl) ?_)
  refine stn (qS hc4 ?_)
  intro w10 hc11 u12
  replace G := G.upd u12 hge6
  clear u12 hc4
  refine qO 3 ?_
  subst h0
  refine ret2 (zB0 rfl (by assumption) (by rfl)) (zA9 rfl) ⟨?_, G⟩
  simp [decP, decE, Pt.v, Pt0, ]
 ·
  first | replace h0 := qT h0 | replace h0 := qF h0 | skip
  refine qZ 3 ?_
  refine stp (zB2 ?_)
  intro b13 w14 hb15 hc16 g17
  refine qZ 4 ?_
  have hge18 := Nat.le_trans G.size hb15
  have ne19 := qN hc4 hb15
  replace hc4 := g17.heap hc4
  replace G := G.tr g17
  clear g17 hb15
  refine stp (zA2 rfl (zK9 _) ?_)
  intro w20 g21
  replace hc4 := g21.heap hc4
  replace hc16 := g21.heap hc16
  replace G := G.tr g21
  clear g21
  refine qO 1 ?_
  refine stp (zA2 rfl (yS9 _ _ hx0 hx1) ?_)
  intro w22 g23
  replace hc4 := g23.heap hc4
  replace hc16 := g23.heap hc16
  replace G := G.tr g23
  clear g23
  refine qO 9 ?_
  refine stp ?_
  refine qC ?_
  refine qO 2 ?_
  refine zA3 rfl (fun h1 => ?_) (fun h1 => ?_)
  ·
   first | replace h1 := qT h1 | replace h1 := qF h1 | skip
   refine zP8 rfl ?_
   refine stp (zA2 rfl (qF6 _) ?_)
   intro w24 g25
   replace hc4 := g25.heap hc4
   replace hc16 := g25.heap hc16
   replace G := G.tr g25
   clear g25
   refine qO 1 ?_
   refine stp (zA2 rfl (yT0 _ _ hx0 hx1) ?_)
   intro w26 g27
   replace hc4 := g27.heap hc4
   replace hc16 := g27.heap hc16
   replace G := G.tr g27
   clear g27
   refine stp ?_
   (first | (refine zH8 rfl ?_ ?_; (constructor <;> omega)) | refine zJ2 rfl ?_)
   refine stp (zA2 rfl (qF7 _) ?_)
   intro w28 g29
   replace hc4 := g29.heap hc4
   replace hc16 := g29.heap hc16
   replace G := G.tr g29
   clear g29
   refine qO 1 ?_
   refine stp (zA2 rfl (yT1 _ _ hx0 hx1) ?_)
   intro w30 g31
   replace hc4 := g31.heap hc4
   replace hc16 := g31.heap hc16
   replace G := G.tr g31
   clear g31
   refine stp ?_
   (first | (refine zH8 rfl ?_ ?_; (constructor <;> omega)) | refine zJ2 rfl ?_)
   refine stp (zA7 (v := .agg #[.int .i64 (1), .int .i64 (0), .int .i64 (x / 4294967296 % 65536), .int .i64 (x / 281474976710656 % 65536), .int .i64 (0), .int .i64 (0), .int .i64 (0), .bool false]) (fun w => by kernel_rfl) ?_)
   refine stn (qS hc16 ?_)
   intro w35 hc36 u37
   replace hc4 := u37.heap hc4 ne19
   replace G := G.upd u37 hge18
   clear u37 hc16
   refine qZ 3 ?_
   refine stp (zA2 rfl (zP1 _) ?_)
   intro w38 g39
   replace hc4 := g39.heap hc4
   replace hc36 := g39.heap hc36
   replace G := G.tr g39
   clear g39
   refine qO 1 ?_
   refine stp (zA2 rfl (yN7 _ _ hx0 hx1) ?_)
   intro w40 g41
   replace hc4 := g41.heap hc4
   replace hc36 := g41.heap hc36
   replace G := G.tr g41
   clear g41
   refine stp (zA2 rfl (zP1 _) ?_)
   intro w42 g43
   replace hc4 := g43.heap hc4
   replace hc36 := g43.heap hc36
   replace G := G.tr g43
   clear g43
   refine stp (yM0 rfl (by rfl) ?_)
   refine stp (zA2 rfl (qH0 _ _ (by omega) (by omega)) ?_)
   intro w44 g45
   replace hc4 := g45.heap hc4
   replace hc36 := g45.heap hc36
   replace G := G.tr g45
   clear g45
   refine qZ 1 ?_
   refine stn (zC2 (v := .int _ _) rfl rfl (by rfl) hc36 (by rfl) (by rfl) ?_)
   intro w49 hc50 u51
   replace hc4 := u51.heap hc4 ne19
   replace G := G.upd u51 hge18
   clear u51 hc36
   refine qZ 3 ?_
   refine stp ?_
   (first | refine zC7 rfl (by assumption) (by rfl) ?_ | refine zF8 rfl (by assumption) (by rfl) (by rfl) ?_)
   refine stn (qS hc4 ?_)
   intro w55 hc56 u57
   replace hc50 := u57.heap hc50 ne19.symm
   replace G := G.upd u57 hge6
   clear u57 hc4
   refine qO 3 ?_
   refine ret2 (zB0 rfl (by assumption) (by rfl)) (zA9 rfl) ⟨?_, G⟩
   simp [decP, decE, Pt.v, Pt0, h0, h1]
  ·
   first | replace h1 := qT h1 | replace h1 := qF h1 | skip
   refine qZ 2 ?_
   refine stp ?_
   refine qC ?_
   refine qO 2 ?_
   refine zA3 rfl (fun h2 => ?_) (fun h2 => ?_)
   ·
    first | replace h2 := qT h2 | replace h2 := qF h2 | skip
    refine zP8 rfl ?_
    refine stp (zA2 rfl (qF8 _) ?_)
    intro w58 g59
    replace hc4 := g59.heap hc4
    replace hc16 := g59.heap hc16
    replace G := G.tr g59
    clear g59
    refine qO 1 ?_
    refine stp (zA2 rfl (yT2 _ _ hx0 hx1) ?_)
    intro w60 g61
    replace hc4 := g61.heap hc4
    replace hc16 := g61.heap hc16
    replace G := G.tr g61
    clear g61
    refine stp ?_
    (first | (refine zH8 rfl ?_ ?_; (constructor <;> omega)) | refine zJ2 rfl ?_)
    refine stp (zA2 rfl (qA9 _) ?_)
    intro w62 g63
    replace hc4 := g63.heap hc4
    replace hc16 := g63.heap hc16
    replace G := G.tr g63
    clear g63
    refine qO 1 ?_
    refine stp (zA2 rfl (yN8 _ _ hx0 hx1) ?_)
    intro w64 g65
    replace hc4 := g65.heap hc4
    replace hc16 := g65.heap hc16
    replace G := G.tr g65
    clear g65
    refine stp ?_
    (first | (refine zH8 rfl ?_ ?_; (constructor <;> omega)) | refine zJ2 rfl ?_)
    refine stp (zA7 (v := .agg #[.int .i64 (2), .int .i64 (0), .int .i64 (0), .int .i64 (0), .int .i64 (x / 4294967296 % 8), .int .i64 (x / 34359738368 % 536870912), .int .i64 (0), .bool false]) (fun w => by kernel_rfl) ?_)
    refine stn (qS hc16 ?_)
    intro w69 hc70 u71
    replace hc4 := u71.heap hc4 ne19
    replace G := G.upd u71 hge18
    clear u71 hc16
    refine qZ 3 ?_
    refine stp (zA2 rfl (zP1 _) ?_)
    intro w72 g73
    replace hc4 := g73.heap hc4
    replace hc70 := g73.heap hc70
    replace G := G.tr g73
    clear g73
    refine qO 1 ?_
    refine stp (zA2 rfl (yN7 _ _ hx0 hx1) ?_)
    intro w74 g75
    replace hc4 := g75.heap hc4
    replace hc70 := g75.heap hc70
    replace G := G.tr g75
    clear g75
    refine stp (zA2 rfl (zP1 _) ?_)
    intro w76 g77
    replace hc4 := g77.heap hc4
    replace hc70 := g77.heap hc70
    replace G := G.tr g77
    clear g77
    refine stp (yM0 rfl (by rfl) ?_)
    refine stp (zA2 rfl (qH0 _ _ (by omega) (by omega)) ?_)
    intro w78 g79
    replace hc4 := g79.heap hc4
    replace hc70 := g79.heap hc70
    replace G := G.tr g79
    clear g79
    refine qZ 1 ?_
    refine stn (zC2 (v := .int _ _) rfl rfl (by rfl) hc70 (by rfl) (by rfl) ?_)
    intro w83 hc84 u85
    replace hc4 := u85.heap hc4 ne19
    replace G := G.upd u85 hge18
    clear u85 hc70
    refine qZ 3 ?_
    refine stp ?_
    (first | refine zC7 rfl (by assumption) (by rfl) ?_ | refine zF8 rfl (by assumption) (by rfl) (by rfl) ?_)
    refine stn (qS hc4 ?_)
    intro w89 hc90 u91
    replace hc84 := u91.heap hc84 ne19.symm
    replace G := G.upd u91 hge6
    clear u91 hc4
    refine qO 3 ?_
    refine ret2 (zB0 rfl (by assumption) (by rfl)) (zA9 rfl) ⟨?_, G⟩
    simp [decP, decE, Pt.v, Pt0, h0, h1, h2]
   ·
    first | replace h2 := qT h2 | replace h2 := qF h2 | skip
    refine qZ 2 ?_
    refine stp ?_
    refine qC ?_
    refine qO 2 ?_
    refine zA3 rfl (fun h3 => ?_) (fun h3 => ?_)
    ·
     first | replace h3 := qT h3 | replace h3 := qF h3 | skip
     refine qZ 2 ?_
     refine stp (zA2 rfl (zR2 _) ?_)
     intro w92 g93
     replace hc4 := g93.heap hc4
     replace hc16 := g93.heap hc16
     replace G := G.tr g93
     clear g93
     refine qO 1 ?_
     refine stp (zA2 rfl (yN9 _ _ hx0 hx1) ?_)
     intro w94 g95
     replace hc4 := g95.heap hc4
     replace hc16 := g95.heap hc16
     replace G := G.tr g95
     clear g95
     refine stp ?_
     (first | (refine zH8 rfl ?_ ?_; (constructor <;> omega)) | refine zJ2 rfl ?_)
     refine stp (zA2 rfl (zX5 _) ?_)
     intro w96 g97
     replace hc4 := g97.heap hc4
     replace hc16 := g97.heap hc16
     replace G := G.tr g97
     clear g97
     refine qO 1 ?_
     refine stp (zA2 rfl (yY8 _ _ hx0 hx1) ?_)
     intro w98 g99
     replace hc4 := g99.heap hc4
     replace hc16 := g99.heap hc16
     replace G := G.tr g99
     clear g99
     refine stp ?_
     (first | (refine zH8 rfl ?_ ?_; (constructor <;> omega)) | refine zJ2 rfl ?_)
     refine stp (zA2 rfl (zP2 _) ?_)
     intro w100 g101
     replace hc4 := g101.heap hc4
     replace hc16 := g101.heap hc16
     replace G := G.tr g101
     clear g101
     refine qO 1 ?_
     refine stp (zA2 rfl (yI1 _ _ hx0 hx1) ?_)
     intro w102 g103
     replace hc4 := g103.heap hc4
     replace hc16 := g103.heap hc16
     replace G := G.tr g103
     clear g103
     refine stp (zE2 rfl rfl ?_)
     refine stp (zA7 (v := .agg #[.int .i64 (3), .int .i64 (x / 8 % 536870912), .int .i64 (0), .int .i64 (0), .int .i64 (0), .int .i64 (0), .int .i64 (x / 4294967296 % 4294967296), .bool (decide (x / 4 % 2 = 1))]) (fun w => by kernel_rfl) ?_)
     refine stn (qS hc4 ?_)
     intro w107 hc108 u109
     replace hc16 := u109.heap hc16 ne19.symm
     replace G := G.upd u109 hge6
     clear u109 hc4
     refine qO 3 ?_
     refine ret2 (zB0 rfl (by assumption) (by rfl)) (zA9 rfl) ⟨?_, G⟩
     simp [decP, decE, Pt.v, Pt0, h0, h1, h2, h3]
    ·
     first | replace h3 := qT h3 | replace h3 := qF h3 | skip
     have h4 : x % 4 = 3 := by omega
     refine qZ 2 ?_
     refine stp ?_
     (first | refine zC7 rfl (by assumption) (by rfl) ?_ | refine zF8 rfl (by assumption) (by rfl) (by rfl) ?_)
     refine stn (qS hc4 ?_)
     intro w113 hc114 u115
     replace hc16 := u115.heap hc16 ne19.symm
     replace G := G.upd u115 hge6
     clear u115 hc4
     refine qO 3 ?_
     refine ret2 (zB0 rfl (by assumption) (by rfl)) (zA9 rfl) ⟨?_, G⟩
     simp [decP, decE, Pt.v, Pt0, h0, h1, h2, h3, h4]
theorem zM9 (w : World) (l : List (Int × Int × Int)) (bs c T : Nat) (fr : Nat × Nat) (hl : l.length ≤ 1000) (hw : ∀ p ∈ l, 0 ≤ p.1 ∧ 0 ≤ p.2.1) (hbs : w.heap[bs]? = some (.cells (zO9 l).toArray T fr)) : zC5 Tryz.prog 159 #[.slice (some ⟨bs, 0, none⟩) l.length c] w (.int .u64 (qU0 l)) := by
 have G := Grow.rfl' w
 refine zB1 Tryz.func159 Tryz.ntmps159 Tryz.results159 rfl rfl ?_
 refine qO 16 ?_
 refine zG4 (fun m_ e_ w_ => ∃ (k : Nat), m_ = l.length - k ∧ Fr [(3, .int .u64 (qU0 (l.take k))), (6, .slice (some ⟨bs, 0, none⟩) l.length c), (7, .int .i64 l.length), (8, .int .i64 k)] e_ ∧ (k ≤ l.length) ∧ (w_.heap[bs]? = some (.cells (zO9 l).toArray T fr)) ∧ Grow w w_) _ ⟨0, rfl, zD2 ⟨rfl, rfl, rfl, rfl, trivial⟩, by omega, hbs, G⟩ ?_
 clear hbs
 clear G
 rintro m_ e_ w1 ⟨k, rfl, ⟨e2, rfl⟩, hk, hbs, G⟩
 refine qZ 2 ?_
 refine stp ?_
 refine qC ?_
 refine qZ 2 ?_
 refine zA3 rfl (fun hlt => ?_) (fun hlt => ?_)
 ·
  first | replace hlt := qT hlt | replace hlt := qF hlt | skip
  have hk2 : k < l.length := by omega
  obtain ⟨hw0, hw1⟩ := hw l[k] (List.getElem_mem hk2)
  have hlen := qZ4 l
  refine qZ 5 ?_
  refine stp ?_
  (refine zD4 rfl rfl ?_ ?_ ?_; omega; omega)
  refine stp ?_
  have hat := yN0 l k hk2
  refine zF8 (vs := #[.int .i64 l[k].1, .int .i64 l[k].2.1, .int .i64 l[k].2.2]) rfl hbs (Nat.ble_eq_true_of_le (by simp; omega)) (by simp only [Nat.zero_add, Int.toNat_natCast]; rw [hat]) ?_
  refine stp (zB2 ?_)
  intro b3 w4 hb5 hc6 g7
  refine stn (qS hc6 ?_)
  intro w8 hc9 u10
  have g11 := g7.upd u10 hb5
  have hge12 := Nat.le_trans G.size hb5
  have ne13 := qN hbs hb5
  replace hbs := g11.heap hbs
  replace G := G.tr g11
  clear u10 g7 hb5 hc6
  refine zA6 ?_
  refine zK0 16 [[], [], [0], [1, 0], [], [0], [1, 0], [2, 1, 0], [3, 2, 1, 0], [7, 6, 5, 4, 3, 2, 1, 0], [], [0], [1, 0], [11, 10, 9, 8, 7, 6, 5, 4, 3, 2, 1, 0], [13, 12, 11, 10, 9, 8, 7, 6, 5, 4, 3, 2, 1, 0], [14, 13, 12, 11, 10, 9, 8, 7, 6, 5, 4, 3, 2, 1, 0]] mixed (by kernel_rfl) (by kernel_rfl) (by kernel_rfl) ?_
  intro w14 g15
  replace hbs := g15.heap hbs
  replace hc9 := g15.heap hc9
  replace G := G.tr g15
  clear g15
  refine qA 3 ?_
  apply zA5
  ·intro w_ g_; refine og rfl ?_; (first | (refine zH8 rfl ?_ ?_; (constructor <;> omega)) | refine zJ2 rfl ?_); exact qX
  refine qA 3 ?_
  apply zA5
  ·intro w_ g_; refine og rfl ?_; (refine qZ2 rfl rfl ?_ ?_; omega); exact qX
  apply zA5
  ·intro w_ g_; refine og rfl ?_; (first | (refine zL2 rfl rfl ?_ ?_; (constructor <;> omega)) | refine zQ5 rfl rfl ?_); exact qX
  apply zA5
  ·intro w_ g_; exact og rfl (yX2 rfl rfl qX)
  refine qA 3 ?_
  apply zA5
  ·intro w_ g_; refine og rfl ?_; (refine qZ2 rfl rfl ?_ ?_; omega); exact qX
  apply zA5
  ·intro w_ g_; exact og rfl (r_or rfl rfl qX)
  refine qA 1 ?_
  refine zG5 ?_
  intro w16 g17
  replace hbs := g17.heap hbs
  replace hc9 := g17.heap hc9
  replace G := G.tr g17
  clear g17
  refine qZ 2 ?_
  refine stp ?_
  (first | (refine zC3 rfl rfl ?_ ?_; (constructor <;> omega)) | refine zF7 rfl rfl ?_)
  refine qO 2 ?_
  refine ⟨_, ?_, k + 1, rfl, zD2 ⟨congrArg (Value.int .u64) (yH3 l k hk2).symm, rfl, rfl, rfl, trivial⟩, by omega, hbs, G⟩
  omega
 ·
  first | replace hlt := qT hlt | replace hlt := qF hlt | skip
  have hk2 : k = l.length := by omega
  subst hk2
  refine qO 7 ?_
  refine ret1 (zA9 rfl) ⟨?_, G⟩
  rw [List.take_length]
theorem zP3 (w : World) (p : Pt) : zC5 Tryz.prog 137 #[.agg #[.int .i64 (p.kind), .int .i64 (p.off), .int .i64 (p.data), .int .i64 (p.ptrs), .int .i64 (p.size), .int .i64 (p.count), .int .i64 (p.seg), .bool p.dbl]] w (.tuple #[.int .u64 (encR p), .int .u16 (encE p)]) := by
 have G := Grow.rfl' w
 refine zB1 Tryz.func137 Tryz.ntmps137 Tryz.results137 rfl rfl ?_
 refine qZ 2 ?_
 refine stp ?_
 refine qC ?_
 intro b1 w2 hb3 hc4 g5
 have hge6 := Nat.le_trans G.size hb3
 replace G := G.tr g5
 clear g5 hb3
 refine qO 16 ?_
 refine stp ?_
 refine qC ?_
 refine qO 2 ?_
 refine zA3 rfl (fun h1 => ?_) (fun h1 => ?_)
 ·
  first | replace h1 := qT h1 | replace h1 := qF h1 | skip
  have hw := qQ1 p (.inl h1)
  unfold fieldsOf at hw
  rw [if_pos h1] at hw
  obtain ⟨hx0, hx1⟩ := zJ8 p
  by_cases hd : decE (encW p) = 0
  ·
   refine zK0 17 [[], [0], [1], [], [0], [4, 2, 1, 0], [5, 3], [], [0], [8, 6, 2, 1, 0], [9, 7, 3], [], [0], [12, 10, 6, 2, 1, 0], [13, 12, 11, 10, 9, 8, 7, 6, 5, 4, 3, 2, 1, 0], [14, 13, 12, 11, 10, 9, 8, 7, 6, 5, 4, 3, 2, 1, 0], [15, 14, 13, 12, 11, 10, 9, 8, 7, 6, 5, 4, 3, 2, 1, 0]] mixed (by kernel_rfl) (by kernel_rfl) (by kernel_rfl) ?_
   intro w7 g8
   replace hc4 := g8.heap hc4
   replace G := G.tr g8
   clear g8
   apply zA5
   ·intro w_ g_; refine og rfl ?_; refine zA2 rfl (zK9 _) ?_; intro w2_ g2_; exact ⟨g2_, rfl⟩
   apply zA5
   ·intro w_ g_; exact og rfl (zA7 (v := .agg #[.int .i64 (0), .int .i64 (2), .int .i64 (0)]) (fun w => by kernel_rfl) qX)
   apply zA5
   ·intro w_ g_; refine og rfl ?_; refine zA2 rfl (zP1 _) ?_; intro w2_ g2_; exact ⟨g2_, rfl⟩
   refine qA 2 ?_
   apply zA5
   ·intro w_ g_; exact og rfl (zA7 (v := .agg #[.int .i64 (2), .int .i64 (30), .int .i64 (p.off)]) (fun w => by kernel_rfl) qX)
   apply zA5
   ·intro w_ g_; refine og rfl ?_; refine zA2 rfl (qF6 _) ?_; intro w2_ g2_; exact ⟨g2_, rfl⟩
   refine qA 2 ?_
   apply zA5
   ·intro w_ g_; exact og rfl (zA7 (v := .agg #[.int .i64 (32), .int .i64 (16), .int .i64 (p.data)]) (fun w => by kernel_rfl) qX)
   apply zA5
   ·intro w_ g_; refine og rfl ?_; refine zA2 rfl (qF7 _) ?_; intro w2_ g2_; exact ⟨g2_, rfl⟩
   refine qA 2 ?_
   apply zA5
   ·intro w_ g_; exact og rfl (zA7 (v := .agg #[.int .i64 (48), .int .i64 (16), .int .i64 (p.ptrs)]) (fun w => by kernel_rfl) qX)
   refine zS5 (fun w_ v => ∃ b, v = .slice (some ⟨b, 0, none⟩) 4 4 ∧ w_.heap[b]? = some (.cells #[.int .i64 (0), .int .i64 (2), .int .i64 (0), .int .i64 (2), .int .i64 (30), .int .i64 (p.off), .int .i64 (32), .int .i64 (16), .int .i64 (p.data), .int .i64 (48), .int .i64 (16), .int .i64 (p.ptrs)] 218 (0, 0))) (fun _ _ _ g ⟨b, hv, hb⟩ => ⟨b, hv, g.heap hb⟩) ?_ ?_
   ·intro w_ g_
    refine og rfl ?_
    refine zB4 (cs := #[.int .i64 (0), .int .i64 (2), .int .i64 (0), .int .i64 (2), .int .i64 (30), .int .i64 (p.off), .int .i64 (32), .int .i64 (16), .int .i64 (p.data), .int .i64 (48), .int .i64 (16), .int .i64 (p.ptrs)]) (el := 218) (fun w => by kernel_rfl) ?_
    intro b w2_ _ hb g2_
    exact ⟨g2_, b, rfl, hb⟩
   apply zA5
   ·intro w_ g_
    rintro v_ ⟨b, rfl, hb⟩
    show OpG _ _ _ _ _ _
    refine og rfl ?_
    refine zA2 (v := .int .u64 (encW p)) rfl (by rw [← hw]; exact zM9 _ [(0, 2, 0), (2, 30, p.off), (32, 16, p.data), (48, 16, p.ptrs)] b 4 218 (0, 0) (by simp) (by simp) hb) ?_
    intro w2_ g2_
    exact ⟨g2_, rfl⟩
   apply zA5
   ·intro w_ g_; intro v14_ hv14_; show OpG _ _ _ _ _ _; refine og rfl ?_; (first | refine zF6 rfl ?_ | refine zE7 rfl ?_); exact qX
   refine zG5 ?_
   intro w9 g10
   replace hc4 := g10.heap hc4
   replace G := G.tr g10
   clear g10
   intro v_ hv_
   refine qO 5 ?_
   refine stp (zA2 rfl (zF4 _ _ hx0 hx1) ?_)
   intro w11 g12
   replace hc4 := g12.heap hc4
   replace G := G.tr g12
   clear g12
   refine qO 1 ?_
   refine stp (zB3 rfl rfl ?_)
   refine stp (zB3 rfl rfl ?_)
   refine stp (zB2 ?_)
   intro b13 w14 hb15 hc16 g17
   refine stn (qS hc16 ?_)
   intro w18 hc19 u20
   have g21 := g17.upd u20 hb15
   have hge22 := Nat.le_trans G.size hb15
   have ne23 := qN hc4 hb15
   replace hc4 := g21.heap hc4
   replace G := G.tr g21
   clear u20 g17 hb15 hc16
   refine qO 5 ?_
   refine stp ?_
   refine qC ?_
   refine qO 1 ?_
   refine stp ?_
   (first | refine zC7 rfl (by assumption) (by rfl) ?_ | refine zF8 rfl (by assumption) (by rfl) (by rfl) ?_)
   refine stp ?_
   (first | refine zC7 rfl (by assumption) (by rfl) ?_ | refine zF8 rfl (by assumption) (by rfl) (by rfl) ?_)
   refine stp (zZ4 rfl rfl (by rfl) ?_)
   refine stp ?_
   refine qC ?_
   refine zA6 ?_
   refine zA3 rfl (fun hc => ?_) (fun hc => ?_)
   ·
    first | replace hc := qT hc | replace hc := qF hc | skip
    refine qO 6 ?_
    refine ret2 (zA9 rfl) (zA9 rfl) ⟨?_, G⟩
    have hq : ¬ decP (encW p) = p := by
     intro hq
     rw [hq] at hc
     simp at hc
    simp [encR, encE, zK7, hd, hq]
   ·
    first | replace hc := qT hc | replace hc := qF hc | skip
    refine qO 8 ?_
    refine ret2 (zA9 rfl) (zA9 rfl) ⟨?_, G⟩
    have hq : decP (encW p) = p := by
     generalize decP (encW p) = q at hc ⊢
     cases q; cases p; simpa [and_assoc] using hc
    simp [encR, encE, zK7, hd, hq]
  ·
   refine zK0 17 [[], [0], [1], [], [0], [4, 2, 1, 0], [5, 3], [], [0], [8, 6, 2, 1, 0], [9, 7, 3], [], [0], [12, 10, 6, 2, 1, 0], [13, 12, 11, 10, 9, 8, 7, 6, 5, 4, 3, 2, 1, 0], [14, 13, 12, 11, 10, 9, 8, 7, 6, 5, 4, 3, 2, 1, 0], [15, 14, 13, 12, 11, 10, 9, 8, 7, 6, 5, 4, 3, 2, 1, 0]] mixed (by kernel_rfl) (by kernel_rfl) (by kernel_rfl) ?_
   intro w24 g25
   replace hc4 := g25.heap hc4
   replace G := G.tr g25
   clear g25
   apply zA5
   ·intro w_ g_; refine og rfl ?_; refine zA2 rfl (zK9 _) ?_; intro w2_ g2_; exact ⟨g2_, rfl⟩
   apply zA5
   ·intro w_ g_; exact og rfl (zA7 (v := .agg #[.int .i64 (0), .int .i64 (2), .int .i64 (0)]) (fun w => by kernel_rfl) qX)
   apply zA5
   ·intro w_ g_; refine og rfl ?_; refine zA2 rfl (zP1 _) ?_; intro w2_ g2_; exact ⟨g2_, rfl⟩
   refine qA 2 ?_
   apply zA5
   ·intro w_ g_; exact og rfl (zA7 (v := .agg #[.int .i64 (2), .int .i64 (30), .int .i64 (p.off)]) (fun w => by kernel_rfl) qX)
   apply zA5
   ·intro w_ g_; refine og rfl ?_; refine zA2 rfl (qF6 _) ?_; intro w2_ g2_; exact ⟨g2_, rfl⟩
   refine qA 2 ?_
   apply zA5
   ·intro w_ g_; exact og rfl (zA7 (v := .agg #[.int .i64 (32), .int .i64 (16), .int .i64 (p.data)]) (fun w => by kernel_rfl) qX)
   apply zA5
   ·intro w_ g_; refine og rfl ?_; refine zA2 rfl (qF7 _) ?_; intro w2_ g2_; exact ⟨g2_, rfl⟩
   refine qA 2 ?_
   apply zA5
   ·intro w_ g_; exact og rfl (zA7 (v := .agg #[.int .i64 (48), .int .i64 (16), .int .i64 (p.ptrs)]) (fun w => by kernel_rfl) qX)
   refine zS5 (fun w_ v => ∃ b, v = .slice (some ⟨b, 0, none⟩) 4 4 ∧ w_.heap[b]? = some (.cells #[.int .i64 (0), .int .i64 (2), .int .i64 (0), .int .i64 (2), .int .i64 (30), .int .i64 (p.off), .int .i64 (32), .int .i64 (16), .int .i64 (p.data), .int .i64 (48), .int .i64 (16), .int .i64 (p.ptrs)] 218 (0, 0))) (fun _ _ _ g ⟨b, hv, hb⟩ => ⟨b, hv, g.heap hb⟩) ?_ ?_
   ·intro w_ g_
    refine og rfl ?_
    refine zB4 (cs := #[.int .i64 (0), .int .i64 (2), .int .i64 (0), .int .i64 (2), .int .i64 (30), .int .i64 (p.off), .int .i64 (32), .int .i64 (16), .int .i64 (p.data), .int .i64 (48), .int .i64 (16), .int .i64 (p.ptrs)]) (el := 218) (fun w => by kernel_rfl) ?_
    intro b w2_ _ hb g2_
    exact ⟨g2_, b, rfl, hb⟩
   apply zA5
   ·intro w_ g_
    rintro v_ ⟨b, rfl, hb⟩
    show OpG _ _ _ _ _ _
    refine og rfl ?_
    refine zA2 (v := .int .u64 (encW p)) rfl (by rw [← hw]; exact zM9 _ [(0, 2, 0), (2, 30, p.off), (32, 16, p.data), (48, 16, p.ptrs)] b 4 218 (0, 0) (by simp) (by simp) hb) ?_
    intro w2_ g2_
    exact ⟨g2_, rfl⟩
   apply zA5
   ·intro w_ g_; intro v14_ hv14_; show OpG _ _ _ _ _ _; refine og rfl ?_; (first | refine zF6 rfl ?_ | refine zE7 rfl ?_); exact qX
   refine zG5 ?_
   intro w26 g27
   replace hc4 := g27.heap hc4
   replace G := G.tr g27
   clear g27
   intro v_ hv_
   refine qO 5 ?_
   refine stp (zA2 rfl (zF4 _ _ hx0 hx1) ?_)
   intro w28 g29
   replace hc4 := g29.heap hc4
   replace G := G.tr g29
   clear g29
   refine qO 1 ?_
   refine stp (zB3 rfl rfl ?_)
   refine stp (zB3 rfl rfl ?_)
   refine stp (zB2 ?_)
   intro b30 w31 hb32 hc33 g34
   refine stn (qS hc33 ?_)
   intro w35 hc36 u37
   have g38 := g34.upd u37 hb32
   have hge39 := Nat.le_trans G.size hb32
   have ne40 := qN hc4 hb32
   replace hc4 := g38.heap hc4
   replace G := G.tr g38
   clear u37 g34 hb32 hc33
   refine qO 5 ?_
   refine stp ?_
   refine qC ?_
   refine qO 1 ?_
   refine zA4 (zE1 rfl ?_)
   refine zA4 (zE1 rfl ?_)
   refine zA4 (zE1 rfl ?_)
   refine stp ?_
   refine qC ?_
   refine zA6 ?_
   refine zM3 rfl ?_
   refine qO 6 ?_
   refine ret2 (zA9 rfl) (zA9 rfl) ⟨?_, G⟩
   simp [encR, encE, zK7, hd]
 ·
  first | replace h1 := qT h1 | replace h1 := qF h1 | skip
  refine qZ 2 ?_
  refine stp ?_
  refine qC ?_
  refine qO 2 ?_
  refine zA3 rfl (fun h2 => ?_) (fun h2 => ?_)
  ·
   first | replace h2 := qT h2 | replace h2 := qF h2 | skip
   have hw := qQ1 p (.inr (.inl h2))
   unfold fieldsOf at hw
   rw [if_neg h1, if_pos h2] at hw
   obtain ⟨hx0, hx1⟩ := zJ8 p
   by_cases hd : decE (encW p) = 0
   ·
    refine zK0 17 [[], [0], [1], [], [0], [4, 2, 1, 0], [5, 3], [], [0], [8, 6, 2, 1, 0], [9, 7, 3], [], [0], [12, 10, 6, 2, 1, 0], [13, 12, 11, 10, 9, 8, 7, 6, 5, 4, 3, 2, 1, 0], [14, 13, 12, 11, 10, 9, 8, 7, 6, 5, 4, 3, 2, 1, 0], [15, 14, 13, 12, 11, 10, 9, 8, 7, 6, 5, 4, 3, 2, 1, 0]] mixed (by kernel_rfl) (by kernel_rfl) (by kernel_rfl) ?_
    intro w41 g42
    replace hc4 := g42.heap hc4
    replace G := G.tr g42
    clear g42
    apply zA5
    ·intro w_ g_; refine og rfl ?_; refine zA2 rfl (zK9 _) ?_; intro w2_ g2_; exact ⟨g2_, rfl⟩
    apply zA5
    ·intro w_ g_; exact og rfl (zA7 (v := .agg #[.int .i64 (0), .int .i64 (2), .int .i64 (1)]) (fun w => by kernel_rfl) qX)
    apply zA5
    ·intro w_ g_; refine og rfl ?_; refine zA2 rfl (zP1 _) ?_; intro w2_ g2_; exact ⟨g2_, rfl⟩
    refine qA 2 ?_
    apply zA5
    ·intro w_ g_; exact og rfl (zA7 (v := .agg #[.int .i64 (2), .int .i64 (30), .int .i64 (p.off)]) (fun w => by kernel_rfl) qX)
    apply zA5
    ·intro w_ g_; refine og rfl ?_; refine zA2 rfl (qF8 _) ?_; intro w2_ g2_; exact ⟨g2_, rfl⟩
    refine qA 2 ?_
    apply zA5
    ·intro w_ g_; exact og rfl (zA7 (v := .agg #[.int .i64 (32), .int .i64 (3), .int .i64 (p.size)]) (fun w => by kernel_rfl) qX)
    apply zA5
    ·intro w_ g_; refine og rfl ?_; refine zA2 rfl (qA9 _) ?_; intro w2_ g2_; exact ⟨g2_, rfl⟩
    refine qA 2 ?_
    apply zA5
    ·intro w_ g_; exact og rfl (zA7 (v := .agg #[.int .i64 (35), .int .i64 (29), .int .i64 (p.count)]) (fun w => by kernel_rfl) qX)
    refine zS5 (fun w_ v => ∃ b, v = .slice (some ⟨b, 0, none⟩) 4 4 ∧ w_.heap[b]? = some (.cells #[.int .i64 (0), .int .i64 (2), .int .i64 (1), .int .i64 (2), .int .i64 (30), .int .i64 (p.off), .int .i64 (32), .int .i64 (3), .int .i64 (p.size), .int .i64 (35), .int .i64 (29), .int .i64 (p.count)] 218 (0, 0))) (fun _ _ _ g ⟨b, hv, hb⟩ => ⟨b, hv, g.heap hb⟩) ?_ ?_
    ·intro w_ g_
     refine og rfl ?_
     refine zB4 (cs := #[.int .i64 (0), .int .i64 (2), .int .i64 (1), .int .i64 (2), .int .i64 (30), .int .i64 (p.off), .int .i64 (32), .int .i64 (3), .int .i64 (p.size), .int .i64 (35), .int .i64 (29), .int .i64 (p.count)]) (el := 218) (fun w => by kernel_rfl) ?_
     intro b w2_ _ hb g2_
     exact ⟨g2_, b, rfl, hb⟩
    apply zA5
    ·intro w_ g_
     rintro v_ ⟨b, rfl, hb⟩
     show OpG _ _ _ _ _ _
     refine og rfl ?_
     refine zA2 (v := .int .u64 (encW p)) rfl (by rw [← hw]; exact zM9 _ [(0, 2, 1), (2, 30, p.off), (32, 3, p.size), (35, 29, p.count)] b 4 218 (0, 0) (by simp) (by simp) hb) ?_
     intro w2_ g2_
     exact ⟨g2_, rfl⟩
    apply zA5
    ·intro w_ g_; intro v14_ hv14_; show OpG _ _ _ _ _ _; refine og rfl ?_; (first | refine zF6 rfl ?_ | refine zE7 rfl ?_); exact qX
    refine zG5 ?_
    intro w43 g44
    replace hc4 := g44.heap hc4
    replace G := G.tr g44
    clear g44
    intro v_ hv_
    refine qO 5 ?_
    refine stp (zA2 rfl (zF4 _ _ hx0 hx1) ?_)
    intro w45 g46
    replace hc4 := g46.heap hc4
    replace G := G.tr g46
    clear g46
    refine qO 1 ?_
    refine stp (zB3 rfl rfl ?_)
    refine stp (zB3 rfl rfl ?_)
    refine stp (zB2 ?_)
    intro b47 w48 hb49 hc50 g51
    refine stn (qS hc50 ?_)
    intro w52 hc53 u54
    have g55 := g51.upd u54 hb49
    have hge56 := Nat.le_trans G.size hb49
    have ne57 := qN hc4 hb49
    replace hc4 := g55.heap hc4
    replace G := G.tr g55
    clear u54 g51 hb49 hc50
    refine qO 5 ?_
    refine stp ?_
    refine qC ?_
    refine qO 1 ?_
    refine stp ?_
    (first | refine zC7 rfl (by assumption) (by rfl) ?_ | refine zF8 rfl (by assumption) (by rfl) (by rfl) ?_)
    refine stp ?_
    (first | refine zC7 rfl (by assumption) (by rfl) ?_ | refine zF8 rfl (by assumption) (by rfl) (by rfl) ?_)
    refine stp (zZ4 rfl rfl (by rfl) ?_)
    refine stp ?_
    refine qC ?_
    refine zA6 ?_
    refine zA3 rfl (fun hc => ?_) (fun hc => ?_)
    ·
     first | replace hc := qT hc | replace hc := qF hc | skip
     refine qO 6 ?_
     refine ret2 (zA9 rfl) (zA9 rfl) ⟨?_, G⟩
     have hq : ¬ decP (encW p) = p := by
      intro hq
      rw [hq] at hc
      simp at hc
     simp [encR, encE, zK7, hd, hq]
    ·
     first | replace hc := qT hc | replace hc := qF hc | skip
     refine qO 8 ?_
     refine ret2 (zA9 rfl) (zA9 rfl) ⟨?_, G⟩
     have hq : decP (encW p) = p := by
      generalize decP (encW p) = q at hc ⊢
      cases q; cases p; simpa [and_assoc] using hc
     simp [encR, encE, zK7, hd, hq]
   ·
    refine zK0 17 [[], [0], [1], [], [0], [4, 2, 1, 0], [5, 3], [], [0], [8, 6, 2, 1, 0], [9, 7, 3], [], [0], [12, 10, 6, 2, 1, 0], [13, 12, 11, 10, 9, 8, 7, 6, 5, 4, 3, 2, 1, 0], [14, 13, 12, 11, 10, 9, 8, 7, 6, 5, 4, 3, 2, 1, 0], [15, 14, 13, 12, 11, 10, 9, 8, 7, 6, 5, 4, 3, 2, 1, 0]] mixed (by kernel_rfl) (by kernel_rfl) (by kernel_rfl) ?_
    intro w58 g59
    replace hc4 := g59.heap hc4
    replace G := G.tr g59
    clear g59
    apply zA5
    ·intro w_ g_; refine og rfl ?_; refine zA2 rfl (zK9 _) ?_; intro w2_ g2_; exact ⟨g2_, rfl⟩
    apply zA5
    ·intro w_ g_; exact og rfl (zA7 (v := .agg #[.int .i64 (0), .int .i64 (2), .int .i64 (1)]) (fun w => by kernel_rfl) qX)
    apply zA5
    ·intro w_ g_; refine og rfl ?_; refine zA2 rfl (zP1 _) ?_; intro w2_ g2_; exact ⟨g2_, rfl⟩
    refine qA 2 ?_
    apply zA5
    ·intro w_ g_; exact og rfl (zA7 (v := .agg #[.int .i64 (2), .int .i64 (30), .int .i64 (p.off)]) (fun w => by kernel_rfl) qX)
    apply zA5
    ·intro w_ g_; refine og rfl ?_; refine zA2 rfl (qF8 _) ?_; intro w2_ g2_; exact ⟨g2_, rfl⟩
    refine qA 2 ?_
    apply zA5
    ·intro w_ g_; exact og rfl (zA7 (v := .agg #[.int .i64 (32), .int .i64 (3), .int .i64 (p.size)]) (fun w => by kernel_rfl) qX)
    apply zA5
    ·intro w_ g_; refine og rfl ?_; refine zA2 rfl (qA9 _) ?_; intro w2_ g2_; exact ⟨g2_, rfl⟩
    refine qA 2 ?_
    apply zA5
    ·intro w_ g_; exact og rfl (zA7 (v := .agg #[.int .i64 (35), .int .i64 (29), .int .i64 (p.count)]) (fun w => by kernel_rfl) qX)
    refine zS5 (fun w_ v => ∃ b, v = .slice (some ⟨b, 0, none⟩) 4 4 ∧ w_.heap[b]? = some (.cells #[.int .i64 (0), .int .i64 (2), .int .i64 (1), .int .i64 (2), .int .i64 (30), .int .i64 (p.off), .int .i64 (32), .int .i64 (3), .int .i64 (p.size), .int .i64 (35), .int .i64 (29), .int .i64 (p.count)] 218 (0, 0))) (fun _ _ _ g ⟨b, hv, hb⟩ => ⟨b, hv, g.heap hb⟩) ?_ ?_
    ·intro w_ g_
     refine og rfl ?_
     refine zB4 (cs := #[.int .i64 (0), .int .i64 (2), .int .i64 (1), .int .i64 (2), .int .i64 (30), .int .i64 (p.off), .int .i64 (32), .int .i64 (3), .int .i64 (p.size), .int .i64 (35), .int .i64 (29), .int .i64 (p.count)]) (el := 218) (fun w => by kernel_rfl) ?_
     intro b w2_ _ hb g2_
     exact ⟨g2_, b, rfl, hb⟩
    apply zA5
    ·intro w_ g_
     rintro v_ ⟨b, rfl, hb⟩
     show OpG _ _ _ _ _ _
     refine og rfl ?_
     refine zA2 (v := .int .u64 (encW p)) rfl (by rw [← hw]; exact zM9 _ [(0, 2, 1), (2, 30, p.off), (32, 3, p.size), (35, 29, p.count)] b 4 218 (0, 0) (by simp) (by simp) hb) ?_
     intro w2_ g2_
     exact ⟨g2_, rfl⟩
    apply zA5
    ·intro w_ g_; intro v14_ hv14_; show OpG _ _ _ _ _ _; refine og rfl ?_; (first | refine zF6 rfl ?_ | refine zE7 rfl ?_); exact qX
    refine zG5 ?_
    intro w60 g61
    replace hc4 := g61.heap hc4
    replace G := G.tr g61
    clear g61
    intro v_ hv_
    refine qO 5 ?_
    refine stp (zA2 rfl (zF4 _ _ hx0 hx1) ?_)
    intro w62 g63
    replace hc4 := g63.heap hc4
    replace G := G.tr g63
    clear g63
    refine qO 1 ?_
    refine stp (zB3 rfl rfl ?_)
    refine stp (zB3 rfl rfl ?_)
    refine stp (zB2 ?_)
    intro b64 w65 hb66 hc67 g68
    refine stn (qS hc67 ?_)
    intro w69 hc70 u71
    have g72 := g68.upd u71 hb66
    have hge73 := Nat.le_trans G.size hb66
    have ne74 := qN hc4 hb66
    replace hc4 := g72.heap hc4
    replace G := G.tr g72
    clear u71 g68 hb66 hc67
    refine qO 5 ?_
    refine stp ?_
    refine qC ?_
    refine qO 1 ?_
    refine zA4 (zE1 rfl ?_)
    refine zA4 (zE1 rfl ?_)
    refine zA4 (zE1 rfl ?_)
    refine stp ?_
    refine qC ?_
    refine zA6 ?_
    refine zM3 rfl ?_
    refine qO 6 ?_
    refine ret2 (zA9 rfl) (zA9 rfl) ⟨?_, G⟩
    simp [encR, encE, zK7, hd]
  ·
   first | replace h2 := qT h2 | replace h2 := qF h2 | skip
   refine qZ 2 ?_
   refine stp ?_
   refine qC ?_
   refine qO 2 ?_
   refine zA3 rfl (fun h3 => ?_) (fun h3 => ?_)
   ·
    first | replace h3 := qT h3 | replace h3 := qF h3 | skip
    have hw := qQ1 p (.inr (.inr h3))
    unfold fieldsOf at hw
    rw [if_neg h1, if_neg h2] at hw
    refine qO 10 ?_
    refine zA3 rfl (fun hd_ => ?_) (fun hd_ => ?_)
    ·
     first | replace hd_ := qT hd_ | replace hd_ := qF hd_ | skip
     rw [hd_] at hw
     simp only [if_true, Bool.false_eq_true, if_false] at hw
     obtain ⟨hx0, hx1⟩ := zJ8 p
     by_cases hd : decE (encW p) = 0
     ·
      refine qO 3 ?_
      refine zK0 16 [[], [0], [1], [], [3, 1, 0], [4, 2], [], [0], [7, 5, 2, 1, 0], [8, 6, 3], [], [0], [11, 9, 6, 2, 1, 0], [12, 11, 10, 9, 8, 7, 6, 5, 4, 3, 2, 1, 0], [13, 12, 11, 10, 9, 8, 7, 6, 5, 4, 3, 2, 1, 0], [14, 13, 12, 11, 10, 9, 8, 7, 6, 5, 4, 3, 2, 1, 0]] mixed (by kernel_rfl) (by kernel_rfl) (by kernel_rfl) ?_
      intro w75 g76
      replace hc4 := g76.heap hc4
      replace G := G.tr g76
      clear g76
      apply zA5
      ·intro w_ g_; refine og rfl ?_; refine zA2 rfl (zK9 _) ?_; intro w2_ g2_; exact ⟨g2_, rfl⟩
      apply zA5
      ·intro w_ g_; exact og rfl (zA7 (v := .agg #[.int .i64 (0), .int .i64 (2), .int .i64 (2)]) (fun w => by kernel_rfl) qX)
      apply zA5
      ·intro w_ g_; refine og rfl ?_; refine zA2 rfl (zP2 _) ?_; intro w2_ g2_; exact ⟨g2_, rfl⟩
      refine qA 1 ?_
      apply zA5
      ·intro w_ g_; exact og rfl (zA7 (v := .agg #[.int .i64 (2), .int .i64 (1), .int .i64 (1)]) (fun w => by kernel_rfl) qX)
      apply zA5
      ·intro w_ g_; refine og rfl ?_; refine zA2 rfl (zR2 _) ?_; intro w2_ g2_; exact ⟨g2_, rfl⟩
      refine qA 2 ?_
      apply zA5
      ·intro w_ g_; exact og rfl (zA7 (v := .agg #[.int .i64 (3), .int .i64 (29), .int .i64 (p.off)]) (fun w => by kernel_rfl) qX)
      apply zA5
      ·intro w_ g_; refine og rfl ?_; refine zA2 rfl (zX5 _) ?_; intro w2_ g2_; exact ⟨g2_, rfl⟩
      refine qA 2 ?_
      apply zA5
      ·intro w_ g_; exact og rfl (zA7 (v := .agg #[.int .i64 (32), .int .i64 (32), .int .i64 (p.seg)]) (fun w => by kernel_rfl) qX)
      refine zS5 (fun w_ v => ∃ b, v = .slice (some ⟨b, 0, none⟩) 4 4 ∧ w_.heap[b]? = some (.cells #[.int .i64 (0), .int .i64 (2), .int .i64 (2), .int .i64 (2), .int .i64 (1), .int .i64 (1), .int .i64 (3), .int .i64 (29), .int .i64 (p.off), .int .i64 (32), .int .i64 (32), .int .i64 (p.seg)] 218 (0, 0))) (fun _ _ _ g ⟨b, hv, hb⟩ => ⟨b, hv, g.heap hb⟩) ?_ ?_
      ·intro w_ g_
       refine og rfl ?_
       refine zB4 (cs := #[.int .i64 (0), .int .i64 (2), .int .i64 (2), .int .i64 (2), .int .i64 (1), .int .i64 (1), .int .i64 (3), .int .i64 (29), .int .i64 (p.off), .int .i64 (32), .int .i64 (32), .int .i64 (p.seg)]) (el := 218) (fun w => by kernel_rfl) ?_
       intro b w2_ _ hb g2_
       exact ⟨g2_, b, rfl, hb⟩
      apply zA5
      ·intro w_ g_
       rintro v_ ⟨b, rfl, hb⟩
       show OpG _ _ _ _ _ _
       refine og rfl ?_
       refine zA2 (v := .int .u64 (encW p)) rfl (by rw [← hw]; exact zM9 _ [(0, 2, 2), (2, 1, 1), (3, 29, p.off), (32, 32, p.seg)] b 4 218 (0, 0) (by simp) (by simp) hb) ?_
       intro w2_ g2_
       exact ⟨g2_, rfl⟩
      apply zA5
      ·intro w_ g_; intro v13_ hv13_; show OpG _ _ _ _ _ _; refine og rfl ?_; (first | refine zF6 rfl ?_ | refine zE7 rfl ?_); exact qX
      refine zG5 ?_
      intro w77 g78
      replace hc4 := g78.heap hc4
      replace G := G.tr g78
      clear g78
      intro v_ hv_
      refine qO 5 ?_
      refine stp (zA2 rfl (zF4 _ _ hx0 hx1) ?_)
      intro w79 g80
      replace hc4 := g80.heap hc4
      replace G := G.tr g80
      clear g80
      refine qO 1 ?_
      refine stp (zB3 rfl rfl ?_)
      refine stp (zB3 rfl rfl ?_)
      refine stp (zB2 ?_)
      intro b81 w82 hb83 hc84 g85
      refine stn (qS hc84 ?_)
      intro w86 hc87 u88
      have g89 := g85.upd u88 hb83
      have hge90 := Nat.le_trans G.size hb83
      have ne91 := qN hc4 hb83
      replace hc4 := g89.heap hc4
      replace G := G.tr g89
      clear u88 g85 hb83 hc84
      refine qO 5 ?_
      refine stp ?_
      refine qC ?_
      refine qO 1 ?_
      refine stp ?_
      (first | refine zC7 rfl (by assumption) (by rfl) ?_ | refine zF8 rfl (by assumption) (by rfl) (by rfl) ?_)
      refine stp ?_
      (first | refine zC7 rfl (by assumption) (by rfl) ?_ | refine zF8 rfl (by assumption) (by rfl) (by rfl) ?_)
      refine stp (zZ4 rfl rfl (by rfl) ?_)
      refine stp ?_
      refine qC ?_
      refine zA6 ?_
      refine zA3 rfl (fun hc => ?_) (fun hc => ?_)
      ·
       first | replace hc := qT hc | replace hc := qF hc | skip
       refine qO 6 ?_
       refine ret2 (zA9 rfl) (zA9 rfl) ⟨?_, G⟩
       have hq : ¬ decP (encW p) = p := by
        intro hq
        rw [hq] at hc
        simp at hc
       simp [encR, encE, zK7, hd, hq]
      ·
       first | replace hc := qT hc | replace hc := qF hc | skip
       refine qO 8 ?_
       refine ret2 (zA9 rfl) (zA9 rfl) ⟨?_, G⟩
       have hq : decP (encW p) = p := by
        generalize decP (encW p) = q at hc ⊢
        cases q; cases p; simpa [and_assoc] using hc
       simp [encR, encE, zK7, hd, hq]
     ·
      refine qO 3 ?_
      refine zK0 16 [[], [0], [1], [], [3, 1, 0], [4, 2], [], [0], [7, 5, 2, 1, 0], [8, 6, 3], [], [0], [11, 9, 6, 2, 1, 0], [12, 11, 10, 9, 8, 7, 6, 5, 4, 3, 2, 1, 0], [13, 12, 11, 10, 9, 8, 7, 6, 5, 4, 3, 2, 1, 0], [14, 13, 12, 11, 10, 9, 8, 7, 6, 5, 4, 3, 2, 1, 0]] mixed (by kernel_rfl) (by kernel_rfl) (by kernel_rfl) ?_
      intro w92 g93
      replace hc4 := g93.heap hc4
      replace G := G.tr g93
      clear g93
      apply zA5
      ·intro w_ g_; refine og rfl ?_; refine zA2 rfl (zK9 _) ?_; intro w2_ g2_; exact ⟨g2_, rfl⟩
      apply zA5
      ·intro w_ g_; exact og rfl (zA7 (v := .agg #[.int .i64 (0), .int .i64 (2), .int .i64 (2)]) (fun w => by kernel_rfl) qX)
      apply zA5
      ·intro w_ g_; refine og rfl ?_; refine zA2 rfl (zP2 _) ?_; intro w2_ g2_; exact ⟨g2_, rfl⟩
      refine qA 1 ?_
      apply zA5
      ·intro w_ g_; exact og rfl (zA7 (v := .agg #[.int .i64 (2), .int .i64 (1), .int .i64 (1)]) (fun w => by kernel_rfl) qX)
      apply zA5
      ·intro w_ g_; refine og rfl ?_; refine zA2 rfl (zR2 _) ?_; intro w2_ g2_; exact ⟨g2_, rfl⟩
      refine qA 2 ?_
      apply zA5
      ·intro w_ g_; exact og rfl (zA7 (v := .agg #[.int .i64 (3), .int .i64 (29), .int .i64 (p.off)]) (fun w => by kernel_rfl) qX)
      apply zA5
      ·intro w_ g_; refine og rfl ?_; refine zA2 rfl (zX5 _) ?_; intro w2_ g2_; exact ⟨g2_, rfl⟩
      refine qA 2 ?_
      apply zA5
      ·intro w_ g_; exact og rfl (zA7 (v := .agg #[.int .i64 (32), .int .i64 (32), .int .i64 (p.seg)]) (fun w => by kernel_rfl) qX)
      refine zS5 (fun w_ v => ∃ b, v = .slice (some ⟨b, 0, none⟩) 4 4 ∧ w_.heap[b]? = some (.cells #[.int .i64 (0), .int .i64 (2), .int .i64 (2), .int .i64 (2), .int .i64 (1), .int .i64 (1), .int .i64 (3), .int .i64 (29), .int .i64 (p.off), .int .i64 (32), .int .i64 (32), .int .i64 (p.seg)] 218 (0, 0))) (fun _ _ _ g ⟨b, hv, hb⟩ => ⟨b, hv, g.heap hb⟩) ?_ ?_
      ·intro w_ g_
       refine og rfl ?_
       refine zB4 (cs := #[.int .i64 (0), .int .i64 (2), .int .i64 (2), .int .i64 (2), .int .i64 (1), .int .i64 (1), .int .i64 (3), .int .i64 (29), .int .i64 (p.off), .int .i64 (32), .int .i64 (32), .int .i64 (p.seg)]) (el := 218) (fun w => by kernel_rfl) ?_
       intro b w2_ _ hb g2_
       exact ⟨g2_, b, rfl, hb⟩
      apply zA5
      ·intro w_ g_
       rintro v_ ⟨b, rfl, hb⟩
       show OpG _ _ _ _ _ _
       refine og rfl ?_
       refine zA2 (v := .int .u64 (encW p)) rfl (by rw [← hw]; exact zM9 _ [(0, 2, 2), (2, 1, 1), (3, 29, p.off), (32, 32, p.seg)] b 4 218 (0, 0) (by simp) (by simp) hb) ?_
       intro w2_ g2_
       exact ⟨g2_, rfl⟩
      apply zA5
      ·intro w_ g_; intro v13_ hv13_; show OpG _ _ _ _ _ _; refine og rfl ?_; (first | refine zF6 rfl ?_ | refine zE7 rfl ?_); exact qX
      refine zG5 ?_
      intro w94 g95
      replace hc4 := g95.heap hc4
      replace G := G.tr g95
      clear g95
      intro v_ hv_
      refine qO 5 ?_
      refine stp (zA2 rfl (zF4 _ _ hx0 hx1) ?_)
      intro w96 g97
      replace hc4 := g97.heap hc4
      replace G := G.tr g97
      clear g97
      refine qO 1 ?_
      refine stp (zB3 rfl rfl ?_)
      refine stp (zB3 rfl rfl ?_)
      refine stp (zB2 ?_)
      intro b98 w99 hb100 hc101 g102
      refine stn (qS hc101 ?_)
      intro w103 hc104 u105
      have g106 := g102.upd u105 hb100
      have hge107 := Nat.le_trans G.size hb100
      have ne108 := qN hc4 hb100
      replace hc4 := g106.heap hc4
      replace G := G.tr g106
      clear u105 g102 hb100 hc101
      refine qO 5 ?_
      refine stp ?_
      refine qC ?_
      refine qO 1 ?_
      refine zA4 (zE1 rfl ?_)
      refine zA4 (zE1 rfl ?_)
      refine zA4 (zE1 rfl ?_)
      refine stp ?_
      refine qC ?_
      refine zA6 ?_
      refine zM3 rfl ?_
      refine qO 6 ?_
      refine ret2 (zA9 rfl) (zA9 rfl) ⟨?_, G⟩
      simp [encR, encE, zK7, hd]
    ·
     first | replace hd_ := qT hd_ | replace hd_ := qF hd_ | skip
     rw [hd_] at hw
     simp only [if_true, Bool.false_eq_true, if_false] at hw
     obtain ⟨hx0, hx1⟩ := zJ8 p
     by_cases hd : decE (encW p) = 0
     ·
      refine zZ2 ?_
      refine zK0 16 [[], [0], [1], [], [3, 1, 0], [4, 2], [], [0], [7, 5, 2, 1, 0], [8, 6, 3], [], [0], [11, 9, 6, 2, 1, 0], [12, 11, 10, 9, 8, 7, 6, 5, 4, 3, 2, 1, 0], [13, 12, 11, 10, 9, 8, 7, 6, 5, 4, 3, 2, 1, 0], [14, 13, 12, 11, 10, 9, 8, 7, 6, 5, 4, 3, 2, 1, 0]] mixed (by kernel_rfl) (by kernel_rfl) (by kernel_rfl) ?_
      intro w109 g110
      replace hc4 := g110.heap hc4
      replace G := G.tr g110
      clear g110
      apply zA5
      ·intro w_ g_; refine og rfl ?_; refine zA2 rfl (zK9 _) ?_; intro w2_ g2_; exact ⟨g2_, rfl⟩
      apply zA5
      ·intro w_ g_; exact og rfl (zA7 (v := .agg #[.int .i64 (0), .int .i64 (2), .int .i64 (2)]) (fun w => by kernel_rfl) qX)
      apply zA5
      ·intro w_ g_; refine og rfl ?_; refine zA2 rfl (zP2 _) ?_; intro w2_ g2_; exact ⟨g2_, rfl⟩
      refine qA 1 ?_
      apply zA5
      ·intro w_ g_; exact og rfl (zA7 (v := .agg #[.int .i64 (2), .int .i64 (1), .int .i64 (0)]) (fun w => by kernel_rfl) qX)
      apply zA5
      ·intro w_ g_; refine og rfl ?_; refine zA2 rfl (zR2 _) ?_; intro w2_ g2_; exact ⟨g2_, rfl⟩
      refine qA 2 ?_
      apply zA5
      ·intro w_ g_; exact og rfl (zA7 (v := .agg #[.int .i64 (3), .int .i64 (29), .int .i64 (p.off)]) (fun w => by kernel_rfl) qX)
      apply zA5
      ·intro w_ g_; refine og rfl ?_; refine zA2 rfl (zX5 _) ?_; intro w2_ g2_; exact ⟨g2_, rfl⟩
      refine qA 2 ?_
      apply zA5
      ·intro w_ g_; exact og rfl (zA7 (v := .agg #[.int .i64 (32), .int .i64 (32), .int .i64 (p.seg)]) (fun w => by kernel_rfl) qX)
      refine zS5 (fun w_ v => ∃ b, v = .slice (some ⟨b, 0, none⟩) 4 4 ∧ w_.heap[b]? = some (.cells #[.int .i64 (0), .int .i64 (2), .int .i64 (2), .int .i64 (2), .int .i64 (1), .int .i64 (0), .int .i64 (3), .int .i64 (29), .int .i64 (p.off), .int .i64 (32), .int .i64 (32), .int .i64 (p.seg)] 218 (0, 0))) (fun _ _ _ g ⟨b, hv, hb⟩ => ⟨b, hv, g.heap hb⟩) ?_ ?_
      ·intro w_ g_
       refine og rfl ?_
       refine zB4 (cs := #[.int .i64 (0), .int .i64 (2), .int .i64 (2), .int .i64 (2), .int .i64 (1), .int .i64 (0), .int .i64 (3), .int .i64 (29), .int .i64 (p.off), .int .i64 (32), .int .i64 (32), .int .i64 (p.seg)]) (el := 218) (fun w => by kernel_rfl) ?_
       intro b w2_ _ hb g2_
       exact ⟨g2_, b, rfl, hb⟩
      apply zA5
      ·intro w_ g_
       rintro v_ ⟨b, rfl, hb⟩
       show OpG _ _ _ _ _ _
       refine og rfl ?_
       refine zA2 (v := .int .u64 (encW p)) rfl (by rw [← hw]; exact zM9 _ [(0, 2, 2), (2, 1, 0), (3, 29, p.off), (32, 32, p.seg)] b 4 218 (0, 0) (by simp) (by simp) hb) ?_
       intro w2_ g2_
       exact ⟨g2_, rfl⟩
      apply zA5
      ·intro w_ g_; intro v13_ hv13_; show OpG _ _ _ _ _ _; refine og rfl ?_; (first | refine zF6 rfl ?_ | refine zE7 rfl ?_); exact qX
      refine zG5 ?_
      intro w111 g112
      replace hc4 := g112.heap hc4
      replace G := G.tr g112
      clear g112
      intro v_ hv_
      refine qO 5 ?_
      refine stp (zA2 rfl (zF4 _ _ hx0 hx1) ?_)
      intro w113 g114
      replace hc4 := g114.heap hc4
      replace G := G.tr g114
      clear g114
      refine qO 1 ?_
      refine stp (zB3 rfl rfl ?_)
      refine stp (zB3 rfl rfl ?_)
      refine stp (zB2 ?_)
      intro b115 w116 hb117 hc118 g119
      refine stn (qS hc118 ?_)
      intro w120 hc121 u122
      have g123 := g119.upd u122 hb117
      have hge124 := Nat.le_trans G.size hb117
      have ne125 := qN hc4 hb117
      replace hc4 := g123.heap hc4
      replace G := G.tr g123
      clear u122 g119 hb117 hc118
      refine qO 5 ?_
      refine stp ?_
      refine qC ?_
      refine qO 1 ?_
      refine stp ?_
      (first | refine zC7 rfl (by assumption) (by rfl) ?_ | refine zF8 rfl (by assumption) (by rfl) (by rfl) ?_)
      refine stp ?_
      (first | refine zC7 rfl (by assumption) (by rfl) ?_ | refine zF8 rfl (by assumption) (by rfl) (by rfl) ?_)
      refine stp (zZ4 rfl rfl (by rfl) ?_)
      refine stp ?_
      refine qC ?_
      refine zA6 ?_
      refine zA3 rfl (fun hc => ?_) (fun hc => ?_)
      ·
       first | replace hc := qT hc | replace hc := qF hc | skip
       refine qO 6 ?_
       refine ret2 (zA9 rfl) (zA9 rfl) ⟨?_, G⟩
       have hq : ¬ decP (encW p) = p := by
        intro hq
        rw [hq] at hc
        simp at hc
       simp [encR, encE, zK7, hd, hq]
      ·
       first | replace hc := qT hc | replace hc := qF hc | skip
       refine qO 8 ?_
       refine ret2 (zA9 rfl) (zA9 rfl) ⟨?_, G⟩
       have hq : decP (encW p) = p := by
        generalize decP (encW p) = q at hc ⊢
        cases q; cases p; simpa [and_assoc] using hc
       simp [encR, encE, zK7, hd, hq]
     ·
      refine zZ2 ?_
      refine zK0 16 [[], [0], [1], [], [3, 1, 0], [4, 2], [], [0], [7, 5, 2, 1, 0], [8, 6, 3], [], [0], [11, 9, 6, 2, 1, 0], [12, 11, 10, 9, 8, 7, 6, 5, 4, 3, 2, 1, 0], [13, 12, 11, 10, 9, 8, 7, 6, 5, 4, 3, 2, 1, 0], [14, 13, 12, 11, 10, 9, 8, 7, 6, 5, 4, 3, 2, 1, 0]] mixed (by kernel_rfl) (by kernel_rfl) (by kernel_rfl) ?_
      intro w126 g127
      replace hc4 := g127.heap hc4
      replace G := G.tr g127
      clear g127
      apply zA5
      ·intro w_ g_; refine og rfl ?_; refine zA2 rfl (zK9 _) ?_; intro w2_ g2_; exact ⟨g2_, rfl⟩
      apply zA5
      ·intro w_ g_; exact og rfl (zA7 (v := .agg #[.int .i64 (0), .int .i64 (2), .int .i64 (2)]) (fun w => by kernel_rfl) qX)
      apply zA5
      ·intro w_ g_; refine og rfl ?_; refine zA2 rfl (zP2 _) ?_; intro w2_ g2_; exact ⟨g2_, rfl⟩
      refine qA 1 ?_
      apply zA5
      ·intro w_ g_; exact og rfl (zA7 (v := .agg #[.int .i64 (2), .int .i64 (1), .int .i64 (0)]) (fun w => by kernel_rfl) qX)
      apply zA5
      ·intro w_ g_; refine og rfl ?_; refine zA2 rfl (zR2 _) ?_; intro w2_ g2_; exact ⟨g2_, rfl⟩
      refine qA 2 ?_
      apply zA5
      ·intro w_ g_; exact og rfl (zA7 (v := .agg #[.int .i64 (3), .int .i64 (29), .int .i64 (p.off)]) (fun w => by kernel_rfl) qX)
      apply zA5
      ·intro w_ g_; refine og rfl ?_; refine zA2 rfl (zX5 _) ?_; intro w2_ g2_; exact ⟨g2_, rfl⟩
      refine qA 2 ?_
      apply zA5
      ·intro w_ g_; exact og rfl (zA7 (v := .agg #[.int .i64 (32), .int .i64 (32), .int .i64 (p.seg)]) (fun w => by kernel_rfl) qX)
      refine zS5 (fun w_ v => ∃ b, v = .slice (some ⟨b, 0, none⟩) 4 4 ∧ w_.heap[b]? = some (.cells #[.int .i64 (0), .int .i64 (2), .int .i64 (2), .int .i64 (2), .int .i64 (1), .int .i64 (0), .int .i64 (3), .int .i64 (29), .int .i64 (p.off), .int .i64 (32), .int .i64 (32), .int .i64 (p.seg)] 218 (0, 0))) (fun _ _ _ g ⟨b, hv, hb⟩ => ⟨b, hv, g.heap hb⟩) ?_ ?_
      ·intro w_ g_
       refine og rfl ?_
       refine zB4 (cs := #[.int .i64 (0), .int .i64 (2), .int .i64 (2), .int .i64 (2), .int .i64 (1), .int .i64 (0), .int .i64 (3), .int .i64 (29), .int .i64 (p.off), .int .i64 (32), .int .i64 (32), .int .i64 (p.seg)]) (el := 218) (fun w => by kernel_rfl) ?_
       intro b w2_ _ hb g2_
       exact ⟨g2_, b, rfl, hb⟩
      apply zA5
      ·intro w_ g_
       rintro v_ ⟨b, rfl, hb⟩
       show OpG _ _ _ _ _ _
       refine og rfl ?_
       refine zA2 (v := .int .u64 (encW p)) rfl (by rw [← hw]; exact zM9 _ [(0, 2, 2), (2, 1, 0), (3, 29, p.off), (32, 32, p.seg)] b 4 218 (0, 0) (by simp) (by simp) hb) ?_
       intro w2_ g2_
       exact ⟨g2_, rfl⟩
      apply zA5
      ·intro w_ g_; intro v13_ hv13_; show OpG _ _ _ _ _ _; refine og rfl ?_; (first | refine zF6 rfl ?_ | refine zE7 rfl ?_); exact qX
      refine zG5 ?_
      intro w128 g129
      replace hc4 := g129.heap hc4
      replace G := G.tr g129
      clear g129
      intro v_ hv_
      refine qO 5 ?_
      refine stp (zA2 rfl (zF4 _ _ hx0 hx1) ?_)
      intro w130 g131
      replace hc4 := g131.heap hc4
      replace G := G.tr g131
      clear g131
      refine qO 1 ?_
      refine stp (zB3 rfl rfl ?_)
      refine stp (zB3 rfl rfl ?_)
      refine stp (zB2 ?_)
      intro b132 w133 hb134 hc135 g136
      refine stn (qS hc135 ?_)
      intro w137 hc138 u139
      have g140 := g136.upd u139 hb134
      have hge141 := Nat.le_trans G.size hb134
      have ne142 := qN hc4 hb134
      replace hc4 := g140.heap hc4
      replace G := G.tr g140
      clear u139 g136 hb134 hc135
      refine qO 5 ?_
      refine stp ?_
      refine qC ?_
      refine qO 1 ?_
      refine zA4 (zE1 rfl ?_)
      refine zA4 (zE1 rfl ?_)
      refine zA4 (zE1 rfl ?_)
      refine stp ?_
      refine qC ?_
      refine zA6 ?_
      refine zM3 rfl ?_
      refine qO 6 ?_
      refine ret2 (zA9 rfl) (zA9 rfl) ⟨?_, G⟩
      simp [encR, encE, zK7, hd]
   ·
    first | replace h3 := qT h3 | replace h3 := qF h3 | skip
    have hw : encW p = 0 := by unfold encW; rw [if_neg h1, if_neg h2, if_neg h3]
    obtain ⟨hx0, hx1⟩ := zJ8 p
    have hd : decE (encW p) = 0 := by rw [hw]; rfl
    refine qO 5 ?_
    refine stp (zA2 rfl (by rw [← hw]; exact zF4 _ _ hx0 hx1) ?_)
    intro w143 g144
    replace hc4 := g144.heap hc4
    replace G := G.tr g144
    clear g144
    refine qO 1 ?_
    refine stp (zB3 rfl rfl ?_)
    refine stp (zB3 rfl rfl ?_)
    refine stp (zB2 ?_)
    intro b145 w146 hb147 hc148 g149
    refine stn (qS hc148 ?_)
    intro w150 hc151 u152
    have g153 := g149.upd u152 hb147
    have hge154 := Nat.le_trans G.size hb147
    have ne155 := qN hc4 hb147
    replace hc4 := g153.heap hc4
    replace G := G.tr g153
    clear u152 g149 hb147 hc148
    refine qO 5 ?_
    refine stp ?_
    refine qC ?_
    refine qO 1 ?_
    refine stp ?_
    (first | refine zC7 rfl (by assumption) (by rfl) ?_ | refine zF8 rfl (by assumption) (by rfl) (by rfl) ?_)
    refine stp ?_
    (first | refine zC7 rfl (by assumption) (by rfl) ?_ | refine zF8 rfl (by assumption) (by rfl) (by rfl) ?_)
    refine stp (zZ4 rfl rfl (by rfl) ?_)
    refine stp ?_
    refine qC ?_
    refine zA6 ?_
    refine zA3 rfl (fun hc => ?_) (fun hc => ?_)
    ·
     first | replace hc := qT hc | replace hc := qF hc | skip
     refine qO 6 ?_
     refine ret2 (zA9 rfl) (zA9 rfl) ⟨?_, G⟩
     have hq : ¬ decP (encW p) = p := by
      intro hq
      rw [hq] at hc
      simp at hc
     simp [encR, encE, zK7, hd, hq]
    ·
     first | replace hc := qT hc | replace hc := qF hc | skip
     refine qO 8 ?_
     refine ret2 (zA9 rfl) (zA9 rfl) ⟨?_, G⟩
     have hq : decP (encW p) = p := by
      generalize decP (encW p) = q at hc ⊢
      cases q; cases p; simpa [and_assoc] using hc
     rw [hw] at hd hq
     simp [encR, encE, zK7, hw, hd, hq]
theorem qB0 (w : World) (p : Pt) : zC5 Tryz.prog 117 #[.agg #[.int .i64 (p.kind), .int .i64 (p.off), .int .i64 (p.data), .int .i64 (p.ptrs), .int .i64 (p.size), .int .i64 (p.count), .int .i64 (p.seg), .bool p.dbl]] w (.tuple #[.int .i64 (zH4 p), .int .u16 (zI4 p)]) := by
 have G := Grow.rfl' w
 refine zB1 Tryz.func117 Tryz.ntmps117 Tryz.results117 rfl rfl ?_
 refine qZ 2 ?_
 refine stp ?_
 refine qC ?_
 intro b1 w2 hb3 hc4 g5
 have hge6 := Nat.le_trans G.size hb3
 replace G := G.tr g5
 clear g5 hb3
 refine qO 12 ?_
 refine stp ?_
 refine qC ?_
 refine qO 2 ?_
 refine zA3 rfl (fun h0 => ?_) (fun h0 => ?_)
 ·
  first | replace h0 := qT h0 | replace h0 := qF h0 | skip
  refine qO 6 ?_
  refine ret2 (zA9 rfl) (zA9 rfl) ⟨?_, G⟩
  simp [zH4, zI4, h0]
 ·
  first | replace h0 := qT h0 | replace h0 := qF h0 | skip
  refine qZ 2 ?_
  refine stp ?_
  refine qC ?_
  refine qO 2 ?_
  refine zA3 rfl (fun h1 => ?_) (fun h1 => ?_)
  ·
   first | replace h1 := qT h1 | replace h1 := qF h1 | skip
   refine qZ 6 ?_
   refine stp ?_
   (first | (refine zC3 rfl rfl ?_ ?_; (constructor <;> omega)) | refine zF7 rfl rfl ?_)
   refine qO 4 ?_
   refine ret2 (zA9 rfl) (zA9 rfl) ⟨?_, G⟩
   simp [zH4, zI4, h0, h1]
  ·
   first | replace h1 := qT h1 | replace h1 := qF h1 | skip
   refine qZ 2 ?_
   refine stp ?_
   refine qC ?_
   refine qO 2 ?_
   refine zA3 rfl (fun h3 => ?_) (fun h3 => ?_)
   ·
    first | replace h3 := qT h3 | replace h3 := qF h3 | skip
    refine qZ 6 ?_
    refine zA3 rfl (fun hd_ => ?_) (fun hd_ => ?_)
    ·
     first | replace hd_ := qT hd_ | replace hd_ := qF hd_ | skip
     refine qO 6 ?_
     refine ret2 (zA9 rfl) (zA9 rfl) ⟨?_, G⟩
     simp [zH4, zI4, h0, h1, h3, hd_]
    ·
     first | replace hd_ := qT hd_ | replace hd_ := qF hd_ | skip
     refine qO 7 ?_
     refine ret2 (zA9 rfl) (zA9 rfl) ⟨?_, G⟩
     simp [zH4, zI4, h0, h1, h3, hd_]
   ·
    first | replace h3 := qT h3 | replace h3 := qF h3 | skip
    refine qZ 2 ?_
    refine stp ?_
    refine qC ?_
    refine qO 2 ?_
    refine zA3 rfl (fun h2 => ?_) (fun h2 => ?_)
    ·
     first | replace h2 := qT h2 | replace h2 := qF h2 | skip
     refine qZ 15 ?_
     refine stp ?_
     refine qC ?_
     refine qO 2 ?_
     refine zA3 rfl (fun s2 => ?_) (fun s2 => ?_)
     ·
      first | replace s2 := qT s2 | replace s2 := qF s2 | skip
      refine qZ 6 ?_
      refine stp ?_
      (first | (refine zC3 rfl rfl ?_ ?_; (constructor <;> omega)) | refine zF7 rfl rfl ?_)
      refine stp ?_
      (first | (refine zL2 rfl rfl ?_ ?_; (constructor <;> omega)) | refine zQ5 rfl rfl ?_)
      refine stp ?_
      (first | (refine qT4 rfl rfl ?_ ?_ ?_ ?_; omega; omega; (constructor <;> omega)) | (refine yW1 rfl rfl ?_ ?_; omega))
      refine qO 4 ?_
      refine ret2 (zA9 rfl) (zA9 rfl) ⟨?_, G⟩
      simp [zH4, zI4, h0, h1, h3, h2, s2]
     ·
      first | replace s2 := qT s2 | replace s2 := qF s2 | skip
      refine qZ 4 ?_
      refine stp ?_
      refine qC ?_
      refine qO 2 ?_
      refine zA3 rfl (fun s5 => ?_) (fun s5 => ?_)
      ·
       first | replace s5 := qT s5 | replace s5 := qF s5 | skip
       refine qO 10 ?_
       refine ret2 (zA9 rfl) (zA9 rfl) ⟨?_, G⟩
       simp [zH4, zI4, h0, h1, h3, h2, s2, s5]
      ·
       first | replace s5 := qT s5 | replace s5 := qF s5 | skip
       refine qZ 3 ?_
       refine stp ?_
       refine qC ?_
       refine qO 2 ?_
       refine zA3 rfl (fun s6 => ?_) (fun s6 => ?_)
       ·
        first | replace s6 := qT s6 | replace s6 := qF s6 | skip
        refine qO 10 ?_
        refine ret2 (zA9 rfl) (zA9 rfl) ⟨?_, G⟩
        simp [zH4, zI4, h0, h1, h3, h2, s2, s5, s6]
       ·
        first | replace s6 := qT s6 | replace s6 := qF s6 | skip
        refine qO 8 ?_
        refine ret2 (zA9 rfl) (zA9 rfl) ⟨?_, G⟩
        simp [zH4, zI4, h0, h1, h3, h2, s2, s5, s6]
    ·
     first | replace h2 := qT h2 | replace h2 := qF h2 | skip
     refine qO 7 ?_
     refine ret2 (zA9 rfl) (zA9 rfl) ⟨?_, G⟩
     simp [zH4, zI4, h0, h1, h3, h2]
theorem zL0 (w : World) (x : Int) (a b : Nat) (hx0 : 0 ≤ x) (hx1 : x ≤ 18446744073709551615) (ha : a ≤ 63) (hb : b ≤ 62) : zC5 Tryz.prog 85 #[.int .u64 x, .int .i64 a, .int .i64 b] w (.int .u64 (x / 2 ^ a % 2 ^ b)) := by
 have G := Grow.rfl' w
 refine zB1 Tryz.func85 Tryz.ntmps85 Tryz.results85 rfl rfl ?_
 refine qO 10 ?_
 refine zG4 (fun m_ e_ w_ => ∃ (k : Nat), m_ = a - k ∧ Fr [(0, .int .u64 (x / 2 ^ k)), (1, .int .i64 a), (2, .int .i64 b), (7, .int .i64 k)] e_ ∧ (k ≤ a) ∧ Grow w w_) _ ⟨0, rfl, zD2 ⟨congrArg (Value.int .u64) (by simp), rfl, rfl, rfl, trivial⟩, by omega, G⟩ ?_
 clear G
 rintro m_ e_ w1 ⟨k, rfl, ⟨e2, rfl⟩, hk, G⟩
 refine qO 5 ?_
 refine stp ?_
 refine qC ?_
 refine zA6 ?_
 refine zA3 rfl (fun hlt => ?_) (fun hlt => ?_)
 ·
  first | replace hlt := qT hlt | replace hlt := qF hlt | skip
  have hk2 : k < a := by omega
  obtain ⟨hd0, hd1⟩ := qU1 x k hx0
  refine qO 5 ?_
  refine stp ?_
  (first | (refine qT4 rfl rfl ?_ ?_ ?_ ?_; omega; omega; (constructor <;> omega)) | (refine yW1 rfl rfl ?_ ?_; omega))
  refine qO 4 ?_
  refine stp ?_
  (first | (refine zC3 rfl rfl ?_ ?_; (constructor <;> omega)) | refine zF7 rfl rfl ?_)
  refine qO 2 ?_
  refine ⟨_, ?_, k + 1, rfl, zD2 ⟨congrArg (Value.int .u64) (yY2 x k).symm, rfl, rfl, rfl, trivial⟩, by omega, G⟩
  omega
 ·
  first | replace hlt := qT hlt | replace hlt := qF hlt | skip
  have hk2 : k = a := by omega
  subst hk2
  obtain ⟨hd0, hd1⟩ := qU1 x k hx0
  refine qO 11 ?_
  refine zG4 (fun m_ e_ w_ => ∃ (j : Nat), m_ = b - j ∧ Fr [(0, .int .u64 (x / 2 ^ k)), (8, .int .u64 (2 ^ j)), (2, .int .i64 b), (9, .int .i64 j)] e_ ∧ (j ≤ b) ∧ Grow w w_) _ ⟨0, rfl, zD2 ⟨rfl, rfl, rfl, rfl, trivial⟩, by omega, G⟩ ?_
  clear G
  rintro m_ e_ w3 ⟨j, rfl, ⟨e4, rfl⟩, hj, G⟩
  refine qO 5 ?_
  refine stp ?_
  refine qC ?_
  refine zA6 ?_
  refine zA3 rfl (fun hlt2 => ?_) (fun hlt2 => ?_)
  ·
   first | replace hlt2 := qT hlt2 | replace hlt2 := qF hlt2 | skip
   have hj2 : j < b := by omega
   obtain ⟨hp0, hp1, hp2⟩ := qC9 j (by omega)
   refine qO 5 ?_
   refine stp ?_
   (first | (refine qC2 rfl rfl ?_ ?_; (constructor <;> omega)) | refine zW2 rfl rfl ?_)
   refine qO 4 ?_
   refine stp ?_
   (first | (refine zC3 rfl rfl ?_ ?_; (constructor <;> omega)) | refine zF7 rfl rfl ?_)
   refine qO 2 ?_
   refine ⟨_, ?_, j + 1, rfl, zD2 ⟨rfl, congrArg (Value.int .u64) hp2.symm, rfl, rfl, trivial⟩, by omega, G⟩
   omega
  ·
   first | replace hlt2 := qT hlt2 | replace hlt2 := qF hlt2 | skip
   have hj2 : j = b := by omega
   subst hj2
   obtain ⟨hp0, hp1, hp2⟩ := qC9 j (by omega)
   refine qO 5 ?_
   refine stp ?_
   (first | (refine qJ0 rfl rfl ?_ ?_ ?_; omega; omega) | (refine yL4 rfl rfl ?_ ?_; omega))
   refine qO 3 ?_
   exact ret1 (zA9 rfl) ⟨rfl, G⟩
theorem yO0 (w : World) (x : Int) (h0 : 0 ≤ x) (h1 : x ≤ 18446744073709551615) : zC5 Tryz.prog 85 #[.int .u64 x, .int .i64 2, .int .i64 30] w (.int .u64 (x / 4 % 1073741824)) := by
  have h := zL0 w x 2 30 h0 h1 (by omega) (by omega)
  rw [show x / 2 ^ 2 % 2 ^ 30 = x / 4 % 1073741824 from by simp] at h
  exact h
theorem yI2 (w : World) (x : Int) (h0 : 0 ≤ x) (h1 : x ≤ 18446744073709551615) : zC5 Tryz.prog 85 #[.int .u64 x, .int .i64 32, .int .i64 16] w (.int .u64 (x / 4294967296 % 65536)) := by
  have h := zL0 w x 32 16 h0 h1 (by omega) (by omega)
  rw [show x / 2 ^ 32 % 2 ^ 16 = x / 4294967296 % 65536 from by simp] at h
  exact h
theorem yI3 (w : World) (x : Int) (h0 : 0 ≤ x) (h1 : x ≤ 18446744073709551615) : zC5 Tryz.prog 85 #[.int .u64 x, .int .i64 48, .int .i64 16] w (.int .u64 (x / 281474976710656 % 65536)) := by
  have h := zL0 w x 48 16 h0 h1 (by omega) (by omega)
  rw [show x / 2 ^ 48 % 2 ^ 16 = x / 281474976710656 % 65536 from by simp] at h
  exact h
theorem yO1 (w : World) (x : Int) (h0 : 0 ≤ x) (h1 : x ≤ 18446744073709551615) : zC5 Tryz.prog 85 #[.int .u64 x, .int .i64 32, .int .i64 3] w (.int .u64 (x / 4294967296 % 8)) := by
  have h := zL0 w x 32 3 h0 h1 (by omega) (by omega)
  rw [show x / 2 ^ 32 % 2 ^ 3 = x / 4294967296 % 8 from by simp] at h
  exact h
theorem yI4 (w : World) (x : Int) (h0 : 0 ≤ x) (h1 : x ≤ 18446744073709551615) : zC5 Tryz.prog 85 #[.int .u64 x, .int .i64 35, .int .i64 29] w (.int .u64 (x / 34359738368 % 536870912)) := by
  have h := zL0 w x 35 29 h0 h1 (by omega) (by omega)
  rw [show x / 2 ^ 35 % 2 ^ 29 = x / 34359738368 % 536870912 from by simp] at h
  exact h
theorem yO2 (w : World) (x : Int) (h0 : 0 ≤ x) (h1 : x ≤ 18446744073709551615) : zC5 Tryz.prog 85 #[.int .u64 x, .int .i64 3, .int .i64 29] w (.int .u64 (x / 8 % 536870912)) := by
  have h := zL0 w x 3 29 h0 h1 (by omega) (by omega)
  rw [show x / 2 ^ 3 % 2 ^ 29 = x / 8 % 536870912 from by simp] at h
  exact h
theorem yI5 (w : World) (x : Int) (h0 : 0 ≤ x) (h1 : x ≤ 18446744073709551615) : zC5 Tryz.prog 85 #[.int .u64 x, .int .i64 32, .int .i64 32] w (.int .u64 (x / 4294967296 % 4294967296)) := by
  have h := zL0 w x 32 32 h0 h1 (by omega) (by omega)
  rw [show x / 2 ^ 32 % 2 ^ 32 = x / 4294967296 % 4294967296 from by simp] at h
  exact h
theorem yT3 (w : World) (x : Int) (h0 : 0 ≤ x) (h1 : x ≤ 18446744073709551615) : zC5 Tryz.prog 85 #[.int .u64 x, .int .i64 2, .int .i64 1] w (.int .u64 (x / 4 % 2)) := by
  have h := zL0 w x 2 1 h0 h1 (by omega) (by omega)
  rw [show x / 2 ^ 2 % 2 ^ 1 = x / 4 % 2 from by simp] at h
  exact h
theorem qR5 (w : World) (n : Int) (h0 : 0 ≤ n) (h1 : n < 1073741824) : zC5 Tryz.prog 86 #[.int .u64 n, .int .i64 30] w (.int .i64 (zW0 n)) := by
 have G := Grow.rfl' w
 refine zB1 Tryz.func86 Tryz.ntmps86 Tryz.results86 rfl rfl ?_
 refine qO 7 ?_
 refine stp ?_
 (first | (refine qA3 rfl rfl rfl ?_ ?_; omega) | (refine qA4 rfl rfl rfl ?_ ?_; omega) | refine qA2 rfl rfl rfl ?_)
 refine stp ?_
 (first | (refine yM1 rfl rfl rfl ?_ ?_; omega) | (refine yM2 rfl rfl rfl ?_ ?_; omega) | refine qT5 rfl rfl rfl ?_)
 refine qO 12 ?_
 refine zG4 (fun m_ e_ w_ => ∃ (k : Nat), m_ = 29 - k ∧ Fr [(0, .int .u64 n), (1, .int .i64 30), (5, .int .i64 (2 ^ k)), (6, .int .i64 (k + 1))] e_ ∧ (k ≤ 29) ∧ Grow w w_) _ ⟨0, rfl, zD2 ⟨rfl, rfl, rfl, rfl, trivial⟩, by omega, G⟩ ?_
 clear G
 rintro m_ e_ w1 ⟨k, rfl, ⟨e2, rfl⟩, hk, G⟩
 refine qO 5 ?_
 refine stp ?_
 refine qC ?_
 refine zA6 ?_
 refine zA3 rfl (fun hlt => ?_) (fun hlt => ?_)
 ·
  first | replace hlt := qT hlt | replace hlt := qF hlt | skip
  obtain ⟨hp0, hp1, hp2⟩ := qZ5 k (by omega)
  refine qO 5 ?_
  refine stp ?_
  (first | (refine qC2 rfl rfl ?_ ?_; (constructor <;> omega)) | refine zW2 rfl rfl ?_)
  refine qO 4 ?_
  refine stp ?_
  (first | (refine zC3 rfl rfl ?_ ?_; (constructor <;> omega)) | refine zF7 rfl rfl ?_)
  refine qO 2 ?_
  refine ⟨_, ?_, k + 1, rfl, zD2 ⟨rfl, rfl, congrArg (Value.int .i64) hp2.symm, rfl, trivial⟩, by omega, G⟩
  omega
 ·
  first | replace hlt := qT hlt | replace hlt := qF hlt | skip
  have hk2 : k = 29 := by omega
  subst hk2
  have hpw : (2 : Int) ^ 29 = 536870912 := rfl
  refine qO 5 ?_
  refine stp ?_
  (first | (refine zH8 rfl ?_ ?_; (constructor <;> omega)) | refine zJ2 rfl ?_)
  refine stp ?_
  (first | (refine qC2 rfl rfl ?_ ?_; (constructor <;> omega)) | refine zW2 rfl rfl ?_)
  refine stp ?_
  (first | (refine qJ0 rfl rfl ?_ ?_ ?_; omega; omega) | (refine yL4 rfl rfl ?_ ?_; omega))
  refine stp ?_
  (first | (refine zH8 rfl ?_ ?_; (constructor <;> omega)) | refine zJ2 rfl ?_)
  refine qO 7 ?_
  refine stp ?_
  refine qC ?_
  refine zA6 ?_
  refine zA3 rfl (fun hge => ?_) (fun hge => ?_)
  ·
   first | replace hge := qT hge | replace hge := qF hge | skip
   refine qO 4 ?_
   refine stp ?_
   (first | (refine zL2 rfl rfl ?_ ?_; (constructor <;> omega)) | refine zQ5 rfl rfl ?_)
   refine qO 1 ?_
   refine stp ?_
   (first | (refine zL2 rfl rfl ?_ ?_; (constructor <;> omega)) | refine zQ5 rfl rfl ?_)
   refine qO 3 ?_
   refine ret1 (zA9 rfl) ⟨congrArg (Value.int .i64) ?_, G⟩
   unfold zW0; rw [if_neg (by omega)]; omega
  ·
   first | replace hge := qT hge | replace hge := qF hge | skip
   refine qO 7 ?_
   refine ret1 (zA9 rfl) ⟨congrArg (Value.int .i64) ?_, G⟩
   unfold zW0; rw [if_pos (by omega)]; omega
theorem jD4 (w : World) (x m : Int) (b : Nat) (hx0 : 0 ≤ x) (hx1 : x ≤ 18446744073709551615) (hb : b ≤ 62) (hm : x % 2 ^ b = m) : zC5 Tryz.prog 85 #[.int .u64 x, .int .i64 0, .int .i64 b] w (.int .u64 m) := by
  have h := zL0 w x 0 b hx0 hx1 (by omega) hb
  rw [Int.pow_zero, Int.ediv_one, hm] at h
  exact h
theorem zX6 (w : World) (x m : Int) (b : Nat) (hb : b ≤ 62) (hm : IntKind.u64.wrap x % 2 ^ b = m) : zC5 Tryz.prog 48 #[.int .i64 x, .int .i64 b] w (.int .u64 m) := by
 have G := Grow.rfl' w
 refine zB1 Tryz.func48 Tryz.ntmps48 Tryz.results48 rfl rfl ?_
 have hu := wrap_u64 x
 refine qO 7 ?_
 refine stp ?_
 (first | (refine zH8 rfl ?_ ?_; (constructor <;> omega)) | refine zJ2 rfl ?_)
 refine qO 1 ?_
 refine stp (zA2 rfl (jD4 _ _ _ b (by omega) (by omega) hb hm) ?_)
 intro w1 g2
 replace G := G.tr g2
 clear g2
 refine qO 3 ?_
 exact ret1 (zA9 rfl) ⟨rfl, G⟩
theorem yF2 (w : World) (x : Int) : zC5 Tryz.prog 48 #[.int .i64 x, .int .i64 30] w (.int .u64 (x % 1073741824)) :=
  zX6 w x _ 30 (by omega) (by rw [wrap_u64]; show _ % (1073741824 : Int) = _; omega)
theorem yF3 (w : World) (x : Int) : zC5 Tryz.prog 48 #[.int .i64 x, .int .i64 16] w (.int .u64 (x % 65536)) :=
  zX6 w x _ 16 (by omega) (by rw [wrap_u64]; show _ % (65536 : Int) = _; omega)
theorem jC1 (w : World) (x : Int) : zC5 Tryz.prog 48 #[.int .i64 x, .int .i64 3] w (.int .u64 (x % 8)) :=
  zX6 w x _ 3 (by omega) (by rw [wrap_u64]; show _ % (8 : Int) = _; omega)
theorem yO3 (w : World) (x : Int) : zC5 Tryz.prog 48 #[.int .i64 x, .int .i64 29] w (.int .u64 (x % 536870912)) :=
  zX6 w x _ 29 (by omega) (by rw [wrap_u64]; show _ % (536870912 : Int) = _; omega)
theorem jC2 (w : World) (x : Int) : zC5 Tryz.prog 48 #[.int .i64 x, .int .i64 32] w (.int .u64 (x % 4294967296)) :=
  zX6 w x _ 32 (by omega) (by rw [wrap_u64]; show _ % (4294967296 : Int) = _; omega)
theorem zH2 (w : World) (x : Int) (hx0 : 0 ≤ x) (hx1 : x ≤ 18446744073709551615) : zC5 Tryz.prog 49 #[.int .u64 x] w (.tuple #[(decP x).v, .int .i64 (decE x)]) := by
 have G := Grow.rfl' w
 refine zB1 Tryz.func49 Tryz.ntmps49 Tryz.results49 rfl rfl ?_
 refine qZ 2 ?_
 refine stp (zB2 ?_)
 intro b1 w2 hb3 hc4 g5
 refine qO 6 ?_
 refine stp ?_
 refine qC ?_
 refine zA6 ?_
 have hge6 := Nat.le_trans G.size hb3
 replace G := G.tr g5
 clear g5 hb3
 refine zA3 rfl (fun h0 => ?_) (fun h0 => ?_)
 ·
  first | replace h0 := qT h0 | replace h0 := qF h0 | skip
  refine qZ 2 ?_
  refine stp (zA7 (v := .agg #[.int .i64 (0), .int .i64 (0), .int .i64 (0), .int .i64 (0), .int .i64 (0), .int .i64 (0), .int .i64 (0), .bool false]) (fun w => by kernel_rfl) ?_)
  refine stn (qS hc4 ?_)
  intro w10 hc11 u12
  replace G := G.upd u12 hge6
  clear u12 hc4
  refine qO 3 ?_
  subst h0
  refine ret2 (zB0 rfl (by assumption) (by rfl)) (zA9 rfl) ⟨?_, G⟩
  simp [decP, decE, Pt.v, Pt0]
 ·
  first | replace h0 := qT h0 | replace h0 := qF h0 | skip
  refine qO 4 ?_
  refine stp (zA2 rfl (yO0 _ _ (by omega) (by omega)) ?_)
  intro w13 g14
  replace hc4 := g14.heap hc4
  replace G := G.tr g14
  clear g14
  refine stp (zA2 rfl (qR5 _ _ (by omega) (by omega)) ?_)
  intro w15 g16
  replace hc4 := g16.heap hc4
  replace G := G.tr g16
  clear g16
  refine qO 6 ?_
  refine stp ?_
  (first | (refine qJ0 rfl rfl ?_ ?_ ?_; omega; omega) | (refine yL4 rfl rfl ?_ ?_; omega))
  refine qZ 4 ?_
  refine stp ?_
  refine qC ?_
  refine qO 2 ?_
  refine zA3 rfl (fun h1 => ?_) (fun h1 => ?_)
  ·
   first | replace h1 := qT h1 | replace h1 := qF h1 | skip
   refine qO 4 ?_
   refine stp (zA2 rfl (yI2 _ _ (by omega) (by omega)) ?_)
   intro w17 g18
   replace hc4 := g18.heap hc4
   replace G := G.tr g18
   clear g18
   refine stp ?_
   (first | (refine zH8 rfl ?_ ?_; (constructor <;> omega)) | refine zJ2 rfl ?_)
   refine qO 1 ?_
   refine stp (zA2 rfl (yI3 _ _ (by omega) (by omega)) ?_)
   intro w19 g20
   replace hc4 := g20.heap hc4
   replace G := G.tr g20
   clear g20
   refine stp ?_
   (first | (refine zH8 rfl ?_ ?_; (constructor <;> omega)) | refine zJ2 rfl ?_)
   refine stp (zA7 (v := .agg #[.int .i64 (1), .int .i64 (zW0 (x / 4 % 1073741824)), .int .i64 (x / 4294967296 % 65536), .int .i64 (x / 281474976710656 % 65536), .int .i64 (0), .int .i64 (0), .int .i64 (0), .bool false]) (fun w => by kernel_rfl) ?_)
   refine stn (qS hc4 ?_)
   intro w24 hc25 u26
   replace G := G.upd u26 hge6
   clear u26 hc4
   refine qO 3 ?_
   refine ret2 (zB0 rfl (by assumption) (by rfl)) (zA9 rfl) ⟨?_, G⟩
   simp [decP, decE, Pt.v, Pt0, h0, h1]
  ·
   first | replace h1 := qT h1 | replace h1 := qF h1 | skip
   refine qZ 2 ?_
   refine stp ?_
   refine qC ?_
   refine qO 2 ?_
   refine zA3 rfl (fun h2 => ?_) (fun h2 => ?_)
   ·
    first | replace h2 := qT h2 | replace h2 := qF h2 | skip
    refine qO 4 ?_
    refine stp (zA2 rfl (yO1 _ _ (by omega) (by omega)) ?_)
    intro w27 g28
    replace hc4 := g28.heap hc4
    replace G := G.tr g28
    clear g28
    refine stp ?_
    (first | (refine zH8 rfl ?_ ?_; (constructor <;> omega)) | refine zJ2 rfl ?_)
    refine qO 1 ?_
    refine stp (zA2 rfl (yI4 _ _ (by omega) (by omega)) ?_)
    intro w29 g30
    replace hc4 := g30.heap hc4
    replace G := G.tr g30
    clear g30
    refine stp ?_
    (first | (refine zH8 rfl ?_ ?_; (constructor <;> omega)) | refine zJ2 rfl ?_)
    refine stp (zA7 (v := .agg #[.int .i64 (2), .int .i64 (zW0 (x / 4 % 1073741824)), .int .i64 (0), .int .i64 (0), .int .i64 (x / 4294967296 % 8), .int .i64 (x / 34359738368 % 536870912), .int .i64 (0), .bool false]) (fun w => by kernel_rfl) ?_)
    refine stn (qS hc4 ?_)
    intro w34 hc35 u36
    replace G := G.upd u36 hge6
    clear u36 hc4
    refine qO 3 ?_
    refine ret2 (zB0 rfl (by assumption) (by rfl)) (zA9 rfl) ⟨?_, G⟩
    simp [decP, decE, Pt.v, Pt0, h0, h1, h2]
   ·
    first | replace h2 := qT h2 | replace h2 := qF h2 | skip
    refine qZ 2 ?_
    refine stp ?_
    refine qC ?_
    refine qO 2 ?_
    refine zA3 rfl (fun h3 => ?_) (fun h3 => ?_)
    ·
     first | replace h3 := qT h3 | replace h3 := qF h3 | skip
     refine qO 3 ?_
     refine stp (zA2 rfl (yO2 _ _ (by omega) (by omega)) ?_)
     intro w37 g38
     replace hc4 := g38.heap hc4
     replace G := G.tr g38
     clear g38
     refine stp ?_
     (first | (refine zH8 rfl ?_ ?_; (constructor <;> omega)) | refine zJ2 rfl ?_)
     refine qO 1 ?_
     refine stp (zA2 rfl (yI5 _ _ (by omega) (by omega)) ?_)
     intro w39 g40
     replace hc4 := g40.heap hc4
     replace G := G.tr g40
     clear g40
     refine stp ?_
     (first | (refine zH8 rfl ?_ ?_; (constructor <;> omega)) | refine zJ2 rfl ?_)
     refine qO 1 ?_
     refine stp (zA2 rfl (yT3 _ _ (by omega) (by omega)) ?_)
     intro w41 g42
     replace hc4 := g42.heap hc4
     replace G := G.tr g42
     clear g42
     refine stp (zE2 rfl rfl ?_)
     refine stp (zA7 (v := .agg #[.int .i64 (3), .int .i64 (x / 8 % 536870912), .int .i64 (0), .int .i64 (0), .int .i64 (0), .int .i64 (0), .int .i64 (x / 4294967296 % 4294967296), .bool (decide (x / 4 % 2 = 1))]) (fun w => by kernel_rfl) ?_)
     refine stn (qS hc4 ?_)
     intro w46 hc47 u48
     replace G := G.upd u48 hge6
     clear u48 hc4
     refine qO 3 ?_
     refine ret2 (zB0 rfl (by assumption) (by rfl)) (zA9 rfl) ⟨?_, G⟩
     simp [decP, decE, Pt.v, Pt0, h0, h1, h2, h3]
    ·
     first | replace h3 := qT h3 | replace h3 := qF h3 | skip
     have h4 : x % 4 = 3 := by omega
     refine qZ 3 ?_
     refine stp (zA7 (v := .agg #[.int .i64 (0), .int .i64 (0), .int .i64 (0), .int .i64 (0), .int .i64 (0), .int .i64 (0), .int .i64 (0), .bool false]) (fun w => by kernel_rfl) ?_)
     refine stn (qS hc4 ?_)
     intro w52 hc53 u54
     replace G := G.upd u54 hge6
     clear u54 hc4
     refine qO 3 ?_
     refine ret2 (zB0 rfl (by assumption) (by rfl)) (zA9 rfl) ⟨?_, G⟩
     simp [decP, decE, Pt.v, Pt0, h0, h1, h2, h3, h4]
theorem zV5 (w : World) (p : Pt) : zC5 Tryz.prog 29 #[.agg #[.int .i64 (p.kind), .int .i64 (p.off), .int .i64 (p.data), .int .i64 (p.ptrs), .int .i64 (p.size), .int .i64 (p.count), .int .i64 (p.seg), .bool p.dbl]] w (.tuple #[.int .u64 (encR p), .int .i64 (encE p)]) := by
 have G := Grow.rfl' w
 refine zB1 Tryz.func29 Tryz.ntmps29 Tryz.results29 rfl rfl ?_
 refine qZ 2 ?_
 refine stp ?_
 refine qC ?_
 intro b1 w2 hb3 hc4 g5
 have hge6 := Nat.le_trans G.size hb3
 replace G := G.tr g5
 clear g5 hb3
 refine qO 16 ?_
 refine stp ?_
 refine qC ?_
 refine qO 2 ?_
 refine zA3 rfl (fun h1 => ?_) (fun h1 => ?_)
 ·
  first | replace h1 := qT h1 | replace h1 := qF h1 | skip
  have hw : 4 * (p.off % 1073741824) + p.data % 65536 * 4294967296 + p.ptrs % 65536 * 281474976710656 = encW p := by unfold encW; rw [if_pos h1]; omega
  obtain ⟨hx0, hx1⟩ := zJ8 p
  by_cases hd : decE (encW p) = 0
  ·
   refine zK0 15 [[], [0], [1, 0], [2, 1, 0], [], [0], [5, 4, 3, 1, 0], [6, 5, 4, 2, 1, 0], [7, 6, 5, 4, 3, 2, 1, 0], [], [0], [10, 9, 8, 6, 5, 4, 1, 0], [11, 10, 9, 7, 6, 5, 2, 1, 0], [12, 11, 10, 9, 8, 7, 6, 5, 4, 3, 2, 1, 0], [13, 12, 11, 10, 9, 8, 7, 6, 5, 4, 3, 2, 1, 0]] mixed (by kernel_rfl) (by kernel_rfl) (by kernel_rfl) ?_
   intro w7 g8
   replace hc4 := g8.heap hc4
   replace G := G.tr g8
   clear g8
   refine qA 2 ?_
   apply zA5
   ·intro w_ g_; refine og rfl ?_; refine zA2 rfl (yF2 _ _) ?_; intro w2_ g2_; exact ⟨g2_, rfl⟩
   apply zA5
   ·intro w_ g_; refine og rfl ?_; (first | (refine qC2 rfl rfl ?_ ?_; (constructor <;> omega)) | refine zW2 rfl rfl ?_); exact qX
   refine qA 2 ?_
   apply zA5
   ·intro w_ g_; refine og rfl ?_; refine zA2 rfl (yF3 _ _) ?_; intro w2_ g2_; exact ⟨g2_, rfl⟩
   apply zA5
   ·intro w_ g_; refine og rfl ?_; (first | (refine zZ3 (m := 4294967296) rfl rfl (by decide) (by decide) ?_ ?_; (constructor <;> omega)) | refine zS6 (m := 4294967296) rfl rfl (by decide) (by decide) ?_); exact qX
   apply zA5
   ·intro w_ g_; refine og rfl ?_; (first | (refine zC3 rfl rfl ?_ ?_; (constructor <;> omega)) | refine zF7 rfl rfl ?_); exact qX
   refine qA 2 ?_
   apply zA5
   ·intro w_ g_; refine og rfl ?_; refine zA2 rfl (yF3 _ _) ?_; intro w2_ g2_; exact ⟨g2_, rfl⟩
   apply zA5
   ·intro w_ g_; refine og rfl ?_; (first | (refine zZ3 (m := 281474976710656) rfl rfl (by decide) (by decide) ?_ ?_; (constructor <;> omega)) | refine zS6 (m := 281474976710656) rfl rfl (by decide) (by decide) ?_); exact qX
   apply zA5
   ·intro w_ g_; refine og rfl ?_; (first | (refine zC3 rfl rfl ?_ ?_; (constructor <;> omega)) | refine zF7 rfl rfl ?_); exact qX
   refine qA 1 ?_
   refine zG5 ?_
   intro w9 g10
   replace hc4 := g10.heap hc4
   replace G := G.tr g10
   clear g10
   refine qO 4 ?_
   refine stp (zA2 rfl (by (try rw [hw]); exact zH2 _ _ hx0 hx1) ?_)
   intro w11 g12
   replace hc4 := g12.heap hc4
   replace G := G.tr g12
   clear g12
   refine qO 1 ?_
   refine stp (zB3 rfl rfl ?_)
   refine stp (zB3 rfl rfl ?_)
   refine stp (zB2 ?_)
   intro b13 w14 hb15 hc16 g17
   refine stn (qS hc16 ?_)
   intro w18 hc19 u20
   have g21 := g17.upd u20 hb15
   have hge22 := Nat.le_trans G.size hb15
   have ne23 := qN hc4 hb15
   replace hc4 := g21.heap hc4
   replace G := G.tr g21
   clear u20 g17 hb15 hc16
   refine qO 6 ?_
   refine stp ?_
   refine qC ?_
   refine qO 1 ?_
   refine stp ?_
   (first | refine zC7 rfl (by assumption) (by rfl) ?_ | refine zF8 rfl (by assumption) (by rfl) (by rfl) ?_)
   refine stp ?_
   (first | refine zC7 rfl (by assumption) (by rfl) ?_ | refine zF8 rfl (by assumption) (by rfl) (by rfl) ?_)
   refine stp (zZ4 rfl rfl (by rfl) ?_)
   refine stp ?_
   refine qC ?_
   refine zA6 ?_
   refine zA3 rfl (fun hc => ?_) (fun hc => ?_)
   ·
    first | replace hc := qT hc | replace hc := qF hc | skip
    refine qO 6 ?_
    refine ret2 (zA9 rfl) (zA9 rfl) ⟨?_, G⟩
    have hq : ¬ decP (encW p) = p := by
     intro hq
     rw [hq] at hc
     simp at hc
    simp [encR, encE, zK7, hd, hq]
   ·
    first | replace hc := qT hc | replace hc := qF hc | skip
    refine qO 8 ?_
    refine ret2 (zA9 rfl) (zA9 rfl) ⟨?_, G⟩
    have hq : decP (encW p) = p := by
     generalize decP (encW p) = q at hc ⊢
     cases q; cases p; simpa [and_assoc] using hc
    simp [encR, encE, zK7, hd, hq] <;> omega
  ·
   refine zK0 15 [[], [0], [1, 0], [2, 1, 0], [], [0], [5, 4, 3, 1, 0], [6, 5, 4, 2, 1, 0], [7, 6, 5, 4, 3, 2, 1, 0], [], [0], [10, 9, 8, 6, 5, 4, 1, 0], [11, 10, 9, 7, 6, 5, 2, 1, 0], [12, 11, 10, 9, 8, 7, 6, 5, 4, 3, 2, 1, 0], [13, 12, 11, 10, 9, 8, 7, 6, 5, 4, 3, 2, 1, 0]] mixed (by kernel_rfl) (by kernel_rfl) (by kernel_rfl) ?_
   intro w24 g25
   replace hc4 := g25.heap hc4
   replace G := G.tr g25
   clear g25
   refine qA 2 ?_
   apply zA5
   ·intro w_ g_; refine og rfl ?_; refine zA2 rfl (yF2 _ _) ?_; intro w2_ g2_; exact ⟨g2_, rfl⟩
   apply zA5
   ·intro w_ g_; refine og rfl ?_; (first | (refine qC2 rfl rfl ?_ ?_; (constructor <;> omega)) | refine zW2 rfl rfl ?_); exact qX
   refine qA 2 ?_
   apply zA5
   ·intro w_ g_; refine og rfl ?_; refine zA2 rfl (yF3 _ _) ?_; intro w2_ g2_; exact ⟨g2_, rfl⟩
   apply zA5
   ·intro w_ g_; refine og rfl ?_; (first | (refine zZ3 (m := 4294967296) rfl rfl (by decide) (by decide) ?_ ?_; (constructor <;> omega)) | refine zS6 (m := 4294967296) rfl rfl (by decide) (by decide) ?_); exact qX
   apply zA5
   ·intro w_ g_; refine og rfl ?_; (first | (refine zC3 rfl rfl ?_ ?_; (constructor <;> omega)) | refine zF7 rfl rfl ?_); exact qX
   refine qA 2 ?_
   apply zA5
   ·intro w_ g_; refine og rfl ?_; refine zA2 rfl (yF3 _ _) ?_; intro w2_ g2_; exact ⟨g2_, rfl⟩
   apply zA5
   ·intro w_ g_; refine og rfl ?_; (first | (refine zZ3 (m := 281474976710656) rfl rfl (by decide) (by decide) ?_ ?_; (constructor <;> omega)) | refine zS6 (m := 281474976710656) rfl rfl (by decide) (by decide) ?_); exact qX
   apply zA5
   ·intro w_ g_; refine og rfl ?_; (first | (refine zC3 rfl rfl ?_ ?_; (constructor <;> omega)) | refine zF7 rfl rfl ?_); exact qX
   refine qA 1 ?_
   refine zG5 ?_
   intro w26 g27
   replace hc4 := g27.heap hc4
   replace G := G.tr g27
   clear g27
   refine qO 4 ?_
   refine stp (zA2 rfl (by (try rw [hw]); exact zH2 _ _ hx0 hx1) ?_)
   intro w28 g29
   replace hc4 := g29.heap hc4
   replace G := G.tr g29
   clear g29
   refine qO 1 ?_
   refine stp (zB3 rfl rfl ?_)
   refine stp (zB3 rfl rfl ?_)
   refine stp (zB2 ?_)
   intro b30 w31 hb32 hc33 g34
   refine stn (qS hc33 ?_)
   intro w35 hc36 u37
   have g38 := g34.upd u37 hb32
   have hge39 := Nat.le_trans G.size hb32
   have ne40 := qN hc4 hb32
   replace hc4 := g38.heap hc4
   replace G := G.tr g38
   clear u37 g34 hb32 hc33
   refine qO 6 ?_
   refine stp ?_
   refine qC ?_
   refine qO 1 ?_
   refine zA4 (zE1 rfl ?_)
   refine zA4 (zE1 rfl ?_)
   refine zA4 (zE1 rfl ?_)
   refine stp ?_
   refine qC ?_
   refine zA6 ?_
   refine zM3 rfl ?_
   refine qO 6 ?_
   refine ret2 (zA9 rfl) (zA9 rfl) ⟨?_, G⟩
   simp [encR, encE, zK7, hd]
 ·
  first | replace h1 := qT h1 | replace h1 := qF h1 | skip
  refine qZ 2 ?_
  refine stp ?_
  refine qC ?_
  refine qO 2 ?_
  refine zA3 rfl (fun h2 => ?_) (fun h2 => ?_)
  ·
   first | replace h2 := qT h2 | replace h2 := qF h2 | skip
   have hw : 1 + 4 * (p.off % 1073741824) + p.size % 8 * 4294967296 + p.count % 536870912 * 34359738368 = encW p := by unfold encW; rw [if_neg h1, if_pos h2]; omega
   obtain ⟨hx0, hx1⟩ := zJ8 p
   by_cases hd : decE (encW p) = 0
   ·
    refine zK0 16 [[], [0], [1, 0], [2, 1, 0], [3, 2, 1, 0], [], [0], [6, 5, 4, 1, 0], [7, 6, 5, 2, 1, 0], [8, 7, 6, 5, 4, 3, 2, 1, 0], [], [0], [11, 10, 9, 6, 5, 4, 1, 0], [12, 11, 10, 7, 6, 5, 2, 1, 0], [13, 12, 11, 10, 9, 8, 7, 6, 5, 4, 3, 2, 1, 0], [14, 13, 12, 11, 10, 9, 8, 7, 6, 5, 4, 3, 2, 1, 0]] mixed (by kernel_rfl) (by kernel_rfl) (by kernel_rfl) ?_
    intro w41 g42
    replace hc4 := g42.heap hc4
    replace G := G.tr g42
    clear g42
    refine qA 2 ?_
    apply zA5
    ·intro w_ g_; refine og rfl ?_; refine zA2 rfl (yF2 _ _) ?_; intro w2_ g2_; exact ⟨g2_, rfl⟩
    apply zA5
    ·intro w_ g_; refine og rfl ?_; (first | (refine qC2 rfl rfl ?_ ?_; (constructor <;> omega)) | refine zW2 rfl rfl ?_); exact qX
    apply zA5
    ·intro w_ g_; refine og rfl ?_; (first | (refine zC3 rfl rfl ?_ ?_; (constructor <;> omega)) | refine zF7 rfl rfl ?_); exact qX
    refine qA 2 ?_
    apply zA5
    ·intro w_ g_; refine og rfl ?_; refine zA2 rfl (jC1 _ _) ?_; intro w2_ g2_; exact ⟨g2_, rfl⟩
    apply zA5
    ·intro w_ g_; refine og rfl ?_; (first | (refine zZ3 (m := 4294967296) rfl rfl (by decide) (by decide) ?_ ?_; (constructor <;> omega)) | refine zS6 (m := 4294967296) rfl rfl (by decide) (by decide) ?_); exact qX
    apply zA5
    ·intro w_ g_; refine og rfl ?_; (first | (refine zC3 rfl rfl ?_ ?_; (constructor <;> omega)) | refine zF7 rfl rfl ?_); exact qX
    refine qA 2 ?_
    apply zA5
    ·intro w_ g_; refine og rfl ?_; refine zA2 rfl (yO3 _ _) ?_; intro w2_ g2_; exact ⟨g2_, rfl⟩
    apply zA5
    ·intro w_ g_; refine og rfl ?_; (first | (refine zZ3 (m := 34359738368) rfl rfl (by decide) (by decide) ?_ ?_; (constructor <;> omega)) | refine zS6 (m := 34359738368) rfl rfl (by decide) (by decide) ?_); exact qX
    apply zA5
    ·intro w_ g_; refine og rfl ?_; (first | (refine zC3 rfl rfl ?_ ?_; (constructor <;> omega)) | refine zF7 rfl rfl ?_); exact qX
    refine qA 1 ?_
    refine zG5 ?_
    intro w43 g44
    replace hc4 := g44.heap hc4
    replace G := G.tr g44
    clear g44
    refine qO 4 ?_
    refine stp (zA2 rfl (by (try rw [hw]); exact zH2 _ _ hx0 hx1) ?_)
    intro w45 g46
    replace hc4 := g46.heap hc4
    replace G := G.tr g46
    clear g46
    refine qO 1 ?_
    refine stp (zB3 rfl rfl ?_)
    refine stp (zB3 rfl rfl ?_)
    refine stp (zB2 ?_)
    intro b47 w48 hb49 hc50 g51
    refine stn (qS hc50 ?_)
    intro w52 hc53 u54
    have g55 := g51.upd u54 hb49
    have hge56 := Nat.le_trans G.size hb49
    have ne57 := qN hc4 hb49
    replace hc4 := g55.heap hc4
    replace G := G.tr g55
    clear u54 g51 hb49 hc50
    refine qO 6 ?_
    refine stp ?_
    refine qC ?_
    refine qO 1 ?_
    refine stp ?_
    (first | refine zC7 rfl (by assumption) (by rfl) ?_ | refine zF8 rfl (by assumption) (by rfl) (by rfl) ?_)
    refine stp ?_
    (first | refine zC7 rfl (by assumption) (by rfl) ?_ | refine zF8 rfl (by assumption) (by rfl) (by rfl) ?_)
    refine stp (zZ4 rfl rfl (by rfl) ?_)
    refine stp ?_
    refine qC ?_
    refine zA6 ?_
    refine zA3 rfl (fun hc => ?_) (fun hc => ?_)
    ·
     first | replace hc := qT hc | replace hc := qF hc | skip
     refine qO 6 ?_
     refine ret2 (zA9 rfl) (zA9 rfl) ⟨?_, G⟩
     have hq : ¬ decP (encW p) = p := by
      intro hq
      rw [hq] at hc
      simp at hc
     simp [encR, encE, zK7, hd, hq]
    ·
     first | replace hc := qT hc | replace hc := qF hc | skip
     refine qO 8 ?_
     refine ret2 (zA9 rfl) (zA9 rfl) ⟨?_, G⟩
     have hq : decP (encW p) = p := by
      generalize decP (encW p) = q at hc ⊢
      cases q; cases p; simpa [and_assoc] using hc
     simp [encR, encE, zK7, hd, hq] <;> omega
   ·
    refine zK0 16 [[], [0], [1, 0], [2, 1, 0], [3, 2, 1, 0], [], [0], [6, 5, 4, 1, 0], [7, 6, 5, 2, 1, 0], [8, 7, 6, 5, 4, 3, 2, 1, 0], [], [0], [11, 10, 9, 6, 5, 4, 1, 0], [12, 11, 10, 7, 6, 5, 2, 1, 0], [13, 12, 11, 10, 9, 8, 7, 6, 5, 4, 3, 2, 1, 0], [14, 13, 12, 11, 10, 9, 8, 7, 6, 5, 4, 3, 2, 1, 0]] mixed (by kernel_rfl) (by kernel_rfl) (by kernel_rfl) ?_
    intro w58 g59
    replace hc4 := g59.heap hc4
    replace G := G.tr g59
    clear g59
    refine qA 2 ?_
    apply zA5
    ·intro w_ g_; refine og rfl ?_; refine zA2 rfl (yF2 _ _) ?_; intro w2_ g2_; exact ⟨g2_, rfl⟩
    apply zA5
    ·intro w_ g_; refine og rfl ?_; (first | (refine qC2 rfl rfl ?_ ?_; (constructor <;> omega)) | refine zW2 rfl rfl ?_); exact qX
    apply zA5
    ·intro w_ g_; refine og rfl ?_; (first | (refine zC3 rfl rfl ?_ ?_; (constructor <;> omega)) | refine zF7 rfl rfl ?_); exact qX
    refine qA 2 ?_
    apply zA5
    ·intro w_ g_; refine og rfl ?_; refine zA2 rfl (jC1 _ _) ?_; intro w2_ g2_; exact ⟨g2_, rfl⟩
    apply zA5
    ·intro w_ g_; refine og rfl ?_; (first | (refine zZ3 (m := 4294967296) rfl rfl (by decide) (by decide) ?_ ?_; (constructor <;> omega)) | refine zS6 (m := 4294967296) rfl rfl (by decide) (by decide) ?_); exact qX
    apply zA5
    ·intro w_ g_; refine og rfl ?_; (first | (refine zC3 rfl rfl ?_ ?_; (constructor <;> omega)) | refine zF7 rfl rfl ?_); exact qX
    refine qA 2 ?_
    apply zA5
    ·intro w_ g_; refine og rfl ?_; refine zA2 rfl (yO3 _ _) ?_; intro w2_ g2_; exact ⟨g2_, rfl⟩
    apply zA5
    ·intro w_ g_; refine og rfl ?_; (first | (refine zZ3 (m := 34359738368) rfl rfl (by decide) (by decide) ?_ ?_; (constructor <;> omega)) | refine zS6 (m := 34359738368) rfl rfl (by decide) (by decide) ?_); exact qX
    apply zA5
    ·intro w_ g_; refine og rfl ?_; (first | (refine zC3 rfl rfl ?_ ?_; (constructor <;> omega)) | refine zF7 rfl rfl ?_); exact qX
    refine qA 1 ?_
    refine zG5 ?_
    intro w60 g61
    replace hc4 := g61.heap hc4
    replace G := G.tr g61
    clear g61
    refine qO 4 ?_
    refine stp (zA2 rfl (by (try rw [hw]); exact zH2 _ _ hx0 hx1) ?_)
    intro w62 g63
    replace hc4 := g63.heap hc4
    replace G := G.tr g63
    clear g63
    refine qO 1 ?_
    refine stp (zB3 rfl rfl ?_)
    refine stp (zB3 rfl rfl ?_)
    refine stp (zB2 ?_)
    intro b64 w65 hb66 hc67 g68
    refine stn (qS hc67 ?_)
    intro w69 hc70 u71
    have g72 := g68.upd u71 hb66
    have hge73 := Nat.le_trans G.size hb66
    have ne74 := qN hc4 hb66
    replace hc4 := g72.heap hc4
    replace G := G.tr g72
    clear u71 g68 hb66 hc67
    refine qO 6 ?_
    refine stp ?_
    refine qC ?_
    refine qO 1 ?_
    refine zA4 (zE1 rfl ?_)
    refine zA4 (zE1 rfl ?_)
    refine zA4 (zE1 rfl ?_)
    refine stp ?_
    refine qC ?_
    refine zA6 ?_
    refine zM3 rfl ?_
    refine qO 6 ?_
    refine ret2 (zA9 rfl) (zA9 rfl) ⟨?_, G⟩
    simp [encR, encE, zK7, hd]
  ·
   first | replace h2 := qT h2 | replace h2 := qF h2 | skip
   refine qZ 2 ?_
   refine stp ?_
   refine qC ?_
   refine qO 2 ?_
   refine zA3 rfl (fun h3 => ?_) (fun h3 => ?_)
   ·
    first | replace h3 := qT h3 | replace h3 := qF h3 | skip
    refine zU5 ?_
    refine zK0 11 [[], [0], [1, 0], [2, 1, 0], [3, 2, 1, 0], [], [0], [6, 5, 4, 1, 0], [7, 6, 5, 2, 1, 0], [8, 7, 6, 5, 4, 3, 2, 1, 0], [9, 8, 7, 6, 5, 4, 3, 2, 1, 0]] mixed (by kernel_rfl) (by kernel_rfl) (by kernel_rfl) ?_
    intro w75 g76
    replace hc4 := g76.heap hc4
    replace G := G.tr g76
    clear g76
    refine qA 2 ?_
    apply zA5
    ·intro w_ g_; refine og rfl ?_; refine zA2 rfl (yO3 _ _) ?_; intro w2_ g2_; exact ⟨g2_, rfl⟩
    apply zA5
    ·intro w_ g_; refine og rfl ?_; (first | (refine qC2 rfl rfl ?_ ?_; (constructor <;> omega)) | refine zW2 rfl rfl ?_); exact qX
    apply zA5
    ·intro w_ g_; refine og rfl ?_; (first | (refine zC3 rfl rfl ?_ ?_; (constructor <;> omega)) | refine zF7 rfl rfl ?_); exact qX
    refine qA 2 ?_
    apply zA5
    ·intro w_ g_; refine og rfl ?_; refine zA2 rfl (jC2 _ _) ?_; intro w2_ g2_; exact ⟨g2_, rfl⟩
    apply zA5
    ·intro w_ g_; refine og rfl ?_; (first | (refine zZ3 (m := 4294967296) rfl rfl (by decide) (by decide) ?_ ?_; (constructor <;> omega)) | refine zS6 (m := 4294967296) rfl rfl (by decide) (by decide) ?_); exact qX
    apply zA5
    ·intro w_ g_; refine og rfl ?_; (first | (refine zC3 rfl rfl ?_ ?_; (constructor <;> omega)) | refine zF7 rfl rfl ?_); exact qX
    refine qA 1 ?_
    refine zG5 ?_
    intro w77 g78
    replace hc4 := g78.heap hc4
    replace G := G.tr g78
    clear g78
    refine qZ 6 ?_
    refine zA3 rfl (fun hd_ => ?_) (fun hd_ => ?_)
    ·
     first | replace hd_ := qT hd_ | replace hd_ := qF hd_ | skip
     have hw : 2 + 8 * (p.off % 536870912) + p.seg % 4294967296 * 4294967296 + 4 = encW p := by unfold encW; rw [if_neg h1, if_neg h2, if_pos h3, hd_]; simp; omega
     obtain ⟨hx0, hx1⟩ := zJ8 p
     by_cases hd : decE (encW p) = 0
     ·
      refine qO 2 ?_
      refine stp ?_
      (first | (refine zC3 rfl rfl ?_ ?_; (constructor <;> omega)) | refine zF7 rfl rfl ?_)
      refine qO 5 ?_
      refine stp (zA2 rfl (by (try rw [hw]); exact zH2 _ _ hx0 hx1) ?_)
      intro w79 g80
      replace hc4 := g80.heap hc4
      replace G := G.tr g80
      clear g80
      refine qO 1 ?_
      refine stp (zB3 rfl rfl ?_)
      refine stp (zB3 rfl rfl ?_)
      refine stp (zB2 ?_)
      intro b81 w82 hb83 hc84 g85
      refine stn (qS hc84 ?_)
      intro w86 hc87 u88
      have g89 := g85.upd u88 hb83
      have hge90 := Nat.le_trans G.size hb83
      have ne91 := qN hc4 hb83
      replace hc4 := g89.heap hc4
      replace G := G.tr g89
      clear u88 g85 hb83 hc84
      refine qO 6 ?_
      refine stp ?_
      refine qC ?_
      refine qO 1 ?_
      refine stp ?_
      (first | refine zC7 rfl (by assumption) (by rfl) ?_ | refine zF8 rfl (by assumption) (by rfl) (by rfl) ?_)
      refine stp ?_
      (first | refine zC7 rfl (by assumption) (by rfl) ?_ | refine zF8 rfl (by assumption) (by rfl) (by rfl) ?_)
      refine stp (zZ4 rfl rfl (by rfl) ?_)
      refine stp ?_
      refine qC ?_
      refine zA6 ?_
      refine zA3 rfl (fun hc => ?_) (fun hc => ?_)
      ·
       first | replace hc := qT hc | replace hc := qF hc | skip
       refine qO 6 ?_
       refine ret2 (zA9 rfl) (zA9 rfl) ⟨?_, G⟩
       have hq : ¬ decP (encW p) = p := by
        intro hq
        rw [hq] at hc
        simp at hc
       simp [encR, encE, zK7, hd, hq]
      ·
       first | replace hc := qT hc | replace hc := qF hc | skip
       refine qO 8 ?_
       refine ret2 (zA9 rfl) (zA9 rfl) ⟨?_, G⟩
       have hq : decP (encW p) = p := by
        generalize decP (encW p) = q at hc ⊢
        cases q; cases p; simpa [and_assoc] using hc
       simp [encR, encE, zK7, hd, hq] <;> omega
     ·
      refine qO 2 ?_
      refine stp ?_
      (first | (refine zC3 rfl rfl ?_ ?_; (constructor <;> omega)) | refine zF7 rfl rfl ?_)
      refine qO 5 ?_
      refine stp (zA2 rfl (by (try rw [hw]); exact zH2 _ _ hx0 hx1) ?_)
      intro w92 g93
      replace hc4 := g93.heap hc4
      replace G := G.tr g93
      clear g93
      refine qO 1 ?_
      refine stp (zB3 rfl rfl ?_)
      refine stp (zB3 rfl rfl ?_)
      refine stp (zB2 ?_)
      intro b94 w95 hb96 hc97 g98
      refine stn (qS hc97 ?_)
      intro w99 hc100 u101
      have g102 := g98.upd u101 hb96
      have hge103 := Nat.le_trans G.size hb96
      have ne104 := qN hc4 hb96
      replace hc4 := g102.heap hc4
      replace G := G.tr g102
      clear u101 g98 hb96 hc97
      refine qO 6 ?_
      refine stp ?_
      refine qC ?_
      refine qO 1 ?_
      refine zA4 (zE1 rfl ?_)
      refine zA4 (zE1 rfl ?_)
      refine zA4 (zE1 rfl ?_)
      refine stp ?_
      refine qC ?_
      refine zA6 ?_
      refine zM3 rfl ?_
      refine qO 6 ?_
      refine ret2 (zA9 rfl) (zA9 rfl) ⟨?_, G⟩
      simp [encR, encE, zK7, hd]
    ·
     first | replace hd_ := qT hd_ | replace hd_ := qF hd_ | skip
     have hw : 2 + 8 * (p.off % 536870912) + p.seg % 4294967296 * 4294967296 = encW p := by unfold encW; rw [if_neg h1, if_neg h2, if_pos h3, hd_]; simp; omega
     obtain ⟨hx0, hx1⟩ := zJ8 p
     by_cases hd : decE (encW p) = 0
     ·
      refine qO 4 ?_
      refine stp (zA2 rfl (by (try rw [hw]); exact zH2 _ _ hx0 hx1) ?_)
      intro w105 g106
      replace hc4 := g106.heap hc4
      replace G := G.tr g106
      clear g106
      refine qO 1 ?_
      refine stp (zB3 rfl rfl ?_)
      refine stp (zB3 rfl rfl ?_)
      refine stp (zB2 ?_)
      intro b107 w108 hb109 hc110 g111
      refine stn (qS hc110 ?_)
      intro w112 hc113 u114
      have g115 := g111.upd u114 hb109
      have hge116 := Nat.le_trans G.size hb109
      have ne117 := qN hc4 hb109
      replace hc4 := g115.heap hc4
      replace G := G.tr g115
      clear u114 g111 hb109 hc110
      refine qO 6 ?_
      refine stp ?_
      refine qC ?_
      refine qO 1 ?_
      refine stp ?_
      (first | refine zC7 rfl (by assumption) (by rfl) ?_ | refine zF8 rfl (by assumption) (by rfl) (by rfl) ?_)
      refine stp ?_
      (first | refine zC7 rfl (by assumption) (by rfl) ?_ | refine zF8 rfl (by assumption) (by rfl) (by rfl) ?_)
      refine stp (zZ4 rfl rfl (by rfl) ?_)
      refine stp ?_
      refine qC ?_
      refine zA6 ?_
      refine zA3 rfl (fun hc => ?_) (fun hc => ?_)
      ·
       first | replace hc := qT hc | replace hc := qF hc | skip
       refine qO 6 ?_
       refine ret2 (zA9 rfl) (zA9 rfl) ⟨?_, G⟩
       have hq : ¬ decP (encW p) = p := by
        intro hq
        rw [hq] at hc
        simp at hc
       simp [encR, encE, zK7, hd, hq]
      ·
       first | replace hc := qT hc | replace hc := qF hc | skip
       refine qO 8 ?_
       refine ret2 (zA9 rfl) (zA9 rfl) ⟨?_, G⟩
       have hq : decP (encW p) = p := by
        generalize decP (encW p) = q at hc ⊢
        cases q; cases p; simpa [and_assoc] using hc
       simp [encR, encE, zK7, hd, hq] <;> omega
     ·
      refine qO 4 ?_
      refine stp (zA2 rfl (by (try rw [hw]); exact zH2 _ _ hx0 hx1) ?_)
      intro w118 g119
      replace hc4 := g119.heap hc4
      replace G := G.tr g119
      clear g119
      refine qO 1 ?_
      refine stp (zB3 rfl rfl ?_)
      refine stp (zB3 rfl rfl ?_)
      refine stp (zB2 ?_)
      intro b120 w121 hb122 hc123 g124
      refine stn (qS hc123 ?_)
      intro w125 hc126 u127
      have g128 := g124.upd u127 hb122
      have hge129 := Nat.le_trans G.size hb122
      have ne130 := qN hc4 hb122
      replace hc4 := g128.heap hc4
      replace G := G.tr g128
      clear u127 g124 hb122 hc123
      refine qO 6 ?_
      refine stp ?_
      refine qC ?_
      refine qO 1 ?_
      refine zA4 (zE1 rfl ?_)
      refine zA4 (zE1 rfl ?_)
      refine zA4 (zE1 rfl ?_)
      refine stp ?_
      refine qC ?_
      refine zA6 ?_
      refine zM3 rfl ?_
      refine qO 6 ?_
      refine ret2 (zA9 rfl) (zA9 rfl) ⟨?_, G⟩
      simp [encR, encE, zK7, hd]
   ·
    first | replace h3 := qT h3 | replace h3 := qF h3 | skip
    have hw : 0 = encW p := by unfold encW; rw [if_neg h1, if_neg h2, if_neg h3]
    obtain ⟨hx0, hx1⟩ := zJ8 p
    by_cases hd : decE (encW p) = 0
    ·
     refine qO 4 ?_
     refine stp (zA2 rfl (by (try rw [hw]); exact zH2 _ _ hx0 hx1) ?_)
     intro w131 g132
     replace hc4 := g132.heap hc4
     replace G := G.tr g132
     clear g132
     refine qO 1 ?_
     refine stp (zB3 rfl rfl ?_)
     refine stp (zB3 rfl rfl ?_)
     refine stp (zB2 ?_)
     intro b133 w134 hb135 hc136 g137
     refine stn (qS hc136 ?_)
     intro w138 hc139 u140
     have g141 := g137.upd u140 hb135
     have hge142 := Nat.le_trans G.size hb135
     have ne143 := qN hc4 hb135
     replace hc4 := g141.heap hc4
     replace G := G.tr g141
     clear u140 g137 hb135 hc136
     refine qO 6 ?_
     refine stp ?_
     refine qC ?_
     refine qO 1 ?_
     refine stp ?_
     (first | refine zC7 rfl (by assumption) (by rfl) ?_ | refine zF8 rfl (by assumption) (by rfl) (by rfl) ?_)
     refine stp ?_
     (first | refine zC7 rfl (by assumption) (by rfl) ?_ | refine zF8 rfl (by assumption) (by rfl) (by rfl) ?_)
     refine stp (zZ4 rfl rfl (by rfl) ?_)
     refine stp ?_
     refine qC ?_
     refine zA6 ?_
     refine zA3 rfl (fun hc => ?_) (fun hc => ?_)
     ·
      first | replace hc := qT hc | replace hc := qF hc | skip
      refine qO 6 ?_
      refine ret2 (zA9 rfl) (zA9 rfl) ⟨?_, G⟩
      have hq : ¬ decP (encW p) = p := by
       intro hq
       rw [hq] at hc
       simp at hc
      simp [encR, encE, zK7, hd, hq]
     ·
      first | replace hc := qT hc | replace hc := qF hc | skip
      refine qO 8 ?_
      refine ret2 (zA9 rfl) (zA9 rfl) ⟨?_, G⟩
      have hq : decP (encW p) = p := by
       generalize decP (encW p) = q at hc ⊢
       cases q; cases p; simpa [and_assoc] using hc
      simp [encR, encE, zK7, hd, hq] <;> omega
    ·
     refine qO 4 ?_
     refine stp (zA2 rfl (by (try rw [hw]); exact zH2 _ _ hx0 hx1) ?_)
     intro w144 g145
     replace hc4 := g145.heap hc4
     replace G := G.tr g145
     clear g145
     refine qO 1 ?_
     refine stp (zB3 rfl rfl ?_)
     refine stp (zB3 rfl rfl ?_)
     refine stp (zB2 ?_)
     intro b146 w147 hb148 hc149 g150
     refine stn (qS hc149 ?_)
     intro w151 hc152 u153
     have g154 := g150.upd u153 hb148
     have hge155 := Nat.le_trans G.size hb148
     have ne156 := qN hc4 hb148
     replace hc4 := g154.heap hc4
     replace G := G.tr g154
     clear u153 g150 hb148 hc149
     refine qO 6 ?_
     refine stp ?_
     refine qC ?_
     refine qO 1 ?_
     refine zA4 (zE1 rfl ?_)
     refine zA4 (zE1 rfl ?_)
     refine zA4 (zE1 rfl ?_)
     refine stp ?_
     refine qC ?_
     refine zA6 ?_
     refine zM3 rfl ?_
     refine qO 6 ?_
     refine ret2 (zA9 rfl) (zA9 rfl) ⟨?_, G⟩
     simp [encR, encE, zK7, hd]
theorem yO4 (w : World) (a b : Int) (h0 : 0 ≤ a) (h1 : a ≤ 4096) (h2 : 0 ≤ b) (h3 : b ≤ 140737488355328) : zC5 Tryz.prog 87 #[.int .i64 a, .int .i64 b, .int .i64 4096] w (.tuple #[.int .i64 (if a + b ≤ 4096 then a + b else 0), .bool (decide (a + b ≤ 4096))]) := by
 have G := Grow.rfl' w
 refine zB1 Tryz.func87 Tryz.ntmps87 Tryz.results87 rfl rfl ?_
 by_cases hab : a ≤ b
 ·
  by_cases hs : a + b ≤ 4096
  ·
   refine qO 10 ?_
   refine stp ?_
   (first | (refine qA3 rfl rfl rfl ?_ ?_; omega) | (refine qA4 rfl rfl rfl ?_ ?_; omega) | refine qA2 rfl rfl rfl ?_)
   refine stp ?_
   refine qC ?_
   refine qO 3 ?_
   refine stp ?_
   refine qC ?_
   refine stp (zH6 rfl rfl rfl ?_)
   refine qO 4 ?_
   refine stp ?_
   (first | (refine zL2 rfl rfl ?_ ?_; (constructor <;> omega)) | refine zQ5 rfl rfl ?_)
   refine stp ?_
   refine qC ?_
   refine stp (zH6 rfl rfl rfl ?_)
   refine zA6 ?_
   refine zJ5 rfl ?_
   refine qO 5 ?_
   refine stp ?_
   (first | (refine zC3 rfl rfl ?_ ?_; (constructor <;> omega)) | refine zF7 rfl rfl ?_)
   refine qO 4 ?_
   refine ret2 (zA9 rfl) (zO5 rfl) ⟨?_, G⟩
   simp [hs]
  ·
   refine qO 10 ?_
   refine stp ?_
   (first | (refine qA3 rfl rfl rfl ?_ ?_; omega) | (refine qA4 rfl rfl rfl ?_ ?_; omega) | refine qA2 rfl rfl rfl ?_)
   refine stp ?_
   refine qC ?_
   refine qO 3 ?_
   refine stp ?_
   refine qC ?_
   refine stp (zH6 rfl rfl rfl ?_)
   refine qO 4 ?_
   refine stp ?_
   (first | (refine zL2 rfl rfl ?_ ?_; (constructor <;> omega)) | refine zQ5 rfl rfl ?_)
   refine stp ?_
   refine qC ?_
   refine stp (zH6 rfl rfl rfl ?_)
   refine zA6 ?_
   refine zM3 rfl ?_
   refine qO 6 ?_
   refine ret2 (zA9 rfl) (zO5 rfl) ⟨?_, G⟩
   simp [hs]
 ·
  by_cases hs : a + b ≤ 4096
  ·
   refine qO 10 ?_
   refine stp ?_
   (first | (refine qA3 rfl rfl rfl ?_ ?_; omega) | (refine qA4 rfl rfl rfl ?_ ?_; omega) | refine qA2 rfl rfl rfl ?_)
   refine stp ?_
   refine qC ?_
   refine qO 3 ?_
   refine stp ?_
   refine qC ?_
   refine stp (zH6 rfl rfl rfl ?_)
   refine qO 4 ?_
   refine stp ?_
   (first | (refine zL2 rfl rfl ?_ ?_; (constructor <;> omega)) | refine zQ5 rfl rfl ?_)
   refine stp ?_
   refine qC ?_
   refine stp (zH6 rfl rfl rfl ?_)
   refine zA6 ?_
   refine zJ5 rfl ?_
   refine qO 5 ?_
   refine stp ?_
   (first | (refine zC3 rfl rfl ?_ ?_; (constructor <;> omega)) | refine zF7 rfl rfl ?_)
   refine qO 4 ?_
   refine ret2 (zA9 rfl) (zO5 rfl) ⟨?_, G⟩
   simp [hs]
  ·
   refine qO 10 ?_
   refine stp ?_
   (first | (refine qA3 rfl rfl rfl ?_ ?_; omega) | (refine qA4 rfl rfl rfl ?_ ?_; omega) | refine qA2 rfl rfl rfl ?_)
   refine stp ?_
   refine qC ?_
   refine qO 3 ?_
   refine stp ?_
   refine qC ?_
   refine stp (zH6 rfl rfl rfl ?_)
   refine qO 4 ?_
   refine stp ?_
   (first | (refine zL2 rfl rfl ?_ ?_; (constructor <;> omega)) | refine zQ5 rfl rfl ?_)
   refine stp ?_
   refine qC ?_
   refine stp (zH6 rfl rfl rfl ?_)
   refine zA6 ?_
   refine zM3 rfl ?_
   refine qO 6 ?_
   refine ret2 (zA9 rfl) (zO5 rfl) ⟨?_, G⟩
   simp [hs]
theorem qV7 (w : World) {ad : Option Addr} {n c : Nat} {segs : List Value} {A : List (List Int)} (R : RowAt w 1 ad n segs) (hA : A.length = n) (hs : ∀ (i : Nat) (s : List Int), A[i]? = some s → ∃ v, segs[i]? = some v ∧ Row w 1 v s.length (zI7 s)) (hn : n ≤ 1000) (hm : ∀ s ∈ A, s.length ≤ 100000) : zC5 Tryz.prog 109 #[.slice ad n c] w (.int .i64 (zB9 A)) := by
 have G := Grow.rfl' w
 refine zB1 Tryz.func109 Tryz.ntmps109 Tryz.results109 rfl rfl ?_
 refine qO 14 ?_
 refine zG4 (fun m_ e_ w_ => ∃ (k : Nat), m_ = n - k ∧ Fr [(0, .slice ad n c), (3, .int .i64 (zB9 (A.take k))), (4, .int .i64 (k : Int))] e_ ∧ (k ≤ n) ∧ Grow w w_) _ ⟨0, rfl, zD2 ⟨rfl, rfl, rfl, trivial⟩, by omega, G⟩ ?_
 clear G
 rintro m_ e_ w1 ⟨k, rfl, ⟨e2, rfl⟩, hk, G⟩
 refine qO 6 ?_
 refine stp ?_
 refine qC ?_
 refine zA6 ?_
 refine zA3 rfl (fun hlt => ?_) (fun hlt => ?_)
 ·
  first | replace hlt := qT hlt | replace hlt := qF hlt | skip
  have hi : k < A.length := by omega
  obtain ⟨v, hv, ad2, c2, rfl, hc1, hc2, R2⟩ := hs k A[k] (List.getElem?_eq_getElem hi)
  obtain ⟨b_, o_, cs_, T_, fr_, rfl, hb_, hx_⟩ := (R.grow G).at_ (by omega)
  have ht := qA5 hi
  have hb1 := qG8 (A := A.take k) (fun s h => hm s (List.mem_of_mem_take h))
  have hlk : (A.take k).length ≤ 1000 := by rw [List.length_take]; omega
  have hmk := hm A[k] (List.getElem_mem hi)
  refine qO 7 ?_
  refine stp ?_
  (refine zD4 rfl rfl ?_ ?_ ?_; omega; omega)
  refine stp (zD1 (v := .slice ad2 A[k].length c2) rfl hb_ (by rw [Int.toNat_natCast, Nat.mul_one]; exact zL6 hx_ hv) ?_)
  refine qZ 1 ?_
  refine stp ?_
  (first | (refine zC3 rfl rfl ?_ ?_; (constructor <;> omega)) | refine zF7 rfl rfl ?_)
  refine qO 4 ?_
  refine stp ?_
  (first | (refine zC3 rfl rfl ?_ ?_; (constructor <;> omega)) | refine zF7 rfl rfl ?_)
  refine qO 2 ?_
  refine ⟨_, ?_, k + 1, rfl, zD2 ⟨rfl, congrArg (Value.int .i64) ht.symm, rfl, trivial⟩, by omega, G⟩
  omega
 ·
  first | replace hlt := qT hlt | replace hlt := qF hlt | skip
  have hk2 : k = A.length := by omega
  subst hk2
  refine qO 7 ?_
  refine ret1 (zA9 rfl) ⟨?_, G⟩
  rw [List.take_length]
theorem qB1 (w : World) {ad : Option Addr} {n c : Nat} {segs : List Value} {A : List (List Int)} (R : RowAt w 1 ad n segs) (hA : A.length = n) (hs : ∀ (i : Nat) (s : List Int), A[i]? = some s → ∃ v, segs[i]? = some v ∧ Row w 1 v s.length (zI7 s)) (hn : n ≤ 1000) : Calls Tryz.prog 51 #[.slice ad n c] w (Ret fun v w' => w'.ownsRow w.heap.size 3 1 v n (A.map fun s => .int .i64 (s.length : Int)) ∧ Grow w w') := by
 have G := Grow.rfl' w
 refine zC0 Tryz.func51 Tryz.ntmps51 Tryz.results51 rfl rfl ?_
 refine qO 16 ?_
 refine zG4 (fun m_ e_ w_ => ∃ (k : Nat) (v : Value), m_ = n - k ∧ Fr [(3, v), (6, .slice ad n c), (7, .int .i64 (n : Int)), (8, .int .i64 (k : Int))] e_ ∧ (k ≤ n) ∧ (w_.ownsRow w.heap.size 3 1 v k ((A.take k).map fun s => .int .i64 (s.length : Int))) ∧ Grow w w_) _ ⟨0, .slice none 0 0, rfl, zD2 ⟨rfl, rfl, rfl, rfl, trivial⟩, by omega, World.ownsRow_nil _ _ _ _, G⟩ ?_
 clear G
 rintro m_ e_ w1 ⟨k, v, rfl, ⟨e2, rfl⟩, hk, own, G⟩
 refine qZ 2 ?_
 refine stp ?_
 refine qC ?_
 refine qZ 2 ?_
 refine zA3 rfl (fun hlt => ?_) (fun hlt => ?_)
 ·
  first | replace hlt := qT hlt | replace hlt := qF hlt | skip
  have hi : k < A.length := by omega
  obtain ⟨v2, hv2, ad2, c2, rfl, hc1, hc2, R2⟩ := hs k A[k] (List.getElem?_eq_getElem hi)
  obtain ⟨b_, o_, cs_, T_, fr_, rfl, hb_, hx_⟩ := (R.grow G).at_ (by omega)
  refine qZ 5 ?_
  refine stp ?_
  (refine zD4 rfl rfl ?_ ?_ ?_; omega; omega)
  refine stp (zD1 (v := .slice ad2 A[k].length c2) rfl hb_ (by rw [Int.toNat_natCast, Nat.mul_one]; exact zL6 hx_ hv2) ?_)
  refine qO 6 ?_
  refine stp (zB4 (cs := #[.int .i64 (A[k].length : Int)]) (el := 3) (fun w => by kernel_rfl) ?_)
  intro bs w5 hbs hcs g5
  replace own := zB8 own g5
  replace hb_ := g5.heap hb_
  replace G := G.tr g5
  refine stp (zH1 rfl rfl rfl rfl own (Row.of_block (n := 1) hcs rfl rfl (by omega)) (fun q_ hq_ => by simp at hq_; subst hq_; rfl) (by simp only [maxLen]; omega) (by omega) G.size ?_)
  intro v6 w6 own6 gr6
  replace G := G.grown gr6 (zJ7 own)
  refine qO 3 ?_
  refine stp ?_
  (first | (refine zC3 rfl rfl ?_ ?_; (constructor <;> omega)) | refine zF7 rfl rfl ?_)
  refine qO 2 ?_
  refine ⟨_, ?_, k + 1, v6, rfl, zD2 ⟨rfl, rfl, rfl, rfl, trivial⟩, by omega, (by rw [List.take_add_one, List.getElem?_eq_getElem hi, List.map_append]; exact own6), G⟩
  omega
 ·
  first | replace hlt := qT hlt | replace hlt := qF hlt | skip
  have hk2 : k = n := by omega
  subst hk2
  refine qO 7 ?_
  rw [List.take_of_length_le (by omega)] at own
  exact ret1 (zA1 rfl) ⟨own, G⟩
theorem yI6 (w : World) {ad : Option Addr} {n c : Nat} {A : List (List Int)} (R : RowAt w 1 ad n (A.map fun s => .int .i64 (s.length : Int))) (hA : A.length = n) (h1 : 1 ≤ n) (h16 : n ≤ 16) (hf : 1 ≤ (A.getD 0 []).length) (ht : zB9 A ≤ 4096) : zC5 Tryz.prog 50 #[.slice ad n c] w (.bool true) := by
 obtain ⟨b_, o_, cs_, T_, fr_, rfl, hb_, hx_⟩ := R.at_ (by omega)
 have hf2 : 1 ≤ (A[0]'(by omega)).length := by rw [List.getD_eq_getElem?_getD, List.getElem?_eq_getElem (by omega)] at hf; exact hf
 have G := Grow.rfl' w
 refine zB1 Tryz.func50 Tryz.ntmps50 Tryz.results50 rfl rfl ?_
 refine qO 9 ?_
 refine stp ?_
 refine qC ?_
 refine qO 3 ?_
 refine stp ?_
 refine qC ?_
 refine stp (zH6 rfl rfl rfl ?_)
 refine qO 2 ?_
 refine stp ?_
 (refine zD4 rfl rfl ?_ ?_ ?_; omega; omega)
 refine stp (zD1 (v := .int .i64 ((A[0]'(by omega)).length : Int)) rfl hb_ (zL6 (i := 0) hx_ (by rw [List.getElem?_map, List.getElem?_eq_getElem (by omega)]; rfl)) ?_)
 refine stp ?_
 refine qC ?_
 refine stp (zH6 rfl rfl rfl ?_)
 refine zA6 ?_
 refine zJ5 rfl ?_
 refine qO 13 ?_
 refine zG4 (fun m_ e_ w_ => ∃ (k : Nat), m_ = n - k ∧ Fr [(3, .int .i64 (zB9 (A.take k))), (22, .slice (some ⟨b_, o_, none⟩) n c), (23, .int .i64 (n : Int)), (24, .int .i64 (k : Int))] e_ ∧ (k ≤ n) ∧ (w_.heap[b_]? = some (.cells cs_ T_ fr_)) ∧ Grow w w_) _ ⟨0, rfl, zD2 ⟨rfl, rfl, rfl, rfl, trivial⟩, by omega, hb_, G⟩ ?_
 clear hb_
 clear G
 rintro m_ e_ w1 ⟨k, rfl, ⟨e2, rfl⟩, hk, hb_, G⟩
 refine qZ 2 ?_
 refine stp ?_
 refine qC ?_
 refine qZ 2 ?_
 refine zA3 rfl (fun hlt => ?_) (fun hlt => ?_)
 ·
  first | replace hlt := qT hlt | replace hlt := qF hlt | skip
  have hi : k < A.length := by omega
  have ht1 := qA5 hi
  have ht2 := qU4 (A := A) (k + 1)
  have ht3 := zK5 (A.take k)
  refine qZ 5 ?_
  refine stp ?_
  (refine zD4 rfl rfl ?_ ?_ ?_; omega; omega)
  refine stp (zD1 (v := .int .i64 (A[k].length : Int)) rfl hb_ (by rw [Int.toNat_natCast, Nat.mul_one]; exact zL6 hx_ (by rw [List.getElem?_map, List.getElem?_eq_getElem hi]; rfl)) ?_)
  refine qO 6 ?_
  refine stp (zA2 rfl (zK6 (yO4 _ (zB9 (A.take k)) (A[k].length : Int) (by omega) (by omega) (by omega) (by omega)) (y := .tuple #[.int .i64 (zB9 (A.take (k + 1))), .bool true]) (by rw [if_pos (by omega), ht1, decide_eq_true (by omega)])) ?_)
  intro w3 g4
  replace hb_ := g4.heap hb_
  replace G := G.tr g4
  clear g4
  refine qO 1 ?_
  refine stp (zB3 rfl rfl ?_)
  refine stp (zB3 rfl rfl ?_)
  refine qO 7 ?_
  refine stp ?_
  (first | (refine qP7 rfl ?_ ?_; (first | rfl | assumption)) | (refine qJ3 rfl ?_ ?_; (first | rfl | assumption)) | refine zM1 rfl ?_)
  refine zA6 ?_
  refine zJ5 rfl ?_
  refine qO 6 ?_
  refine stp ?_
  (first | (refine zC3 rfl rfl ?_ ?_; (constructor <;> omega)) | refine zF7 rfl rfl ?_)
  refine qO 2 ?_
  refine ⟨_, ?_, k + 1, rfl, zD2 ⟨rfl, rfl, rfl, rfl, trivial⟩, by omega, hb_, G⟩
  omega
 ·
  first | replace hlt := qT hlt | replace hlt := qF hlt | skip
  refine qO 6 ?_
  exact ret1 (zO5 rfl) ⟨rfl, G⟩
theorem qV8 (w : World) {ad : Option Addr} {n c : Nat} {segs : List Value} {A : List (List Int)} (R : RowAt w 1 ad n segs) (hA : A.length = n) (hs : ∀ (i : Nat) (s : List Int), A[i]? = some s → ∃ v, segs[i]? = some v ∧ Row w 1 v s.length (zI7 s)) (h1 : 1 ≤ n) (h16 : n ≤ 16) (hf : 1 ≤ (A.getD 0 []).length) (ht : zB9 A ≤ 4096) : zC5 Tryz.prog 30 #[.slice ad n c] w (.bool true) := by
 have G := Grow.rfl' w
 refine zB1 Tryz.func30 Tryz.ntmps30 Tryz.results30 rfl rfl ?_
 refine qO 7 ?_
 refine stp ?_
 refine zC8 rfl (qB1 _ (R.grow G) hA (fun i s h => by obtain ⟨v, h1, h2⟩ := hs i s h; exact ⟨v, h1, h2.grow G⟩) (by omega)) ?_
 rintro v_ w5_ ⟨own, g5_⟩
 replace G := G.tr g5_
 obtain ⟨ad5, c5, rfl, hc5, hc6, RS⟩ := zH3 own (by omega)
 refine stp (zA2 rfl (yI6 _ RS hA h1 h16 hf ht) ?_)
 intro w1 g2
 replace G := G.tr g2
 clear g2
 refine qO 3 ?_
 exact ret1 (zO5 rfl) ⟨rfl, G⟩
theorem yI7 (w : World) {ad : Option Addr} {n c : Nat} {xs : List Int} (hn : n = xs.length) (R : RowAt w 1 ad n (xs.map (.int .u8))) (hx : ∀ x ∈ xs, inR .u8 x) (h8 : n ≤ 8) : zC5 Tryz.prog 110 #[.slice ad n c] w (.int .u64 (getP xs)) := by
 have G := Grow.rfl' w
 refine zB1 Tryz.func110 Tryz.ntmps110 Tryz.results110 rfl rfl ?_
 refine qO 13 ?_
 refine stp ?_
 (first | (refine qA3 rfl rfl rfl ?_ ?_; omega) | (refine qA4 rfl rfl rfl ?_ ?_; omega) | refine qA2 rfl rfl rfl ?_)
 refine stp ?_
 (first | (refine zL2 rfl rfl ?_ ?_; (constructor <;> omega)) | refine zQ5 rfl rfl ?_)
 refine qO 3 ?_
 refine zG4 (fun m_ e_ w_ => ∃ (k : Nat), m_ = n - k ∧ Fr [(0, .slice ad n c), (3, .int .u64 (getP (xs.drop (n - k)))), (4, .int .i64 ((n : Int) - 1 - k))] e_ ∧ (k ≤ n) ∧ Grow w w_) _ ⟨0, rfl, zD2 ⟨rfl, congrArg (Value.int .u64) (by rw [Nat.sub_zero, hn, List.drop_length]; rfl), congrArg (Value.int .i64) (by omega), trivial⟩, by omega, G⟩ ?_
 clear G
 rintro m_ e_ w1 ⟨k, rfl, ⟨e2, rfl⟩, hk2, G⟩
 refine qO 4 ?_
 refine stp ?_
 refine qC ?_
 refine zA6 ?_
 refine zA3 rfl (fun hge => ?_) (fun hge => ?_)
 ·
  first | replace hge := qT hge | replace hge := qF hge | skip
  have hk3 : k < n := by omega
  obtain ⟨b_, o_, cs_, T_, fr_, rfl, hb_, hx_⟩ := (R.grow G).at_ (by omega)
  have hyr := zY4 (xs.drop (n - k)) (fun x hq_ => hx x (List.mem_of_mem_drop hq_))
  have hpow := yN2 (show (xs.drop (n - k)).length ≤ 7 from by rw [List.length_drop]; omega)
  have hxi := hx (xs[n - 1 - k]'(by omega)) (List.getElem_mem _)
  simp only [inR] at hxi
  refine qO 5 ?_
  refine stp ?_
  (first | (refine qC2 rfl rfl ?_ ?_; (constructor <;> omega)) | refine zW2 rfl rfl ?_)
  refine qO 2 ?_
  refine stp ?_
  (refine zD4 rfl rfl ?_ ?_ ?_; omega; omega)
  refine stp (zD1 (v := .int .u8 (xs[n - 1 - k]'(by omega))) rfl hb_ (by rw [show o_ + (((n : Int) - 1 - k).toNat) * 1 = o_ + (n - 1 - k) from by omega]; exact zL6 hx_ (by rw [List.getElem?_map, List.getElem?_eq_getElem (by omega)]; rfl)) ?_)
  refine stp ?_
  (first | (refine zH8 rfl ?_ ?_; (constructor <;> omega)) | refine zJ2 rfl ?_)
  refine stp ?_
  (first | (refine zC3 rfl rfl ?_ ?_; (constructor <;> omega)) | refine zF7 rfl rfl ?_)
  refine qO 4 ?_
  refine stp ?_
  (first | (refine zL2 rfl rfl ?_ ?_; (constructor <;> omega)) | refine zQ5 rfl rfl ?_)
  refine qO 2 ?_
  refine ⟨_, ?_, k + 1, rfl, zD2 ⟨rfl, congrArg (Value.int .u64) (by rw [qU2 hn hk3]; omega), congrArg (Value.int .i64) (by omega), trivial⟩, by omega, G⟩
  omega
 ·
  first | replace hge := qT hge | replace hge := qF hge | skip
  have hk3 : k = n := by omega
  subst hk3
  refine qO 7 ?_
  refine ret1 (zA9 rfl) ⟨?_, G⟩
  rw [Nat.sub_self]; rfl
theorem qM3 (w : World) {c : List Value} {t : Nd} (T : NodeR w c t) (hw4 : t.words.length ≤ 4096) (hb4 : t.bytes.length ≤ 4096) (hk4 : t.kids.length ≤ 4096) : Calls Tryz.prog 79 #[.agg c.toArray] w (Ret fun v w' => w'.ownsRow w.heap.size 23 1 v t.content.length (t.content.map (.int .u64)) ∧ Grow w w') := by
 obtain @⟨kind, size, words, bytes, kids, ws, bs, ks, kc, hk, hs, hW, hwr, hB, hbr, hK, hKs⟩ := T
 obtain ⟨aw, cw, rfl, hcw, hcw2, RW⟩ := hW
 obtain ⟨ab, cb, rfl, hcb, hcb2, RB⟩ := hB
 obtain ⟨ak, ck, rfl, hck, hck2, RK⟩ := hK
 have lw := RW.lim
 have lb := RB.lim
 have lk := RK.lim
 simp only [inR] at hk hs
 simp only [Nd.words, Nd.bytes, Nd.kids] at hw4 hb4 hk4
 have G := Grow.rfl' w
 refine zC0 Tryz.func79 Tryz.ntmps79 Tryz.results79 rfl rfl ?_
 refine qZ 2 ?_
 refine stp ?_
 refine qC ?_
 intro b1 w2 hb3 hc4 g5
 have hge6 := Nat.le_trans G.size hb3
 replace G := G.tr g5
 clear g5 hb3
 refine qO 11 ?_
 refine stp ?_
 have own00 := World.ownsRow_nil w2 w.heap.size 23 1
 refine zH1 rfl rfl rfl rfl own00 ⟨_, cw, rfl, hcw, hcw2, RW.grow G⟩ (fun q_ hq_ => by obtain ⟨z, _, rfl⟩ := List.mem_map.1 hq_; rfl) (by simp only [maxLen]; omega) (by omega) G.size ?_
 intro v5 w5 own5 gr6
 replace G := G.grown gr6 (zJ7 own00)
 replace hc4 := zG7 gr6 hc4 (zD3 own00 hc4 (by decide))
 refine qO 8 ?_
 refine zG4 (fun m_ e_ w_ => ∃ (k : Nat) (v : Value), m_ = bytes.length + 8 - 8 * k ∧ Fr [(1, .pointer (some ⟨b1, 0, none⟩)), (3, v), (4, .int .i64 ((8 * k : Nat) : Int))] e_ ∧ (8 * k < bytes.length + 8) ∧ (w_.heap[b1]? = some (.cells #[.int .i64 kind, .int .i64 size, .slice aw words.length cw, .slice ab bytes.length cb, .slice ak kids.length ck] 48 (0, 0))) ∧ (w_.ownsRow w.heap.size 23 1 v (words.length + k) ((words ++ (List.range k).map (zL5 bytes)).map (.int .u64))) ∧ Grow w w_) _ ⟨0, v5, rfl, zD2 ⟨rfl, rfl, rfl, trivial⟩, by omega, hc4, by simpa using own5, G⟩ ?_
 clear hc4
 clear G
 rintro m_ e_ w7 ⟨k, v, rfl, ⟨e8, rfl⟩, hk2, hc_, own, G⟩
 refine qO 7 ?_
 refine stp ?_
 refine qC ?_
 refine zA6 ?_
 refine zA3 rfl (fun hlt => ?_) (fun hlt => ?_)
 ·
  first | replace hlt := qT hlt | replace hlt := qF hlt | skip
  have hcn : zH5 bytes.length k ≤ 8 := by unfold zH5; omega
  have hcm : 8 * k + zH5 bytes.length k ≤ bytes.length := by unfold zH5; omega
  refine qO 9 ?_
  refine stp ?_
  (first | (refine zC3 rfl rfl ?_ ?_; (constructor <;> omega)) | refine zF7 rfl rfl ?_)
  refine qZ 3 ?_
  refine stp ?_
  refine qA2 rfl rfl rfl ?_
  rw [show (if (bytes.length : Int) < ((8 * k : Nat) : Int) + 8 then (bytes.length : Int) else ((8 * k : Nat) : Int) + 8) = ((8 * k + zH5 bytes.length k : Nat) : Int) from by unfold zH5; split <;> omega]
  refine stp ?_
  refine yM4 rfl rfl rfl (by omega) (by omega) (by omega) ?_
  rw [Int.toNat_natCast, Int.toNat_natCast, show 8 * k + zH5 bytes.length k - 8 * k = zH5 bytes.length k from by omega]
  have Rj : RowAt w 1 (if cb = 8 * k then ab else ab.map (·.add (8 * k * 1))) (zH5 bytes.length k) (((bytes.drop (8 * k)).take 8).map (.int .u8)) := by
   have h := RB.sliceLH (l := 8 * k) (m := zH5 bytes.length k) hcb hcm (by omega)
   simp only [Nat.mul_one, ← List.map_drop, ← List.map_take, qN5] at h ⊢; exact h
  have hlenj : zH5 bytes.length k = ((bytes.drop (8 * k)).take 8).length := by rw [List.length_take, List.length_drop, zH5]
  have hxj : ∀ x ∈ (bytes.drop (8 * k)).take 8, inR .u8 x := fun x hx_ => hbr x (List.mem_of_mem_drop (List.mem_of_mem_take hx_))
  refine stp (zA2 rfl (zK6 (yI7 _ hlenj (Rj.grow G) hxj hcn) (y := .int .u64 (zL5 bytes k)) rfl) ?_)
  intro w9 g10
  replace hc_ := g10.heap hc_
  replace own := zB8 own g10
  replace G := G.tr g10
  clear g10
  refine stp (zB4 (cs := #[.int .u64 (zL5 bytes k)]) (el := 23) (fun w => by kernel_rfl) ?_)
  intro bs w5 hbs hcs g5
  replace hc_ := g5.heap hc_
  replace own := zB8 own g5
  replace G := G.tr g5
  refine stp (zH1 rfl rfl rfl rfl own (Row.of_block (n := 1) hcs rfl rfl (by omega)) (fun q_ hq_ => by simp at hq_; subst hq_; rfl) (by simp only [maxLen]; omega) (by omega) G.size ?_)
  intro v6 w6 own6 gr6
  replace G := G.grown gr6 (zJ7 own)
  replace hc_ := zG7 gr6 hc_ (zD3 own hc_ (by decide))
  have e3 : (words ++ (List.range (k + 1)).map (zL5 bytes)).map (Value.int .u64) = (words ++ (List.range k).map (zL5 bytes)).map (Value.int .u64) ++ [.int .u64 (zL5 bytes k)] := by simp [List.range_succ]
  have own7 := own6
  rw [← e3, Nat.add_assoc] at own7
  refine qO 4 ?_
  refine stp ?_
  (first | (refine zC3 rfl rfl ?_ ?_; (constructor <;> omega)) | refine zF7 rfl rfl ?_)
  refine qO 2 ?_
  refine ⟨_, ?_, k + 1, v6, rfl, zD2 ⟨rfl, rfl, congrArg (Value.int .i64) (by omega), trivial⟩, by omega, hc_, own7, G⟩
  omega
 ·
  first | replace hlt := qT hlt | replace hlt := qF hlt | skip
  have hk3 : (bytes.length + 7) / 8 = k := by omega
  refine qO 7 ?_
  refine stp (qT8 (z := .int .u64 0) (by_ := 8) rfl rfl rfl rfl (by rfl) (by rfl) own (by omega) (by omega) G.size ?_)
  intro v9 w9 own9 gr9
  have G9 := G.grown gr9 (zJ7 own)
  refine qO 8 ?_
  refine ret1 (zA1 rfl) ⟨?_, G9⟩
  have e1 : (Nd.mk kind size words bytes kids).content.length = words.length + k + kids.length := by simp only [Nd.content, zF3, List.length_append, List.length_map, List.length_range, List.length_replicate]; omega
  have e2 : (Nd.mk kind size words bytes kids).content.map (Value.int .u64) = (words ++ (List.range k).map (zL5 bytes)).map (Value.int .u64) ++ List.replicate kids.length (.int .u64 0) := by rw [← hk3]; simp [Nd.content, zF3]
  rw [e1, e2]
  exact own9
theorem qO2 (w : World) (n : Int) (h0 : 0 ≤ n) (h1 : n ≤ 140737488355328) : zC5 Tryz.prog 136 #[.int .i64 n, .int .i64 8] w (.int .i64 ((n + 7) / 8)) := by
 have G := Grow.rfl' w
 refine zB1 Tryz.func136 Tryz.ntmps136 Tryz.results136 rfl rfl ?_
 refine qZ 8 ?_
 refine stp (zI1 rfl rfl ?_)
 refine qZ 1 ?_
 refine qG 1 ?_
 refine zA4 (zB7 (s := .bool _) (v := .bool (decide (n > 9007199254740992))) rfl (zF0 _) (fun hc2 => ?_) ?_)
 ·
  have hc2_ := hc2
  try simp only [sb] at hc2_
  refine zQ7 (gvt hc2) rfl ?_
  exact ⟨rfl, rfl⟩
 refine stp (zJ3 rfl rfl rfl ?_)
 refine qZ 1 ?_
 refine qG 1 ?_
 refine zA4 (zB7 (s := .bool _) (v := .bool false) rfl (zF0 _) (fun hc4 => ?_) ?_)
 ·
  have hc4_ := hc4
  try simp only [sb] at hc4_
  refine yL6 (gvt hc4) rfl (by decide) ?_
  exact ⟨rfl, rfl⟩
 refine stp (zJ3 rfl rfl rfl ?_)
 refine qZ 1 ?_
 refine qG 1 ?_
 refine zA4 (zB7 (s := .bool _) (v := .bool false) rfl (zF0 _) (fun hc6 => ?_) ?_)
 ·
  have hc6_ := hc6
  try simp only [sb] at hc6_
  refine yL7 (gvt hc6) rfl (by decide) ?_
  exact ⟨rfl, rfl⟩
 refine stp (zJ3 rfl rfl rfl ?_)
 refine zA6 ?_
 refine zA3 (b := ((((decide (n < 0)) || (decide (n > 9007199254740992))) || false) || false)) rfl (fun h1 => ?_) (fun h1 => ?_)
 ·
  simp only [sb] at h1
  refine qZ 5 ?_
  refine ret1 (zA1 (v := .int .i64 0) rfl) ⟨?_, G⟩
  first | (exfalso; omega; done) | (congr 1; omega)
 ·
  simp only [sb] at h1
  refine qZ 5 ?_
  refine stp (zC3 rfl rfl ?_ ?_); constructor <;> omega
  refine stp (zL2 rfl rfl ?_ ?_); constructor <;> omega
  refine qZ 1 ?_
  refine stp (qT4 rfl rfl ?_ ?_ ?_ ?_); omega; omega; (constructor <;> omega)
  refine qZ 3 ?_
  refine ret1 (zA1 (v := .int .i64 (((n + 8) - 1) / 8)) rfl) ⟨?_, G⟩
  first | (exfalso; omega; done) | (congr 1; omega)
theorem zY8 (w : World) {c : List Value} {t : Nd} (T : NodeR w c t) : zC5 Tryz.prog 111 #[.agg c.toArray] w (.int .i64 t.need) := by
 obtain @⟨kind, size, words, bytes, kids, ws, bs, ks, kc, hk, hs, hW, hwr, hB, hbr, hK, hKs⟩ := T
 obtain ⟨aw, cw, rfl, hcw, hcw2, RW⟩ := hW
 obtain ⟨ab, cb, rfl, hcb, hcb2, RB⟩ := hB
 obtain ⟨ak, ck, rfl, hck, hck2, RK⟩ := hK
 have lw := RW.lim
 have lb := RB.lim
 have lk := RK.lim
 simp only [inR] at hk hs
 have G := Grow.rfl' w
 refine zB1 Tryz.func111 Tryz.ntmps111 Tryz.results111 rfl rfl ?_
 refine qZ 2 ?_
 refine stp ?_
 refine qC ?_
 intro b1 w2 hb3 hc4 g5
 have hge6 := Nat.le_trans G.size hb3
 replace G := G.tr g5
 clear g5 hb3
 refine qZ 7 ?_
 refine stp (zI5 rfl rfl ?_)
 refine qZ 1 ?_
 refine qG 2 ?_
 refine zA4 (zB7 (s := .bool _) (v := .bool (decide (kind ≠ 2))) rfl (zG3 _) (fun hc9 => ?_) ?_)
 ·
  have hc9_ := qT hc9
  refine zI5 (gvt hc9) rfl ?_
  exact ⟨rfl, rfl⟩
 refine stp (zI8 rfl rfl rfl ?_)
 refine zA6 ?_
 refine zA3 (b := ((decide (kind ≠ 1)) && (decide (kind ≠ 2)))) rfl (fun h1 => ?_) (fun h1 => ?_)
 ·
  simp only [sb] at h1
  refine qZ 5 ?_
  refine ret1 (zA1 (v := .int .i64 0) rfl) ⟨?_, G⟩
  simp [Nd.need, *] <;> omega
 ·
  simp only [sb] at h1
  refine qZ 9 ?_
  refine stp (zC3 rfl rfl ?_ ?_); constructor <;> omega
  refine qZ 7 ?_
  refine stp (zE2 rfl rfl ?_)
  refine zA6 ?_
  refine zA3 (b := (decide (kind = 2))) rfl (fun h2 => ?_) (fun h2 => ?_)
  ·
   replace h2 := qT h2
   refine qZ 5 ?_
   refine stp (zA2 (v := .int .i64 (((bytes.length : Int) + 7) / 8)) rfl (qO2 _ _ (by omega) (by omega)) ?_)
   intro w10 g11
   replace hc4 := g11.heap hc4
   replace G := G.tr g11
   clear g11
   refine stp (zC3 rfl rfl ?_ ?_); constructor <;> omega
   refine qZ 8 ?_
   refine ret1 (zA1 (v := .int .i64 (((words.length : Int) + (kids.length : Int)) + (((bytes.length : Int) + 7) / 8))) rfl) ⟨?_, G⟩
   simp [Nd.need, *] <;> omega
  ·
   replace h2 := qF h2
   refine qZ 7 ?_
   refine ret1 (zA1 (v := .int .i64 ((words.length : Int) + (kids.length : Int))) rfl) ⟨?_, G⟩
   simp [Nd.need, *] <;> omega
theorem yO5 (w : World) {c : List Value} {t : Nd} (T : NodeR w c t) : zC5 Tryz.prog 133 #[.agg c.toArray] w (.bool t.own) := by
 obtain @⟨kind, size, words, bytes, kids, ws, bs, ks, kc, hk, hs, hW, hwr, hB, hbr, hK, hKs⟩ := T
 obtain ⟨aw, cw, rfl, hcw, hcw2, RW⟩ := hW
 obtain ⟨ab, cb, rfl, hcb, hcb2, RB⟩ := hB
 obtain ⟨ak, ck, rfl, hck, hck2, RK⟩ := hK
 have lw := RW.lim
 have lb := RB.lim
 have lk := RK.lim
 simp only [inR] at hk hs
 have G := Grow.rfl' w
 refine zB1 Tryz.func133 Tryz.ntmps133 Tryz.results133 rfl rfl ?_
 refine qZ 2 ?_
 refine stp ?_
 refine qC ?_
 intro b1 w2 hb3 hc4 g5
 have hge6 := Nat.le_trans G.size hb3
 replace G := G.tr g5
 clear g5 hb3
 refine qZ 3 ?_
 refine zK0 12 [[], [0], [1, 0], [], [0], [1, 0], [], [0], [1, 0], [8, 7, 6], [9, 8, 7, 6, 5, 4, 0], [10, 9, 8, 7, 6, 5, 4, 3, 2, 1, 0]] mixed (by kernel_rfl) (by kernel_rfl) (by kernel_rfl) ?_
 intro w7 g8
 replace hc4 := g8.heap hc4
 replace G := G.tr g8
 clear g8
 refine qA 12 ?_
 refine zG5 ?_
 intro w9 g10
 replace hc4 := g10.heap hc4
 replace G := G.tr g10
 clear g10
 refine qZ 10 ?_
 refine stp (zE2 rfl rfl ?_)
 refine qZ 2 ?_
 refine zA3 (b := (decide (kind = 0))) rfl (fun h1 => ?_) (fun h1 => ?_)
 ·
  replace h1 := qT h1
  refine qZ 4 ?_
  refine stp (zE2 rfl rfl ?_)
  refine qZ 1 ?_
  refine qG 2 ?_
  refine zA4 (zB7 (s := .bool _) (v := .int .i64 ((words.length : Int) + (bytes.length : Int))) rfl (zG3 _) (fun hc13 => ?_) ?_)
  ·
   have hc13_ := qT hc13
   refine zC3 (gvt hc13) (gvt hc13) ?_ ?_; constructor <;> omega
   exact ⟨rfl, rfl⟩
  refine qG 1 ?_
  refine zA4 (zB7 (s := .bool _) (v := .int .i64 (((words.length : Int) + (bytes.length : Int)) + (kids.length : Int))) rfl (zG3 _) (fun hc15 => ?_) ?_)
  ·
   have hc15_ := qT hc15
   refine zC3 (gvt hc15) (gvt hc15) ?_ ?_; constructor <;> omega
   exact ⟨rfl, rfl⟩
  refine zA4 (zB7 (s := .bool _) (v := .bool (decide ((((words.length : Int) + (bytes.length : Int)) + (kids.length : Int)) = 0))) rfl (zG3 _) (fun hc16 => ?_) ?_)
  ·
   have hc16_ := qT hc16
   refine zE2 (gvt hc16) rfl ?_
   exact ⟨rfl, rfl⟩
  refine stp (zI8 rfl rfl rfl ?_)
  refine qZ 3 ?_
  refine ret1 (zA1 (v := .bool ((decide (size = 0)) && (decide ((((words.length : Int) + (bytes.length : Int)) + (kids.length : Int)) = 0)))) rfl) ⟨?_, G⟩
  simp [Nd.own, Bool.and_assoc, *]
 ·
  replace h1 := qF h1
  refine qZ 2 ?_
  refine stp (zE2 rfl rfl ?_)
  refine qZ 2 ?_
  refine zA3 (b := (decide (kind = 1))) rfl (fun h2 => ?_) (fun h2 => ?_)
  ·
   replace h2 := qT h2
   refine qZ 4 ?_
   refine stp (zE2 rfl rfl ?_)
   refine qZ 1 ?_
   refine qG 1 ?_
   refine zA4 (zB7 (s := .bool _) (v := .bool (decide ((bytes.length : Int) = 0))) rfl (zG3 _) (fun hc18 => ?_) ?_)
   ·
    have hc18_ := qT hc18
    refine zE2 (gvt hc18) rfl ?_
    exact ⟨rfl, rfl⟩
   refine stp (zI8 rfl rfl rfl ?_)
   refine qZ 1 ?_
   refine qG 2 ?_
   refine zA4 (zB7 (s := .bool _) (v := .int .i64 (if (kids.length : Int) > (words.length : Int) then (kids.length : Int) else (words.length : Int))) rfl (zG3 _) (fun hc21 => ?_) ?_)
   ·
    obtain ⟨hc21a, hc21b⟩ := and_t hc21
    have hc21a_ := qT hc21a
    have hc21b_ := qT hc21b
    refine qT5 rfl (gvt hc21) (gvt hc21) ?_
    exact ⟨rfl, rfl⟩
   refine zA4 (zB7 (s := .bool _) (v := .bool (decide ((if (kids.length : Int) > (words.length : Int) then (kids.length : Int) else (words.length : Int)) ≤ 100))) rfl (zG3 _) (fun hc22 => ?_) ?_)
   ·
    obtain ⟨hc22a, hc22b⟩ := and_t hc22
    have hc22a_ := qT hc22a
    have hc22b_ := qT hc22b
    refine zQ6 (gvt hc22) rfl ?_
    exact ⟨rfl, rfl⟩
   refine stp (zI8 rfl rfl rfl ?_)
   refine qZ 3 ?_
   refine ret1 (zA1 (v := .bool (((decide (size = 0)) && (decide ((bytes.length : Int) = 0))) && (decide ((if (kids.length : Int) > (words.length : Int) then (kids.length : Int) else (words.length : Int)) ≤ 100)))) rfl) ⟨?_, G⟩
   simp [Nd.own, Bool.and_assoc, *]
  ·
   replace h2 := qF h2
   refine qZ 2 ?_
   refine stp (zE2 rfl rfl ?_)
   refine qZ 2 ?_
   refine zA3 (b := (decide (kind = 2))) rfl (fun h3 => ?_) (fun h3 => ?_)
   ·
    replace h3 := qT h3
    refine qZ 8 ?_
    refine stp (zE2 rfl rfl ?_)
    refine qZ 2 ?_
    refine zA3 (b := (decide (size = 2))) rfl (fun h4 => ?_) (fun h4 => ?_)
    ·
     replace h4 := qT h4
     refine qZ 4 ?_
     refine stp (zC3 rfl rfl ?_ ?_); constructor <;> omega
     refine stp (zE2 rfl rfl ?_)
     refine qZ 1 ?_
     refine qG 1 ?_
     refine zA4 (zB7 (s := .bool _) (v := .bool (decide ((bytes.length : Int) ≤ 4096))) rfl (zG3 _) (fun hc24 => ?_) ?_)
     ·
      have hc24_ := qT hc24
      refine zQ6 (gvt hc24) rfl ?_
      exact ⟨rfl, rfl⟩
     refine stp (zI8 rfl rfl rfl ?_)
     refine qZ 3 ?_
     refine ret1 (zA1 (v := .bool ((decide (((words.length : Int) + (kids.length : Int)) = 0)) && (decide ((bytes.length : Int) ≤ 4096)))) rfl) ⟨?_, G⟩
     simp [Nd.own, Bool.and_assoc, *]
    ·
     replace h4 := qF h4
     refine qZ 2 ?_
     refine stp (zE2 rfl rfl ?_)
     refine qZ 2 ?_
     refine zA3 (b := (decide (size = 5))) rfl (fun h5 => ?_) (fun h5 => ?_)
     ·
      replace h5 := qT h5
      refine qZ 4 ?_
      refine stp (zC3 rfl rfl ?_ ?_); constructor <;> omega
      refine stp (zE2 rfl rfl ?_)
      refine qZ 1 ?_
      refine qG 1 ?_
      refine zA4 (zB7 (s := .bool _) (v := .bool (decide ((words.length : Int) ≤ 4096))) rfl (zG3 _) (fun hc26 => ?_) ?_)
      ·
       have hc26_ := qT hc26
       refine zQ6 (gvt hc26) rfl ?_
       exact ⟨rfl, rfl⟩
      refine stp (zI8 rfl rfl rfl ?_)
      refine qZ 3 ?_
      refine ret1 (zA1 (v := .bool ((decide (((bytes.length : Int) + (kids.length : Int)) = 0)) && (decide ((words.length : Int) ≤ 4096)))) rfl) ⟨?_, G⟩
      simp [Nd.own, Bool.and_assoc, *]
     ·
      replace h5 := qF h5
      refine qZ 2 ?_
      refine stp (zE2 rfl rfl ?_)
      refine qZ 2 ?_
      refine zA3 (b := (decide (size = 6))) rfl (fun h6 => ?_) (fun h6 => ?_)
      ·
       replace h6 := qT h6
       refine qZ 4 ?_
       refine stp (zC3 rfl rfl ?_ ?_); constructor <;> omega
       refine stp (zE2 rfl rfl ?_)
       refine qZ 1 ?_
       refine qG 1 ?_
       refine zA4 (zB7 (s := .bool _) (v := .bool (decide ((kids.length : Int) ≤ 4096))) rfl (zG3 _) (fun hc28 => ?_) ?_)
       ·
        have hc28_ := qT hc28
        refine zQ6 (gvt hc28) rfl ?_
        exact ⟨rfl, rfl⟩
       refine stp (zI8 rfl rfl rfl ?_)
       refine qZ 3 ?_
       refine ret1 (zA1 (v := .bool ((decide (((bytes.length : Int) + (words.length : Int)) = 0)) && (decide ((kids.length : Int) ≤ 4096)))) rfl) ⟨?_, G⟩
       simp [Nd.own, Bool.and_assoc, *]
      ·
       replace h6 := qF h6
       refine qZ 6 ?_
       refine ret1 (zA1 (v := .bool false) rfl) ⟨?_, G⟩
       simp [Nd.own, Bool.and_assoc, *]
   ·
    replace h3 := qF h3
    refine qZ 6 ?_
    refine ret1 (zA1 (v := .bool false) rfl) ⟨?_, G⟩
    simp [Nd.own, Bool.and_assoc, *]
theorem yA2 (w : World) {c : List Value} {t : Nd} (T : NodeR w c t) : zC5 Tryz.prog 74 #[.agg c.toArray] w (.int .i64 t.need) := by
 obtain @⟨kind, size, words, bytes, kids, ws, bs, ks, kc, hk, hs, hW, hwr, hB, hbr, hK, hKs⟩ := T
 obtain ⟨aw, cw, rfl, hcw, hcw2, RW⟩ := hW
 obtain ⟨ab, cb, rfl, hcb, hcb2, RB⟩ := hB
 obtain ⟨ak, ck, rfl, hck, hck2, RK⟩ := hK
 have lw := RW.lim
 have lb := RB.lim
 have lk := RK.lim
 simp only [inR] at hk hs
 have G := Grow.rfl' w
 refine zB1 Tryz.func74 Tryz.ntmps74 Tryz.results74 rfl rfl ?_
 refine qZ 2 ?_
 refine stp ?_
 refine qC ?_
 intro b1 w2 hb3 hc4 g5
 have hge6 := Nat.le_trans G.size hb3
 replace G := G.tr g5
 clear g5 hb3
 refine qZ 11 ?_
 refine stp (zE2 rfl rfl ?_)
 refine qZ 2 ?_
 refine zA3 (b := (decide (kind = 1))) rfl (fun h1 => ?_) (fun h1 => ?_)
 ·
  replace h1 := qT h1
  refine qZ 8 ?_
  refine stp (zC3 rfl rfl ?_ ?_); constructor <;> omega
  refine qZ 3 ?_
  refine ret1 (zA1 (v := .int .i64 ((words.length : Int) + (kids.length : Int))) rfl) ⟨?_, G⟩
  simp [Nd.need, *]
 ·
  replace h1 := qF h1
  refine qZ 2 ?_
  refine stp (zE2 rfl rfl ?_)
  refine qZ 2 ?_
  refine zA3 (b := (decide (kind = 2))) rfl (fun h2 => ?_) (fun h2 => ?_)
  ·
   replace h2 := qT h2
   refine qZ 8 ?_
   refine stp (zC3 rfl rfl ?_ ?_); constructor <;> omega
   refine qZ 3 ?_
   refine stp (zC3 rfl rfl ?_ ?_); constructor <;> omega
   refine stp (qT4 rfl rfl ?_ ?_ ?_ ?_); omega; omega; (constructor <;> omega)
   refine stp (zC3 rfl rfl ?_ ?_); constructor <;> omega
   refine qZ 3 ?_
   refine ret1 (zA1 (v := .int .i64 (((words.length : Int) + (kids.length : Int)) + (((bytes.length : Int) + 7) / 8))) rfl) ⟨?_, G⟩
   simp [Nd.need, *]
  ·
   replace h2 := qF h2
   refine qZ 6 ?_
   refine ret1 (zA1 (v := .int .i64 0) rfl) ⟨?_, G⟩
   simp [Nd.need, *]
theorem yA3 (w : World) {ad : Option Addr} {c n fid : Nat} {fst cap : Array Value} {kc : List Value} [FuncI Tryz.prog fid] (R : RowAt w 5 ad n kc) (p : Nat → Bool) (hf : ∀ i, i < n → ∀ w', Grow w w' → zC5 Tryz.prog fid (fst.toList ++ ([Value.agg ((kc.drop (i * 5)).take 5).toArray] ++ cap.toList)).toArray w' (.bool (p i))) : zC5 Tryz.prog 158 #[.slice ad n c, .func (.func fid) fst cap] w (.int .i64 (zT5 p n 0)) := by
 have ln := R.lim
 have G := Grow.rfl' w
 refine zB1 Tryz.func158 Tryz.ntmps158 Tryz.results158 rfl rfl ?_
 refine qZ 12 ?_
 refine zG4 (fun m_ e_ w_ => ∃ (k : Nat), m_ = n - k ∧ Fr [(0, .slice ad n c), (1, .func (.func fid) fst cap), (7, .int .i64 (n : Int)), (8, .int .i64 (k : Int))] e_ ∧ (k ≤ n) ∧ (∀ j, j < k → p j = false) ∧ Grow w w_) _ ⟨0, rfl, zD2 ⟨rfl, rfl, rfl, rfl, trivial⟩, by omega, fun j hj => by omega, G⟩ ?_
 clear G
 rintro m_ e_ w1 ⟨k, rfl, ⟨e2, rfl⟩, hk, hno, G⟩
 refine qZ 2 ?_
 refine stp (zI1 rfl rfl ?_)
 refine qZ 2 ?_
 refine zA3 (b := (decide ((k : Int) < (n : Int)))) rfl (fun hlt => ?_) (fun hlt => ?_)
 ·
  replace hlt := qT hlt
  refine qZ 13 ?_
  refine stp (zD7 (R.grow G) rfl rfl ?_ ?_); omega
  refine stp (zO7 (R.grow G) rfl (by decide) (by rw [R.len]; omega) rfl ?_)
  refine stp (zA2 (v := .bool (p k)) rfl (hf k (by omega) _ G) ?_)
  intro w3 g4
  replace G := G.tr g4
  clear g4
  refine zA6 ?_
  refine zA3 (b := (p k)) rfl (fun hpk => ?_) (fun hpk => ?_)
  ·
   refine qZ 6 ?_
   refine ret1 (zA1 (v := .int .i64 (k : Int)) rfl) ⟨?_, G⟩
   rw [qF0 n 0 k (by omega) (by omega) hpk (fun j _ hj => hno j hj)]
  ·
   refine qZ 2 ?_
   refine stp (zC3 rfl rfl ?_ ?_); constructor <;> omega
   refine qZ 2 ?_
   refine ⟨_, ?_, k + 1, rfl, zD2 ⟨rfl, rfl, rfl, rfl, trivial⟩, by omega, fun j hj => by rcases Nat.lt_succ_iff_lt_or_eq.1 hj with h | h; exact hno j h; subst h; exact hpk, G⟩
   omega
 ·
  replace hlt := qF hlt
  have hk2 : k = n := by omega
  subst hk2
  refine qZ 6 ?_
  refine ret1 (zA1 (v := .int .i64 (-1)) rfl) ⟨?_, G⟩
  rw [qE9 _ _ (fun j _ hj => hno j (by omega))]
theorem qM4 (w : World) {ad : Option Addr} {c n fid : Nat} {fst cap : Array Value} {kc : List Value} [FuncI Tryz.prog fid] (R : RowAt w 5 ad n kc) (p : Nat → Bool) (hf : ∀ i, i < n → ∀ w', Grow w w' → zC5 Tryz.prog fid (fst.toList ++ ([Value.agg ((kc.drop (i * 5)).take 5).toArray] ++ cap.toList)).toArray w' (.bool (p i))) : zC5 Tryz.prog 134 #[.slice ad n c, .func (.func fid) fst cap] w (.bool ((List.range' 0 n).any p)) := by
 have G := Grow.rfl' w
 refine zB1 Tryz.func134 Tryz.ntmps134 Tryz.results134 rfl rfl ?_
 refine qZ 8 ?_
 refine stp (zA2 (v := .int .i64 (zT5 p n 0)) rfl (yA3 _ (R.grow G) p (fun i hi w' g' => hf i hi w' (G.tr g'))) ?_)
 intro w1 g2
 replace G := G.tr g2
 clear g2
 refine stp (qE5 rfl rfl ?_)
 refine qZ 3 ?_
 refine ret1 (zA1 (v := .bool (decide ((zT5 p n 0) ≥ 0))) rfl) ⟨?_, G⟩
 rw [← qU3]
theorem qV9 (w : World) {c : List Value} {left : Int} {bx : Nat} {T : TypeId} {b : Bool} (h5 : c.length = 5) (h0 : 0 ≤ left) (h1 : left ≤ 32) (hbx : w.heap[bx]? = some (.cells #[.int .i64 left] T (0, 0))) (hr : ∀ w', Grow w w' → zC5 Tryz.prog 106 #[.agg c.toArray, .int .i64 (left - 1)] w' (.bool b)) : zC5 Tryz.prog 135 #[.agg c.toArray, .pointer (some ⟨bx, 0, none⟩)] w (.bool (!b)) := by
 obtain ⟨x0, x1, x2, x3, x4, rfl⟩ := five h5
 have G := Grow.rfl' w
 refine zB1 Tryz.func135 Tryz.ntmps135 Tryz.results135 rfl rfl ?_
 refine qZ 2 ?_
 refine stp ?_
 refine qC ?_
 intro b1 w2 hb3 hc4 g5
 have hge6 := Nat.le_trans G.size hb3
 replace hbx := g5.heap hbx
 replace G := G.tr g5
 clear g5 hb3
 refine qZ 6 ?_
 refine stp (zL2 rfl rfl ?_ ?_); constructor <;> omega
 refine stp (zA2 (v := .bool b) rfl (hr _ G) ?_)
 intro w7 g8
 replace hbx := g8.heap hbx
 replace hc4 := g8.heap hc4
 replace G := G.tr g8
 clear g8
 refine stp (zM1 rfl ?_)
 refine qZ 3 ?_
 refine ret1 (zA1 (v := .bool (!b)) rfl) ⟨?_, G⟩
 rfl
theorem yA4 : ∀ (n_ : Nat) (w : World) {c : List Value} {t : Nd} (T : NodeR w c t) {left : Nat} (hl : left ≤ 32), t.sz ≤ n_ → zC5 Tryz.prog 106 #[.agg c.toArray, .int .i64 (left : Int)] w (.bool (t.right left)) := by
 intro n_
 induction n_ with
 | zero => intro w c t T left hl hm_; exact absurd hm_ (by have := t.sz_pos; omega)
 | succ n_ ih_ =>
 intro w c t T left hl hm_
 have T0 := T
 obtain @⟨kind, size, words, bytes, kids, ws, bs, ks, kc, hk, hs, hW, hwr, hB, hbr, hK, hKs⟩ := T
 obtain ⟨aw, cw, rfl, hcw, hcw2, RW⟩ := hW
 obtain ⟨ab, cb, rfl, hcb, hcb2, RB⟩ := hB
 obtain ⟨ak, ck, rfl, hck, hck2, RK⟩ := hK
 have lw := RW.lim
 have lb := RB.lim
 have lk := RK.lim
 simp only [inR] at hk hs
 have G := Grow.rfl' w
 refine zB1 Tryz.func106 Tryz.ntmps106 Tryz.results106 rfl rfl ?_
 refine qZ 2 ?_
 refine stp ?_
 refine qC ?_
 intro b1 w2 hb3 hc4 g5
 have hge6 := Nat.le_trans G.size hb3
 replace G := G.tr g5
 clear g5 hb3
 refine stp ?_
 refine qC ?_
 intro b7 w8 hb9 hc10 g11
 have hge12 := Nat.le_trans G.size hb9
 replace hc4 := g11.heap hc4
 replace G := G.tr g11
 clear g11 hb9
 refine qZ 6 ?_
 refine stp (zA2 (v := .bool ((Nd.mk kind size words bytes kids).own)) rfl (yO5 _ (T0.grow G)) ?_)
 intro w13 g14
 replace hc4 := g14.heap hc4
 replace hc10 := g14.heap hc10
 replace G := G.tr g14
 clear g14
 refine stp (zM1 rfl ?_)
 refine qZ 1 ?_
 refine qG 2 ?_
 refine zA4 (zB7 (s := .bool _) (v := .bool (decide (kind ≠ 0))) rfl (zF0 _) (fun hc17 => ?_) ?_)
 ·
  have hc17_ := hc17
  try simp only [sb] at hc17_
  refine zI5 (gvt hc17) rfl ?_
  exact ⟨rfl, rfl⟩
 refine qG 1 ?_
 refine zA4 (zB7 (s := gv (!(!((Nd.mk kind size words bytes kids).own))) (.bool (decide (kind ≠ 0)))) (b := true) (v := .int .i64 (left : Int)) rfl (zN9 _ _) (fun hc19 => ?_) ?_)
 ·
  obtain ⟨hc19a, hc19b⟩ := and_t hc19
  have hc19a_ := hc19a
  try simp only [sb] at hc19a_
  have hc19b_ := qT hc19b
  refine zD1 (v := .int .i64 (left : Int)) rfl hc10 rfl ?_
  exact ⟨rfl, rfl⟩
 refine zA4 (zB7 (s := gv (!(!((Nd.mk kind size words bytes kids).own))) (.bool (decide (kind ≠ 0)))) (b := true) (v := .bool (decide ((left : Int) = 0))) rfl (zN9 _ _) (fun hc20 => ?_) ?_)
 ·
  obtain ⟨hc20a, hc20b⟩ := and_t hc20
  have hc20a_ := hc20a
  try simp only [sb] at hc20a_
  have hc20b_ := qT hc20b
  refine zE2 (gvt hc20) rfl ?_
  exact ⟨rfl, rfl⟩
 refine zA4 (zB7 (s := .bool _) (v := .bool ((decide (kind ≠ 0)) && (decide ((left : Int) = 0)))) rfl (zF0 _) (fun hc21 => ?_) ?_)
 ·
  have hc21_ := hc21
  try simp only [sb] at hc21_
  refine qG9 hc21 (gvt hc21) rfl rfl ?_
  exact ⟨rfl, rfl⟩
 refine stp (zJ3 rfl rfl rfl ?_)
 refine zA6 ?_
 refine zA3 (b := ((!((Nd.mk kind size words bytes kids).own)) || ((decide (kind ≠ 0)) && (decide ((left : Int) = 0))))) rfl (fun h1 => ?_) (fun h1 => ?_)
 ·
  simp only [sb] at h1
  refine qZ 5 ?_
  refine ret1 (zA1 (v := .bool false) rfl) ⟨?_, G⟩
  rcases h1 with h | ⟨h2, h3⟩
  ·simp [Nd.right, h]
  ·simp [Nd.right, h2, show left = 0 from by omega]
 ·
  simp only [sb] at h1
  refine qZ 5 ?_
  refine stp (zT3 (vs := []) (us := [.pointer (some ⟨b7, 0, none⟩)]) rfl rfl ?_)
  refine stp ?_
  have kid : ∀ i, i < kids.length → ∀ w', Grow w13 w' → zC5 Tryz.prog 135 ((#[] : Array Value).toList ++ ([Value.agg ((kc.drop (i * 5)).take 5).toArray] ++ (#[Value.pointer (some ⟨b7, 0, none⟩)] : Array Value).toList)).toArray w' (.bool (!((kids.getD i (.mk 0 0 [] [] [])).right (left - 1)))) := by
   intro i hi w' g'
   have hat := KidsR.at_ i kids[i] (hKs.grow (G.tr g')) (by simp [hi])
   have hsz := Nd.szs_at kids i kids[i] (by simp [hi])
   have hl0 : ¬ left = 0 := fun h0 => by have hk := qI2 h1.1 (h1.2.resolve_right (by omega)); rw [hk] at hi; exact absurd hi (by simp)
   have hleft : ((left : Int) - 1) = ((left - 1 : Nat) : Int) := by omega
   rw [List.getD_eq_getElem?_getD, List.getElem?_eq_getElem hi, Option.getD_some]
   refine qV9 _ (left := (left : Int)) hat.len (by omega) (by omega) (g'.heap hc10) (fun w2_ g2_ => ?_)
   rw [hleft]
   exact ih_ w2_ (hat.grow g2_) (by omega) (by simp only [Nd.sz] at hm_; omega)
  refine zA2 (v := .bool ((List.range' 0 kids.length).any (fun i => !((kids.getD i (.mk 0 0 [] [] [])).right (left - 1))))) rfl (qM4 _ (RK.grow G) (fun i => !((kids.getD i (.mk 0 0 [] [] [])).right (left - 1))) kid) ?_
  intro w22 g23
  replace hc4 := g23.heap hc4
  replace hc10 := g23.heap hc10
  replace G := G.tr g23
  clear g23
  refine stp (zM1 rfl ?_)
  refine qZ 3 ?_
  refine ret1 (zA1 (v := .bool (!((List.range' 0 kids.length).any (fun i => !((kids.getD i (.mk 0 0 [] [] [])).right (left - 1)))))) rfl) ⟨?_, G⟩
  rw [Nd.right, h1.1, qN6]
  rcases h1.2 with h | h
  ·simp [h]
  ·simp [show ¬ left = 0 from by omega]
theorem qK8 (w : World) {c : List Value} {t : Nd} (T : NodeR w c t) : zC5 Tryz.prog 71 #[.agg c.toArray] w (.bool (t.right 32)) := by
 have h5 := T.len
 obtain ⟨x0, x1, x2, x3, x4, rfl⟩ := five h5
 have G := Grow.rfl' w
 refine zB1 Tryz.func71 Tryz.ntmps71 Tryz.results71 rfl rfl ?_
 refine qZ 2 ?_
 refine stp ?_
 refine qC ?_
 intro b1 w2 hb3 hc4 g5
 have hge6 := Nat.le_trans G.size hb3
 replace G := G.tr g5
 clear g5 hb3
 refine qZ 5 ?_
 refine stp (zA2 (v := .bool (t.right 32)) rfl (yA4 _ _ (T.grow G) (left := 32) (by omega) (Nat.le_refl _)) ?_)
 intro w7 g8
 replace hc4 := g8.heap hc4
 replace G := G.tr g8
 clear g8
 refine qZ 3 ?_
 refine ret1 (zA1 (v := .bool (t.right 32)) rfl) ⟨?_, G⟩
 rfl
theorem yI8 : ∀ (n_ : Nat) (w : World) {c : List Value} {t : Nd} (T : NodeR w c t) {left : Nat} (hl : left ≤ 32), t.sz ≤ n_ → zC5 Tryz.prog 73 #[.agg c.toArray, .int .i64 (left : Int)] w (.bool (t.right left)) := by
 intro n_
 induction n_ with
 | zero => intro w c t T left hl hm_; exact absurd hm_ (by have := t.sz_pos; omega)
 | succ n_ ih_ =>
 intro w c t T left hl hm_
 have T0 := T
 obtain @⟨kind, size, words, bytes, kids, ws, bs, ks, kc, hk, hs, hW, hwr, hB, hbr, hK, hKs⟩ := T
 obtain ⟨aw, cw, rfl, hcw, hcw2, RW⟩ := hW
 obtain ⟨ab, cb, rfl, hcb, hcb2, RB⟩ := hB
 obtain ⟨ak, ck, rfl, hck, hck2, RK⟩ := hK
 have lw := RW.lim
 have lb := RB.lim
 have lk := RK.lim
 simp only [inR] at hk hs
 have G := Grow.rfl' w
 refine zB1 Tryz.func73 Tryz.ntmps73 Tryz.results73 rfl rfl ?_
 refine qZ 2 ?_
 refine stp ?_
 refine qC ?_
 intro b1 w2 hb3 hc4 g5
 have hge6 := Nat.le_trans G.size hb3
 replace G := G.tr g5
 clear g5 hb3
 refine qZ 7 ?_
 refine stp (zE2 rfl rfl ?_)
 refine zA6 ?_
 refine zA3 (b := (decide (kind = 0))) rfl (fun h1 => ?_) (fun h1 => ?_)
 ·
  replace h1 := qT h1
  refine qZ 4 ?_
  refine stp (zE2 rfl rfl ?_)
  refine qZ 1 ?_
  refine qG 6 ?_
  refine zA4 (zB7 (s := .bool _) (v := .int .i64 ((words.length : Int) + (bytes.length : Int))) rfl (zG3 _) (fun hc13 => ?_) ?_)
  ·
   have hc13_ := qT hc13
   refine zC3 (gvt hc13) (gvt hc13) ?_ ?_; constructor <;> omega
   exact ⟨rfl, rfl⟩
  refine qG 3 ?_
  refine zA4 (zB7 (s := .bool _) (v := .int .i64 (((words.length : Int) + (bytes.length : Int)) + (kids.length : Int))) rfl (zG3 _) (fun hc17 => ?_) ?_)
  ·
   have hc17_ := qT hc17
   refine zC3 (gvt hc17) (gvt hc17) ?_ ?_; constructor <;> omega
   exact ⟨rfl, rfl⟩
  refine zA4 (zB7 (s := .bool _) (v := .bool (decide ((((words.length : Int) + (bytes.length : Int)) + (kids.length : Int)) = 0))) rfl (zG3 _) (fun hc18 => ?_) ?_)
  ·
   have hc18_ := qT hc18
   refine zE2 (gvt hc18) rfl ?_
   exact ⟨rfl, rfl⟩
  refine stp (zI8 rfl rfl rfl ?_)
  refine qZ 3 ?_
  refine ret1 (zA1 (v := .bool ((decide (size = 0)) && (decide ((((words.length : Int) + (bytes.length : Int)) + (kids.length : Int)) = 0)))) rfl) ⟨?_, G⟩
  by_cases hs0 : size = 0 <;> by_cases hz : (words.length : Int) + bytes.length + kids.length = 0
  ·have hk := qG7 hz; subst hk; simp [Nd.right, Nd.rights, Nd.own, h1, hs0]
  ·simp only [Nd.right, Nd.own, h1, hs0, hz, if_true, decide_true, decide_false, Bool.and_false, Bool.false_and]
  ·simp [Nd.right, Nd.own, h1, hs0]
  ·simp [Nd.right, Nd.own, h1, hs0]
 ·
  replace h1 := qF h1
  refine qZ 22 ?_
  refine jB5 (fun e_ w_ => Fr [(1, .int .i64 (left : Int)), (2, .pointer (some ⟨b1, 0, none⟩)), (4, .bool false), (7, .int .i64 (kids.length : Int)), (8, .bool ((Nd.mk kind size words bytes kids).own))] e_ ∧ (w_.heap[b1]? = some (.cells #[.int .i64 kind, .int .i64 size, .slice aw words.length cw, .slice ab bytes.length cb, .slice ak kids.length ck] 48 (0, 0))) ∧ Grow w w_) ?_ ?_
  ·-- the parts
   refine qZ 3 ?_
   refine stp (zE2 rfl rfl ?_)
   refine qZ 1 ?_
   refine qG 2 ?_
   refine zA4 (zB7 (s := .bool _) (v := .bool (decide (size = 0))) rfl (zG3 _) (fun hc21 => ?_) ?_)
   ·
    have hc21_ := qT hc21
    refine zE2 (gvt hc21) rfl ?_
    exact ⟨rfl, rfl⟩
   refine stp (zI8 rfl rfl rfl ?_)
   refine qZ 1 ?_
   refine qG 1 ?_
   refine zA4 (zB7 (s := .bool _) (v := .bool (decide ((words.length : Int) ≤ 100))) rfl (zG3 _) (fun hc23 => ?_) ?_)
   ·
    obtain ⟨hc23a, hc23b⟩ := and_t hc23
    have hc23a_ := qT hc23a
    have hc23b_ := qT hc23b
    refine zQ6 (gvt hc23) rfl ?_
    exact ⟨rfl, rfl⟩
   refine stp (zI8 rfl rfl rfl ?_)
   refine qZ 1 ?_
   refine zA4 (zB7 (s := .bool _) (v := .int .i64 (bytes.length : Int)) rfl (zG3 _) (fun hc24 => ?_) ?_)
   ·
    obtain ⟨hc24a, hc24b⟩ := and_t hc24
    obtain ⟨hc24aa, hc24ab⟩ := and_t hc24a
    have hc24aa_ := qT hc24aa
    have hc24ab_ := qT hc24ab
    have hc24b_ := qT hc24b
    refine zE4 rfl ?_
    exact ⟨rfl, rfl⟩
   refine zA4 (zB7 (s := .bool _) (v := .bool (decide ((bytes.length : Int) = 0))) rfl (zG3 _) (fun hc25 => ?_) ?_)
   ·
    obtain ⟨hc25a, hc25b⟩ := and_t hc25
    obtain ⟨hc25aa, hc25ab⟩ := and_t hc25a
    have hc25aa_ := qT hc25aa
    have hc25ab_ := qT hc25ab
    have hc25b_ := qT hc25b
    refine zE2 (gvt hc25) rfl ?_
    exact ⟨rfl, rfl⟩
   refine stp (zI8 rfl rfl rfl ?_)
   refine qZ 1 ?_
   refine zA4 (zB7 (s := .bool _) (v := .int .i64 (kids.length : Int)) rfl (zG3 _) (fun hc26 => ?_) ?_)
   ·
    obtain ⟨hc26a, hc26b⟩ := and_t hc26
    obtain ⟨hc26aa, hc26ab⟩ := and_t hc26a
    obtain ⟨hc26aaa, hc26aab⟩ := and_t hc26aa
    have hc26aaa_ := qT hc26aaa
    have hc26aab_ := qT hc26aab
    have hc26ab_ := qT hc26ab
    have hc26b_ := qT hc26b
    refine zE4 rfl ?_
    exact ⟨rfl, rfl⟩
   refine zA4 (zB7 (s := .bool _) (v := .bool (decide ((kids.length : Int) ≤ 100))) rfl (zG3 _) (fun hc27 => ?_) ?_)
   ·
    obtain ⟨hc27a, hc27b⟩ := and_t hc27
    obtain ⟨hc27aa, hc27ab⟩ := and_t hc27a
    obtain ⟨hc27aaa, hc27aab⟩ := and_t hc27aa
    have hc27aaa_ := qT hc27aaa
    have hc27aab_ := qT hc27aab
    have hc27ab_ := qT hc27ab
    have hc27b_ := qT hc27b
    refine zQ6 (gvt hc27) rfl ?_
    exact ⟨rfl, rfl⟩
   refine stp (zI8 rfl rfl rfl ?_)
   refine qZ 6 ?_
   refine stp (zE2 rfl rfl ?_)
   refine zA6 ?_
   refine zA3 (b := (decide (kind = 2))) rfl (fun h2 => ?_) (fun h2 => ?_)
   ·
    replace h2 := qT h2
    refine qZ 3 ?_
    refine stp (zE2 rfl rfl ?_)
    refine qZ 1 ?_
    refine qG 1 ?_
    refine zA4 (zB7 (s := .bool _) (v := .bool (decide ((words.length : Int) = 0))) rfl (zG3 _) (fun hc29 => ?_) ?_)
    ·
     have hc29_ := qT hc29
     refine zE2 (gvt hc29) rfl ?_
     exact ⟨rfl, rfl⟩
    refine stp (zI8 rfl rfl rfl ?_)
    refine qZ 1 ?_
    refine qG 1 ?_
    refine zA4 (zB7 (s := .bool _) (v := .bool (decide ((kids.length : Int) = 0))) rfl (zG3 _) (fun hc31 => ?_) ?_)
    ·
     obtain ⟨hc31a, hc31b⟩ := and_t hc31
     have hc31a_ := qT hc31a
     have hc31b_ := qT hc31b
     refine zE2 (gvt hc31) rfl ?_
     exact ⟨rfl, rfl⟩
    refine stp (zI8 rfl rfl rfl ?_)
    refine qZ 1 ?_
    refine zA4 (zB7 (s := .bool _) (v := .int .i64 (bytes.length : Int)) rfl (zG3 _) (fun hc32 => ?_) ?_)
    ·
     obtain ⟨hc32a, hc32b⟩ := and_t hc32
     obtain ⟨hc32aa, hc32ab⟩ := and_t hc32a
     have hc32aa_ := qT hc32aa
     have hc32ab_ := qT hc32ab
     have hc32b_ := qT hc32b
     refine zE4 rfl ?_
     exact ⟨rfl, rfl⟩
    refine zA4 (zB7 (s := .bool _) (v := .bool (decide ((bytes.length : Int) ≤ 4096))) rfl (zG3 _) (fun hc33 => ?_) ?_)
    ·
     obtain ⟨hc33a, hc33b⟩ := and_t hc33
     obtain ⟨hc33aa, hc33ab⟩ := and_t hc33a
     have hc33aa_ := qT hc33aa
     have hc33ab_ := qT hc33ab
     have hc33b_ := qT hc33b
     refine zQ6 (gvt hc33) rfl ?_
     exact ⟨rfl, rfl⟩
    refine stp (zI8 rfl rfl rfl ?_)
    refine qZ 1 ?_
    refine qG 2 ?_
    refine zA4 (zB7 (s := .bool _) (v := .bool (decide (size = 5))) rfl (zF0 _) (fun hc36 => ?_) ?_)
    ·
     have hc36_ := hc36
     try simp only [sb] at hc36_
     refine zE2 (gvt hc36) rfl ?_
     exact ⟨rfl, rfl⟩
    refine qG 1 ?_
    refine zA4 (zB7 (s := gv (!((((decide (size = 2)) && (decide ((words.length : Int) = 0))) && (decide ((kids.length : Int) = 0))) && (decide ((bytes.length : Int) ≤ 4096)))) (.bool (decide (size = 5)))) (b := true) (v := .int .i64 (bytes.length : Int)) rfl (zN9 _ _) (fun hc38 => ?_) ?_)
    ·
     obtain ⟨hc38a, hc38b⟩ := and_t hc38
     have hc38a_ := hc38a
     try simp only [sb] at hc38a_
     have hc38b_ := qT hc38b
     refine zE4 rfl ?_
     exact ⟨rfl, rfl⟩
    refine zA4 (zB7 (s := gv (!((((decide (size = 2)) && (decide ((words.length : Int) = 0))) && (decide ((kids.length : Int) = 0))) && (decide ((bytes.length : Int) ≤ 4096)))) (.bool (decide (size = 5)))) (b := true) (v := .bool (decide ((bytes.length : Int) = 0))) rfl (zN9 _ _) (fun hc39 => ?_) ?_)
    ·
     obtain ⟨hc39a, hc39b⟩ := and_t hc39
     have hc39a_ := hc39a
     try simp only [sb] at hc39a_
     have hc39b_ := qT hc39b
     refine zE2 (gvt hc39) rfl ?_
     exact ⟨rfl, rfl⟩
    refine zA4 (zB7 (s := .bool _) (v := .bool ((decide (size = 5)) && (decide ((bytes.length : Int) = 0)))) rfl (zF0 _) (fun hc40 => ?_) ?_)
    ·
     have hc40_ := hc40
     try simp only [sb] at hc40_
     refine qG9 hc40 (gvt hc40) rfl rfl ?_
     exact ⟨rfl, rfl⟩
    refine qG 1 ?_
    refine zA4 (zB7 (s := gv (!((((decide (size = 2)) && (decide ((words.length : Int) = 0))) && (decide ((kids.length : Int) = 0))) && (decide ((bytes.length : Int) ≤ 4096)))) (.bool ((decide (size = 5)) && (decide ((bytes.length : Int) = 0))))) (b := true) (v := .int .i64 (kids.length : Int)) rfl (zN9 _ _) (fun hc42 => ?_) ?_)
    ·
     obtain ⟨hc42a, hc42b⟩ := and_t hc42
     have hc42a_ := hc42a
     try simp only [sb] at hc42a_
     obtain ⟨hc42ba, hc42bb⟩ := and_t hc42b
     have hc42ba_ := qT hc42ba
     have hc42bb_ := qT hc42bb
     refine zE4 rfl ?_
     exact ⟨rfl, rfl⟩
    refine zA4 (zB7 (s := gv (!((((decide (size = 2)) && (decide ((words.length : Int) = 0))) && (decide ((kids.length : Int) = 0))) && (decide ((bytes.length : Int) ≤ 4096)))) (.bool ((decide (size = 5)) && (decide ((bytes.length : Int) = 0))))) (b := true) (v := .bool (decide ((kids.length : Int) = 0))) rfl (zN9 _ _) (fun hc43 => ?_) ?_)
    ·
     obtain ⟨hc43a, hc43b⟩ := and_t hc43
     have hc43a_ := hc43a
     try simp only [sb] at hc43a_
     obtain ⟨hc43ba, hc43bb⟩ := and_t hc43b
     have hc43ba_ := qT hc43ba
     have hc43bb_ := qT hc43bb
     refine zE2 (gvt hc43) rfl ?_
     exact ⟨rfl, rfl⟩
    refine zA4 (zB7 (s := .bool _) (v := .bool (((decide (size = 5)) && (decide ((bytes.length : Int) = 0))) && (decide ((kids.length : Int) = 0)))) rfl (zF0 _) (fun hc44 => ?_) ?_)
    ·
     have hc44_ := hc44
     try simp only [sb] at hc44_
     refine qG9 hc44 (gvt hc44) rfl rfl ?_
     exact ⟨rfl, rfl⟩
    refine qG 1 ?_
    refine zA4 (zB7 (s := gv (!((((decide (size = 2)) && (decide ((words.length : Int) = 0))) && (decide ((kids.length : Int) = 0))) && (decide ((bytes.length : Int) ≤ 4096)))) (.bool (((decide (size = 5)) && (decide ((bytes.length : Int) = 0))) && (decide ((kids.length : Int) = 0))))) (b := true) (v := .int .i64 (words.length : Int)) rfl (zN9 _ _) (fun hc46 => ?_) ?_)
    ·
     obtain ⟨hc46a, hc46b⟩ := and_t hc46
     have hc46a_ := hc46a
     try simp only [sb] at hc46a_
     obtain ⟨hc46ba, hc46bb⟩ := and_t hc46b
     obtain ⟨hc46baa, hc46bab⟩ := and_t hc46ba
     have hc46baa_ := qT hc46baa
     have hc46bab_ := qT hc46bab
     have hc46bb_ := qT hc46bb
     refine zE4 rfl ?_
     exact ⟨rfl, rfl⟩
    refine zA4 (zB7 (s := gv (!((((decide (size = 2)) && (decide ((words.length : Int) = 0))) && (decide ((kids.length : Int) = 0))) && (decide ((bytes.length : Int) ≤ 4096)))) (.bool (((decide (size = 5)) && (decide ((bytes.length : Int) = 0))) && (decide ((kids.length : Int) = 0))))) (b := true) (v := .bool (decide ((words.length : Int) ≤ 4096))) rfl (zN9 _ _) (fun hc47 => ?_) ?_)
    ·
     obtain ⟨hc47a, hc47b⟩ := and_t hc47
     have hc47a_ := hc47a
     try simp only [sb] at hc47a_
     obtain ⟨hc47ba, hc47bb⟩ := and_t hc47b
     obtain ⟨hc47baa, hc47bab⟩ := and_t hc47ba
     have hc47baa_ := qT hc47baa
     have hc47bab_ := qT hc47bab
     have hc47bb_ := qT hc47bb
     refine zQ6 (gvt hc47) rfl ?_
     exact ⟨rfl, rfl⟩
    refine zA4 (zB7 (s := .bool _) (v := .bool ((((decide (size = 5)) && (decide ((bytes.length : Int) = 0))) && (decide ((kids.length : Int) = 0))) && (decide ((words.length : Int) ≤ 4096)))) rfl (zF0 _) (fun hc48 => ?_) ?_)
    ·
     have hc48_ := hc48
     try simp only [sb] at hc48_
     refine qG9 hc48 (gvt hc48) rfl rfl ?_
     exact ⟨rfl, rfl⟩
    refine stp (zJ3 rfl rfl rfl ?_)
    refine qZ 1 ?_
    refine qG 2 ?_
    refine zA4 (zB7 (s := .bool _) (v := .bool (decide (size = 6))) rfl (zF0 _) (fun hc51 => ?_) ?_)
    ·
     have hc51_ := hc51
     try simp only [sb] at hc51_
     refine zE2 (gvt hc51) rfl ?_
     exact ⟨rfl, rfl⟩
    refine qG 1 ?_
    refine zA4 (zB7 (s := gv (!(((((decide (size = 2)) && (decide ((words.length : Int) = 0))) && (decide ((kids.length : Int) = 0))) && (decide ((bytes.length : Int) ≤ 4096))) || ((((decide (size = 5)) && (decide ((bytes.length : Int) = 0))) && (decide ((kids.length : Int) = 0))) && (decide ((words.length : Int) ≤ 4096))))) (.bool (decide (size = 6)))) (b := true) (v := .int .i64 (bytes.length : Int)) rfl (zN9 _ _) (fun hc53 => ?_) ?_)
    ·
     obtain ⟨hc53a, hc53b⟩ := and_t hc53
     have hc53a_ := hc53a
     try simp only [sb] at hc53a_
     have hc53b_ := qT hc53b
     refine zE4 rfl ?_
     exact ⟨rfl, rfl⟩
    refine zA4 (zB7 (s := gv (!(((((decide (size = 2)) && (decide ((words.length : Int) = 0))) && (decide ((kids.length : Int) = 0))) && (decide ((bytes.length : Int) ≤ 4096))) || ((((decide (size = 5)) && (decide ((bytes.length : Int) = 0))) && (decide ((kids.length : Int) = 0))) && (decide ((words.length : Int) ≤ 4096))))) (.bool (decide (size = 6)))) (b := true) (v := .bool (decide ((bytes.length : Int) = 0))) rfl (zN9 _ _) (fun hc54 => ?_) ?_)
    ·
     obtain ⟨hc54a, hc54b⟩ := and_t hc54
     have hc54a_ := hc54a
     try simp only [sb] at hc54a_
     have hc54b_ := qT hc54b
     refine zE2 (gvt hc54) rfl ?_
     exact ⟨rfl, rfl⟩
    refine zA4 (zB7 (s := .bool _) (v := .bool ((decide (size = 6)) && (decide ((bytes.length : Int) = 0)))) rfl (zF0 _) (fun hc55 => ?_) ?_)
    ·
     have hc55_ := hc55
     try simp only [sb] at hc55_
     refine qG9 hc55 (gvt hc55) rfl rfl ?_
     exact ⟨rfl, rfl⟩
    refine qG 1 ?_
    refine zA4 (zB7 (s := gv (!(((((decide (size = 2)) && (decide ((words.length : Int) = 0))) && (decide ((kids.length : Int) = 0))) && (decide ((bytes.length : Int) ≤ 4096))) || ((((decide (size = 5)) && (decide ((bytes.length : Int) = 0))) && (decide ((kids.length : Int) = 0))) && (decide ((words.length : Int) ≤ 4096))))) (.bool ((decide (size = 6)) && (decide ((bytes.length : Int) = 0))))) (b := true) (v := .int .i64 (words.length : Int)) rfl (zN9 _ _) (fun hc57 => ?_) ?_)
    ·
     obtain ⟨hc57a, hc57b⟩ := and_t hc57
     have hc57a_ := hc57a
     try simp only [sb] at hc57a_
     obtain ⟨hc57ba, hc57bb⟩ := and_t hc57b
     have hc57ba_ := qT hc57ba
     have hc57bb_ := qT hc57bb
     refine zE4 rfl ?_
     exact ⟨rfl, rfl⟩
    refine zA4 (zB7 (s := gv (!(((((decide (size = 2)) && (decide ((words.length : Int) = 0))) && (decide ((kids.length : Int) = 0))) && (decide ((bytes.length : Int) ≤ 4096))) || ((((decide (size = 5)) && (decide ((bytes.length : Int) = 0))) && (decide ((kids.length : Int) = 0))) && (decide ((words.length : Int) ≤ 4096))))) (.bool ((decide (size = 6)) && (decide ((bytes.length : Int) = 0))))) (b := true) (v := .bool (decide ((words.length : Int) = 0))) rfl (zN9 _ _) (fun hc58 => ?_) ?_)
    ·
     obtain ⟨hc58a, hc58b⟩ := and_t hc58
     have hc58a_ := hc58a
     try simp only [sb] at hc58a_
     obtain ⟨hc58ba, hc58bb⟩ := and_t hc58b
     have hc58ba_ := qT hc58ba
     have hc58bb_ := qT hc58bb
     refine zE2 (gvt hc58) rfl ?_
     exact ⟨rfl, rfl⟩
    refine zA4 (zB7 (s := .bool _) (v := .bool (((decide (size = 6)) && (decide ((bytes.length : Int) = 0))) && (decide ((words.length : Int) = 0)))) rfl (zF0 _) (fun hc59 => ?_) ?_)
    ·
     have hc59_ := hc59
     try simp only [sb] at hc59_
     refine qG9 hc59 (gvt hc59) rfl rfl ?_
     exact ⟨rfl, rfl⟩
    refine qG 1 ?_
    refine zA4 (zB7 (s := gv (!(((((decide (size = 2)) && (decide ((words.length : Int) = 0))) && (decide ((kids.length : Int) = 0))) && (decide ((bytes.length : Int) ≤ 4096))) || ((((decide (size = 5)) && (decide ((bytes.length : Int) = 0))) && (decide ((kids.length : Int) = 0))) && (decide ((words.length : Int) ≤ 4096))))) (.bool (((decide (size = 6)) && (decide ((bytes.length : Int) = 0))) && (decide ((words.length : Int) = 0))))) (b := true) (v := .int .i64 (kids.length : Int)) rfl (zN9 _ _) (fun hc61 => ?_) ?_)
    ·
     obtain ⟨hc61a, hc61b⟩ := and_t hc61
     have hc61a_ := hc61a
     try simp only [sb] at hc61a_
     obtain ⟨hc61ba, hc61bb⟩ := and_t hc61b
     obtain ⟨hc61baa, hc61bab⟩ := and_t hc61ba
     have hc61baa_ := qT hc61baa
     have hc61bab_ := qT hc61bab
     have hc61bb_ := qT hc61bb
     refine zE4 rfl ?_
     exact ⟨rfl, rfl⟩
    refine zA4 (zB7 (s := gv (!(((((decide (size = 2)) && (decide ((words.length : Int) = 0))) && (decide ((kids.length : Int) = 0))) && (decide ((bytes.length : Int) ≤ 4096))) || ((((decide (size = 5)) && (decide ((bytes.length : Int) = 0))) && (decide ((kids.length : Int) = 0))) && (decide ((words.length : Int) ≤ 4096))))) (.bool (((decide (size = 6)) && (decide ((bytes.length : Int) = 0))) && (decide ((words.length : Int) = 0))))) (b := true) (v := .bool (decide ((kids.length : Int) ≤ 4096))) rfl (zN9 _ _) (fun hc62 => ?_) ?_)
    ·
     obtain ⟨hc62a, hc62b⟩ := and_t hc62
     have hc62a_ := hc62a
     try simp only [sb] at hc62a_
     obtain ⟨hc62ba, hc62bb⟩ := and_t hc62b
     obtain ⟨hc62baa, hc62bab⟩ := and_t hc62ba
     have hc62baa_ := qT hc62baa
     have hc62bab_ := qT hc62bab
     have hc62bb_ := qT hc62bb
     refine zQ6 (gvt hc62) rfl ?_
     exact ⟨rfl, rfl⟩
    refine zA4 (zB7 (s := .bool _) (v := .bool ((((decide (size = 6)) && (decide ((bytes.length : Int) = 0))) && (decide ((words.length : Int) = 0))) && (decide ((kids.length : Int) ≤ 4096)))) rfl (zF0 _) (fun hc63 => ?_) ?_)
    ·
     have hc63_ := hc63
     try simp only [sb] at hc63_
     refine qG9 hc63 (gvt hc63) rfl rfl ?_
     exact ⟨rfl, rfl⟩
    refine stp (zJ3 rfl rfl rfl ?_)
    refine qZ 2 ?_
    exact ⟨zD2 ⟨rfl, rfl, rfl, rfl, congrArg Value.bool (by first | exact yE7 h2 | exact yE6 h1 h2), trivial⟩, hc4, G⟩
   ·
    replace h2 := qF h2
    refine zZ2 ?_
    exact ⟨zD2 ⟨rfl, rfl, rfl, rfl, congrArg Value.bool (by first | exact yE7 h2 | exact yE6 h1 h2), trivial⟩, hc4, G⟩
  ·-- behind them
   clear hc4
   clear G
   rintro e_ w64 ⟨⟨e65, rfl⟩, hc4, G⟩
   refine qZ 4 ?_
   refine stp (zM1 rfl ?_)
   refine qZ 1 ?_
   refine qG 1 ?_
   refine zA4 (zB7 (s := .bool _) (v := .bool (decide ((left : Int) = 0))) rfl (zF0 _) (fun hc67 => ?_) ?_)
   ·
    have hc67_ := hc67
    try simp only [sb] at hc67_
    refine zE2 (gvt hc67) rfl ?_
    exact ⟨rfl, rfl⟩
   refine stp (zJ3 rfl rfl rfl ?_)
   refine zA6 ?_
   refine zA3 (b := ((!((Nd.mk kind size words bytes kids).own)) || (decide ((left : Int) = 0)))) rfl (fun h4 => ?_) (fun h4 => ?_)
   ·
    simp only [sb] at h4
    refine qZ 5 ?_
    refine ret1 (zA1 (v := .bool false) rfl) ⟨?_, G⟩
    rcases h4 with h | h
    ·simp [Nd.right, h]
    ·simp [Nd.right, h1, show left = 0 from by omega]
   ·
    simp only [sb] at h4
    refine qZ 7 ?_
    refine zG4 (fun m_ e_ w_ => ∃ (k : Nat), m_ = kids.length - k ∧ Fr [(1, .int .i64 (left : Int)), (2, .pointer (some ⟨b1, 0, none⟩)), (7, .int .i64 (kids.length : Int)), (9, .int .i64 (k : Int))] e_ ∧ (k ≤ kids.length) ∧ (Nd.rights (kids.take k) (left - 1) = true) ∧ (w_.heap[b1]? = some (.cells #[.int .i64 kind, .int .i64 size, .slice aw words.length cw, .slice ab bytes.length cb, .slice ak kids.length ck] 48 (0, 0))) ∧ Grow w w_) _ ⟨0, rfl, zD2 ⟨rfl, rfl, rfl, rfl, trivial⟩, by omega, by simp [Nd.rights], hc4, G⟩ ?_
    clear hc4
    clear G
    rintro m_ e_ w68 ⟨k, rfl, ⟨e69, rfl⟩, hk2, hyes, hc4, G⟩
    refine qZ 5 ?_
    refine stp (zI1 rfl rfl ?_)
    refine zA6 ?_
    refine zA3 (b := (decide ((k : Int) < (kids.length : Int)))) rfl (fun hlt => ?_) (fun hlt => ?_)
    ·
     replace hlt := qT hlt
     have hi : k < kids.length := by omega
     have hat := KidsR.at_ k kids[k] hKs (by simp [hi])
     have hsz := Nd.szs_at kids k kids[k] (by simp [hi])
     refine qZ 8 ?_
     refine stp (zD7 (RK.grow G) rfl rfl ?_ ?_); omega
     refine stp (zO7 (RK.grow G) rfl (by decide) (by rw [RK.len]; omega) rfl ?_)
     refine qZ 1 ?_
     refine stp (zL2 rfl rfl ?_ ?_); constructor <;> omega
     refine stp (zA2 (v := .bool (kids[k].right (left - 1))) rfl ((by have h := ih_ _ (hat.grow G) (left := left - 1) (by omega) (by simp only [Nd.sz] at hm_; omega); rw [← show ((left : Int) - 1) = ((left - 1 : Nat) : Int) from by omega] at h; exact h)) ?_)
     intro w70 g71
     replace hc4 := g71.heap hc4
     replace G := G.tr g71
     clear g71
     refine stp (zM1 rfl ?_)
     refine zA6 ?_
     refine zA3 (b := (!(kids[k].right (left - 1)))) rfl (fun h7 => ?_) (fun h7 => ?_)
     ·
      simp only [sb] at h7
      refine qZ 5 ?_
      refine ret1 (zA1 (v := .bool false) rfl) ⟨?_, G⟩
      have := qG6 hi h7
      simp [Nd.right, this]
     ·
      simp only [sb] at h7
      refine qZ 3 ?_
      refine stp (zC3 rfl rfl ?_ ?_); constructor <;> omega
      refine qZ 2 ?_
      refine ⟨_, ?_, k + 1, rfl, zD2 ⟨rfl, rfl, rfl, rfl, trivial⟩, by omega, (by rw [List.take_add_one, List.getElem?_eq_getElem hi, qD1, hyes]; simp [Nd.rights, h7]), hc4, G⟩
      omega
    ·
     replace hlt := qF hlt
     have hk2 : k = kids.length := by omega
     subst hk2
     rw [List.take_length] at hyes
     refine qZ 6 ?_
     refine ret1 (zA1 (v := .bool true) rfl) ⟨?_, G⟩
     simp [Nd.right, h4, h1, hyes]
     omega
theorem qW0 (w : World) {c : List Value} {t : Nd} (T : NodeR w c t) : zC5 Tryz.prog 41 #[.agg c.toArray] w (.bool (t.right 32)) := by
 have h5 := T.len
 obtain ⟨x0, x1, x2, x3, x4, rfl⟩ := five h5
 have G := Grow.rfl' w
 refine zB1 Tryz.func41 Tryz.ntmps41 Tryz.results41 rfl rfl ?_
 refine qZ 2 ?_
 refine stp ?_
 refine qC ?_
 intro b1 w2 hb3 hc4 g5
 have hge6 := Nat.le_trans G.size hb3
 replace G := G.tr g5
 clear g5 hb3
 refine qZ 5 ?_
 refine stp (zA2 (v := .bool (t.right 32)) rfl (yI8 _ _ (T.grow G) (left := 32) (by omega) (Nat.le_refl _)) ?_)
 intro w7 g8
 replace hc4 := g8.heap hc4
 replace G := G.tr g8
 clear g8
 refine qZ 3 ?_
 refine ret1 (zA1 (v := .bool (t.right 32)) rfl) ⟨?_, G⟩
 rfl
end Go.Proofs.YtkkbbhpbcfcplaaGreat.K
