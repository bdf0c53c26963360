/- Laid together: J14, L08, O08, Q08, J13, R09, P08, U09, T10, T11, S08, V09, W09, U10, V11, V10, N09, N07. Each part is plain law, a rule, or a walk of the functions that its names tell. -/
import Derived.Test.YtfhfecepcnapfaaX1
set_option linter.unusedVariables false
set_option linter.unusedSimpArgs false
namespace Go.Proofs.Ytfhfecepcnapfaa.K
open Go Go.RowKit
structure KtP (T : TypeId) (base : Nat) (w w' : World) : Prop where
  os : w'.os = w.os
  tape : w'.tape = w.tape
  output : w'.output = w.output
  size : w.heap.size ≤ w'.heap.size
  old : ∀ k : Nat, k < w.heap.size → (k < base ∨ ¬ ∃ cs, w.heap[k]? = some (.cells cs T (0, 0))) → w'.heap[k]? = w.heap[k]?
  new : ∀ (k : Nat) (cs : Array Value), w.heap[k]? = some (.cells cs T (0, 0)) → ∃ cs' : Array Value, cs'.size = cs.size ∧ w'.heap[k]? = some (.cells cs' T (0, 0))
def ktR (T : TypeId) (base : Nat) : KpR where
  r := KtP T base
  refl := fun w => ⟨rfl, rfl, rfl, Nat.le_refl _, fun _ _ _ => rfl, fun k cs h => ⟨cs, rfl, h⟩⟩
  tr := fun {a b c} h k => ⟨k.os.trans h.os, k.tape.trans h.tape, k.output.trans h.output, Nat.le_trans h.size k.size, fun i hi hc => by
      have h1 := h.old i hi hc
      rw [k.old i (Nat.lt_of_lt_of_le hi h.size) (by rw [h1]; exact hc), h1], fun i cs hi => by
      obtain ⟨cs1, h1, h2⟩ := h.new i cs hi
      obtain ⟨cs2, h3, h4⟩ := k.new i cs1 h2
      exact ⟨cs2, h3.trans h1, h4⟩⟩
  grow := fun {a b} g => ⟨g.os, g.tape, g.output, g.size, fun k hk _ => g.block k hk, fun k cs h => ⟨cs, rfl, g.heap h⟩⟩
theorem KtP.to_grow {T : TypeId} {W w w' : World} (k : KtP T W.heap.size w w') (g : Grow W w) : Grow W w' :=
  ⟨k.os.trans g.os, k.tape.trans g.tape, k.output.trans g.output, Nat.le_trans g.size k.size, fun i hi => by rw [k.old i (Nat.lt_of_lt_of_le hi g.size) (.inl hi), g.block i hi]⟩
theorem KtP.of_upd {T : TypeId} {base b : Nat} {w w' : World} {cs cs2 : Array Value} (u : Upd b w w') (hb : base ≤ b) (h : w.heap[b]? = some (.cells cs T (0, 0))) (h2 : w'.heap[b]? = some (.cells cs2 T (0, 0))) (hs : cs2.size = cs.size) : KtP T base w w' :=
  ⟨u.os, u.tape, u.output, by rw [u.size]; exact Nat.le_refl _, fun k hk hc => u.other k (fun he => hc.elim (fun h3 => by omega) (fun h3 => h3 ⟨cs, he ▸ h⟩)), fun k cs3 h3 => by
    by_cases he : k = b
    · subst he
      rw [h] at h3
      simp only [Option.some.injEq, Obj.cells.injEq] at h3
      exact ⟨cs2, by rw [hs, h3.1], h2⟩
    · exact ⟨cs3, rfl, by rw [u.other k he]; exact h3⟩⟩
end Go.Proofs.Ytfhfecepcnapfaa.K

namespace Go.Proofs.Ytfhfecepcnapfaa.K
open Go Go.RowKit

abbrev len2 (A : List (List Int)) (j : Nat) : Nat := (A.getD j []).length
def setP (A : List (List Int)) (s i : Nat) (x : Int) : List (List Int) := A.set s ((A.getD s []).set i x)
theorem getD_set {α : Type} (A : List α) (s j : Nat) (x d : α) (hs : s < A.length) : (A.set s x).getD j d = if j = s then x else A.getD j d := by
  rw [List.getD_eq_getElem?_getD, List.getD_eq_getElem?_getD]
  by_cases h : j = s
  · subst h; rw [List.getElem?_set_self hs, if_pos rfl]; rfl
  · rw [List.getElem?_set_ne (Ne.symm h), if_neg h]
theorem setP_length (A : List (List Int)) (s i : Nat) (x : Int) : (setP A s i x).length = A.length := by simp [setP]
theorem setP_getD (A : List (List Int)) (s i j : Nat) (x : Int) (hs : s < A.length) : (setP A s i x).getD j [] = if j = s then (A.getD s []).set i x else A.getD j [] := getD_set A s j _ _ hs
theorem setP_len2 (A : List (List Int)) (s i j : Nat) (x : Int) : len2 (setP A s i x) j = len2 A j := by
  by_cases hs : s < A.length
  · simp only [len2, setP_getD A s i j x hs]
    split
    · subst_vars; simp
    · rfl
  · simp only [len2, setP, List.set_eq_of_length_le (by omega : A.length ≤ s)]
theorem totalP_set : ∀ (A : List (List Int)) (s : Nat) (l : List Int), s < A.length → totalP (A.set s l) = totalP A - (A.getD s []).length + l.length
  | [], s, l, h => by simp at h
  | a :: A, 0, l, h => by simp [totalP]; omega
  | a :: A, s + 1, l, h => by
    have := totalP_set A s l (by simpa using h)
    simp only [List.set_cons_succ, totalP, this, List.getD_cons_succ]; omega
theorem totalP_setP (A : List (List Int)) (s i : Nat) (x : Int) : totalP (setP A s i x) = totalP A := by
  by_cases hs : s < A.length
  · unfold setP; rw [totalP_set A s _ hs, List.length_set]; omega
  · rw [setP, List.set_eq_of_length_le (by omega : A.length ≤ s)]
theorem growB_length (A : List (List Int)) (q : Nat) : (growB A q).length = if q = A.length then A.length + 1 else A.length := by
  unfold growB; split <;> simp
theorem growB_getD (A : List (List Int)) (q j : Nat) : (growB A q).getD j [] = A.getD j [] := by
  unfold growB
  split
  · rw [List.getD_eq_getElem?_getD, List.getD_eq_getElem?_getD]
    rcases Nat.lt_trichotomy j A.length with h | h | h
    · rw [List.getElem?_append_left h]
    · subst h; rw [List.getElem?_append_right (Nat.le_refl _), List.getElem?_eq_none (Nat.le_refl _)]; simp
    · rw [List.getElem?_eq_none (by simp; omega), List.getElem?_eq_none (by omega)]
  · rfl
theorem growA_length (A : List (List Int)) (q : Nat) (l : List Int) : (growA A q l).length = if q = A.length then A.length + 1 else A.length := by
  unfold growA; rw [List.length_set, growB_length]
theorem growA_getD (A : List (List Int)) (q j : Nat) (l : List Int) (hq : q ≤ A.length) : (growA A q l).getD j [] = if j = q then A.getD q [] ++ l else A.getD j [] := by
  unfold growA
  rw [getD_set _ _ _ _ _ (growB_len hq).1, growB_getD, growB_getD]
theorem totalP_growB (A : List (List Int)) (q : Nat) : totalP (growB A q) = totalP A := by
  unfold growB; split
  · rw [totalP_append]; simp [totalP]
  · rfl
theorem totalP_growA (A : List (List Int)) (q : Nat) (l : List Int) (hq : q ≤ A.length) : totalP (growA A q l) = totalP A + l.length := by
  unfold growA
  rw [totalP_set _ _ _ (growB_len hq).1, totalP_growB, List.length_append]; omega
/-- What is laid; Full: there was no room. -/
structure Lay where
  A : List (List Int)
  full : Bool
def fullP (size : Int) (A : List (List Int)) (q : Nat) : Bool := !(decide ((A.length : Int) ≤ 16) && (decide ((len2 A q : Int) ≤ size) && decide (totalP A ≤ 4096)))
def moreP (size : Int) (S : Lay) (q : Nat) (l : List Int) : Lay := ⟨growA S.A q l, S.full || fullP size (growA S.A q l) q⟩
structure Plc where
  S : Lay
  seg : Nat
  at_ : Nat
def lastP (A : List (List Int)) : Nat := A.length - 1
def newSeg (size : Int) (t : Nd) (A : List (List Int)) (s : Nat) : Bool := decide (s = lastP A) || decide ((len2 A (lastP A) : Int) + t.need + 1 > size)
def placeP (size : Int) (t : Nd) (S : Lay) (s i : Nat) : Plc :=
  if s = lastP S.A ∧ (len2 S.A (lastP S.A) : Int) + t.need ≤ size then ⟨⟨setP S.A s i (t.near ((len2 S.A (lastP S.A) : Int) - i - 1)), S.full⟩, lastP S.A, len2 S.A (lastP S.A)⟩
  else if newSeg size t S.A s then ⟨moreP size ⟨setP S.A s i (farP ((lastP S.A : Int) + 1) 0), S.full⟩ (lastP S.A + 1) [t.near 0], lastP S.A + 1, 1⟩
  else ⟨moreP size ⟨setP S.A s i (farP (lastP S.A) (len2 S.A (lastP S.A))), S.full⟩ (lastP S.A) [t.near 0], lastP S.A, len2 S.A (lastP S.A) + 1⟩
mutual
def Nd.lay (size : Int) : Nd → Lay → Nat → Nat → Lay
  | .mk k z w b ks, S, s, i =>
    if k = 0 ∨ S.full = true then S
    else if (Nd.mk k z w b ks).need = 0 then ⟨setP S.A s i ((Nd.mk k z w b ks).near (if k = 1 then -1 else 0)), S.full⟩
    else Nd.lays size ks (moreP size (placeP size (.mk k z w b ks) S s i).S (placeP size (.mk k z w b ks) S s i).seg (Nd.mk k z w b ks).content) (placeP size (.mk k z w b ks) S s i).seg ((placeP size (.mk k z w b ks) S s i).at_ + ((Nd.mk k z w b ks).need.toNat - ks.length))
def Nd.lays (size : Int) : List Nd → Lay → Nat → Nat → Lay
  | [], S, _, _ => S
  | t :: ts, S, s, i => Nd.lays size ts (Nd.lay size t S s i) s (i + 1)
end
theorem Nd.lay_full {size : Int} {S : Lay} (h : S.full = true) (t : Nd) (s i : Nat) : t.lay size S s i = S := by
  cases t; simp [Nd.lay, h]
theorem Nd.lays_full {size : Int} {S : Lay} (h : S.full = true) : ∀ (ts : List Nd) (s i : Nat), Nd.lays size ts S s i = S
  | [], _, _ => rfl
  | t :: ts, s, i => by simp only [Nd.lays]; rw [Nd.lay_full h]; exact Nd.lays_full h ts s (i + 1)
theorem Nd.lays_append {size : Int} : ∀ (a b : List Nd) (S : Lay) (s i : Nat), Nd.lays size (a ++ b) S s i = Nd.lays size b (Nd.lays size a S s i) s (i + a.length)
  | [], b, S, s, i => rfl
  | t :: a, b, S, s, i => by
    simp only [List.cons_append, Nd.lays, List.length_cons]
    rw [Nd.lays_append a b]; congr 1; omega
theorem Nd.lays_take {size : Int} {ks : List Nd} {k : Nat} (h : k < ks.length) (S : Lay) (s i : Nat) : Nd.lays size (ks.take (k + 1)) S s i = ks[k].lay size (Nd.lays size (ks.take k) S s i) s (i + k) := by
  rw [List.take_add_one, List.getElem?_eq_getElem h, Nd.lays_append]
  simp only [Option.toList_some, Nd.lays, List.length_take]
  rw [Nat.min_eq_left (by omega)]
/-- If it is full at last, it was full behind some of the first. -/
theorem Nd.lays_full_take {size : Int} {ks : List Nd} {k : Nat} {S : Lay} {s i : Nat} (h : (Nd.lays size (ks.take k) S s i).full = true) : (Nd.lays size ks S s i).full = true := by
  have : Nd.lays size ks S s i = Nd.lays size (ks.drop k) (Nd.lays size (ks.take k) S s i) s (i + (ks.take k).length) := by
    rw [← Nd.lays_append, List.take_append_drop]
  rw [this, Nd.lays_full h]; exact h
/-- There is room in all. -/
structure Fit (size : Int) (A : List (List Int)) : Prop where
  one : 1 ≤ A.length
  most : A.length ≤ 16
  seg : ∀ j, (len2 A j : Int) ≤ size
  all : totalP A ≤ 4096
theorem Fit.set {size : Int} {A : List (List Int)} (h : Fit size A) (s i : Nat) (x : Int) : Fit size (setP A s i x) :=
  ⟨by rw [setP_length]; exact h.one, by rw [setP_length]; exact h.most, fun j => by rw [setP_len2]; exact h.seg j, by rw [totalP_setP]; exact h.all⟩
theorem fullP_false {size : Int} {A : List (List Int)} {q : Nat} (h : fullP size A q = false) : A.length ≤ 16 ∧ (len2 A q : Int) ≤ size ∧ totalP A ≤ 4096 := by
  simp only [fullP, Bool.not_eq_false', Bool.and_eq_true, decide_eq_true_eq] at h; omega
theorem Fit.more {size : Int} {A : List (List Int)} (h : Fit size A) {q : Nat} {l : List Int} (hq : q ≤ A.length) (hf : fullP size (growA A q l) q = false) : Fit size (growA A q l) := by
  obtain ⟨h1, h2, h3⟩ := fullP_false hf
  refine ⟨?_, h1, fun j => ?_, h3⟩
  · rw [growA_length]; have := h.one; split <;> omega
  · by_cases hj : j = q
    · subst hj; exact h2
    · have h4 := h.seg j
      simp only [len2] at h4 ⊢
      rw [growA_getD A q j l hq, if_neg hj]; exact h4
theorem growA_len2 (A : List (List Int)) (q j : Nat) (l : List Int) (hq : q ≤ A.length) : len2 A j ≤ len2 (growA A q l) j := by
  simp only [len2]; rw [growA_getD A q j l hq]
  split
  · subst_vars; simp
  · exact Nat.le_refl _
theorem growA_len (A : List (List Int)) (q : Nat) (l : List Int) : A.length ≤ (growA A q l).length := by rw [growA_length]; split <;> omega
/-- It has grown only. -/
structure Grew (A B : List (List Int)) : Prop where
  len : A.length ≤ B.length
  seg : ∀ j, len2 A j ≤ len2 B j
theorem Grew.refl (A : List (List Int)) : Grew A A := ⟨Nat.le_refl _, fun _ => Nat.le_refl _⟩
theorem Grew.trans {A B C : List (List Int)} (h : Grew A B) (k : Grew B C) : Grew A C := ⟨Nat.le_trans h.len k.len, fun j => Nat.le_trans (h.seg j) (k.seg j)⟩
theorem Grew.set (A : List (List Int)) (s i : Nat) (x : Int) : Grew A (setP A s i x) := ⟨by rw [setP_length]; exact Nat.le_refl _, fun j => by rw [setP_len2]; exact Nat.le_refl _⟩
theorem Grew.more (A : List (List Int)) (q : Nat) (l : List Int) (hq : q ≤ A.length) : Grew A (growA A q l) := ⟨growA_len A q l, fun j => growA_len2 A q j l hq⟩
structure PlcOk (size : Int) (t : Nd) (S : Lay) (s i : Nat) : Prop where
  grew : Grew S.A (placeP size t S s i).S.A
  seg : (placeP size t S s i).seg < (placeP size t S s i).S.A.length
  at_ : (placeP size t S s i).at_ = len2 (placeP size t S s i).S.A (placeP size t S s i).seg
  fit : Fit size S.A → (placeP size t S s i).S.full = false → Fit size (placeP size t S s i).S.A
  full : S.full = true → (placeP size t S s i).S.full = true
theorem len2_none {A : List (List Int)} {j : Nat} (h : A.length ≤ j) : len2 A j = 0 := by
  simp only [len2]; rw [List.getD_eq_getElem?_getD, List.getElem?_eq_none h]; rfl
theorem placeP_ok (size : Int) (t : Nd) (S : Lay) (s i : Nat) (h1 : 1 ≤ S.A.length) : PlcOk size t S s i := by
  have hl : lastP S.A + 1 = S.A.length := by unfold lastP; omega
  unfold placeP at *
  by_cases h : s = lastP S.A ∧ (len2 S.A (lastP S.A) : Int) + t.need ≤ size
  · constructor <;> simp only [placeP, if_pos h]
    · exact Grew.set _ _ _ _
    · rw [setP_length]; omega
    · rw [setP_len2]
    · intro hF _; exact hF.set _ _ _
    · exact id
  · by_cases hn : newSeg size t S.A s = true
    · have hq : lastP S.A + 1 ≤ (setP S.A s i (farP ((lastP S.A : Int) + 1) 0)).length := by rw [setP_length]; omega
      constructor <;> simp only [placeP, if_neg h, if_pos hn, moreP]
      · exact (Grew.set S.A s i (farP ((lastP S.A : Int) + 1) 0)).trans (Grew.more _ _ _ hq)
      · rw [growA_length, setP_length]; split <;> omega
      · rw [len2, growA_getD _ _ _ _ hq, if_pos rfl, List.length_append]
        have : len2 (setP S.A s i (farP ((lastP S.A : Int) + 1) 0)) (lastP S.A + 1) = 0 := len2_none (by rw [setP_length]; omega)
        simp only [len2] at this; rw [this]; rfl
      · intro hF hf; simp only [Bool.or_eq_false_iff] at hf; exact (hF.set _ _ _).more hq hf.2
      · intro h; simp [h]
    · have hq : lastP S.A ≤ (setP S.A s i (farP (lastP S.A) (len2 S.A (lastP S.A)))).length := by rw [setP_length]; omega
      constructor <;> simp only [placeP, if_neg h, if_neg hn, moreP]
      · exact (Grew.set S.A s i (farP (lastP S.A) (len2 S.A (lastP S.A)))).trans (Grew.more _ _ _ hq)
      · rw [growA_length, setP_length]; split <;> omega
      · have h2 := setP_len2 S.A s i (lastP S.A) (farP (lastP S.A) (len2 S.A (lastP S.A)))
        have h3 : len2 (growA (setP S.A s i (farP (lastP S.A) (len2 S.A (lastP S.A)))) (lastP S.A) [t.near 0]) (lastP S.A) = len2 (setP S.A s i (farP (lastP S.A) (len2 S.A (lastP S.A)))) (lastP S.A) + 1 := by
          rw [len2, growA_getD _ _ _ _ hq, if_pos rfl, List.length_append]; rfl
        rw [h3, h2]
      · intro hF hf; simp only [Bool.or_eq_false_iff] at hf; exact (hF.set _ _ _).more hq hf.2
      · intro h; simp [h]
structure LayOk (size : Int) (S R : Lay) : Prop where
  grew : Grew S.A R.A
  fit : Fit size S.A → R.full = false → Fit size R.A
  full : S.full = true → R.full = true
theorem LayOk.refl (size : Int) (S : Lay) : LayOk size S S := ⟨Grew.refl _, fun h _ => h, id⟩
theorem LayOk.trans {size : Int} {S R Q : Lay} (h : LayOk size S R) (k : LayOk size R Q) : LayOk size S Q :=
  ⟨h.grew.trans k.grew, fun hF hq => k.fit (h.fit hF (by cases hR : R.full with | false => rfl | true => rw [k.full hR] at hq; exact absurd hq (by simp))) hq, fun hS => k.full (h.full hS)⟩
theorem LayOk.more (size : Int) (S : Lay) (q : Nat) (l : List Int) (hq : q ≤ S.A.length) : LayOk size S (moreP size S q l) :=
  ⟨Grew.more _ _ _ hq, fun hF hf => by simp only [moreP, Bool.or_eq_false_iff] at hf; exact hF.more hq hf.2, fun h => by simp [moreP, h]⟩
mutual
theorem Nd.lay_ok (size : Int) : ∀ (t : Nd) (S : Lay) (s i : Nat), 1 ≤ S.A.length → LayOk size S (t.lay size S s i)
  | .mk k z w b ks, S, s, i, h1 => by
    simp only [Nd.lay]
    split
    · exact LayOk.refl _ _
    · split
      · exact ⟨Grew.set _ _ _ _, fun hF _ => hF.set _ _ _, id⟩
      · have hp := placeP_ok size (.mk k z w b ks) S s i h1
        refine LayOk.trans ⟨hp.grew, hp.fit, hp.full⟩ (LayOk.trans (LayOk.more size _ _ (Nd.mk k z w b ks).content (Nat.le_of_lt hp.seg)) ?_)
        refine Nd.lays_ok size ks _ _ _ ?_
        have := hp.grew.len
        have := growA_len (placeP size (.mk k z w b ks) S s i).S.A (placeP size (.mk k z w b ks) S s i).seg (Nd.mk k z w b ks).content
        simp only [moreP]; omega
theorem Nd.lays_ok (size : Int) : ∀ (ts : List Nd) (S : Lay) (s i : Nat), 1 ≤ S.A.length → LayOk size S (Nd.lays size ts S s i)
  | [], S, _, _, _ => LayOk.refl _ _
  | t :: ts, S, s, i, h1 => by
    simp only [Nd.lays]
    have h := Nd.lay_ok size t S s i h1
    exact h.trans (Nd.lays_ok size ts _ _ _ (Nat.le_trans h1 h.grew.len))
end
theorem Nd.content_length (t : Nd) (hk : t.kind = 1 ∨ t.kind = 2) (hb : t.kind = 1 → t.bytes = []) : (t.content.length : Int) = t.need := by
  obtain ⟨k, z, w, b, ks⟩ := t
  simp only [Nd.kind, Nd.bytes] at hk hb
  simp only [Nd.content, Nd.need, chunksP, List.length_append, List.length_map, List.length_range, List.length_replicate]
  rcases hk with h | h
  · have := hb h; subst this; simp [h]
  · simp [h]; omega
/-- The arena of a tree. -/
def Nd.build (t : Nd) (size : Int) : List (List Int) × Int :=
  if size < 1 ∨ size > 4096 ∨ t.right 32 = false then ([], 1)
  else if (t.lay size ⟨[[0]], false⟩ 0 0).full then ([], 24) else ((t.lay size ⟨[[0]], false⟩ 0 0).A, 0)
end Go.Proofs.Ytfhfecepcnapfaa.K

namespace Go.Proofs.Ytfhfecepcnapfaa.K
open Go Go.RowKit

/-- A cell of one's own row is written. -/
theorem own_setcell {w w' : World} {base g n c i : Nat} {T : TypeId} {xs : List Value} {x : Value} {cur cur' : Array Value} (h : w.ownsRow base T 1 (.slice (some ⟨g, 0, none⟩) n c) n xs) (hb : w.heap[g]? = some (.cells cur T (0, 0)))
    (hb' : w'.heap[g]? = some (.cells cur' T (0, 0))) (hs : cur'.toList = cur.toList.set i x) : w'.ownsRow base T 1 (.slice (some ⟨g, 0, none⟩) n c) n (xs.set i x) := by
  obtain ⟨h1, h2⟩ := h
  refine ⟨by rw [List.length_set]; exact h1, .inr ?_⟩
  rcases h2 with ⟨h0, _⟩ | ⟨q, cap, cur0, hv, hq, hg, h3, h4, h5, h6⟩
  · cases h0
  · simp only [Value.slice.injEq, Option.some.injEq, Addr.mk.injEq, and_true, true_and] at hv
    obtain ⟨rfl, rfl⟩ := hv
    rw [hb] at hg
    simp only [Option.some.injEq, Obj.cells.injEq, and_true] at hg
    subst hg
    refine ⟨g, c, cur', rfl, hq, hb', h3, h4, ?_, ?_⟩
    · rw [← Array.length_toList, hs, List.length_set, Array.length_toList, h5]
    · rw [hs, List.take_set, h6]
/-- A row of segments, all of it one's own. -/
structure OwnA (TO TW : TypeId) (w : World) (base : Nat) (so : Value) (segs : List Value) (A : List (List Int)) : Prop where
  out : w.ownsRow base TO 1 so A.length segs
  seg : ∀ (i : Nat) (v : Value) (ws : List Int), segs[i]? = some v → A[i]? = some ws → w.ownsRow base TW 1 v ws.length (wordsV ws)
  dis : ∀ (i j : Nat) (v u : Value) (b : Nat), segs[i]? = some v → segs[j]? = some u → v.ownBlock = some b → u.ownBlock = some b → i = j
section
variable {TO TW : TypeId} {w w' : World} {base : Nat} {so so' : Value} {segs : List Value} {A : List (List Int)}
theorem OwnA.len (h : OwnA TO TW w base so segs A) : segs.length = A.length := by rw [h.out.1, Nat.mul_one]
theorem OwnA.at_ (h : OwnA TO TW w base so segs A) {i : Nat} (hi : i < A.length) : ∃ v, segs[i]? = some v ∧ w.ownsRow base TW 1 v A[i].length (wordsV A[i]) :=
  ⟨segs[i]'(by rw [h.len]; exact hi), List.getElem?_eq_getElem _, h.seg i _ _ (List.getElem?_eq_getElem _) (List.getElem?_eq_getElem hi)⟩
theorem OwnA.grow (h : OwnA TO TW w base so segs A) (g : Grow w w') : OwnA TO TW w' base so segs A :=
  ⟨own_grow h.out g, fun i v ws hv hw => own_grow (h.seg i v ws hv hw) g, h.dis⟩
theorem OwnA.lower {base' : Nat} (h : OwnA TO TW w base so segs A) (hb : base' ≤ base) : OwnA TO TW w base' so segs A :=
  ⟨own_base h.out hb, fun i v ws hv hw => own_base (h.seg i v ws hv hw) hb, h.dis⟩
theorem OwnA.arena (h : OwnA TO TW w base so segs A) (hA : A.length ≤ 1000) (hs : ∀ s ∈ A, s.length ≤ 100000) : ArenaR w so A := by
  refine ⟨segs, own_row h.out (by omega), fun i s hi => ?_⟩
  have hl : i < A.length := (List.getElem?_eq_some_iff.1 hi).1
  obtain ⟨v, hv, ho⟩ := h.at_ hl
  have he : A[i] = s := by rw [List.getElem?_eq_getElem hl] at hi; exact Option.some.inj hi
  rw [he] at ho
  exact ⟨v, hv, own_row ho (by have := hs s (List.mem_of_getElem? hi); omega)⟩
/-- A row of segments is copied (with an empty one behind it, or not), and one of them is another row, just made. -/
def growV (segs : List Value) (q : Nat) : List Value := if q = segs.length then segs ++ [.slice none 0 0] else segs
theorem growV_at {q i : Nat} {v : Value} (h : (growV segs q)[i]? = some v) : segs[i]? = some v ∨ (i = segs.length ∧ v = .slice none 0 0) := by
  unfold growV at h
  split at h
  · rcases Nat.lt_or_ge i segs.length with hi | hi
    · rw [List.getElem?_append_left hi] at h; exact .inl h
    · rw [List.getElem?_append_right hi] at h
      have h2 := List.getElem?_eq_some_iff.1 h
      simp at h2
      obtain ⟨h3, h4⟩ := h2
      exact .inr ⟨by omega, h4.symm⟩
  · exact .inl h
theorem OwnA.copy {q : Nat} {u : Value} {ws : List Int} (h : OwnA TO TW w base so segs A) (hbw : base ≤ w.heap.size) (g : Grow w w') (hq : q ≤ A.length) (hu : w'.ownsRow w.heap.size TW 1 u ws.length (wordsV ws)) (ho : w'.ownsRow base TO 1 so' (growB A q).length ((growV segs q).set q u)) :
    OwnA TO TW w' base so' ((growV segs q).set q u) ((growB A q).set q ws) := by
  have hlen : (growV segs q).length = (growB A q).length := by unfold growV growB; rw [h.len]; split <;> simp [h.len]
  have hqB := (growB_len hq).1
  have old : ∀ (i : Nat) (v : Value), (growV segs q)[i]? = some v → ∀ b, v.ownBlock = some b → b < w.heap.size := by
    intro i v hv b hb
    rcases growV_at hv with hv | ⟨_, rfl⟩
    · have hi : i < A.length := by rw [← h.len]; exact (List.getElem?_eq_some_iff.1 hv).1
      exact ((h.seg i v _ hv (List.getElem?_eq_getElem hi)).lt b hb).2
    · simp [Value.ownBlock] at hb
  refine ⟨by rw [List.length_set]; exact ho, fun i v s hv hs => ?_, fun i j v x b hv hx h1 h2 => ?_⟩
  · by_cases hi : i = q
    · subst hi
      rw [List.getElem?_set_self (by rw [hlen]; exact hqB)] at hv
      rw [List.getElem?_set_self hqB] at hs
      obtain rfl := Option.some.inj hv
      obtain rfl := Option.some.inj hs
      exact own_base hu hbw
    · rw [List.getElem?_set_ne (Ne.symm hi)] at hv hs
      have hil : i < A.length := by
        have := (List.getElem?_eq_some_iff.1 hs).1
        have hg := growB_length A q
        split at hg <;> omega
      have hs' : A[i]? = some s := by
        unfold growB at hs; split at hs
        · rwa [List.getElem?_append_left hil] at hs
        · exact hs
      rcases growV_at hv with hv | ⟨hi2, rfl⟩
      · exact own_grow (h.seg i v s hv hs') g
      · rw [h.len] at hi2; omega
  · by_cases hi : i = q
    · by_cases hj : j = q
      · rw [hi, hj]
      · subst hi
        rw [List.getElem?_set_self (by rw [hlen]; exact hqB)] at hv
        rw [List.getElem?_set_ne (Ne.symm hj)] at hx
        obtain rfl := Option.some.inj hv
        have := (hu.lt b h1).1
        have := old j x hx b h2
        omega
    · rw [List.getElem?_set_ne (Ne.symm hi)] at hv
      by_cases hj : j = q
      · subst hj
        rw [List.getElem?_set_self (by rw [hlen]; exact hqB)] at hx
        obtain rfl := Option.some.inj hx
        have := (hu.lt b h2).1
        have := old i v hv b h1
        omega
      · rw [List.getElem?_set_ne (Ne.symm hj)] at hx
        rcases growV_at hv with hv | ⟨_, rfl⟩
        · rcases growV_at hx with hx | ⟨_, rfl⟩
          · exact h.dis i j v x b hv hx h1 h2
          · simp [Value.ownBlock] at h2
        · simp [Value.ownBlock] at h1
/-- A word of a segment is written. -/
theorem OwnA.setw {q i g cap : Nat} {ws : List Int} {x : Int} {cur cur' : Array Value} (hOW : TO ≠ TW) (h : OwnA TO TW w base so segs A) (hA : A[q]? = some ws) (hs : segs[q]? = some (.slice (some ⟨g, 0, none⟩) ws.length cap))
    (hcur : w.heap[g]? = some (.cells cur TW (0, 0))) (hcur' : w'.heap[g]? = some (.cells cur' TW (0, 0))) (hset : cur'.toList = cur.toList.set i (.int .u64 x)) (u : Upd g w w') :
    OwnA TO TW w' base so segs (A.set q (ws.set i x)) := by
  have hqA : q < A.length := (List.getElem?_eq_some_iff.1 hA).1
  refine ⟨by rw [List.length_set]; exact own_upd h.out u (own_ne h.out hcur hOW), fun j v wj hv hw => ?_, h.dis⟩
  by_cases hj : j = q
  · subst hj
    rw [List.getElem?_set_self hqA] at hw
    rw [hs] at hv
    obtain rfl := Option.some.inj hv
    obtain rfl := Option.some.inj hw
    have := own_setcell (h.seg j _ ws hs hA) hcur hcur' hset
    rw [List.length_set, wordsV, List.map_set]
    exact this
  · rw [List.getElem?_set_ne (Ne.symm hj)] at hw
    have hsj := h.seg j v wj hv hw
    exact own_upd hsj u fun he => hj (h.dis j q v _ g hv hs he rfl)
end
theorem own_shape {w : World} {base n sz : Nat} {T : TypeId} {v : Value} {xs : List Value} (h : w.ownsRow base T sz v n xs) : ∃ ad c, v = .slice ad n c ∧ n ≤ c := by
  rcases h.2 with ⟨rfl, rfl⟩ | ⟨q, cap, cur, rfl, _, _, hn, _⟩
  · exact ⟨_, _, rfl, Nat.le_refl _⟩
  · exact ⟨_, _, rfl, hn⟩
theorem choose_slices {n : Nat} {segs : List Value} {len : Nat → Nat} (h : ∀ i, i < n → ∃ ad c, segs[i]? = some (.slice ad (len i) c)) : ∃ (sa : Nat → Option Addr) (sc : Nat → Nat), ∀ i, i < n → segs[i]? = some (.slice (sa i) (len i) (sc i)) := by
  have h2 : ∀ i, ∃ p : Option Addr × Nat, i < n → segs[i]? = some (.slice p.1 (len i) p.2) := fun i => by
    by_cases hi : i < n
    · obtain ⟨ad, c, h⟩ := h i hi; exact ⟨(ad, c), fun _ => h⟩
    · exact ⟨(none, 0), fun h => absurd h hi⟩
  obtain ⟨f, hf⟩ := Classical.axiomOfChoice h2
  exact ⟨fun i => (f i).1, fun i => (f i).2, hf⟩
section
variable {TB TO TW : TypeId} {w w' : World} {bB : Nat} {so : Value} {segs : List Value} {A : List (List Int)} {size all : Int}
theorem BldAt.fn (h : BldAt TB TO TW w bB so segs A size all) (hA : A.length ≤ 1000) : ∃ (ado : Option Addr) (co : Nat) (sa : Nat → Option Addr) (sc : Nat → Nat), so = .slice ado A.length co ∧ A.length ≤ co ∧ RowAt w 1 ado A.length segs ∧ ∀ i, i < A.length → segs[i]? = some (.slice (sa i) (len2 A i) (sc i)) := by
  obtain ⟨ado, co, h1, h2, _, h3⟩ := own_row h.out (by omega)
  obtain ⟨sa, sc, h4⟩ := choose_slices (n := A.length) (segs := segs) (len := len2 A) fun i hi => by
    obtain ⟨v, hv, ho⟩ := h.at_ hi
    obtain ⟨ad, c, rfl, _⟩ := own_shape ho
    exact ⟨ad, c, by rw [len2, getD_at hi]; exact hv⟩
  exact ⟨ado, co, sa, sc, h1, h2, h3, h4⟩
/-- The same where memory has grown besides. -/
theorem BldAt.setwK {q i g cap : Nat} {sv : Value} {ws : List Int} {x : Int} {cur cur' : Array Value} (hWB : TW ≠ TB) (hOW : TO ≠ TW) (h : BldAt TB TO TW w bB so segs A size all) (hA : A[q]? = some ws) (hs : segs[q]? = some sv)
    (hsv : sv = .slice (some ⟨g, 0, none⟩) ws.length cap) (hcur : w.heap[g]? = some (.cells cur TW (0, 0))) (hcur' : w'.heap[g]? = some (.cells cur' TW (0, 0))) (hset : cur'.toList = cur.toList.set i (.int .u64 x)) (u : Kp [g] w w') :
    BldAt TB TO TW w' bB so segs (A.set q (ws.set i x)) size all := by
  have hqA : q < A.length := (List.getElem?_eq_some_iff.1 hA).1
  have hgB : bB ≠ g := by intro he; subst he; have := hcur.symm.trans h.box; simp only [Option.some.injEq, Obj.cells.injEq] at this; exact hWB this.2.1
  have hbs : sv.ownBlock = some g := by rw [hsv]; rfl
  have keep : ∀ {n sz : Nat} {T : TypeId} {v : Value} {xs : List Value}, w.ownsRow 0 T sz v n xs → v.ownBlock ≠ some g → w'.ownsRow 0 T sz v n xs := fun ho hne => own_keepB ho u fun k hk hm => by
    simp only [List.mem_singleton] at hm; subst hm; exact hne hk
  refine ⟨u.heap h.box (by simpa using hgB), by rw [List.length_set]; exact keep h.out (own_ne h.out hcur hOW), fun j v wj hv hw => ?_, h.dis⟩
  by_cases hj : j = q
  · subst hj
    rw [List.getElem?_set_self hqA] at hw
    rw [hs] at hv
    obtain rfl := Option.some.inj hv
    obtain rfl := Option.some.inj hw
    subst hsv
    have := own_setcell (h.seg j _ ws hs hA) hcur hcur' hset
    rw [List.length_set, wordsV, List.map_set]
    exact this
  · rw [List.getElem?_set_ne (Ne.symm hj)] at hw
    have hsj := h.seg j v wj hv hw
    exact keep hsj fun he => hj (h.dis j q v sv g hv hs he hbs)
/-- A word is written: where, and what stands behind. -/
theorem BldAt.put {s i : Nat} (hWB : TW ≠ TB) (hOW : TO ≠ TW) (h : BldAt TB TO TW w bB so segs A size all) (hs : s < A.length) (hi : i < len2 A s) :
    ∃ g cap cur, segs[s]? = some (.slice (some ⟨g, 0, none⟩) (len2 A s) cap) ∧ w.heap[g]? = some (.cells cur TW (0, 0)) ∧ i < cur.size ∧ g ∈ blks bB so segs ∧ so.ownBlock ≠ some g ∧ bB ≠ g ∧
      ∀ (w' : World) (cur' : Array Value) (x : Int), w'.heap[g]? = some (.cells cur' TW (0, 0)) → cur'.toList = cur.toList.set i (.int .u64 x) → Kp [g] w w' → BldAt TB TO TW w' bB so segs (setP A s i x) size all := by
  have hl : len2 A s = A[s].length := by rw [len2, getD_at hs]
  obtain ⟨v, hv, ho⟩ := h.at_ hs
  rcases ho.2 with ⟨rfl, h0⟩ | ⟨g, cap, cur, rfl, _, hg, h1, h2, h3, h4⟩
  · omega
  · refine ⟨g, cap, cur, by rw [hl]; exact hv, hg, by omega, mem_blks.2 (.inr (.inr ⟨s, _, hv, rfl⟩)), own_ne h.out hg hOW, fun he => ?_, fun w' cur' x hc hset u => ?_⟩
    · subst he; have := hg.symm.trans h.box; simp only [Option.some.injEq, Obj.cells.injEq] at this; exact hWB this.2.1
    · have := h.setwK (i := i) hWB hOW (List.getElem?_eq_getElem hs) hv rfl hg hc hset u
      rw [setP, getD_at hs]
      exact this
theorem slice_inj {a b : Option Addr} {n m c d : Nat} (h : some (Value.slice a n c) = some (Value.slice b m d)) : a = b := by
  simp only [Option.some.injEq, Value.slice.injEq] at h; exact h.1
theorem RowAt.keep1 {w w' : World} {g sz n : Nat} {ad : Option Addr} {xs : List Value} (h : RowAt w sz ad n xs) (k : Kp [g] w w') (hn : ∀ b o, ad = some ⟨b, o, none⟩ → b ≠ g) : RowAt w' sz ad n xs :=
  ⟨h.len, h.lim, fun hp => by
    obtain ⟨b, o, cs, T, fr, rfl, hb, hx⟩ := h.at_ hp
    exact ⟨b, o, cs, T, fr, rfl, k.heap hb (by simpa using hn b o rfl), hx⟩⟩
theorem Grow.kp1 {g : Nat} {w0 w w' : World} (h : Grow w0 w) (k : Kp [g] w w') (hg : w0.heap.size ≤ g) : Grow w0 w' := h.trK k fun x hx => by simp only [List.mem_singleton] at hx; subst hx; exact hg
theorem own_addr {w : World} {base n sz : Nat} {T : TypeId} {ad : Option Addr} {c b o : Nat} {xs : List Value} (h : w.ownsRow base T sz (.slice ad n c) n xs) (ha : ad = some ⟨b, o, none⟩) : (Value.slice ad n c).ownBlock = some b := by rw [ha]; rfl
end
theorem Fit.small {size : Int} {A : List (List Int)} (h : Fit size A) (hs : size ≤ 4096) : A.length ≤ 1000 ∧ ∀ s ∈ A, s.length ≤ 100000 := by
  refine ⟨by have := h.most; omega, fun s hm => ?_⟩
  obtain ⟨i, hi, rfl⟩ := List.getElem_of_mem hm
  have := h.seg i
  rw [len2, getD_at hi] at this
  omega
theorem full_more {size : Int} {A : List (List Int)} {q : Nat} {l : List Int} (hq : q ≤ A.length) : (decide (((growA A q l).length : Int) ≤ 16) && (decide ((((growA A q l).getD q []).length : Int) ≤ size) && decide (totalP A + l.length ≤ 4096))) = !(moreP size ⟨A, false⟩ q l).full := by
  rw [← totalP_growA A q l hq]
  simp only [moreP, fullP, Bool.false_or, Bool.not_not, len2]
theorem lastP_lt {A : List (List Int)} (h : 1 ≤ A.length) : lastP A < A.length ∧ ((A.length : Int) - 1) = (lastP A : Int) := by unfold lastP; omega
/-- A tree that may be, so deep. -/
def Nd.fine (t : Nd) : Prop := ∃ l, t.right l = true
theorem Nd.fine_own {t : Nd} (h : t.fine) : t.own = true := by
  obtain ⟨l, h⟩ := h
  obtain ⟨k, s, w, b, ks⟩ := t
  simp only [Nd.right, Bool.and_eq_true] at h
  exact h.1.1
theorem rights_at {left : Nat} : ∀ {ks : List Nd} {k : Nat} (h : k < ks.length), Nd.rights ks left = true → ks[k].right left = true
  | t :: ts, 0, _, h => by simp only [Nd.rights, Bool.and_eq_true] at h; exact h.1
  | t :: ts, k + 1, hk, h => by
    simp only [Nd.rights, Bool.and_eq_true] at h
    have := rights_at (ks := ts) (k := k) (by simpa using hk) h.2
    simpa using this
theorem Nd.fine_kid {k s : Int} {w b : List Int} {ks : List Nd} {j : Nat} (h : (Nd.mk k s w b ks).fine) (hj : j < ks.length) : ks[j].fine := by
  obtain ⟨l, h⟩ := h
  simp only [Nd.right, Bool.and_eq_true] at h
  exact ⟨_, rights_at hj h.2⟩
structure OwnB (k : Int) (w b : List Int) (ks : List Nd) (need : Int) : Prop where
  kd : k = 0 ∨ k = 1 ∨ k = 2
  lw : w.length ≤ 4096
  lb : b.length ≤ 4096
  lk : ks.length ≤ 4096
  nn : 0 ≤ need
  most : need ≤ 5000
  kids : k ≠ 0 → (ks.length : Int) ≤ need
  b1 : k = 1 → b = []
theorem Nd.own_b {k s : Int} {w b : List Int} {ks : List Nd} (h : (Nd.mk k s w b ks).own = true) : OwnB k w b ks (Nd.mk k s w b ks).need := by
  simp only [Nd.own] at h
  split at h
  · rename_i h0
    simp only [Bool.and_eq_true, decide_eq_true_eq] at h
    exact ⟨.inl h0, by omega, by omega, by omega, by simp [Nd.need, h0], by simp [Nd.need, h0], fun h => absurd h0 h, fun h => by omega⟩
  · rename_i h0
    split at h
    · rename_i h1
      simp only [Bool.and_eq_true, decide_eq_true_eq] at h
      obtain ⟨_, h2, h3⟩ := h
      have : w.length ≤ 100 ∧ ks.length ≤ 100 := by split at h3 <;> omega
      refine ⟨.inr (.inl h1), by omega, by omega, by omega, ?_, ?_, fun _ => ?_, fun _ => List.eq_nil_of_length_eq_zero (by omega)⟩ <;> simp only [Nd.need, if_pos h1] <;> omega
    · rename_i h1
      split at h
      · rename_i h2
        have : w.length ≤ 4096 ∧ b.length ≤ 4096 ∧ ks.length ≤ 4096 ∧ (w.length + ks.length = 0 ∨ (b.length = 0 ∧ (w.length = 0 ∨ ks.length = 0))) := by
          split at h
          · simp only [Bool.and_eq_true, decide_eq_true_eq] at h; omega
          · split at h
            · simp only [Bool.and_eq_true, decide_eq_true_eq] at h; omega
            · split at h
              · simp only [Bool.and_eq_true, decide_eq_true_eq] at h; omega
              · cases h
        refine ⟨.inr (.inr h2), by omega, by omega, by omega, ?_, ?_, fun _ => ?_, fun h => absurd h h1⟩ <;> simp only [Nd.need, if_neg h1, if_pos h2] <;> omega
      · cases h
theorem Lay.eta {X : Lay} (h : X.full = false) : (⟨X.A, false⟩ : Lay) = X := by
  cases X; simp only at h; rw [h]
theorem NodeR.cells {w : World} {c : List Value} {t : Nd} (h : NodeR w c t) : ∃ k s a n cp a2 n2 c2 a3 n3 c3, c = [.int .i64 k, .int .i64 s, .slice a n cp, .slice a2 n2 c2, .slice a3 n3 c3] := by
  obtain @⟨kind, size, words, bytes, kids, ws, bs, ks, kc, hk, hs, hW, hwr, hB, hbr, hK, hKs⟩ := h
  obtain ⟨aw, cw, rfl, -⟩ := hW
  obtain ⟨ab, cb, rfl, -⟩ := hB
  obtain ⟨ak, ck, rfl, -⟩ := hK
  exact ⟨_, _, _, _, _, _, _, _, _, _, _, rfl⟩
theorem own_raise {w : World} {base base' n sz : Nat} {T : TypeId} {v : Value} {xs : List Value} (h : w.ownsRow base T sz v n xs) (hb : ∀ k, v.ownBlock = some k → base' ≤ k) : w.ownsRow base' T sz v n xs := by
  refine ⟨h.1, ?_⟩
  rcases h.2 with hn | ⟨q, cap, cur, rfl, _, rest⟩
  · exact .inl hn
  · exact .inr ⟨q, cap, cur, rfl, hb q rfl, rest⟩
theorem BldAt.owns {TB TO TW : TypeId} {w : World} {bB base : Nat} {so : Value} {segs : List Value} {A : List (List Int)} {size all : Int} (h : BldAt TB TO TW w bB so segs A size all) (hb : ∀ k ∈ blks bB so segs, base ≤ k) : OwnA TO TW w base so segs A :=
  ⟨own_raise h.out fun k hk => hb k (mem_blks.2 (.inr (.inl hk))), fun i v ws hv hw => own_raise (h.seg i v ws hv hw) fun k hk => hb k (mem_blks.2 (.inr (.inr ⟨i, v, hv, hk⟩))), h.dis⟩
theorem BldAt.rows {TB TO TW : TypeId} {w : World} {bB : Nat} {so : Value} {segs : List Value} {A : List (List Int)} {size all : Int} (h : BldAt TB TO TW w bB so segs A size all) (hs : ∀ s ∈ A, s.length ≤ 100000) : ∀ (i : Nat) (s : List Int), A[i]? = some s → ∃ v, segs[i]? = some v ∧ Row w 1 v s.length (wordsV s) := by
  intro i s hi
  have hl : i < A.length := (List.getElem?_eq_some_iff.1 hi).1
  obtain ⟨v, hv, ho⟩ := h.at_ hl
  have he : A[i] = s := by rw [List.getElem?_eq_getElem hl] at hi; exact Option.some.inj hi
  rw [he] at ho
  exact ⟨v, hv, own_row ho (by have := hs s (List.mem_of_getElem? hi); omega)⟩
theorem BldAt.init {TB TO TW : TypeId} {w : World} {bB b1 b2 : Nat} {size : Int} (hb : w.heap[bB]? = some (.cells #[.slice (some ⟨b2, 0, none⟩) 1 1, .int .i64 size, .int .i64 1] TB (0, 0))) (ho : w.heap[b2]? = some (.cells #[.slice (some ⟨b1, 0, none⟩) 1 1] TO (0, 0))) (hw : w.heap[b1]? = some (.cells #[.int .u64 0] TW (0, 0))) :
    BldAt TB TO TW w bB (.slice (some ⟨b2, 0, none⟩) 1 1) [.slice (some ⟨b1, 0, none⟩) 1 1] [[0]] size (totalP [[0]]) := by
  refine ⟨hb, own_lit ho (Nat.zero_le _) rfl (by decide), fun i v ws hv hw2 => ?_, fun i j v u b hv hu _ _ => ?_⟩
  · match i, hv, hw2 with
    | 0, hv, hw2 =>
      simp only [List.getElem?_cons_zero, Option.some.injEq] at hv hw2
      subst hv; subst hw2
      exact own_lit hw (Nat.zero_le _) rfl (by decide)
    | i + 1, hv, _ => simp at hv
  · have h1 := (List.getElem?_eq_some_iff.1 hv).1
    have h2 := (List.getElem?_eq_some_iff.1 hu).1
    simp at h1 h2; omega
theorem Fit.init {size : Int} (h : 1 ≤ size) : Fit size [[0]] := ⟨by simp, by simp, fun j => by
  match j with
  | 0 => simp [len2]; exact h
  | j + 1 => simp [len2]; omega, by simp [totalP]⟩
theorem OwnA.nil (TO TW : TypeId) (w : World) (base : Nat) : OwnA TO TW w base (.slice none 0 0) [] [] :=
  ⟨⟨by simp, .inl ⟨rfl, rfl⟩⟩, fun i v ws hv _ => by simp at hv, fun i j v u b hv _ _ _ => by simp at hv⟩
theorem OwnA.fn {TO TW : TypeId} {w : World} {base : Nat} {so : Value} {segs : List Value} {A : List (List Int)} (h : OwnA TO TW w base so segs A) (hA : A.length ≤ 1000) : ∃ (ado : Option Addr) (co : Nat) (sa : Nat → Option Addr) (sc : Nat → Nat), so = .slice ado A.length co ∧ A.length ≤ co ∧ co ≤ maxLen ∧ RowAt w 1 ado A.length segs ∧ ∀ i, i < A.length → segs[i]? = some (.slice (sa i) (len2 A i) (sc i)) ∧ w.ownsRow base TW 1 (.slice (sa i) (len2 A i) (sc i)) (len2 A i) (wordsV (A.getD i [])) := by
  obtain ⟨ado, co, h1, h2, h2', h3⟩ := own_row h.out (by omega)
  obtain ⟨sa, sc, h4⟩ := choose_slices (n := A.length) (segs := segs) (len := len2 A) fun i hi => by
    obtain ⟨v, hv, ho⟩ := h.at_ hi
    obtain ⟨ad, c, rfl, _⟩ := own_shape ho
    exact ⟨ad, c, by rw [len2, getD_at hi]; exact hv⟩
  refine ⟨ado, co, sa, sc, h1, h2, h2', h3, fun i hi => ⟨h4 i hi, ?_⟩⟩
  have := h.seg i _ _ (h4 i hi) (List.getElem?_eq_getElem hi)
  rw [len2, getD_at hi] at *
  exact this
theorem OwnA.one {TO TW : TypeId} {w : World} {base : Nat} {so : Value} {segs : List Value} {A : List (List Int)} (h : OwnA TO TW w base so segs A) : ∀ q ∈ segs, q.oneCell' = true := by
  intro q hq
  obtain ⟨i, hi, rfl⟩ := List.getElem_of_mem hq
  have hl : i < A.length := by rw [← h.len]; exact hi
  obtain ⟨v, hv, ho⟩ := h.at_ hl
  rw [List.getElem?_eq_getElem hi] at hv
  obtain rfl := Option.some.inj hv
  exact own_one ho
/-- The same, laid as a value. -/
def LayV (TO TW : TypeId) (w : World) (base : Nat) (lim : Int) (v : Value) (S : Lay) : Prop := ∃ so segs, v = .agg #[so, .int .i64 lim, .bool S.full] ∧ OwnA TO TW w base so segs S.A
theorem LayV.grow {TO TW : TypeId} {w w' : World} {base : Nat} {lim : Int} {v : Value} {S : Lay} (h : LayV TO TW w base lim v S) (g : Grow w w') : LayV TO TW w' base lim v S := by
  obtain ⟨so, segs, h1, h2⟩ := h; exact ⟨so, segs, h1, h2.grow g⟩
structure Sml (A : List (List Int)) : Prop where
  len : A.length ≤ 900
  seg : ∀ j, len2 A j ≤ 50000
theorem Sml.all {A : List (List Int)} (h : Sml A) : ∀ s ∈ A, s.length ≤ 100000 := by
  intro s hm
  obtain ⟨i, hi, rfl⟩ := List.getElem_of_mem hm
  have := h.seg i
  rw [len2, getD_at hi] at this
  omega
theorem Fit.sml {size : Int} {A : List (List Int)} (h : Fit size A) (hs : size ≤ 4096) : Sml A := ⟨by have := h.most; omega, fun j => by have := h.seg j; omega⟩
/-- Not much more. -/
structure Near (a b : Nat) (A B : List (List Int)) : Prop where
  len : B.length ≤ A.length + a
  seg : ∀ j, len2 B j ≤ len2 A j + b
theorem Near.set (A : List (List Int)) (s i : Nat) (x : Int) : Near 0 0 A (setP A s i x) := ⟨by rw [setP_length]; omega, fun j => by rw [setP_len2]; omega⟩
theorem Near.more (A : List (List Int)) (q : Nat) (l : List Int) (hq : q ≤ A.length) : Near 1 l.length A (growA A q l) := ⟨by rw [growA_length]; split <;> omega, fun j => by
  simp only [len2]; rw [growA_getD A q j l hq]; split
  · subst_vars; rw [List.length_append]; exact Nat.le_refl _
  · omega⟩
theorem Near.trans {a b c d : Nat} {A B C : List (List Int)} (h : Near a b A B) (k : Near c d B C) : Near (a + c) (b + d) A C := ⟨by have := h.len; have := k.len; omega, fun j => by have := h.seg j; have := k.seg j; omega⟩
theorem placeP_near (size : Int) (t : Nd) (S : Lay) (s i : Nat) (h1 : 1 ≤ S.A.length) : Near 1 1 S.A (placeP size t S s i).S.A := by
  unfold placeP
  split
  · have := Near.set S.A s i (t.near ((len2 S.A (lastP S.A) : Int) - i - 1)); exact ⟨Nat.le_trans this.len (Nat.le_succ _), fun j => Nat.le_trans (this.seg j) (Nat.le_succ _)⟩
  · split
    · exact (Near.set _ _ _ _).trans (Near.more _ _ [t.near 0] (by rw [setP_length]; unfold lastP; omega))
    · exact (Near.set _ _ _ _).trans (Near.more _ _ [t.near 0] (by rw [setP_length]; unfold lastP; omega))
theorem OwnA.upd {TO TW T : TypeId} {w w' : World} {base b : Nat} {so : Value} {segs : List Value} {A : List (List Int)} {cs : Array Value} {fr : Nat × Nat} (h : OwnA TO TW w base so segs A) (u : Upd b w w') (hb : w.heap[b]? = some (.cells cs T fr)) (hO : TO ≠ T) (hW : TW ≠ T) : OwnA TO TW w' base so segs A :=
  ⟨own_upd h.out u (own_ne h.out hb hO), fun i v ws hv hw => own_upd (h.seg i v ws hv hw) u (own_ne (h.seg i v ws hv hw) hb hW), h.dis⟩
theorem OwnA.rows {TO TW : TypeId} {w : World} {base : Nat} {so : Value} {segs : List Value} {A : List (List Int)} (h : OwnA TO TW w base so segs A) (hs : ∀ s ∈ A, s.length ≤ 100000) : ∀ (i : Nat) (s : List Int), A[i]? = some s → ∃ v, segs[i]? = some v ∧ Row w 1 v s.length (wordsV s) := by
  intro i s hi
  have hl : i < A.length := (List.getElem?_eq_some_iff.1 hi).1
  obtain ⟨v, hv, ho⟩ := h.at_ hl
  have he : A[i] = s := by rw [List.getElem?_eq_getElem hl] at hi; exact Option.some.inj hi
  rw [he] at ho
  exact ⟨v, hv, own_row ho (by have := hs s (List.mem_of_getElem? hi); omega)⟩
theorem OwnA.growV {TO TW : TypeId} {w : World} {base q : Nat} {so : Value} {segs : List Value} {A : List (List Int)} (h : OwnA TO TW w base so segs A) (hq : q ≤ A.length) : ∃ ad c, (growV segs q)[q]? = some (.slice ad (len2 A q) c) ∧ w.ownsRow base TW 1 (.slice ad (len2 A q) c) (len2 A q) (wordsV (A.getD q [])) := by
  unfold K.growV
  by_cases he : q = segs.length
  · rw [if_pos he, List.getElem?_append_right (by omega)]
    have h0 : len2 A q = 0 := len2_none (by rw [← h.len]; omega)
    have h1 : A.getD q [] = [] := List.eq_nil_of_length_eq_zero h0
    refine ⟨none, 0, by rw [h0]; simp [he], ?_⟩
    rw [h0, h1]; exact ⟨rfl, .inl ⟨rfl, rfl⟩⟩
  · have hl : q < A.length := by rw [h.len] at he; omega
    obtain ⟨v, hv, ho⟩ := h.at_ hl
    obtain ⟨ad, c, rfl, _⟩ := own_shape ho
    rw [if_neg he]
    have e : len2 A q = A[q].length := by rw [len2, getD_at hl]
    rw [e, getD_at hl]
    exact ⟨ad, c, hv, ho⟩
theorem growV_length {segs : List Value} {A : List (List Int)} {q : Nat} (h : segs.length = A.length) : (growV segs q).length = (growB A q).length := by
  unfold K.growV growB; rw [h]; split <;> simp [h]
theorem full_or (f : Bool) (a b c lim : Int) : (((f || decide (a > lim)) || decide (b > 16)) || decide (c > 4096)) = (f || !(decide (b ≤ 16) && (decide (a ≤ lim) && decide (c ≤ 4096)))) := by
  cases f
  · rw [Bool.eq_iff_iff]
    simp only [Bool.false_or, Bool.or_eq_true, decide_eq_true_eq, Bool.not_eq_true', Bool.and_eq_false_iff, decide_eq_false_iff_not]
    omega
  · simp
theorem OwnA.rowat {TO TW : TypeId} {w : World} {base n c : Nat} {ad : Option Addr} {segs : List Value} {A : List (List Int)} (h : OwnA TO TW w base (.slice ad n c) segs A) (hA : A.length ≤ 1000) : n = A.length ∧ RowAt w 1 ad n segs := by
  obtain ⟨a, b, h1, _, _, h2⟩ := own_row h.out (by omega)
  simp only [Value.slice.injEq] at h1
  obtain ⟨rfl, rfl, rfl⟩ := h1
  exact ⟨rfl, h2⟩
theorem Sml.set {A : List (List Int)} (h : Sml A) (s i : Nat) (x : Int) : Sml (setP A s i x) := ⟨by rw [setP_length]; exact h.len, fun j => by rw [setP_len2]; exact h.seg j⟩
theorem OwnA.init {TO TW : TypeId} {w : World} {base b1 b2 : Nat} (ho : w.heap[b2]? = some (.cells #[.slice (some ⟨b1, 0, none⟩) 1 1] TO (0, 0))) (hw : w.heap[b1]? = some (.cells #[.int .u64 0] TW (0, 0))) (h2 : base ≤ b2) (h1 : base ≤ b1) : OwnA TO TW w base (.slice (some ⟨b2, 0, none⟩) 1 1) [.slice (some ⟨b1, 0, none⟩) 1 1] [[0]] := by
  refine ⟨own_lit ho h2 rfl (by decide), fun i v ws hv hw2 => ?_, fun i j v u b hv hu _ _ => ?_⟩
  · match i, hv, hw2 with
    | 0, hv, hw2 =>
      simp only [List.getElem?_cons_zero, Option.some.injEq] at hv hw2
      subst hv; subst hw2
      exact own_lit hw h1 rfl (by decide)
    | i + 1, hv, _ => simp at hv
  · have h1 := (List.getElem?_eq_some_iff.1 hv).1
    have h2 := (List.getElem?_eq_some_iff.1 hu).1
    simp at h1 h2; omega
theorem ArenaR.fn {w : World} {v : Value} {A : List (List Int)} (h : ArenaR w v A) : ∃ (ad : Option Addr) (c : Nat) (segs : List Value) (sa : Nat → Option Addr) (sc : Nat → Nat), v = .slice ad A.length c ∧ A.length ≤ c ∧ c ≤ maxLen ∧ RowAt w 1 ad A.length segs ∧ (∀ i, i < A.length → segs[i]? = some (.slice (sa i) (len2 A i) (sc i))) ∧ ∀ i, i < A.length → len2 A i ≤ sc i ∧ sc i ≤ maxLen ∧ RowAt w 1 (sa i) (len2 A i) (wordsV (A.getD i [])) := by
  obtain ⟨segs, ⟨ad, c, h1, h2, h3, h4⟩, h5⟩ := h
  obtain ⟨sa, sc, h6⟩ := choose_slices (n := A.length) (segs := segs) (len := len2 A) fun i hi => by
    obtain ⟨u, hu, ad, c, rfl, _⟩ := h5 i _ (List.getElem?_eq_getElem hi)
    exact ⟨ad, c, by rw [len2, getD_at hi]; exact hu⟩
  refine ⟨ad, c, segs, sa, sc, h1, h2, h3, h4, h6, fun i hi => ?_⟩
  obtain ⟨u, hu, ad, c, rfl, h7, h8, h9⟩ := h5 i _ (List.getElem?_eq_getElem hi)
  have h10 := h6 i hi
  rw [hu] at h10
  simp only [Option.some.injEq, Value.slice.injEq] at h10
  obtain ⟨rfl, _, rfl⟩ := h10
  rw [len2, getD_at hi]
  exact ⟨h7, h8, h9⟩
theorem lists_eq {α : Type} {A B : List α} {d : α} (hl : A.length = B.length) (h : ∀ j, j < A.length → A.getD j d = B.getD j d) : A = B := by
  apply List.ext_getElem hl
  intro j h1 h2
  have := h j h1
  rwa [getD_at h1, getD_at h2] at this
theorem Nd.build_sml (t : Nd) (n : Int) : Sml (t.build n).1 := by
  unfold Nd.build
  split
  · exact ⟨by simp, fun j => by simp [len2]⟩
  · rename_i h
    split
    · exact ⟨by simp, fun j => by simp [len2]⟩
    · rename_i hf
      have hf : (t.lay n ⟨[[0]], false⟩ 0 0).full = false := by simpa using hf
      exact ((t.lay_ok n ⟨[[0]], false⟩ 0 0 (by simp)).fit (Fit.init (by omega)) hf).sml (by omega)
theorem Nd.build_err (t : Nd) (n : Int) : 0 ≤ (t.build n).2 ∧ (t.build n).2 ≤ 24 := by
  unfold Nd.build
  split
  · simp
  · split <;> simp
theorem ArenaR.slice {w : World} {v : Value} {A : List (List Int)} (h : ArenaR w v A) : ∃ ad n c, v = .slice ad n c := by
  obtain ⟨segs, ⟨ad, c, h1, _⟩, _⟩ := h; exact ⟨_, _, _, h1⟩
end Go.Proofs.Ytfhfecepcnapfaa.K

namespace Go.Proofs.Ytfhfecepcnapfaa.K
open Go Go.RowKit

open Classical in
/-- Memory of which only so many blocks are seen. -/
noncomputable def see (V : Nat → Prop) (w : World) : World := { w with heap := w.heap.mapIdx fun i o => if V i then o else .deferred none }
theorem see_cells {V : Nat → Prop} {k : Nat} {w : World} {cs : Array Value} {T : TypeId} {fr : Nat × Nat} : (see V w).heap[k]? = some (.cells cs T fr) ↔ V k ∧ w.heap[k]? = some (.cells cs T fr) := by
  have h0 : (see V w).heap[k]? = (w.heap[k]?).map fun o => @ite _ (V k) (Classical.propDecidable _) o (.deferred none) := by simp only [see, Array.getElem?_mapIdx]
  rw [h0]
  constructor
  · intro h
    cases hk : w.heap[k]? with
    | none => rw [hk] at h; cases h
    | some o =>
      rw [hk] at h
      simp only [Option.map_some, Option.some.injEq] at h
      split at h
      · subst h; rename_i hv; exact ⟨hv, rfl⟩
      · cases h
  · rintro ⟨h1, h2⟩
    rw [h2, Option.map_some, if_pos h1]
/-- All above a mark. -/
noncomputable abbrev hide (B : Nat) (w : World) : World := see (fun x => B ≤ x) w
/-- The cells that one memory shows another one shows, too. -/
def Sees (w w' : World) : Prop := ∀ (b : Nat) (cs : Array Value) (T : TypeId) (fr : Nat × Nat), w.heap[b]? = some (.cells cs T fr) → w'.heap[b]? = some (.cells cs T fr)
theorem Sees.of_grow {w w' : World} (g : Grow w w') : Sees w w' := fun _ _ _ _ h => g.heap h
theorem Sees.trans {a b c : World} (h : Sees a b) (k : Sees b c) : Sees a c := fun _ _ _ _ x => k _ _ _ _ (h _ _ _ _ x)
theorem Sees.seen (V : Nat → Prop) (w : World) : Sees (see V w) w := fun _ _ _ _ h => (see_cells.1 h).2
theorem Sees.more {V V' : Nat → Prop} (w : World) (h : ∀ x, x < w.heap.size → V x → V' x) : Sees (see V w) (see V' w) := fun b _ _ _ x =>
  have y := see_cells.1 x
  see_cells.2 ⟨h b (lt_of_heap y.2) y.1, y.2⟩
theorem Sees.low {B B' : Nat} (h : B ≤ B') (w : World) : Sees (hide B' w) (hide B w) := Sees.more w fun x _ hx => Nat.le_trans h hx
theorem Sees.kp {F : List Nat} {V : Nat → Prop} {w w' : World} (k : Kp F w w') (hF : ∀ x ∈ F, ¬ V x) : Sees (see V w) (see V w') := fun b _ _ _ x =>
  have h := see_cells.1 x
  see_cells.2 ⟨h.1, k.heap h.2 fun hm => hF b hm h.1⟩
theorem Sees.grow {V : Nat → Prop} {w w' : World} (g : Grow w w') : Sees (see V w) (see V w') := Sees.kp (F := []) (Kp.of_grow g) (fun x hx => by simp at hx)
theorem Sees.upd {b : Nat} {V : Nat → Prop} {w w' : World} (u : Upd b w w') (hb : ¬ V b) : Sees (see V w) (see V w') := Sees.kp (F := [b]) (Kp.of_upd u (by simp)) (fun x hx => by simp only [List.mem_singleton] at hx; subst hx; exact hb)
theorem vlt {V : Nat → Prop} {B n m : Nat} (h : ∀ x, V x → B ≤ x ∧ x < n) (hn : n ≤ m) : ∀ x, V x → B ≤ x ∧ x < m := fun x hx => ⟨(h x hx).1, Nat.lt_of_lt_of_le (h x hx).2 hn⟩
theorem RowAt.sees {w w' : World} (g : Sees w w') {sz : Nat} {ad : Option Addr} {n : Nat} {xs : List Value} (h : RowAt w sz ad n xs) : RowAt w' sz ad n xs := h.keep fun _ _ _ _ _ hb => g _ _ _ _ hb
theorem Row.sees {w w' : World} (g : Sees w w') {sz : Nat} {v : Value} {n : Nat} {xs : List Value} (h : Row w sz v n xs) : Row w' sz v n xs := by
  obtain ⟨ad, c, h1, h2, h3, h4⟩ := h
  exact ⟨ad, c, h1, h2, h3, h4.sees g⟩
mutual
theorem NodeR.sees {w w' : World} (g : Sees w w') : ∀ {c : List Value} {t : Nd}, NodeR w c t → NodeR w' c t
  | _, _, .mk h1 h2 h3 h4 h5 h6 h7 h8 => .mk h1 h2 (h3.sees g) h4 (h5.sees g) h6 (h7.sees g) (KidsR.sees g h8)
theorem KidsR.sees {w w' : World} (g : Sees w w') : ∀ {c : List Value} {t : List Nd}, KidsR w c t → KidsR w' c t
  | _, _, .nil => .nil
  | _, _, .cons h1 h2 => .cons (NodeR.sees g h1) (KidsR.sees g h2)
end
theorem own_hide {w : World} {base n sz : Nat} {T : TypeId} {v : Value} {xs : List Value} (h : w.ownsRow base T sz v n xs) (hl : n ≤ 140737488355328) : Row (hide base w) sz v n xs := by
  obtain ⟨h1, h2⟩ := h
  rcases h2 with ⟨rfl, rfl⟩ | ⟨g, cap, cur, rfl, hb, hg, hnc, hcm, hcs, ht⟩
  · have : xs = [] := List.eq_nil_of_length_eq_zero (by simpa using h1)
    subst this; exact Row.nil _ sz
  · exact ⟨_, cap, rfl, hnc, hcm, h1, hl, fun _ => ⟨g, 0, cur, T, (0, 0), rfl, see_cells.2 ⟨hb, hg⟩, by rw [List.drop_zero]; exact ht⟩⟩
theorem own_hide_ints {w : World} {base n m : Nat} {T : TypeId} {v : Value} {k : IntKind} {f : Nat → Int} (h : w.ownsRow base T 1 v n ((List.range n).map fun i => .int k (f i))) (hm : n = m) (hl : n ≤ 1000) : Row (hide base w) 1 v ((List.range m).map f).length (((List.range m).map f).map (.int k)) := by
  subst hm
  rw [List.length_map, List.length_range, List.map_map]
  exact own_hide h (by omega)
def Nd.nil : Nd := .mk 0 0 [] [] []
theorem NodeR.zero (w : World) : NodeR w [.int .i64 0, .int .i64 0, .slice none 0 0, .slice none 0 0, .slice none 0 0] Nd.nil :=
  .mk (by simp [inR]) (by simp [inR]) (Row.nil _ _) (by simp) (Row.nil _ _) (by simp) (Row.nil _ _) .nil
/-! ### choices -/
def bTree (k : Int) (i : Nat) : Int := IntKind.u8.wrap (k + i)
def w3Tree (k : Int) (i : Nat) : Int := IntKind.u64.wrap (IntKind.u64.wrap (k * 81985529216486895) + i)
def w4Tree (k : Int) (i : Nat) : Int := IntKind.u64.wrap (IntKind.u64.wrap (k * 2 ^ min (8 * (i : Int)).toNat IntKind.u64.bits) + i)
/-- So many things, one behind the other; what is left of the choices. -/
def treesP (f : List Int → Nd × List Int) : Nat → List Int → List Nd × List Int
  | 0, c => ([], c)
  | n + 1, c => ((treesP f n c).1 ++ [(f (treesP f n c).2).1], (f (treesP f n c).2).2)
def treeP : Nat → List Int → Nd × List Int
  | 0, c => (.nil, c)
  | _ + 1, [] => (.nil, [])
  | d + 1, k :: c =>
    if k % 8 = 0 then (.nil, c)
    else if k % 8 = 1 ∨ k % 8 = 2 then (.mk 2 2 [] ((List.range (3 * (k / 8 % 5) + k % 2).toNat).map (bTree k)) [], c)
    else if k % 8 = 3 then (.mk 2 5 ((List.range (k / 8 % 5).toNat).map (w3Tree k)) [] [], c)
    else if k % 8 > 6 then (.mk 2 6 [] [] (treesP (treeP d) (k / 8 % 5).toNat c).1, (treesP (treeP d) (k / 8 % 5).toNat c).2)
    else (.mk 1 0 ((List.range (k / 64).toNat).map (w4Tree k)) [] (treesP (treeP d) (k / 8 % 5).toNat c).1, (treesP (treeP d) (k / 8 % 5).toNat c).2)
theorem treeP_stop {d : Nat} {xs : List Int} (h : xs = [] ∨ d = 0) : treeP d xs = (.nil, xs) := by
  match d, xs, h with
  | 0, xs, _ => simp [treeP]
  | d + 1, [], _ => simp [treeP]
  | d + 1, x :: xs, h => rcases h with h | h <;> simp at h
theorem wrap_u8R (n : Int) : inR .u8 (IntKind.u8.wrap n) := by simp only [inR, IntKind.wrap_u8]; omega
theorem wrap_u64R (n : Int) : inR .u64 (IntKind.u64.wrap n) := by simp only [inR, IntKind.wrap_u64]; omega
theorem treesP_mem {f : List Int → Nd × List Int} {Q : List Int → Prop} (hf : ∀ c, Q c → Q (f c).2) : ∀ (n : Nat) (c : List Int), Q c → Q (treesP f n c).2
  | 0, c, h => h
  | n + 1, c, h => hf _ (treesP_mem hf n c h)
/-- What is left is a part of what there was. -/
theorem treeP_rest {Q : Int → Prop} : ∀ (d : Nat) (c : List Int), (∀ x ∈ c, Q x) → ∀ x ∈ (treeP d c).2, Q x
  | 0, c, h => by simpa [treeP] using h
  | d + 1, [], h => by simp [treeP]
  | d + 1, k :: c, h => by
    have hc : ∀ x ∈ c, Q x := fun x hx => h x (by simp [hx])
    have ht := treesP_mem (f := treeP d) (Q := fun c => ∀ x ∈ c, Q x) (fun c hq => treeP_rest d c hq) (k / 8 % 5).toNat c hc
    simp only [treeP]
    split
    · exact hc
    · split
      · exact hc
      · split
        · exact hc
        · split <;> exact ht
theorem treesP_rest {Q : Int → Prop} (d n : Nat) (c : List Int) (h : ∀ x ∈ c, Q x) : ∀ x ∈ (treesP (treeP d) n c).2, Q x :=
  treesP_mem (f := treeP d) (Q := fun c => ∀ x ∈ c, Q x) (fun c hq => treeP_rest d c hq) n c h
theorem treeP_len : ∀ (d : Nat) (c : List Int), (treeP d c).2.length ≤ c.length
  | 0, c => by simp [treeP]
  | d + 1, [] => by simp [treeP]
  | d + 1, k :: c => by
    have ht := treesP_mem (f := treeP d) (Q := fun x => x.length ≤ c.length) (fun x hq => Nat.le_trans (treeP_len d x) hq) (k / 8 % 5).toNat c (Nat.le_refl _)
    simp only [treeP]
    split
    · simp
    · split
      · simp
      · split
        · simp
        · split <;> simp only [List.length_cons] <;> omega
theorem treesP_len (d n : Nat) (c : List Int) : (treesP (treeP d) n c).2.length ≤ c.length :=
  treesP_mem (f := treeP d) (Q := fun x => x.length ≤ c.length) (fun x hq => Nat.le_trans (treeP_len d x) hq) n c (Nat.le_refl _)
theorem treesP_count (f : List Int → Nd × List Int) : ∀ (n : Nat) (c : List Int), (treesP f n c).1.length = n
  | 0, _ => rfl
  | n + 1, c => by simp [treesP, treesP_count f n c]
end Go.Proofs.Ytfhfecepcnapfaa.K

namespace Go.Proofs.Ytfhfecepcnapfaa.K
open Go Go.RowKit
/-- What a type's method is: a function with a body, that is handed the value itself. -/
class MethI (P : Program) (t : TypeId) (name : String) (f : FuncId) : Prop where
  h : ∀ (v : Value) (args : Array Value) (w : World), (callMethod (.iface t v) name args).run P w = .ok (.enter f (#[v] ++ args)) w
class IfcI (P : Program) (t : TypeId) : Prop where
  h : ∃ ms, P.underlying t = some (.interface ms)
theorem stepR_scope {P : Program} {b : Frame} {a : Act} {k : List Item} {cs : List Frame} {w : World} {c : Code} : step P (lone (b.atR a (.code (.scope c) :: k)) cs w) = .next (lone (b.atR a (.code c :: .inScope c :: k)) cs w) :=
  step_lone_go (by simp [stepG, stepG.exec, Frame.atR])
theorem stepR_inScope {P : Program} {b : Frame} {a : Act} {k : List Item} {cs : List Frame} {w : World} {c : Code} : step P (lone (b.atR a (.inScope c :: k)) cs w) = .next (lone (b.atR a k) cs w) :=
  step_lone_go (by simp [stepG, stepG.exec, Frame.atR])
theorem W_scope {P : Program} {n : Nat} {Q : Ex → Env → World → Prop} {e : Env} {w : World} {c : Code} (h : W P n c Q e w) : W P n (.scope c) Q e w := by
  intro b a k cs hs he
  obtain ⟨t, a1, w1, h1, h2, h3⟩ := h b a (.inScope c :: k) cs hs he
  cases t with
  | normal => exact ⟨.normal, a1, w1, h1, h2, .head stepR_scope (Steps.trans h3 (.one stepR_inScope))⟩
  | exit i => exact ⟨.exit i, a1, w1, h1, h2, .past (y := .inScope c) (fun _ => rfl) (by simp) (.of (.one stepR_scope) h3)⟩
  | ret => exact ⟨.ret, a1, w1, h1, h2, .past (y := .inScope c) (fun _ => rfl) (by simp) (.of (.one stepR_scope) h3)⟩
section
variable {P : Program} {ops : Array Oper} {e : Env} {w : World} {K : Value → World → Prop} {d : Option Nat} {ty : TypeId} {pos : String} {af : Array Edge} {g : Option (Nat × Bool)} {t u : TypeId} {x y z : Operand}
theorem r_invoke {name : String} {args : Array Operand} {at_ : Array TypeId} {f : FuncId} {v : Value} {F : Value → World → Prop} {T : TypeId} (hm : MethI P T name f) (hx : ev e x = .iface T v)
    (hc : Calls P f (v :: args.toList.map (ev e)).toArray w (Ret F)) (h : ∀ v w', F v w' → K v w') : Run1 P ⟨d, .call ⟨.invoke x name, args, at_⟩, ty, pos, af, g⟩ e w K := by
  have ha : ((#[ev e x] ++ args.map (ev e)).extract 1 (#[ev e x] ++ args.map (ev e)).size) = args.map (ev e) := by
    apply Array.ext'
    simp
    exact List.take_of_length_le (by simp)
  have h0 : (#[ev e x] ++ args.map (ev e))[0]? = some (.iface T v) := by rw [hx, Array.getElem?_append_left (by simp)]; rfl
  have hb : #[v] ++ args.map (ev e) = (v :: args.toList.map (ev e)).toArray := by
    apply Array.ext'
    simp
  have hr : (execOp (ev e) ⟨d, .call ⟨.invoke x name, args, at_⟩, ty, pos, af, g⟩).run P w = .ok (.enter f (v :: args.toList.map (ev e)).toArray) w := by
    simp only [execOp, resolve, Sem.run_bind, Sem.run_pure, Result.andThen_ok, invoke, h0, ha]
    rw [hm.h, hb]
  unfold Run1
  rw [hr]
  exact hc.mono fun r w' ⟨v, hv, hF⟩ => ⟨v, hv, h v w' hF⟩
theorem r_eqlIfc {T : TypeId} {v : Value} [hi : IfcI P t] (hx : ev e x = .iface T v) (hy : ev e y = .nilIface) (h : K (.bool false) w) : Run1 P ⟨d, .binOp .eql t x y u, ty, pos, af, g⟩ e w K := by
  obtain ⟨ms, hi⟩ := hi.h
  exact run1_ok (w' := w) (by
    have hg : ∀ w : World, (eqGuard .eql t x y (.iface T v) .nilIface).run P w = .ok () w := fun _ => rfl
    have hq : (Op.equal t (.iface T v) .nilIface).run P w = .ok false w := by
      show (Op.equalIn (9999 + 1) t (.iface T v) .nilIface).run P w = _
      rw [Op.equalIn]
      simp only [underlying, program, Sem.run_bind, Sem.run, hi, Sem.run_pure, Result.andThen_ok]
    simp only [execOp, hx, hy, Sem.run_bind, hg, Result.andThen_ok, binOp, hq, Sem.run_pure]) h
end
end Go.Proofs.Ytfhfecepcnapfaa.K

namespace Go.Proofs.Ytfhfecepcnapfaa.K
open Go Go.RowKit
structure Ob where
  kind : Int
  seg : Int
  at_ : Int
  data : Int
  ptrs : Int
  size : Int
  count : Int
  deriving DecidableEq
def Ob0 : Ob := ⟨0, 0, 0, 0, 0, 0, 0⟩
def Ob.pt (o : Ob) : Pt := ⟨o.kind, 0, o.data, o.ptrs, o.size, o.count, 0, false⟩
structure Src where
  sizes : List Int
  word : Int → Int → Int × Int
def addOk (a b m : Int) : Bool := decide (0 ≤ a ∧ 0 ≤ b ∧ a ≤ m ∧ b ≤ m - a)
def withinP (sizes : List Int) (seg at_ n : Int) : Bool := decide (0 ≤ seg ∧ seg < sizes.length) && addOk at_ n (sizes.getD seg.toNat 0)
def wordA (A : List (List Int)) (seg at_ : Int) : Int × Int := if 0 ≤ seg ∧ seg < A.length ∧ 0 ≤ at_ ∧ at_ < len2 A seg.toNat then ((A.getD seg.toNat []).getD at_.toNat 0, 0) else (0, 20)
def wholeS (A : List (List Int)) : Src := ⟨A.map fun s => (s.length : Int), wordA A⟩
def nearP (p : Pt) : Bool := decide (p.kind = 1) || decide (p.kind = 2)
def wordsO (o : Ob) : Int := if o.kind = 3 then 0 else wordsN o.pt
def ptrS (s : Src) (seg at_ : Int) : Pt × Int := if (s.word seg at_).2 ≠ 0 then (Pt0, (s.word seg at_).2) else (decP (s.word seg at_).1, decE (s.word seg at_).1)
def objP (p : Pt) (seg at_ : Int) : Ob := ⟨p.kind, seg, at_, p.data, p.ptrs, p.size, p.count⟩
def foundS (s : Src) (p : Pt) (seg at_ : Int) : Ob × Int :=
  if wordsE (objP p seg at_).pt ≠ 0 then (Ob0, wordsE (objP p seg at_).pt)
  else if withinP s.sizes seg at_ (wordsN (objP p seg at_).pt) = false then (Ob0, 20)
  else (objP p seg at_, 0)
def landedS (s : Src) (p : Pt) : Ob × Int :=
  if (ptrS s p.seg p.off).2 ≠ 0 then (Ob0, (ptrS s p.seg p.off).2)
  else if nearP (ptrS s p.seg p.off).1 = false then (Ob0, 23)
  else foundS s (ptrS s p.seg p.off).1 p.seg (p.off + 1 + (ptrS s p.seg p.off).1.off)
def twiceS (s : Src) (p : Pt) : Ob × Int :=
  if (s.word p.seg p.off).2 ≠ 0 then (Ob0, (s.word p.seg p.off).2)
  else if (s.word p.seg (p.off + 1)).2 ≠ 0 then (Ob0, (s.word p.seg (p.off + 1)).2)
  else if decE (s.word p.seg p.off).1 ≠ 0 then (Ob0, decE (s.word p.seg p.off).1)
  else if decE (s.word p.seg (p.off + 1)).1 ≠ 0 then (Ob0, decE (s.word p.seg (p.off + 1)).1)
  else if (decP (s.word p.seg p.off).1).kind ≠ 3 ∨ (decP (s.word p.seg p.off).1).dbl = true ∨ nearP (decP (s.word p.seg (p.off + 1)).1) = false ∨ (decP (s.word p.seg (p.off + 1)).1).off ≠ 0 then (Ob0, 23)
  else foundS s (decP (s.word p.seg (p.off + 1)).1) (decP (s.word p.seg p.off).1).seg (decP (s.word p.seg p.off).1).off
def followS (s : Src) (seg at_ : Int) : Ob × Int :=
  if (ptrS s seg at_).2 ≠ 0 ∨ (ptrS s seg at_).1.kind = 0 then (Ob0, (ptrS s seg at_).2)
  else if nearP (ptrS s seg at_).1 = true then foundS s (ptrS s seg at_).1 seg (at_ + 1 + (ptrS s seg at_).1.off)
  else if (ptrS s seg at_).1.dbl = true then twiceS s (ptrS s seg at_).1
  else landedS s (ptrS s seg at_).1
def stepS (s : Src) (o : Ob) (k : Int) : Ob × Int :=
  if o.kind = 0 ∨ (o.kind = 1 ∧ k ≥ o.ptrs) then (Ob0, 0)
  else if o.kind = 1 then followS s o.seg (o.at_ + k + o.data)
  else if o.size ≠ 6 then (o, 23)
  else if k ≥ o.count then (o, 20)
  else followS s o.seg (o.at_ + k)
def atS (s : Src) (o : Ob) (k : Int) : Int × Int :=
  if o.kind = 0 ∨ (o.kind = 1 ∧ k ≥ o.data) then (0, 0)
  else if o.kind = 1 then s.word o.seg (o.at_ + k)
  else if o.size = 6 then (0, 23)
  else if k ≥ o.count then (0, 20)
  else if o.size = 5 then s.word o.seg (o.at_ + k)
  else ((s.word o.seg (o.at_ + k / 8)).1 / 2 ^ (k % 8 * 8).toNat % 256, (s.word o.seg (o.at_ + k / 8)).2)
structure Vl where
  kind : Int
  size : Int
  words : Int
  kids : Int
  word : Int
  deriving DecidableEq
def Vl0 : Vl := ⟨0, 0, 0, 0, 0⟩
def isS (o : Ob) : Vl := ⟨o.kind, o.size, if o.kind = 2 ∧ o.size ≠ 6 then o.count else o.data, if o.kind = 2 ∧ o.size = 6 then o.count else o.ptrs, 0⟩
def valS (s : Src) (o : Ob) (at_ : Int) : Vl × Int :=
  if at_ < 0 then (isS o, 0) else if (atS s o at_).2 ≠ 0 then (Vl0, (atS s o at_).2) else (⟨o.kind, 0, 0, 0, (atS s o at_).1⟩, 0)
/-- From something that is paid on: the steps, what is left to pay. -/
def nextS (s : Src) (at_ : Int) : List Int → Ob → Int → Vl × Int
  | [], o, _ => valS s o at_
  | k :: ks, o, left =>
    if (stepS s o k).2 ≠ 0 then (Vl0, (stepS s o k).2)
    else if left - (1 + wordsO (stepS s o k).1) < 0 then (Vl0, 22)
    else nextS s at_ ks (stepS s o k).1 (left - (1 + wordsO (stepS s o k).1))
def walkS (s : Src) (steps : List Int) (at_ cost : Int) : Vl × Int :=
  if ∃ k ∈ steps, k < 0 then (Vl0, 1)
  else if (steps.length : Int) > 32 then (Vl0, 3)
  else if (followS s 0 0).2 ≠ 0 then (Vl0, (followS s 0 0).2)
  else if max cost (-1) - (1 + wordsO (followS s 0 0).1) < 0 then (Vl0, 22)
  else nextS s at_ steps (followS s 0 0).1 (max cost (-1) - (1 + wordsO (followS s 0 0).1))
/-- What a pointer out of a word may be. -/
structure PtR (p : Pt) : Prop where
  kind : 0 ≤ p.kind ∧ p.kind ≤ 3
  off : -536870912 ≤ p.off ∧ p.off ≤ 536870911
  data : 0 ≤ p.data ∧ p.data ≤ 65535
  ptrs : 0 ≤ p.ptrs ∧ p.ptrs ≤ 65535
  size : 0 ≤ p.size ∧ p.size ≤ 7
  count : 0 ≤ p.count ∧ p.count ≤ 536870911
  seg : 0 ≤ p.seg ∧ p.seg ≤ 4294967295
  far : p.kind = 3 → 0 ≤ p.off
theorem sgn30_range (n : Int) (h0 : 0 ≤ n) (h1 : n < 1073741824) : -536870912 ≤ sgn30 n ∧ sgn30 n ≤ 536870911 := by unfold sgn30; split <;> omega
theorem decP_range (x : Int) (h0 : 0 ≤ x) (h1 : x ≤ 18446744073709551615) : PtR (decP x) := by
  have hs := sgn30_range (x / 4 % 1073741824) (by omega) (by omega)
  unfold decP
  repeat' split
  all_goals first
    | (constructor <;> (simp [Pt0]; done))
    | (constructor <;> simp only [] <;> omega)
theorem Pt0_range : PtR Pt0 := by constructor <;> simp [Pt0]
theorem PtR.of {p : Pt} (h : PtR p) : PtR ⟨p.kind, 0, p.data, p.ptrs, p.size, p.count, 0, false⟩ := ⟨h.kind, by simp, h.data, h.ptrs, h.size, h.count, by simp, fun _ => by simp⟩
theorem wordsN_range {p : Pt} (h : PtR p) : 0 ≤ wordsN p ∧ wordsN p ≤ 536870912 := by
  have h1 := h.data
  have h2 := h.ptrs
  have h3 := h.count
  unfold wordsN
  rw [wrap_in (by simp only [inR]; omega : inR .i64 (p.data + p.ptrs)), wrap_in (by simp only [inR]; omega : inR .i64 (p.count + 8)), wrap_in (by simp only [inR]; omega : inR .i64 (p.count + 8 - 1)), Int.tdiv_eq_ediv_of_nonneg (by omega), wrap_in (by simp only [inR]; omega : inR .i64 ((p.count + 8 - 1) / 8))]
  repeat' split
  all_goals omega
theorem getD_mem {L : List Int} {j : Nat} (h : j < L.length) : L.getD j 0 ∈ L := by rw [getD_at h]; exact List.getElem_mem h
/-- What may be found. -/
structure ObR (o : Ob) : Prop where
  kind : 0 ≤ o.kind ∧ o.kind ≤ 2
  seg : 0 ≤ o.seg ∧ o.seg ≤ 1000000
  at_ : 0 ≤ o.at_ ∧ o.at_ ≤ 140737488355328
  data : 0 ≤ o.data ∧ o.data ≤ 65535
  ptrs : 0 ≤ o.ptrs ∧ o.ptrs ≤ 65535
  size : 0 ≤ o.size ∧ o.size ≤ 7
  count : 0 ≤ o.count ∧ o.count ≤ 536870911
theorem Ob0_range : ObR Ob0 := by constructor <;> simp [Ob0]
theorem wordsO_range {o : Ob} (h : ObR o) : 0 ≤ wordsO o ∧ wordsO o ≤ 536870912 := by
  have hp : PtR o.pt := ⟨⟨h.kind.1, by have := h.kind.2; show o.kind ≤ 3; omega⟩, by simp [Ob.pt], h.data, h.ptrs, h.size, h.count, by simp [Ob.pt], fun _ => by simp [Ob.pt]⟩
  have := wordsN_range hp
  unfold wordsO
  split
  · omega
  · exact this
/-- A byte of a word. -/
theorem shr_byte (x m : Int) (h0 : 0 ≤ x) (h1 : x ≤ 18446744073709551615) (m0 : 0 ≤ m) (m1 : m ≤ 56) : bitop .and .u64 (x / 2 ^ min m.toNat 64) 255 = x / 2 ^ m.toNat % 256 := by
  have h := getF_eq m.toNat 8 (by omega) (by decide) x h0 h1
  rw [← show (2 : Int) ^ 8 = 256 from rfl, ← h, getF]
  rw [show ((m.toNat : Nat) : Int).toNat = m.toNat from by omega]
  rfl
/-- A source of words in memory. -/
structure SrcOk (P : Program) (w : World) (v : Value) (s : Src) : Prop where
  word : ∃ t u f, v = .iface t u ∧ MethI P t "Word" f ∧ ∀ w', Grow w w' → ∀ seg at_ : Int, Gives P f #[u, .int .i64 seg, .int .i64 at_] w' (.tuple #[.int .u64 (s.word seg at_).1, .int .u16 (s.word seg at_).2])
  sizes : ∃ t u f, v = .iface t u ∧ MethI P t "Sizes" f ∧ ∀ w', Grow w w' → Calls P f #[u] w' (Ret fun r w2 => ∃ ad c, r = .slice ad s.sizes.length c ∧ RowAt w2 1 ad s.sizes.length (s.sizes.map (.int .i64)) ∧ Grow w' w2)
  num : ∀ seg at_ : Int, 0 ≤ (s.word seg at_).1 ∧ (s.word seg at_).1 ≤ 18446744073709551615 ∧ 0 ≤ (s.word seg at_).2 ∧ (s.word seg at_).2 ≤ 65535
  ok : ∀ seg at_ : Int, (s.word seg at_).2 = 0 → 0 ≤ seg ∧ seg < s.sizes.length ∧ 0 ≤ at_ ∧ at_ ≤ 140737488355328
  len : s.sizes.length ≤ 1000000
  each : ∀ i, i < s.sizes.length → 0 ≤ s.sizes.getD i 0 ∧ s.sizes.getD i 0 ≤ 140737488355328
theorem SrcOk.grow {P : Program} {w w' : World} {v : Value} {s : Src} (h : SrcOk P w v s) (g : Grow w w') : SrcOk P w' v s := by
  obtain ⟨⟨t, u, f, h1, h2, h3⟩, ⟨t', u', f', h4, h5, h6⟩, h7, h8, h9, h10⟩ := h
  exact ⟨⟨t, u, f, h1, h2, fun w2 g2 => h3 w2 (g.tr g2)⟩, ⟨t', u', f', h4, h5, fun w2 g2 => h6 w2 (g.tr g2)⟩, h7, h8, h9, h10⟩
theorem ptrS_range {P : Program} {w : World} {v : Value} {s : Src} (H : SrcOk P w v s) (seg at_ : Int) : PtR (ptrS s seg at_).1 := by
  obtain ⟨h1, h2, -, -⟩ := H.num seg at_
  unfold ptrS
  split
  · exact Pt0_range
  · exact decP_range _ h1 h2
theorem ptrS_at {P : Program} {w : World} {v : Value} {s : Src} (H : SrcOk P w v s) {seg at_ : Int} (h : (ptrS s seg at_).2 = 0) : 0 ≤ seg ∧ seg < s.sizes.length ∧ 0 ≤ at_ ∧ at_ ≤ 140737488355328 := by
  refine H.ok seg at_ ?_
  by_cases h0 : (s.word seg at_).2 = 0
  · exact h0
  · unfold ptrS at h; rw [if_pos h0] at h; exact absurd h h0
theorem foundS_range {P : Program} {w : World} {v : Value} {s : Src} (H : SrcOk P w v s) {p : Pt} (hp : PtR p) (hn : nearP p = true) (seg at_ : Int) : ObR (foundS s p seg at_).1 := by
  unfold foundS
  split
  · exact Ob0_range
  · split
    · exact Ob0_range
    · rename_i h1 h2
      simp only [Bool.not_eq_false] at h2
      unfold withinP addOk at h2
      simp only [Bool.and_eq_true, decide_eq_true_eq] at h2
      obtain ⟨⟨h3, h4⟩, h5, h6, h7, h8⟩ := h2
      have h9 := H.each seg.toNat (by omega)
      have h10 := H.len
      have hk : p.kind = 1 ∨ p.kind = 2 := by simpa [nearP] using hn
      exact ⟨by show 0 ≤ p.kind ∧ p.kind ≤ 2; omega, by show 0 ≤ seg ∧ seg ≤ _; omega, by show 0 ≤ at_ ∧ at_ ≤ _; omega, hp.data, hp.ptrs, hp.size, hp.count⟩
theorem followS_range {P : Program} {w : World} {v : Value} {s : Src} (H : SrcOk P w v s) (seg at_ : Int) : ObR (followS s seg at_).1 := by
  unfold followS
  split
  · exact Ob0_range
  · split
    · rename_i h; exact foundS_range H (ptrS_range H seg at_) h _ _
    · split
      · unfold twiceS
        split
        · exact Ob0_range
        · split
          · exact Ob0_range
          · split
            · exact Ob0_range
            · split
              · exact Ob0_range
              · split
                · exact Ob0_range
                · rename_i h
                  obtain ⟨n1, n2, -, -⟩ := H.num (ptrS s seg at_).1.seg ((ptrS s seg at_).1.off + 1)
                  refine foundS_range H (decP_range _ n1 n2) ?_ _ _
                  cases hq : nearP (decP (s.word (ptrS s seg at_).1.seg ((ptrS s seg at_).1.off + 1)).1) with
                  | true => rfl
                  | false => exact absurd (.inr (.inr (.inl hq))) h
      · unfold landedS
        split
        · exact Ob0_range
        · split
          · exact Ob0_range
          · rename_i h
            exact foundS_range H (ptrS_range H _ _) (by simpa using h) _ _
theorem stepS_range {P : Program} {w : World} {v : Value} {s : Src} (H : SrcOk P w v s) {o : Ob} (ho : ObR o) (k : Int) : ObR (stepS s o k).1 := by
  unfold stepS
  repeat' split
  all_goals first
    | exact Ob0_range
    | exact ho
    | exact followS_range H _ _
/-- An arena that may be read. -/
structure OkA (A : List (List Int)) : Prop where
  one : 1 ≤ A.length
  most : A.length ≤ 16
  first : 1 ≤ (A.getD 0 []).length
  all : totalP A ≤ 4096
  num : ∀ q ∈ A, ∀ x ∈ q, inR .u64 x
theorem seg_le_total : ∀ (A : List (List Int)) (j : Nat), (len2 A j : Int) ≤ totalP A
  | [], j => by simp [len2, totalP]
  | q :: A, 0 => by have := totalP_nn A; simp only [len2, totalP, List.getD_cons_zero]; omega
  | q :: A, j + 1 => by have := seg_le_total A j; simp only [len2, totalP, List.getD_cons_succ] at this ⊢; omega
theorem wordA_num {A : List (List Int)} (h : ∀ q ∈ A, ∀ x ∈ q, inR .u64 x) (seg a : Int) : 0 ≤ (wordA A seg a).1 ∧ (wordA A seg a).1 ≤ 18446744073709551615 ∧ 0 ≤ (wordA A seg a).2 ∧ (wordA A seg a).2 ≤ 65535 := by
  unfold wordA
  split
  · rename_i hc
    obtain ⟨h1, h2, h3, h4⟩ := hc
    have hs : seg.toNat < A.length := by omega
    have ha : a.toNat < (A.getD seg.toNat []).length := by simp only [len2] at h4; omega
    have hq := h (A.getD seg.toNat []) (by rw [getD_at hs]; exact List.getElem_mem hs) _ (getD_mem ha)
    simp only [inR] at hq
    exact ⟨hq.1, hq.2, by show (0 : Int) ≤ 0; decide, by show (0 : Int) ≤ 65535; decide⟩
  · exact ⟨by decide, by decide, by decide, by decide⟩
theorem whole_src {P : Program} {w : World} {u : Value} {A : List (List Int)} {t : TypeId} {fw fs : FuncId} (hr : OkA A) (mw : MethI P t "Word" fw) (ms : MethI P t "Sizes" fs)
    (hw : ∀ w', Grow w w' → ∀ seg a : Int, Gives P fw #[.agg #[u], .int .i64 seg, .int .i64 a] w' (.tuple #[.int .u64 (wordA A seg a).1, .int .u16 (wordA A seg a).2]))
    (hs : ∀ w', Grow w w' → Calls P fs #[.agg #[u]] w' (Ret fun r w2 => ∃ ad c, r = .slice ad A.length c ∧ RowAt w2 1 ad A.length (A.map fun s => .int .i64 (s.length : Int)) ∧ Grow w' w2)) : SrcOk P w (.iface t (.agg #[u])) (wholeS A) := by
  have hl : (wholeS A).sizes.length = A.length := by simp [wholeS]
  have hm : (wholeS A).sizes.map (Value.int .i64) = A.map fun s => .int .i64 (s.length : Int) := by simp [wholeS, Function.comp_def]
  have h16 := hr.most
  have hall := hr.all
  have hat : ∀ i, i < A.length → (wholeS A).sizes.getD i 0 = (len2 A i : Int) := fun i hi => by
    rw [getD_at (by rw [hl]; exact hi)]
    simp only [wholeS, List.getElem_map, len2]
    rw [getD_at hi]
  refine ⟨⟨t, _, fw, rfl, mw, hw⟩, ⟨t, _, fs, rfl, ms, ?_⟩, wordA_num hr.num, ?_, by rw [hl]; omega, ?_⟩
  · rw [hl, hm]; exact hs
  · intro seg a h
    simp only [wholeS, wordA] at h
    split at h
    · rename_i hc
      have := seg_le_total A seg.toNat
      rw [hl]
      omega
    · simp at h
  · intro i hi
    rw [hl] at hi
    rw [hat i hi]
    have := seg_le_total A i
    omega
section
variable {P : Program} {ops : Array Oper} {e : Env} {w w0 : World} {K : Value → World → Prop} {d : Option Nat} {ty : TypeId} {pos : String} {af : Array Edge} {g : Option (Nat × Bool)} {x y z : Operand}
theorem r_srcWord {v : Value} {s : Src} {at_ : Array TypeId} {seg a : Int} (H : SrcOk P w0 v s) (G : Grow w0 w) (hx : ev e x = v) (hy : ev e y = .int .i64 seg) (hz : ev e z = .int .i64 a)
    (h : ∀ w', Grow w w' → K (.tuple #[.int .u64 (s.word seg a).1, .int .u16 (s.word seg a).2]) w') : Run1 P ⟨d, .call ⟨.invoke x "Word", #[y, z], at_⟩, ty, pos, af, g⟩ e w K := by
  obtain ⟨t, u, f, rfl, hm, hc⟩ := H.word
  refine r_invoke (F := fun r w' => r = .tuple #[.int .u64 (s.word seg a).1, .int .u16 (s.word seg a).2] ∧ Grow w w') hm hx ?_ (fun r w' ⟨hr, hg⟩ => by subst hr; exact h w' hg)
  have h0 := hc w G seg a
  unfold Gives at h0
  rw [show ((u :: (#[y, z] : Array Operand).toList.map (ev e)).toArray) = #[u, .int .i64 seg, .int .i64 a] from by simp [hy, hz]]
  exact h0
theorem r_srcSizes {v : Value} {s : Src} {at_ : Array TypeId} (H : SrcOk P w0 v s) (G : Grow w0 w) (hx : ev e x = v)
    (h : ∀ ad c w', Grow w w' → RowAt w' 1 ad s.sizes.length (s.sizes.map (.int .i64)) → K (.slice ad s.sizes.length c) w') : Run1 P ⟨d, .call ⟨.invoke x "Sizes", #[], at_⟩, ty, pos, af, g⟩ e w K := by
  obtain ⟨t, u, f, rfl, hm, hc⟩ := H.sizes
  refine r_invoke (F := fun r w2 => ∃ ad c, r = .slice ad s.sizes.length c ∧ RowAt w2 1 ad s.sizes.length (s.sizes.map (.int .i64)) ∧ Grow w w2) hm hx ?_ (fun r w' ⟨ad, c, hr, hR, hg⟩ => by subst hr; exact h ad c w' hg hR)
  rw [show ((u :: (#[] : Array Operand).toList.map (ev e)).toArray) = #[u] from rfl]
  exact hc w G
end
end Go.Proofs.Ytfhfecepcnapfaa.K

namespace Go.Proofs.Ytfhfecepcnapfaa.K
open Go Go.RowKit

/-! ### what choices make may be -/
theorem rights_iff {left : Nat} : ∀ {ks : List Nd}, Nd.rights ks left = true ↔ ∀ t ∈ ks, t.right left = true
  | [] => by simp [Nd.rights]
  | t :: ts => by simp only [Nd.rights, Bool.and_eq_true, rights_iff (ks := ts), List.mem_cons, forall_eq_or_imp]
theorem right_nil (l : Nat) : Nd.nil.right l = true := by simp [Nd.nil, Nd.right, Nd.own, Nd.rights]
theorem treesP_all {f : List Int → Nd × List Int} {Q : List Int → Prop} {R : Nd → Prop} (hf : ∀ c, Q c → Q (f c).2 ∧ R (f c).1) : ∀ (n : Nat) (c : List Int), Q c → ∀ t ∈ (treesP f n c).1, R t
  | 0, c, h => by simp [treesP]
  | n + 1, c, h => by
    have h2 := treesP_mem (f := f) (Q := Q) (fun c hc => (hf c hc).1) n c h
    intro t ht
    simp only [treesP, List.mem_append, List.mem_singleton] at ht
    rcases ht with ht | rfl
    · exact treesP_all hf n c h t ht
    · exact (hf _ h2).2
def isU8 (c : List Int) : Prop := ∀ x ∈ c, inR .u8 x
theorem treeP_right : ∀ (d : Nat) (c : List Int) (l : Nat), d ≤ l → isU8 c → (treeP d c).1.right l = true
  | 0, c, l, _, _ => by simp [treeP, right_nil]
  | d + 1, [], l, _, _ => by simp [treeP, right_nil]
  | d + 1, k :: c, l, hl, hc => by
    have hk := hc k (by simp)
    simp only [inR] at hk
    have hcc : isU8 c := fun x hx => hc x (by simp [hx])
    have hr : Nd.rights (treesP (treeP d) (k / 8 % 5).toNat c).1 (l - 1) = true := rights_iff.2 (treesP_all (f := treeP d) (Q := isU8) (R := fun t => t.right (l - 1) = true) (fun c hq => ⟨treeP_rest d c hq, treeP_right d c (l - 1) (by omega) hq⟩) _ c hcc)
    have hn := treesP_count (treeP d) (k / 8 % 5).toNat c
    have hl0 : ¬ l = 0 := by omega
    simp only [treeP]
    split
    · exact right_nil l
    · split
      · simp [Nd.right, Nd.rights, Nd.own, hl0]; omega
      · split
        · simp [Nd.right, Nd.rights, Nd.own, hl0]; omega
        · split
          · simp only [Nd.right, hr, Nd.own, Bool.and_true]
            simp [hl0]; omega
          · simp only [Nd.right, hr, Nd.own, Bool.and_true]
            simp [hl0]; split <;> omega
theorem treeP_needs : ∀ (d : Nat) (c : List Int), isU8 c → (treeP d c).1.needs + 7 * ((treeP d c).2.length : Int) ≤ 7 * c.length
  | 0, c, _ => by simp [treeP, Nd.nil, Nd.needs, Nd.needsL, Nd.need]
  | d + 1, [], _ => by simp [treeP, Nd.nil, Nd.needs, Nd.needsL, Nd.need]
  | d + 1, k :: c, hc => by
    have hk := hc k (by simp)
    simp only [inR] at hk
    have hcc : isU8 c := fun x hx => hc x (by simp [hx])
    have key : ∀ (n : Nat) (c : List Int), isU8 c → Nd.needsL (treesP (treeP d) n c).1 + 7 * ((treesP (treeP d) n c).2.length : Int) ≤ 7 * c.length := by
      intro n
      induction n with
      | zero => intro c _; simp [treesP, Nd.needsL]
      | succ n ih =>
        intro c hq
        have h1 := ih c hq
        have h2 := treeP_needs d (treesP (treeP d) n c).2 (treesP_rest d n c hq)
        simp only [treesP, needsL_append, Nd.needsL]
        omega
    have hs := key (k / 8 % 5).toNat c hcc
    have hn := treesP_count (treeP d) (k / 8 % 5).toNat c
    simp only [treeP]
    split
    · simp [Nd.nil, Nd.needs, Nd.needsL, Nd.need]; omega
    · split
      · simp [Nd.needs, Nd.needsL, Nd.need]; omega
      · split
        · simp [Nd.needs, Nd.needsL, Nd.need]; omega
        · split
          · simp only [Nd.needs, Nd.need, List.length_nil, List.length_cons, hn]; simp only [show ¬ ((2 : Int) = 1) from by decide, if_false, if_true]; omega
          · simp only [Nd.needs, Nd.need, List.length_map, List.length_range, List.length_cons, hn, if_true]; omega
/-! ### in one segment -/
theorem growA1 (s l : List Int) : growA [s] 0 l = [s ++ l] := by simp [growA, growB]
theorem setP1 (s : List Int) (i : Nat) (x : Int) : setP [s] 0 i x = [s.set i x] := by simp [setP]
theorem full1 {size : Int} {s : List Int} (h1 : (s.length : Int) ≤ size) (h2 : s.length ≤ 4096) : fullP size [s] 0 = false := by
  simp [fullP, len2, totalP]; omega
mutual
theorem Nd.lay_one (size : Int) : ∀ (t : Nd) (s : List Int) (i : Nat), t.fine → i < s.length → (s.length : Int) + t.needs ≤ size → (s.length : Int) + t.needs ≤ 4096 →
    ∃ s', t.lay size ⟨[s], false⟩ 0 i = ⟨[s'], false⟩ ∧ (s'.length : Int) = s.length + t.needs
  | .mk k z w b ks, s, i, hR, hi, h1, h2 => by
    obtain ⟨hkd, hlw, hlb, hlk, hnn, hnm, hkn, hb1⟩ := Nd.own_b (Nd.fine_own hR)
    have hnl := Nd.needsL_nn ks
    simp only [Nd.needs] at h1 h2
    simp only [Nd.lay, Bool.false_eq_true, or_false]
    by_cases hk : k = 0
    · have hks : ks = [] := own_kids (Nd.fine_own hR) (by omega)
      subst hks
      rw [if_pos hk]
      exact ⟨s, rfl, by simp [Nd.needs, Nd.need, hk, Nd.needsL]⟩
    · rw [if_neg hk]
      by_cases hn : (Nd.mk k z w b ks).need = 0
      · rw [if_pos hn, setP1]
        have hks : ks = [] := List.eq_nil_of_length_eq_zero (by have := hkn hk; omega)
        subst hks
        exact ⟨_, rfl, by rw [List.length_set]; simp [Nd.needs, hn, Nd.needsL]⟩
      · rw [if_neg hn]
        have hp : placeP size (.mk k z w b ks) ⟨[s], false⟩ 0 i = ⟨⟨[s.set i ((Nd.mk k z w b ks).near ((s.length : Int) - i - 1))], false⟩, 0, s.length⟩ := by
          unfold placeP
          rw [if_pos (by refine ⟨rfl, ?_⟩; show ((s.length : Nat) : Int) + _ ≤ _; omega)]
          show (⟨⟨setP [s] 0 i _, false⟩, 0, _⟩ : Plc) = _
          rw [setP1]
          rfl
        have hco : ((Nd.mk k z w b ks).content.length : Int) = (Nd.mk k z w b ks).need := Nd.content_length _ (by simp only [Nd.kind]; omega) (by simpa only [Nd.kind, Nd.bytes] using hb1)
        rw [hp]
        have hm : moreP size ⟨[s.set i ((Nd.mk k z w b ks).near ((s.length : Int) - i - 1))], false⟩ 0 (Nd.mk k z w b ks).content = ⟨[s.set i ((Nd.mk k z w b ks).near ((s.length : Int) - i - 1)) ++ (Nd.mk k z w b ks).content], false⟩ := by
          simp only [moreP, growA1, Bool.false_or]
          rw [full1 (by rw [List.length_append, List.length_set]; omega) (by rw [List.length_append, List.length_set]; omega)]
        simp only [hm]
        obtain ⟨s', h3, h4⟩ := Nd.lays_one size ks (s.set i ((Nd.mk k z w b ks).near ((s.length : Int) - i - 1)) ++ (Nd.mk k z w b ks).content) (s.length + ((Nd.mk k z w b ks).need.toNat - ks.length)) (fun j hj => Nd.fine_kid hR hj)
          (by rw [List.length_append, List.length_set]; have := hkn hk; omega) (by rw [List.length_append, List.length_set]; omega) (by rw [List.length_append, List.length_set]; omega)
        refine ⟨s', h3, ?_⟩
        rw [h4, List.length_append, List.length_set]
        simp only [Nd.needs]
        omega
theorem Nd.lays_one (size : Int) : ∀ (ts : List Nd) (s : List Int) (i : Nat), (∀ (j : Nat) (h : j < ts.length), ts[j].fine) → i + ts.length ≤ s.length → (s.length : Int) + Nd.needsL ts ≤ size → (s.length : Int) + Nd.needsL ts ≤ 4096 →
    ∃ s', Nd.lays size ts ⟨[s], false⟩ 0 i = ⟨[s'], false⟩ ∧ (s'.length : Int) = s.length + Nd.needsL ts
  | [], s, i, _, _, _, _ => ⟨s, rfl, by simp [Nd.needsL]⟩
  | t :: ts, s, i, hR, hi, h1, h2 => by
    have ha := Nd.needs_nn t
    have hb := Nd.needsL_nn ts
    simp only [Nd.needsL, List.length_cons] at h1 h2 hi
    obtain ⟨s1, h3, h4⟩ := Nd.lay_one size t s i (hR 0 (by simp)) (by omega) (by omega) (by omega)
    obtain ⟨s2, h5, h6⟩ := Nd.lays_one size ts s1 (i + 1) (fun j hj => by have := hR (j + 1) (by simpa using hj); simpa using this) (by omega) (by omega) (by omega)
    refine ⟨s2, by simp only [Nd.lays, h3, h5], ?_⟩
    simp only [Nd.needsL]
    omega
end
theorem Nd.build_one {t : Nd} {size : Int} (hR : t.right 32 = true) (h1 : 1 + t.needs ≤ size) (h2 : size ≤ 4096) : ∃ s, t.build size = ([s], 0) ∧ (s.length : Int) = 1 + t.needs := by
  have hn := Nd.needs_nn t
  obtain ⟨s, h3, h4⟩ := Nd.lay_one size t [0] 0 ⟨32, hR⟩ (by simp) (by simpa using h1) (by simp; omega)
  refine ⟨s, ?_, by simpa using h4⟩
  unfold Nd.build
  rw [if_neg (by rw [hR]; simp; omega), h3, if_neg (by simp)]
theorem Nd.build_fit {t : Nd} {size : Int} (h : (t.build size).2 = 0) : Fit size (t.build size).1 := by
  unfold Nd.build at h ⊢
  split
  · rename_i hc; rw [if_pos hc] at h; simp at h
  · rename_i hc
    rw [if_neg hc] at h
    split
    · rename_i hf; rw [if_pos hf] at h; simp at h
    · rename_i hf
      have hf : (t.lay size ⟨[[0]], false⟩ 0 0).full = false := by simpa using hf
      exact (t.lay_ok size ⟨[[0]], false⟩ 0 0 (by simp)).fit (Fit.init (by omega)) hf
theorem Nd.build_none {t : Nd} {size : Int} (h : (t.build size).2 ≠ 0) : (t.build size).1 = [] := by
  unfold Nd.build at h ⊢
  split
  · rfl
  · rename_i hc
    rw [if_neg hc] at h
    split
    · rfl
    · rename_i hf; rw [if_neg hf] at h; exact absurd rfl h
/-! ### one in the other -/
/-! ### things without words -/
theorem getD_u8 {ys : List Int} (h : isU8 ys) (i : Nat) : 0 ≤ ys.getD i 0 ∧ ys.getD i 0 ≤ 255 := by
  rcases Nat.lt_or_ge i ys.length with h1 | h1
  · have := h _ (List.getElem_mem h1)
    rw [getD_at h1]
    simpa [inR] using this
  · rw [List.getD_eq_getElem?_getD, List.getElem?_eq_none h1]; simp
end Go.Proofs.Ytfhfecepcnapfaa.K

namespace Go.Proofs.Ytfhfecepcnapfaa.K
open Go Go.RowKit
def known9 : List (List Int) := [[4294967296, 7]]
theorem known9_build : (Nd.mk 1 0 [7] [] []).build 9 = (known9, 0) := by decide +kernel
theorem known9_ok : OkA known9 := ⟨by decide, by decide, by decide, by decide, by
  intro q hq x hx
  simp only [known9, List.mem_singleton] at hq
  subst hq
  simp only [List.mem_cons, List.not_mem_nil, or_false] at hx
  rcases hx with rfl | rfl <;> simp [inR]⟩
theorem rowat_nil (w : World) (sz : Nat) : RowAt w sz none 0 [] := ⟨by simp, by omega, fun h => by omega⟩
/-! ### noughts -/
def noughts (m : Nat) : List (List Int) := [List.replicate m 0]
/-- The path that choices say. -/
def pathP (c : List Int) : List Int := (c.take 6).map (· % 6)
theorem pathP_range {c : List Int} : ∀ x ∈ pathP c, 0 ≤ x ∧ x ≤ 5 := by
  intro x hx
  obtain ⟨y, _, rfl⟩ := List.mem_map.1 hx
  omega
theorem pathP_length (c : List Int) : (pathP c).length ≤ 6 := by simp only [pathP, List.length_map, List.length_take]; omega
theorem arena_one {w : World} {b : Nat} {u : Value} {q : List Int} {T : TypeId} {fr : Nat × Nat} (hb : w.heap[b]? = some (.cells #[u] T fr)) (hu : Row w 1 u q.length (wordsV q)) : ArenaR w (.slice (some ⟨b, 0, none⟩) 1 1) [q] := by
  refine ⟨[u], Row.of_block (n := 1) hb rfl rfl (by decide), fun i s hi => ?_⟩
  cases i with
  | zero => simp only [List.getElem?_cons_zero, Option.some.injEq] at hi; subst hi; exact ⟨u, rfl, hu⟩
  | succ i => simp at hi
theorem wordsV_zero (m : Nat) : wordsV (List.replicate m 0) = List.replicate m (.int .u64 0) := by simp [wordsV]
end Go.Proofs.Ytfhfecepcnapfaa.K

namespace Go.Proofs.Ytfhfecepcnapfaa.K
open Go Go.RowKit
/-- One step, in a tree. -/
def tstep (t : Nd) (k : Int) : Nd × Int :=
  if (t.kind ≠ 0 ∧ t.kind ≠ 1) ∧ t.size ≠ 6 then (.nil, 23)
  else if t.kind ≠ 0 ∧ k < t.kids.length then (t.kids.getD k.toNat .nil, 0)
  else if t.kind ≠ 0 ∧ t.kind ≠ 1 then (.nil, 20)
  else (.nil, 0)
/-- A word, of something in a tree. -/
def tat (t : Nd) (k : Int) : Int × Int :=
  if (t.kind ≠ 0 ∧ t.kind ≠ 1) ∧ t.size = 6 then (0, 23)
  else if t.kind ≠ 0 ∧ k < t.words.length then (t.words.getD k.toNat 0, 0)
  else if ((t.kind ≠ 0 ∧ t.kind ≠ 1) ∧ t.size = 2) ∧ k < t.bytes.length then (t.bytes.getD k.toNat 0, 0)
  else if t.kind ≠ 0 ∧ t.kind ≠ 1 then (0, 20)
  else (0, 0)
theorem tstep_mk (k s : Int) (w b : List Int) (ks : List Nd) (i : Int) : tstep (.mk k s w b ks) i = if (k ≠ 0 ∧ k ≠ 1) ∧ s ≠ 6 then (.nil, 23) else if k ≠ 0 ∧ i < ks.length then (ks.getD i.toNat .nil, 0) else if k ≠ 0 ∧ k ≠ 1 then (.nil, 20) else (.nil, 0) := rfl
theorem tat_mk (k s : Int) (w b : List Int) (ks : List Nd) (i : Int) : tat (.mk k s w b ks) i = if (k ≠ 0 ∧ k ≠ 1) ∧ s = 6 then (0, 23) else if k ≠ 0 ∧ i < w.length then (w.getD i.toNat 0, 0) else if ((k ≠ 0 ∧ k ≠ 1) ∧ s = 2) ∧ i < b.length then (b.getD i.toNat 0, 0) else if k ≠ 0 ∧ k ≠ 1 then (0, 20) else (0, 0) := rfl
def tgo : List Int → Nd → Nd × Int
  | [], t => (t, 0)
  | k :: ks, t => if (tstep t k).2 ≠ 0 then (.nil, (tstep t k).2) else tgo ks (tstep t k).1
def tval (t : Nd) (a : Int) : Vl × Int :=
  if a < 0 then (⟨t.kind, t.size, (t.words.length : Int) + t.bytes.length, t.kids.length, 0⟩, 0)
  else if (tat t a).2 ≠ 0 then (Vl0, (tat t a).2) else (⟨t.kind, 0, 0, 0, (tat t a).1⟩, 0)
def askT (t : Nd) (steps : List Int) (a : Int) : Vl × Int :=
  if ∃ k ∈ steps, k < 0 then (Vl0, 1)
  else if (steps.length : Int) > 32 then (Vl0, 3)
  else if (tgo steps t).2 ≠ 0 then (Vl0, (tgo steps t).2)
  else tval (tgo steps t).1 a
theorem any_neg {steps : List Int} : (List.range' 0 steps.length).any (fun i => decide (steps.getD i 0 < 0)) = true ↔ ∃ k ∈ steps, k < 0 := by
  rw [List.any_eq_true]
  constructor
  · rintro ⟨i, hi, h⟩
    have hlt : i < steps.length := by simpa using hi
    exact ⟨_, getD_mem hlt, of_decide_eq_true h⟩
  · rintro ⟨k, hk, h⟩
    obtain ⟨j, hj, rfl⟩ := List.getElem_of_mem hk
    exact ⟨j, by simpa using hj, decide_eq_true (by rw [getD_at hj]; exact h)⟩
theorem NodeR.lens {w : World} {y0 y1 : Int} {ya za ua : Option Addr} {yn yc zn zc un uc : Nat} {u : Nd} (h : NodeR w [.int .i64 y0, .int .i64 y1, .slice ya yn yc, .slice za zn zc, .slice ua un uc] u) :
    u.kind = y0 ∧ u.size = y1 ∧ u.words.length = yn ∧ u.bytes.length = zn ∧ u.kids.length = un ∧ yn ≤ 140737488355328 ∧ zn ≤ 140737488355328 ∧ un ≤ 140737488355328 := by
  generalize hc : [Value.int .i64 y0, .int .i64 y1, .slice ya yn yc, .slice za zn zc, .slice ua un uc] = c at h
  obtain @⟨kind, size, words, bytes, kids, ws, bs, ks, kc, hk, hs, hW, hwr, hB, hbr, hK, hKs⟩ := h
  obtain ⟨aw, cw, rfl, -, -, h1⟩ := hW
  obtain ⟨ab, cb, rfl, -, -, h2⟩ := hB
  obtain ⟨ak, ck, rfl, -, -, h3⟩ := hK
  simp only [List.cons.injEq, Value.int.injEq, Value.slice.injEq, true_and, and_true] at hc
  obtain ⟨rfl, rfl, ⟨-, rfl, -⟩, ⟨-, rfl, -⟩, -, rfl, -⟩ := hc
  exact ⟨rfl, rfl, rfl, rfl, rfl, h1.lim, h2.lim, h3.lim⟩
theorem tgo_drop {steps : List Int} {k : Nat} (hi : k < steps.length) (u : Nd) : tgo (steps.drop k) u = if (tstep u (steps.getD k 0)).2 ≠ 0 then (.nil, (tstep u (steps.getD k 0)).2) else tgo (steps.drop (k + 1)) (tstep u (steps.getD k 0)).1 := by
  rw [List.drop_eq_getElem_cons hi, getD_at hi, tgo]
def capM (n : Int) : Int := if 9007199254740992 < n then 9007199254740992 else n
mutual
def Nd.cost : Nd → Int
  | .mk k s w b ks => Nd.costL ks (1 + (Nd.mk k s w b ks).need)
def Nd.costL : List Nd → Int → Int
  | [], n => n
  | t :: ts, n => Nd.costL ts (capM (n + t.cost))
end
theorem Nd.costL_take : ∀ {ks : List Nd} {k : Nat} (n : Int) (h : k < ks.length), Nd.costL (ks.take (k + 1)) n = capM (Nd.costL (ks.take k) n + ks[k].cost)
  | [], k, n, h => by simp at h
  | t :: ts, 0, n, h => by simp [Nd.costL]
  | t :: ts, k + 1, n, h => by
    simp only [List.length_cons] at h
    simp only [List.take_succ_cons, Nd.costL, List.getElem_cons_succ]
    exact Nd.costL_take (ks := ts) (k := k) _ (by omega)
theorem capM_le (n : Int) : capM n ≤ 9007199254740992 := by unfold capM; split <;> omega
theorem capM_pos {n : Int} (h : 1 ≤ n) : 1 ≤ capM n := by unfold capM; split <;> omega
mutual
theorem Nd.cost_pos : ∀ (t : Nd), 1 ≤ t.cost
  | .mk k s w b ks => by
    rw [Nd.cost]
    exact Nd.costL_pos ks _ (by have := Nd.need_nn (.mk k s w b ks); omega)
theorem Nd.costL_pos : ∀ (ts : List Nd) (n : Int), 1 ≤ n → 1 ≤ Nd.costL ts n
  | [], n, h0 => h0
  | t :: ts, n, h0 => by
    rw [Nd.costL]
    exact Nd.costL_pos ts _ (capM_pos (by have := Nd.cost_pos t; omega))
end
theorem Nd.costL_le : ∀ (ts : List Nd) (n : Int), n ≤ 9007199254740992 → Nd.costL ts n ≤ 9007199254740992
  | [], n, h0 => h0
  | t :: ts, n, h0 => by rw [Nd.costL]; exact Nd.costL_le ts _ (capM_le _)
theorem NodeR.need_le {w : World} {c : List Value} {t : Nd} (h : NodeR w c t) : t.need ≤ 900000000000000 := by
  obtain @⟨kind, size, words, bytes, kids, ws, bs, ks, kc, hk, hs, hW, hwr, hB, hbr, hK, hKs⟩ := h
  obtain ⟨aw, cw, rfl, -, -, h1⟩ := hW
  obtain ⟨ab, cb, rfl, -, -, h2⟩ := hB
  obtain ⟨ak, ck, rfl, -, -, h3⟩ := hK
  have h1 := h1.lim
  have h2 := h2.lim
  have h3 := h3.lim
  simp only [Nd.need]
  split
  · omega
  · split <;> omega
theorem Nd.cost_le {t : Nd} (h : t.need ≤ 900000000000000) : t.cost ≤ 9007199254740992 := by
  cases t with
  | mk k s w b ks => rw [Nd.cost]; exact Nd.costL_le _ _ (by omega)
/-! ### decoding -/
def wordsS (s : Src) (seg a : Int) (n : Nat) : List Int := (List.range n).map fun (i : Nat) => (s.word seg (a + (i : Int))).1
def byt1 (x : Int) (i : Nat) : Int := x / 2 ^ (8 * i) % 256
def byt8 (x : Int) : List Int := (List.range 8).map (byt1 x)
def bytesS (s : Src) (seg a : Int) (n : Nat) : List Int := ((wordsS s seg a ((n + 7) / 8)).flatMap byt8).take n
theorem wordsS_len (s : Src) (seg a : Int) (n : Nat) : (wordsS s seg a n).length = n := by simp [wordsS]
theorem wordsS_succ (s : Src) (seg a : Int) (n : Nat) : wordsS s seg a (n + 1) = wordsS s seg a n ++ [(s.word seg (a + (n : Int))).1] := by simp [wordsS, List.range_succ]
theorem byt8_len (x : Int) : (byt8 x).length = 8 := by simp [byt8]
theorem flat8_len (l : List Int) : (l.flatMap byt8).length = 8 * l.length := by
  induction l with
  | nil => rfl
  | cons x l ih => rw [List.flatMap_cons, List.length_append, ih, byt8_len, List.length_cons]; omega
theorem bytesS_len (s : Src) (seg a : Int) (n : Nat) : (bytesS s seg a n).length = n := by
  rw [bytesS, List.length_take, flat8_len, wordsS_len]; omega
theorem byt1_range (x : Int) (i : Nat) : 0 ≤ byt1 x i ∧ byt1 x i ≤ 255 := by unfold byt1; omega
theorem bytesS_u8 (s : Src) (seg a : Int) (n : Nat) : ∀ x ∈ bytesS s seg a n, inR .u8 x := by
  intro x hx
  obtain ⟨y, -, hy⟩ := List.mem_flatMap.1 (List.mem_of_mem_take hx)
  obtain ⟨i, -, rfl⟩ := List.mem_map.1 hy
  have := byt1_range y i
  simp only [inR]; omega
theorem wordsS_u64 {P : Program} {w : World} {v : Value} {s : Src} (H : SrcOk P w v s) (seg a : Int) (n : Nat) : ∀ x ∈ wordsS s seg a n, inR .u64 x := by
  intro x hx
  obtain ⟨i, -, rfl⟩ := List.mem_map.1 hx
  have := H.num seg (a + i)
  simp only [inR]; omega
/-- A byte of a word, as it is put. -/
theorem put_byte (x : Int) (k : Nat) (h0 : 0 ≤ x) (h1 : x ≤ 18446744073709551615) (hk : k ≤ 7) : IntKind.u8.wrap (x / 2 ^ min (8 * (k : Int)).toNat (IntKind.bits .u64)) = byt1 x k := by
  have e : min (8 * (k : Int)).toNat (IntKind.bits .u64) = 8 * k := by show min _ 64 = _; omega
  rw [e, IntKind.wrap_u8, byt1]
def putCells (x : Int) (k : Nat) : List Value := ((List.range k).map fun i => .int .u8 (byt1 x i)) ++ List.replicate (8 - k) (.int .u8 0)
theorem putCells_set (x : Int) (k : Nat) (hk : k < 8) : (putCells x k).set k (.int .u8 (byt1 x k)) = putCells x (k + 1) := by
  have hr : 8 - k = (8 - (k + 1)) + 1 := by omega
  unfold putCells
  rw [hr, List.replicate_succ, List.set_append_right _ _ (by simp)]
  simp [List.range_succ]
theorem putCells_len (x : Int) (k : Nat) (hk : k ≤ 8) : (putCells x k).length = 8 := by simp [putCells]; omega
theorem putCells_all (x : Int) : putCells x 8 = (byt8 x).map (.int .u8) := by simp [putCells, byt8, Function.comp_def]
theorem own_hide_range {w : World} {base n : Nat} {T : TypeId} {v : Value} {k : IntKind} {xs : List Int} (h : w.ownsRow base T 1 v n (xs.map (.int k))) (hm : xs.length = n) (hl : n ≤ 140737488355328) : Row (hide base w) 1 v n (xs.map (.int k)) := by
  subst hm
  exact own_hide h hl
/-- A made row is a block. -/
theorem own_made' {w : World} {base b n : Nat} {T : TypeId} {xs : List Value} (h : w.ownsRow base T 1 (.slice (some ⟨b, 0, none⟩) n n) n xs) : base ≤ b ∧ ∃ cur : Array Value, w.heap[b]? = some (.cells cur T (0, 0)) ∧ cur.size = n ∧ cur.toList = xs := by
  obtain ⟨h0, h1⟩ := h
  rcases h1 with ⟨h1, -⟩ | ⟨q, cap, cur, hv, hq, hg, h1, h2, h3, h4⟩
  · simp at h1
  · simp only [Value.slice.injEq, Option.some.injEq, Addr.mk.injEq, and_true, true_and] at hv
    obtain ⟨rfl, rfl⟩ := hv
    refine ⟨hq, cur, hg, by omega, ?_⟩
    rw [← h4, List.take_of_length_le (by rw [Array.length_toList]; omega)]
end Go.Proofs.Ytfhfecepcnapfaa.K

namespace Go.Proofs.Ytfhfecepcnapfaa.K
open Go Go.RowKit
def kidN (o : Ob) : Int := if o.size = 6 then o.count else o.ptrs
def kidA (o : Ob) : Int := if o.size = 6 then o.at_ else o.at_ + o.data
def nodL (s : Src) (o : Ob) : List Int := wordsS s o.seg o.at_ (if o.size = 5 then o.count else o.data).toNat
def nodB (s : Src) (o : Ob) : List Int := if o.size = 2 then bytesS s o.seg o.at_ o.count.toNat else []
/-- So many kids, one behind the other; what is paid; the first error. -/
def kidsD (f : Int → Int → Int × Nd × Int) (a p : Int) : Nat → Int × List Nd × Int
  | 0 => (p, [], 0)
  | n + 1 => if (kidsD f a p n).2.2 ≠ 0 then kidsD f a p n
    else ((f (a + (n : Int)) (kidsD f a p n).1).1, (kidsD f a p n).2.1 ++ [(f (a + (n : Int)) (kidsD f a p n).1).2.1], (f (a + (n : Int)) (kidsD f a p n).1).2.2)
def nodeK (s : Src) (last : Bool) (f : Int → Int → Int → Int × Nd × Int) (seg a paid : Int) : Int × Nd × Int :=
  if (followS s seg a).2 ≠ 0 then (paid, .nil, (followS s seg a).2)
  else if (followS s seg a).1.kind ≠ 0 ∧ last = true then (paid + (1 + wordsO (followS s seg a).1), .nil, 21)
  else if paid + (1 + wordsO (followS s seg a).1) > 8192 then (paid + (1 + wordsO (followS s seg a).1), .nil, 22)
  else if (kidsD (f (followS s seg a).1.seg) (kidA (followS s seg a).1) (paid + (1 + wordsO (followS s seg a).1)) (kidN (followS s seg a).1).toNat).2.2 ≠ 0 then
    ((kidsD (f (followS s seg a).1.seg) (kidA (followS s seg a).1) (paid + (1 + wordsO (followS s seg a).1)) (kidN (followS s seg a).1).toNat).1, .nil, (kidsD (f (followS s seg a).1.seg) (kidA (followS s seg a).1) (paid + (1 + wordsO (followS s seg a).1)) (kidN (followS s seg a).1).toNat).2.2)
  else ((kidsD (f (followS s seg a).1.seg) (kidA (followS s seg a).1) (paid + (1 + wordsO (followS s seg a).1)) (kidN (followS s seg a).1).toNat).1,
    .mk (followS s seg a).1.kind (followS s seg a).1.size (nodL s (followS s seg a).1) (nodB s (followS s seg a).1) (kidsD (f (followS s seg a).1.seg) (kidA (followS s seg a).1) (paid + (1 + wordsO (followS s seg a).1)) (kidN (followS s seg a).1).toNat).2.1, 0)
/-- What a word leads to, as a tree: so many levels left, what was paid before. -/
def nodeD (s : Src) : Nat → Int → Int → Int → Int × Nd × Int
  | 0, seg, a, paid => nodeK s true (fun _ _ p => (p, .nil, 0)) seg a paid
  | d + 1, seg, a, paid => nodeK s false (fun seg a p => nodeD s d seg a p) seg a paid
def nodeF (s : Src) : Nat → Int → Int → Int → Int × Nd × Int
  | 0 => fun _ _ p => (p, .nil, 0)
  | d + 1 => nodeD s d
theorem nodeD_eq (s : Src) (d : Nat) (seg a paid : Int) : nodeD s d seg a paid = nodeK s (d == 0) (nodeF s d) seg a paid := by
  cases d with
  | zero => rfl
  | succ d => rfl
theorem kidsD_stop {f : Int → Int → Int × Nd × Int} {a p : Int} {k : Nat} (h : (kidsD f a p k).2.2 ≠ 0) : ∀ (n : Nat), kidsD f a p (k + n) = kidsD f a p k
  | 0 => rfl
  | n + 1 => by
    rw [← Nat.add_assoc, kidsD, kidsD_stop h n, if_pos h]
theorem kidsD_stop' {f : Int → Int → Int × Nd × Int} {a p : Int} {k n : Nat} (h : (kidsD f a p k).2.2 ≠ 0) (hk : k ≤ n) : kidsD f a p n = kidsD f a p k := by
  obtain ⟨m, rfl⟩ := Nat.exists_eq_add_of_le hk
  exact kidsD_stop h m
theorem kidsD_count {f : Int → Int → Int × Nd × Int} {a p : Int} : ∀ (n : Nat), (kidsD f a p n).2.2 = 0 → (kidsD f a p n).2.1.length = n
  | 0, _ => rfl
  | n + 1, h => by
    rw [kidsD] at h ⊢
    by_cases h0 : (kidsD f a p n).2.2 ≠ 0
    · rw [if_pos h0] at h; exact absurd h h0
    · rw [if_neg h0]
      rw [List.length_append, kidsD_count n (by simpa using h0)]; rfl
/-- What may be found, by its kind. -/
def ObK (o : Ob) : Prop := o = Ob0 ∨ (o.kind = 1 ∧ o.size = 0 ∧ o.count = 0) ∨ (o.kind = 2 ∧ o.data = 0 ∧ o.ptrs = 0 ∧ (o.size = 2 ∨ o.size = 5 ∨ o.size = 6))
theorem decP_kind (x : Int) : ((decP x).kind = 1 → (decP x).size = 0 ∧ (decP x).count = 0) ∧ ((decP x).kind = 2 → (decP x).data = 0 ∧ (decP x).ptrs = 0) := by
  unfold decP
  repeat' split
  all_goals simp [Pt0]
theorem wordsE_mk (k f d p z c s : Int) (b : Bool) : wordsE ⟨k, f, d, p, z, c, s, b⟩ = if k = 0 then 0 else if k = 1 then 0 else if k = 3 then 0 else if k = 2 then (if z = 2 then 0 else if z = 5 ∨ z = 6 then 0 else 23) else 23 := rfl
theorem wordsN_mk (k f d p z c s : Int) (b : Bool) : wordsN ⟨k, f, d, p, z, c, s, b⟩ = if k = 0 then 0 else if k = 1 then IntKind.i64.wrap (d + p) else if k = 3 then (if b then 2 else 1)
  else if k = 2 then (if z = 2 then IntKind.i64.wrap ((IntKind.i64.wrap (IntKind.i64.wrap (c + 8) - 1)).tdiv 8) else if z = 5 ∨ z = 6 then c else 0) else 0 := rfl
theorem foundS_kind (s : Src) (x : Int) (hn : nearP (decP x) = true) (seg a : Int) : ObK (foundS s (decP x) seg a).1 := by
  obtain ⟨h1, h2⟩ := decP_kind x
  have hk : (decP x).kind = 1 ∨ (decP x).kind = 2 := by simpa [nearP] using hn
  unfold foundS
  split
  · exact .inl rfl
  · rename_i he
    split
    · exact .inl rfl
    · rcases hk with hk | hk
      · exact .inr (.inl ⟨hk, (h1 hk).1, (h1 hk).2⟩)
      · refine .inr (.inr ⟨hk, (h2 hk).1, (h2 hk).2, ?_⟩)
        have he2 : ¬ wordsE ⟨(decP x).kind, 0, (decP x).data, (decP x).ptrs, (decP x).size, (decP x).count, 0, false⟩ ≠ 0 := he
        clear he
        have he := he2
        rw [wordsE_mk] at he
        rw [if_neg (by omega), if_neg (by omega), if_neg (by omega), if_pos hk] at he
        show (decP x).size = 2 ∨ (decP x).size = 5 ∨ (decP x).size = 6
        split at he
        · rename_i h; exact .inl h
        · split at he
          · rename_i h; exact .inr h
          · exact absurd (show (23 : Int) ≠ 0 by decide) he
theorem ptrS_dec (s : Src) (seg a : Int) : ∃ x, (ptrS s seg a).1 = decP x := by
  unfold ptrS
  split
  · exact ⟨0, rfl⟩
  · exact ⟨_, rfl⟩
theorem followS_kind (s : Src) (seg a : Int) : ObK (followS s seg a).1 := by
  obtain ⟨x, hx⟩ := ptrS_dec s seg a
  unfold followS
  split
  · exact .inl rfl
  · split
    · rename_i h
      rw [hx] at h ⊢
      exact foundS_kind s x h _ _
    · split
      · unfold twiceS
        split
        · exact .inl rfl
        · split
          · exact .inl rfl
          · split
            · exact .inl rfl
            · split
              · exact .inl rfl
              · split
                · exact .inl rfl
                · rename_i h
                  refine foundS_kind s _ ?_ _ _
                  cases hq : nearP (decP (s.word (ptrS s seg a).1.seg ((ptrS s seg a).1.off + 1)).1) with
                  | true => rfl
                  | false => exact absurd (.inr (.inr (.inl hq))) h
      · unfold landedS
        obtain ⟨y, hy⟩ := ptrS_dec s (ptrS s seg a).1.seg (ptrS s seg a).1.off
        split
        · exact .inl rfl
        · split
          · exact .inl rfl
          · rename_i h
            rw [hy] at h ⊢
            exact foundS_kind s y (by simpa using h) _ _
theorem ob_small {o : Ob} (ho : ObR o) (hk : ObK o) (hw : wordsO o ≤ 8191) : o.data ≤ 8191 ∧ o.ptrs ≤ 8191 ∧ (o.size = 5 → o.count ≤ 8191) ∧ (o.size = 2 → o.count ≤ 65528) ∧ 0 ≤ kidN o ∧ kidN o ≤ 8191 := by
  obtain ⟨r1, r2, r3, r4, r5, r6, r7⟩ := ho
  rcases hk with rfl | ⟨h1, h2, h3⟩ | ⟨h1, h2, h3, h4⟩
  · simp [Ob0, kidN]
  · have hv : wordsO o = o.data + o.ptrs := by
      unfold wordsO
      rw [if_neg (by omega)]
      unfold Ob.pt
      rw [wordsN_mk]
      rw [if_neg (by omega), if_pos h1, wrap_in (by simp only [inR]; omega)]
    unfold kidN
    rw [if_neg (by omega)]
    omega
  · have hv : (o.size = 2 → wordsO o = (o.count + 7) / 8) ∧ (o.size ≠ 2 → wordsO o = o.count) := by
      unfold wordsO
      rw [if_neg (by omega)]
      unfold Ob.pt
      rw [wordsN_mk]
      rw [if_neg (by omega), if_neg (by omega), if_neg (by omega), if_pos h1]
      refine ⟨fun h => ?_, fun h => ?_⟩
      · rw [if_pos h, wrap_in (by simp only [inR]; omega : inR .i64 (o.count + 8)), wrap_in (by simp only [inR]; omega : inR .i64 (o.count + 8 - 1)), Int.tdiv_eq_ediv_of_nonneg (by omega), wrap_in (by simp only [inR]; omega : inR .i64 ((o.count + 8 - 1) / 8))]
        congr 1
        omega
      · rw [if_neg h, if_pos (by omega)]
    obtain ⟨v1, v2⟩ := hv
    unfold kidN
    refine ⟨by omega, by omega, fun h => by have := v2 (by omega); omega, fun h => by have := v1 h; omega, ?_⟩
    split
    · have := v2 (by omega); omega
    · omega
theorem kidsD_paid {f : Int → Int → Int × Nd × Int} (hf : ∀ a p, 0 ≤ p → p ≤ 8192 → 0 ≤ (f a p).1 ∧ (f a p).1 ≤ 1000000000 ∧ ((f a p).2.2 = 0 → (f a p).1 ≤ 8192)) {a p : Int} (h0 : 0 ≤ p) (h1 : p ≤ 8192) : ∀ n, 0 ≤ (kidsD f a p n).1 ∧ (kidsD f a p n).1 ≤ 1000000000 ∧ ((kidsD f a p n).2.2 = 0 → (kidsD f a p n).1 ≤ 8192)
  | 0 => ⟨h0, by show p ≤ _; omega, fun _ => h1⟩
  | n + 1 => by
    obtain ⟨i1, i2, i3⟩ := kidsD_paid hf (a := a) h0 h1 n
    rw [kidsD]
    by_cases h : (kidsD f a p n).2.2 ≠ 0
    · rw [if_pos h]; exact ⟨i1, i2, i3⟩
    · rw [if_neg h]
      exact hf _ _ i1 (i3 (by simpa using h))
theorem nodeD_paid {P : Program} {w : World} {v : Value} {s : Src} (H : SrcOk P w v s) : ∀ (d : Nat) (seg a p : Int), 0 ≤ p → p ≤ 8192 → 0 ≤ (nodeD s d seg a p).1 ∧ (nodeD s d seg a p).1 ≤ 1000000000 ∧ ((nodeD s d seg a p).2.2 = 0 → (nodeD s d seg a p).1 ≤ 8192) := by
  have step : ∀ (d : Nat) (seg a p : Int), (∀ seg a p, 0 ≤ p → p ≤ 8192 → 0 ≤ (nodeF s d seg a p).1 ∧ (nodeF s d seg a p).1 ≤ 1000000000 ∧ ((nodeF s d seg a p).2.2 = 0 → (nodeF s d seg a p).1 ≤ 8192)) → 0 ≤ p → p ≤ 8192 → 0 ≤ (nodeD s d seg a p).1 ∧ (nodeD s d seg a p).1 ≤ 1000000000 ∧ ((nodeD s d seg a p).2.2 = 0 → (nodeD s d seg a p).1 ≤ 8192) := by
    intro d seg a p hf h0 h1
    obtain ⟨w0, w1⟩ := wordsO_range (followS_range H seg a)
    rw [nodeD_eq]
    unfold nodeK
    split
    · exact ⟨h0, by show p ≤ _; omega, fun _ => h1⟩
    · split
      · exact ⟨by simp only []; omega, by simp only []; omega, fun h => by simp at h⟩
      · split
        · exact ⟨by simp only []; omega, by simp only []; omega, fun h => by simp at h⟩
        · rename_i hp
          obtain ⟨k1, k2, k3⟩ := kidsD_paid (hf (followS s seg a).1.seg) (a := kidA (followS s seg a).1) (p := p + (1 + wordsO (followS s seg a).1)) (by omega) (by omega) (kidN (followS s seg a).1).toNat
          split
          · rename_i he
            exact ⟨k1, k2, fun h => absurd h he⟩
          · rename_i he
            exact ⟨k1, k2, fun _ => k3 (by simpa using he)⟩
  intro d
  induction d with
  | zero => exact fun seg a p => step 0 seg a p (fun seg a p h0 h1 => ⟨h0, by show p ≤ _; omega, fun _ => h1⟩)
  | succ d ih => exact fun seg a p => step (d + 1) seg a p (fun seg a p h0 h1 => ih seg a p h0 h1)
theorem nodL_u64 {P : Program} {w : World} {v : Value} {s : Src} (H : SrcOk P w v s) (o : Ob) : ∀ x ∈ nodL s o, inR .u64 x := wordsS_u64 H _ _ _
theorem nodB_u8 (s : Src) (o : Ob) : ∀ x ∈ nodB s o, inR .u8 x := by
  unfold nodB
  split
  · exact bytesS_u8 _ _ _ _
  · intro x hx; simp at hx
theorem kid_left {o : Ob} {d : Nat} {j : Nat} (hok : ObK o) (h2 : ¬ (o.kind ≠ 0 ∧ (d == 0) = true)) (hj : (j : Int) < kidN o) : ∃ e, d = e + 1 := by
  cases d with
  | succ e => exact ⟨e, rfl⟩
  | zero =>
    exfalso
    have h0 : o.kind = 0 := by
      by_cases h : o.kind = 0
      · exact h
      · exact absurd ⟨h, rfl⟩ h2
    rcases hok with rfl | h | h
    · simp [kidN, Ob0] at hj; omega
    · omega
    · omega
/-! ### memory -/
theorem Kp.upd_new {F : List Nat} {w w1 w2 : World} {b : Nat} (K : Kp F w w1) (u : Upd b w1 w2) (hb : w.heap.size ≤ b) : Kp F w w2 := K.trans (Kp.of_upd u (List.mem_singleton.2 rfl)) fun x hx => by simp only [List.mem_singleton] at hx; subst hx; exact .inr hb
theorem own_len {w : World} {base n m c sz : Nat} {T : TypeId} {ad : Option Addr} {xs : List Value} (h : w.ownsRow base T sz (.slice ad n c) m xs) : n = m := by
  rcases h.2 with ⟨hv, hm⟩ | ⟨q, cap, cur, hv, _⟩
  · simp only [Value.slice.injEq] at hv
    omega
  · simp only [Value.slice.injEq] at hv
    omega
theorem own_kp {F : List Nat} {w w' : World} {base n sz : Nat} {T : TypeId} {v : Value} {xs : List Value} (h : w.ownsRow base T sz v n xs) (k : Kp F w w') (hF : ∀ x ∈ F, x < base) : w'.ownsRow base T sz v n xs := by
  refine ⟨h.1, ?_⟩
  rcases h.2 with hn | ⟨q, cap, cur, rfl, hb, hg, rest⟩
  · exact .inl hn
  · exact .inr ⟨q, cap, cur, rfl, hb, k.heap hg (fun hm => by have := hF q hm; omega), rest⟩
/-! ### any arena -/
def sizesP (A : List (List Int)) : List Int := A.map fun s => (s.length : Int)
theorem sizesP_len (A : List (List Int)) : (sizesP A).length = A.length := by simp [sizesP]
theorem sizesP_at (A : List (List Int)) (i : Nat) : (sizesP A).getD i 0 = (len2 A i : Int) := by
  by_cases hi : i < A.length
  · rw [getD_at (by rw [sizesP_len]; exact hi)]
    simp only [sizesP, List.getElem_map, len2]
    rw [getD_at hi]
  · rw [len2_none (by omega), List.getD_eq_getElem?_getD, List.getElem?_eq_none (by rw [sizesP_len]; omega)]
    rfl
theorem sizesP_take {A : List (List Int)} {k : Nat} (h : k < A.length) : sizesP (A.take (k + 1)) = sizesP (A.take k) ++ [(len2 A k : Int)] := by
  simp only [sizesP, len2]
  rw [List.take_add_one, List.getElem?_eq_getElem h, List.map_append, getD_at h]
  rfl
/-- That arena.Right says so. -/
def rightB (A : List (List Int)) : Bool := decide (1 ≤ A.length ∧ A.length ≤ 16 ∧ 1 ≤ len2 A 0 ∧ totalP A ≤ 4096)
theorem rightB_ok {A : List (List Int)} (h : rightB A = true) (hx : ∀ q ∈ A, ∀ x ∈ q, inR .u64 x) : OkA A := by
  unfold rightB at h
  obtain ⟨h1, h2, h3, h4⟩ := of_decide_eq_true h
  exact ⟨h1, h2, h3, h4, hx⟩
/-- The tree of any arena. -/
def decT (A : List (List Int)) : Nd × Int := if rightB A = false then (.nil, 1) else (nodeD (wholeS A) 32 0 0 0).2
end Go.Proofs.Ytfhfecepcnapfaa.K

namespace Go.Proofs.Ytfhfecepcnapfaa.K
open Go Go.RowKit
mutual
def Nd.beq : Nd → Nd → Bool
  | .mk k s w b ks, .mk k' s' w' b' ks' => decide (k = k') && decide (s = s') && decide (w = w') && decide (b = b') && Nd.beqs ks ks'
def Nd.beqs : List Nd → List Nd → Bool
  | [], [] => true
  | [], _ :: _ => false
  | _ :: _, [] => false
  | t :: ts, u :: us => t.beq u && Nd.beqs ts us
end
mutual
theorem Nd.beq_iff : ∀ (t u : Nd), t.beq u = true ↔ t = u
  | .mk k s w b ks, .mk k' s' w' b' ks' => by
    simp only [Nd.beq, Bool.and_eq_true, decide_eq_true_eq, Nd.mk.injEq, Nd.beqs_iff ks ks', and_assoc]
theorem Nd.beqs_iff : ∀ (t u : List Nd), Nd.beqs t u = true ↔ t = u
  | [], [] => by simp [Nd.beqs]
  | [], _ :: _ => by simp [Nd.beqs]
  | _ :: _, [] => by simp [Nd.beqs]
  | t :: ts, u :: us => by
    simp only [Nd.beqs, Bool.and_eq_true, List.cons.injEq, Nd.beq_iff t u, Nd.beqs_iff ts us]
end
end Go.Proofs.Ytfhfecepcnapfaa.K

namespace Go.Proofs.Ytfhfecepcnapfaa.K
open Go Go.RowKit
theorem dec_enc {p : Pt} (h : okP p) : decP (encR p) = p ∧ decE (encR p) = 0 := by
  have h1 := okP_ok p h
  have h2 := (encE_ok p h).2
  rw [h2]
  simp only [encOk, decide_eq_true_eq] at h1
  exact ⟨h1.2, h1.1⟩
theorem chunkP_range {c : List Int} (hx : isU8 c) (j : Nat) : 0 ≤ chunkP c j ∧ chunkP c j ≤ 18446744073709551615 := by
  have h := getP_range ((c.drop (8 * j)).take 8) (fun x hx2 => hx x (List.mem_of_mem_drop (List.mem_of_mem_take hx2)))
  have hl : ((c.drop (8 * j)).take 8).length ≤ 8 := by rw [List.length_take]; omega
  have h2 : (256 : Int) ^ ((c.drop (8 * j)).take 8).length ≤ 256 ^ 8 := by
    generalize ((c.drop (8 * j)).take 8).length = n at hl
    have : n = 0 ∨ n = 1 ∨ n = 2 ∨ n = 3 ∨ n = 4 ∨ n = 5 ∨ n = 6 ∨ n = 7 ∨ n = 8 := by omega
    rcases this with rfl | rfl | rfl | rfl | rfl | rfl | rfl | rfl | rfl <;> decide
  have h3 : (256 : Int) ^ 8 = 18446744073709551616 := by decide
  unfold chunkP
  omega
theorem getP_digit : ∀ (xs : List Int) (i : Nat), (∀ x ∈ xs, inR .u8 x) → i < xs.length → getP xs / 256 ^ i % 256 = xs.getD i 0
  | [], i, _, h => by simp at h
  | x :: xs, 0, hx, _ => by
    have := hx x (by simp)
    simp only [inR] at this
    simp only [getP, List.getD_cons_zero, Int.pow_zero, Int.ediv_one]
    omega
  | x :: xs, i + 1, hx, h => by
    have h1 := hx x (by simp)
    simp only [inR] at h1
    have h2 := getP_digit xs i (fun y hy => hx y (by simp [hy])) (by simpa using h)
    rw [List.getD_cons_succ, ← h2, Int.pow_succ, Int.mul_comm, ← Int.ediv_ediv_of_nonneg (by decide : (0 : Int) ≤ 256)]
    congr 2
    simp only [getP]
    omega
theorem chunk_digit {c : List Int} (hx : isU8 c) {i : Nat} (h : i < c.length) : chunkP c (i / 8) / 256 ^ (i % 8) % 256 = c.getD i 0 := by
  unfold chunkP
  rw [getP_digit _ _ (fun x hx2 => hx x (List.mem_of_mem_drop (List.mem_of_mem_take hx2))) (by rw [List.length_take, List.length_drop]; omega)]
  rw [List.getD_eq_getElem?_getD, List.getD_eq_getElem?_getD, List.getElem?_take_of_lt (by omega), List.getElem?_drop, show 8 * (i / 8) + i % 8 = i from by omega]
theorem pow_8 (n : Nat) : (2 : Int) ^ (n * 8) = 256 ^ n := by rw [Nat.mul_comm, Int.pow_mul]; rfl
end Go.Proofs.Ytfhfecepcnapfaa.K

namespace Go.Proofs.Ytfhfecepcnapfaa.K
open Go Go.RowKit
/-- A word that says a pointer. -/
def Says (x : Int) (p : Pt) : Prop := decP x = p ∧ decE x = 0
theorem says_enc {p : Pt} (h : okP p) : Says (encR p) p := dec_enc h
theorem ptrS_says {s : Src} {seg a x : Int} {p : Pt} (hp : Says x p) (hw : s.word seg a = (x, 0)) : ptrS s seg a = (p, 0) := by
  unfold ptrS
  rw [hw, if_neg (by simp), hp.1, hp.2]
def oneP (k : Int) : Pt := ⟨1, k, 1, 0, 0, 0, 0, false⟩
def farQ (s : Int) (d : Bool) : Pt := ⟨3, 0, 0, 0, 0, 0, s, d⟩
def oneO (seg a : Int) : Ob := ⟨1, seg, a, 1, 0, 0, 0⟩
theorem oneP_ok {k : Int} (h0 : 0 ≤ k) (h1 : k ≤ 20) : okP (oneP k) := .inl ⟨rfl, by simp [oneP]; omega, by simp [oneP]; omega, by simp [oneP], by simp [oneP], by simp [oneP], by simp [oneP], by simp [oneP]⟩
theorem farQ_ok {s : Int} (d : Bool) (h0 : 0 ≤ s) (h1 : s ≤ 20) : okP (farQ s d) := .inr (.inr (.inl ⟨rfl, by simp [farQ], by simp [farQ], by simp [farQ]; omega, by simp [farQ]; omega⟩))
theorem found_one {s : Src} {k seg a : Int} (hw : withinP s.sizes seg a 1 = true) : foundS s (oneP k) seg a = (oneO seg a, 0) := by
  have h1 : wordsE (objP (oneP k) seg a).pt = 0 := rfl
  have h2 : wordsN (objP (oneP k) seg a).pt = 1 := rfl
  unfold foundS
  rw [h1, h2, hw, if_neg (by decide), if_neg (by decide)]
  rfl
theorem walk_one {s : Src} {seg a w : Int} (hf : followS s 0 0 = (oneO seg a, 0)) (hw : s.word seg a = (w, 0)) : walkS s [] 0 9 = (⟨1, 0, 0, 0, w⟩, 0) := by
  have h1 : wordsO (oneO seg a) = 1 := rfl
  have hm : max (9 : Int) (-1) = 9 := by decide
  have hs : atS s (oneO seg a) 0 = (w, 0) := by
    unfold atS
    rw [if_neg (by simp [oneO]), if_pos (by simp [oneO])]
    show s.word seg (a + 0) = _
    rw [Int.add_zero, hw]
  unfold walkS
  rw [if_neg (by simp), if_neg (by simp), hf, if_neg (by simp), hm]
  simp only []
  rw [h1, if_neg (by decide), nextS]
  unfold valS
  rw [if_neg (by decide), hs, if_neg (by simp)]
  rfl
theorem follow_near {s : Src} {k seg a x : Int} (hx : Says x (oneP k)) (h0 : s.word seg a = (x, 0)) (hw : withinP s.sizes seg (a + 1 + k) 1 = true) : followS s seg a = (oneO seg (a + 1 + k), 0) := by
  have hp := ptrS_says hx h0
  have e1 : (ptrS s seg a).1 = oneP k := by rw [hp]
  have e2 : (ptrS s seg a).2 = 0 := by rw [hp]
  unfold followS
  rw [e1, e2]
  refine (if_neg (by simp [oneP])).trans ((if_pos (by simp [nearP, oneP])).trans ?_)
  exact found_one hw
theorem follow_far {s : Src} {k seg x y : Int} (hy : Says y (farQ seg false)) (hx : Says x (oneP k)) (h0 : s.word 0 0 = (y, 0)) (h1 : s.word seg 0 = (x, 0)) (hw : withinP s.sizes seg (0 + 1 + k) 1 = true) : followS s 0 0 = (oneO seg (0 + 1 + k), 0) := by
  have hp := ptrS_says hy h0
  have hq := ptrS_says hx h1
  have e1 : (ptrS s 0 0).1 = farQ seg false := by rw [hp]
  have e2 : (ptrS s 0 0).2 = 0 := by rw [hp]
  have f1 : (ptrS s seg 0).1 = oneP k := by rw [hq]
  have f2 : (ptrS s seg 0).2 = 0 := by rw [hq]
  unfold followS
  rw [e1, e2]
  refine (if_neg (by simp [farQ])).trans ((if_neg (by simp [nearP, farQ])).trans ((if_neg (by simp [farQ])).trans ?_))
  unfold landedS
  have g1 : (farQ seg false).seg = seg := rfl
  have g2 : (farQ seg false).off = 0 := rfl
  rw [g1, g2, f1, f2]
  refine (if_neg (by decide)).trans ((if_neg (by simp [nearP, oneP])).trans ?_)
  exact found_one hw
theorem follow_twice {s : Src} {x y z : Int} (hy : Says y (farQ 1 true)) (hz : Says z (farQ 2 false)) (hx : Says x (oneP 0)) (h0 : s.word 0 0 = (y, 0)) (h1 : s.word 1 0 = (z, 0)) (h2 : s.word 1 1 = (x, 0)) (hw : withinP s.sizes 2 0 1 = true) : followS s 0 0 = (oneO 2 0, 0) := by
  have hp := ptrS_says hy h0
  have e1 : (ptrS s 0 0).1 = farQ 1 true := by rw [hp]
  have e2 : (ptrS s 0 0).2 = 0 := by rw [hp]
  unfold followS
  rw [e1, e2]
  refine (if_neg (by simp [farQ])).trans ((if_neg (by simp [nearP, farQ])).trans ((if_pos (by simp [farQ])).trans ?_))
  unfold twiceS
  have g1 : (farQ 1 true).seg = 1 := rfl
  have g2 : (farQ 1 true).off = 0 := rfl
  rw [g1, g2, show ((0 : Int) + 1) = 1 from rfl, h1, h2]
  refine (if_neg (by simp)).trans ((if_neg (by simp)).trans ?_)
  show (if decE z ≠ 0 then _ else if decE x ≠ 0 then _ else _) = _
  rw [hz.2, hx.2, hz.1, hx.1]
  refine (if_neg (by decide)).trans ((if_neg (by decide)).trans ((if_neg (by simp [nearP, oneP, farQ])).trans ?_))
  exact found_one hw
/-! ### the three arenas -/
def farSeg (k : Nat) (x w : Int) : List Int := (x :: List.replicate k 0) ++ [w]
def farA (k : Nat) (x w : Int) : List (List Int) := [farSeg k x w]
def farB (k : Nat) (y x w : Int) : List (List Int) := [[y], farSeg k x w]
def farC (y z x w : Int) : List (List Int) := [[y], [z, x], [w]]
theorem farSeg_len (k : Nat) (x w : Int) : (farSeg k x w).length = k + 2 := by simp [farSeg]
theorem farSeg_last (k : Nat) (x w : Int) : (farSeg k x w).getD (k + 1) 0 = w := by simp [farSeg, List.getD_eq_getElem?_getD]
theorem word_at {A : List (List Int)} {s i : Nat} (hs : s < A.length) (hi : i < len2 A s) : wordA A (s : Int) (i : Int) = ((A.getD s []).getD i 0, 0) := by
  unfold wordA
  rw [if_pos (by refine ⟨by omega, by omega, by omega, ?_⟩; rw [Int.toNat_natCast]; omega)]
  simp only [Int.toNat_natCast]
theorem farA_walk {k : Nat} (hk : k ≤ 20) {x w : Int} (hx : Says x (oneP k)) : walkS (wholeS (farA k x w)) [] 0 9 = (⟨1, 0, 0, 0, w⟩, 0) := by
  have hl := farSeg_len k x w
  have h0 : wordA (farA k x w) ((0 : Nat) : Int) ((0 : Nat) : Int) = (x, 0) := word_at (A := farA k x w) (s := 0) (i := 0) (by simp [farA]) (by simp [farA, len2, hl])
  have h1 : wordA (farA k x w) ((0 : Nat) : Int) ((k + 1 : Nat) : Int) = (w, 0) := by
    rw [word_at (A := farA k x w) (s := 0) (i := k + 1) (by simp [farA]) (by simp [farA, len2, hl])]
    rw [show (farA k x w).getD 0 [] = farSeg k x w from rfl, farSeg_last]
  rw [show ((k + 1 : Nat) : Int) = 0 + 1 + (k : Int) from by omega] at h1
  exact walk_one (follow_near hx h0 (by simp [withinP, addOk, wholeS, farA, hl]; omega)) h1
theorem farB_walk {k : Nat} (hk : k ≤ 20) {y x w : Int} (hy : Says y (farQ 1 false)) (hx : Says x (oneP k)) : walkS (wholeS (farB k y x w)) [] 0 9 = (⟨1, 0, 0, 0, w⟩, 0) := by
  have hl := farSeg_len k x w
  have h0 : wordA (farB k y x w) ((0 : Nat) : Int) ((0 : Nat) : Int) = (y, 0) := word_at (A := farB k y x w) (s := 0) (i := 0) (by simp [farB]) (by simp [farB, len2])
  have h2 : wordA (farB k y x w) ((1 : Nat) : Int) ((0 : Nat) : Int) = (x, 0) := word_at (A := farB k y x w) (s := 1) (i := 0) (by simp [farB]) (by simp [farB, len2, hl])
  have h1 : wordA (farB k y x w) ((1 : Nat) : Int) ((k + 1 : Nat) : Int) = (w, 0) := by
    rw [word_at (A := farB k y x w) (s := 1) (i := k + 1) (by simp [farB]) (by simp [farB, len2, hl])]
    rw [show (farB k y x w).getD 1 [] = farSeg k x w from rfl, farSeg_last]
  rw [show ((k + 1 : Nat) : Int) = 0 + 1 + (k : Int) from by omega] at h1
  exact walk_one (follow_far hy hx h0 h2 (by simp [withinP, addOk, wholeS, farB, hl]; omega)) h1
theorem farC_walk {y z x w : Int} (hy : Says y (farQ 1 true)) (hz : Says z (farQ 2 false)) (hx : Says x (oneP 0)) : walkS (wholeS (farC y z x w)) [] 0 9 = (⟨1, 0, 0, 0, w⟩, 0) :=
  walk_one (follow_twice hy hz hx (word_at (A := farC y z x w) (s := 0) (i := 0) (by simp [farC]) (by simp [farC, len2])) (word_at (A := farC y z x w) (s := 1) (i := 0) (by simp [farC]) (by simp [farC, len2])) (word_at (A := farC y z x w) (s := 1) (i := 1) (by simp [farC]) (by simp [farC, len2])) (by simp [withinP, addOk, wholeS, farC])) (word_at (A := farC y z x w) (s := 2) (i := 0) (by simp [farC]) (by simp [farC, len2]))
theorem farSeg_num {k : Nat} {x w : Int} (hx : inR .u64 x) (hw : inR .u64 w) : ∀ y ∈ farSeg k x w, inR .u64 y := by
  intro y hy
  simp only [farSeg, List.cons_append, List.mem_cons, List.mem_append, List.mem_replicate, List.not_mem_nil, or_false] at hy
  rcases hy with rfl | ⟨-, rfl⟩ | rfl
  · exact hx
  · simp [inR]
  · exact hw
theorem farA_ok {k : Nat} (hk : k ≤ 20) {x w : Int} (hx : inR .u64 x) (hw : inR .u64 w) : OkA (farA k x w) := by
  have hl := farSeg_len k x w
  refine ⟨by simp [farA], by simp [farA], by simp [farA, hl], by simp [farA, totalP, hl]; omega, ?_⟩
  intro q hq
  simp only [farA, List.mem_singleton] at hq
  subst hq
  exact farSeg_num hx hw
theorem farB_ok {k : Nat} (hk : k ≤ 20) {y x w : Int} (hy : inR .u64 y) (hx : inR .u64 x) (hw : inR .u64 w) : OkA (farB k y x w) := by
  have hl := farSeg_len k x w
  refine ⟨by simp [farB], by simp [farB], by simp [farB], by simp [farB, totalP, hl]; omega, ?_⟩
  intro q hq
  simp only [farB, List.mem_cons, List.not_mem_nil, or_false] at hq
  rcases hq with rfl | rfl
  · intro z hz; simp only [List.mem_singleton] at hz; subst hz; exact hy
  · exact farSeg_num hx hw
theorem farC_ok {y z x w : Int} (hy : inR .u64 y) (hz : inR .u64 z) (hx : inR .u64 x) (hw : inR .u64 w) : OkA (farC y z x w) := by
  refine ⟨by simp [farC], by simp [farC], by simp [farC], by simp [farC, totalP], ?_⟩
  intro q hq v hv
  simp only [farC, List.mem_cons, List.not_mem_nil, or_false] at hq
  rcases hq with rfl | rfl | rfl <;> simp only [List.mem_cons, List.not_mem_nil, or_false] at hv
  · subst hv; exact hy
  · rcases hv with rfl | rfl
    · exact hz
    · exact hx
  · subst hv; exact hw
/-- A made row is a block. -/
theorem own_made {w : World} {base b n : Nat} {T : TypeId} {xs : List Value} (h : w.ownsRow base T 1 (.slice (some ⟨b, 0, none⟩) n n) n xs) : base ≤ b ∧ ∃ cur : Array Value, w.heap[b]? = some (.cells cur T (0, 0)) ∧ cur.size = n ∧ cur.toList = xs := by
  obtain ⟨h0, h1⟩ := h
  rcases h1 with ⟨h1, -⟩ | ⟨q, cap, cur, hv, hq, hg, h1, h2, h3, h4⟩
  · simp at h1
  · simp only [Value.slice.injEq, Option.some.injEq, Addr.mk.injEq, and_true, true_and] at hv
    obtain ⟨rfl, rfl⟩ := hv
    refine ⟨hq, cur, hg, by omega, ?_⟩
    rw [← h4, List.take_of_length_le (by rw [Array.length_toList]; omega)]
theorem encR_u64 (p : Pt) : inR .u64 (encR p) := by
  obtain ⟨h0, h1⟩ := encW_range p
  unfold encR
  split
  · exact ⟨h0, h1⟩
  · simp [inR]
theorem farSeg_cells (k : Nat) (x w : Int) : (wordsV (farSeg k x w)).length = (k + 2) * 1 := by simp [wordsV, farSeg]
theorem far_cells (k : Nat) (x w : Int) : ((((List.replicate (k + 2) (Value.int .u64 0)).set 0 (.int .u64 x)).set (k + 1) (.int .u64 w))) = wordsV (farSeg k x w) := by
  have h1 : ∀ (k : Nat) (v z : Value), (List.replicate (k + 1) z).set k v = List.replicate k z ++ [v] := by
    intro k v z
    induction k with
    | zero => rfl
    | succ k ih => rw [List.replicate_succ, List.set_cons_succ, ih, List.replicate_succ, List.cons_append]
  rw [List.replicate_succ, List.set_cons_zero, List.set_cons_succ, h1]
  simp [wordsV, farSeg]
theorem arena_two {w : World} {b : Nat} {u v : Value} {q r : List Int} {T : TypeId} {fr : Nat × Nat} (hb : w.heap[b]? = some (.cells #[u, v] T fr)) (hu : Row w 1 u q.length (wordsV q)) (hv : Row w 1 v r.length (wordsV r)) : ArenaR w (.slice (some ⟨b, 0, none⟩) 2 2) [q, r] := by
  refine ⟨[u, v], Row.of_block (n := 2) hb rfl rfl (by decide), fun i s hi => ?_⟩
  cases i with
  | zero => simp only [List.getElem?_cons_zero, Option.some.injEq] at hi; subst hi; exact ⟨u, rfl, hu⟩
  | succ i => cases i with
    | zero => simp only [List.getElem?_cons_succ, List.getElem?_cons_zero, Option.some.injEq] at hi; subst hi; exact ⟨v, rfl, hv⟩
    | succ i => simp at hi
theorem arena_three {w : World} {b : Nat} {u v t : Value} {q r s : List Int} {T : TypeId} {fr : Nat × Nat} (hb : w.heap[b]? = some (.cells #[u, v, t] T fr)) (hu : Row w 1 u q.length (wordsV q)) (hv : Row w 1 v r.length (wordsV r)) (ht : Row w 1 t s.length (wordsV s)) : ArenaR w (.slice (some ⟨b, 0, none⟩) 3 3) [q, r, s] := by
  refine ⟨[u, v, t], Row.of_block (n := 3) hb rfl rfl (by decide), fun i s hi => ?_⟩
  cases i with
  | zero => simp only [List.getElem?_cons_zero, Option.some.injEq] at hi; subst hi; exact ⟨u, rfl, hu⟩
  | succ i => cases i with
    | zero => simp only [List.getElem?_cons_succ, List.getElem?_cons_zero, Option.some.injEq] at hi; subst hi; exact ⟨v, rfl, hv⟩
    | succ i => cases i with
      | zero => simp only [List.getElem?_cons_succ, List.getElem?_cons_zero, Option.some.injEq] at hi; subst hi; exact ⟨t, rfl, ht⟩
      | succ i => simp at hi
end Go.Proofs.Ytfhfecepcnapfaa.K

namespace Go.Proofs.Ytfhfecepcnapfaa.K
open Go Go.RowKit
def known10 : Nd := .mk 1 0 [7] [] []
theorem known10_ask : askT known10 [] 0 = (⟨1, 0, 0, 0, 7⟩, 0) := by decide +kernel
theorem dec_of {x : Int × Nd × Int} {p : Int} {t : Nd} {e : Int} (h : (decide (x.1 = p) && x.2.1.beq t && decide (x.2.2 = e)) = true) : x = (p, t, e) := by
  simp only [Bool.and_eq_true, decide_eq_true_eq, Nd.beq_iff] at h
  obtain ⟨⟨h1, h2⟩, h3⟩ := h
  exact Prod.ext h1 (Prod.ext h2 h3)
theorem known10_dec : nodeD (wholeS known9) 32 0 0 0 = (2, known10, 0) := dec_of (by decide +kernel)
theorem known10_cost : known10.cost = 2 := by decide +kernel
theorem beq_self (t : Nd) : t.beq t = true := (Nd.beq_iff _ _).2 rfl
/-! ### nothing -/
theorem zeros_ok {m : Nat} (h0 : 1 ≤ m) (h1 : m ≤ 4000) : OkA (noughts m) := by
  refine ⟨by simp [noughts], by simp [noughts], by simp [noughts]; omega, by simp [noughts, totalP]; omega, ?_⟩
  intro q hq x hx
  simp only [noughts, List.mem_singleton] at hq
  subst hq
  have := List.eq_of_mem_replicate hx
  subst this
  simp [inR]
end Go.Proofs.Ytfhfecepcnapfaa.K

namespace Go.Proofs.Ytfhfecepcnapfaa.K
open Go Go.RowKit
/-- What is found where something of its own kind lies. -/
inductive Own2 (k z : Int) (w b : List Int) (ks : List Nd) (q a : Int) : Prop where
  | st (h1 : k = 1) (h2 : z = 0) (h3 : b = []) (h4 : objP ((Nd.mk k z w b ks).ptr 0) q a = ⟨1, q, a, w.length, ks.length, 0, 0⟩) (h5 : (Nd.mk k z w b ks).need = (w.length : Int) + ks.length) (h6 : w.length ≤ 100 ∧ ks.length ≤ 100)
  | bt (h1 : k = 2) (h2 : z = 2) (h3 : w = []) (h4 : ks = []) (h5 : objP ((Nd.mk k z w b ks).ptr 0) q a = ⟨2, q, a, 0, 0, 2, b.length⟩) (h6 : (Nd.mk k z w b ks).need = ((b.length : Int) + 7) / 8) (h7 : b.length ≤ 4096)
  | wd (h1 : k = 2) (h2 : z = 5) (h3 : b = []) (h4 : ks = []) (h5 : objP ((Nd.mk k z w b ks).ptr 0) q a = ⟨2, q, a, 0, 0, 5, w.length⟩) (h6 : (Nd.mk k z w b ks).need = (w.length : Int)) (h7 : w.length ≤ 4096)
  | pt (h1 : k = 2) (h2 : z = 6) (h3 : w = []) (h4 : b = []) (h5 : objP ((Nd.mk k z w b ks).ptr 0) q a = ⟨2, q, a, 0, 0, 6, ks.length⟩) (h6 : (Nd.mk k z w b ks).need = (ks.length : Int)) (h7 : ks.length ≤ 4096)
theorem own2 {k z : Int} {w b : List Int} {ks : List Nd} (ho : (Nd.mk k z w b ks).own = true) (hk : ¬ k = 0) (q a : Int) : Own2 k z w b ks q a := by
  simp only [Nd.own, if_neg hk] at ho
  split at ho
  · rename_i h1
    simp only [Bool.and_eq_true, decide_eq_true_eq] at ho
    obtain ⟨h2, h3, h4⟩ := ho
    have hb : b = [] := List.eq_nil_of_length_eq_zero (by omega)
    have hm : w.length ≤ 100 ∧ ks.length ≤ 100 := by split at h4 <;> omega
    subst hb
    subst h1
    exact .st rfl h2 rfl (by simp [Nd.ptr, objP]) (by simp [Nd.need]) hm
  · split at ho
    · rename_i h1 h2
      subst h2
      split at ho
      · rename_i h3
        simp only [Bool.and_eq_true, decide_eq_true_eq] at ho
        have hw : w = [] := List.eq_nil_of_length_eq_zero (by omega)
        have hks : ks = [] := List.eq_nil_of_length_eq_zero (by omega)
        subst hw; subst hks; subst h3
        exact .bt rfl rfl rfl rfl (by simp [Nd.ptr, objP]) (by simp [Nd.need]) (by omega)
      · split at ho
        · rename_i h3
          simp only [Bool.and_eq_true, decide_eq_true_eq] at ho
          have hb : b = [] := List.eq_nil_of_length_eq_zero (by omega)
          have hks : ks = [] := List.eq_nil_of_length_eq_zero (by omega)
          subst hb; subst hks; subst h3
          exact .wd rfl rfl rfl rfl (by simp [Nd.ptr, objP]) (by simp [Nd.need]) (by omega)
        · split at ho
          · rename_i h3
            simp only [Bool.and_eq_true, decide_eq_true_eq] at ho
            have hb : b = [] := List.eq_nil_of_length_eq_zero (by omega)
            have hw : w = [] := List.eq_nil_of_length_eq_zero (by omega)
            subst hb; subst hw; subst h3
            exact .pt rfl rfl rfl rfl (by simp [Nd.ptr, objP]) (by simp [Nd.need]) (by omega)
          · cases ho
    · cases ho
theorem wordsN_ob (o : Ob) : wordsN o.pt = wordsN ⟨o.kind, 0, o.data, o.ptrs, o.size, o.count, 0, false⟩ := rfl
theorem wordsE_ob (o : Ob) : wordsE o.pt = wordsE ⟨o.kind, 0, o.data, o.ptrs, o.size, o.count, 0, false⟩ := rfl
end Go.Proofs.Ytfhfecepcnapfaa.K

namespace Go.Proofs.Ytfhfecepcnapfaa.K
open Go Go.RowKit
abbrev w2 (A : List (List Int)) (s i : Nat) : Int := (A.getD s []).getD i 0
theorem w2_set {A : List (List Int)} {s i : Nat} (x : Int) (hs : s < A.length) (hi : i < len2 A s) (q j : Nat) : w2 (setP A s i x) q j = if q = s ∧ j = i then x else w2 A q j := by
  simp only [w2, setP_getD A s i q x hs]
  by_cases hq : q = s
  · subst hq
    rw [if_pos rfl, getD_set _ _ _ _ _ hi]
    by_cases hj : j = i
    · rw [if_pos hj, if_pos ⟨rfl, hj⟩]
    · rw [if_neg hj, if_neg (fun h => hj h.2)]
  · rw [if_neg hq, if_neg (fun h => hq h.1)]
theorem getD_app (u l : List Int) (j : Nat) : (u ++ l).getD j 0 = if u.length ≤ j then l.getD (j - u.length) 0 else u.getD j 0 := by
  simp only [List.getD_eq_getElem?_getD]
  split
  · rename_i h; rw [List.getElem?_append_right h]
  · rename_i h; rw [List.getElem?_append_left (by omega)]
theorem w2_grow {A : List (List Int)} {q : Nat} (l : List Int) (hq : q ≤ A.length) (s j : Nat) : w2 (growA A q l) s j = if s = q ∧ len2 A q ≤ j then l.getD (j - len2 A q) 0 else w2 A s j := by
  simp only [w2, growA_getD A q s l hq]
  by_cases hs : s = q
  · subst hs
    rw [if_pos rfl, getD_app]
    by_cases hj : len2 A s ≤ j
    · rw [if_pos (show (A.getD s []).length ≤ j from hj), if_pos (show s = s ∧ len2 A s ≤ j from ⟨rfl, hj⟩)]
    · rw [if_neg (show ¬ (A.getD s []).length ≤ j from hj), if_neg (show ¬ (s = s ∧ len2 A s ≤ j) from fun h => hj h.2)]
  · rw [if_neg hs, if_neg (fun h => hs h.1)]
theorem body_len {k z : Int} {w b : List Int} {ks : List Nd} (ho : (Nd.mk k z w b ks).own = true) (hk : ¬ k = 0) : (w ++ chunksP b).length + ks.length = (Nd.mk k z w b ks).need.toNat := by
  obtain ⟨hkd, hlw, hlb, hlk, hnn, hnm, hkn, hb1⟩ := Nd.own_b ho
  have hc := Nd.content_length (.mk k z w b ks) (by simp only [Nd.kind]; omega) (by simpa only [Nd.kind, Nd.bytes] using hb1)
  simp only [Nd.content, List.length_append, List.length_replicate] at hc
  rw [List.length_append]
  omega
def bodyN : Nd → List Int
  | .mk _ _ w b _ => w ++ chunksP b
/-- How a word leads to a thing that lies at a place; landing places lie beyond the base. -/
def Pts (A : List (List Int)) (B : Nat → Nat) (t : Nd) (s i q a : Nat) : Prop :=
  (q = s ∧ w2 A s i = t.near ((a : Int) - i - 1)) ∨ (∃ p, t.need ≠ 0 ∧ p + 1 = a ∧ B q ≤ p ∧ p < len2 A q ∧ w2 A s i = farP q p ∧ w2 A q p = t.near 0)
mutual
def Rep (A : List (List Int)) (B : Nat → Nat) : Nd → Nat → Nat → Prop
  | .mk k z w b ks, s, i => i < len2 A s ∧ s < A.length ∧ (if k = 0 then w2 A s i = 0 else
    ∃ q a, Pts A B (.mk k z w b ks) s i q a ∧ q < A.length ∧ ((Nd.mk k z w b ks).need ≠ 0 → B q ≤ a) ∧ ((Nd.mk k z w b ks).need = 0 → k = 1 → q = s ∧ a = i) ∧ a + (Nd.mk k z w b ks).need.toNat ≤ len2 A q ∧ (∀ j, j < (w ++ chunksP b).length → w2 A q (a + j) = (w ++ chunksP b).getD j 0) ∧ Reps A B ks q (a + (w ++ chunksP b).length))
def Reps (A : List (List Int)) (B : Nat → Nat) : List Nd → Nat → Nat → Prop
  | [], _, _ => True
  | t :: ts, q, j => (B q ≤ j ∧ Rep A B t q j) ∧ Reps A B ts q (j + 1)
end
/-- What is read beyond the base, and the word itself, is kept. -/
structure Kept (A A' : List (List Int)) (B : Nat → Nat) : Prop where
  len : A.length ≤ A'.length
  seg : ∀ q, len2 A q ≤ len2 A' q
  word : ∀ q j, B q ≤ j → j < len2 A q → w2 A' q j = w2 A q j
theorem len2_lt {A : List (List Int)} {q j : Nat} (h : j < len2 A q) : q < A.length := by
  by_cases hq : q < A.length
  · exact hq
  · have := len2_none (A := A) (j := q) (by omega); omega
theorem fine_kids {k s : Int} {w b : List Int} {ks : List Nd} (h : (Nd.mk k s w b ks).fine) : ∀ t ∈ ks, t.fine := by
  intro t ht
  obtain ⟨j, hj, rfl⟩ := List.getElem_of_mem ht
  exact Nd.fine_kid h hj
mutual
theorem Rep.keep {A A' : List (List Int)} {B B' : Nat → Nat} (hk : Kept A A' B) (hB : ∀ q, B' q ≤ B q) : ∀ (t : Nd) (s i : Nat), t.fine → w2 A' s i = w2 A s i → Rep A B t s i → Rep A' B' t s i
  | .mk k z w b ks, s, i, hf, hw, h => by
    have ho := Nd.fine_own hf
    obtain ⟨hkd, hlw, hlb, hlk, hnn, hnm, hkn, hb1⟩ := Nd.own_b ho
    rw [Rep] at h ⊢
    obtain ⟨h1, h2, h3⟩ := h
    refine ⟨Nat.lt_of_lt_of_le h1 (hk.seg s), Nat.lt_of_lt_of_le h2 hk.len, ?_⟩
    split
    · rename_i hk0
      rw [if_pos hk0] at h3
      rw [hw, h3]
    · rename_i hk0
      rw [if_neg hk0] at h3
      obtain ⟨q, a, hp, hq, hb, hz0, hl, hc, hr⟩ := h3
      have hbl := body_len ho hk0
      have hok := fine_kids hf
      refine ⟨q, a, ?_, Nat.lt_of_lt_of_le hq hk.len, fun hn => Nat.le_trans (hB q) (hb hn), hz0, Nat.le_trans hl (hk.seg q), fun j hj => ?_, Reps.keep hk hB ks q _ hok hr⟩
      · rcases hp with ⟨h4, h5⟩ | ⟨p, hne, h4, h5, h6, h7, h8⟩
        · exact .inl ⟨h4, by rw [hw, h5]⟩
        · exact .inr ⟨p, hne, h4, Nat.le_trans (hB q) h5, Nat.lt_of_lt_of_le h6 (hk.seg q), by rw [hw, h7], by rw [hk.word q p h5 h6, h8]⟩
      · rw [hk.word q (a + j) (Nat.le_trans (hb (by omega)) (Nat.le_add_right _ _)) (by omega), hc j hj]
theorem Reps.keep {A A' : List (List Int)} {B B' : Nat → Nat} (hk : Kept A A' B) (hB : ∀ q, B' q ≤ B q) : ∀ (ts : List Nd) (q j : Nat), (∀ t ∈ ts, t.fine) → Reps A B ts q j → Reps A' B' ts q j
  | [], _, _, _, _ => trivial
  | t :: ts, q, j, ho, h => by
    rw [Reps] at h ⊢
    obtain ⟨⟨h1, h2⟩, h3⟩ := h
    refine ⟨⟨Nat.le_trans (hB q) h1, Rep.keep hk hB t q j (ho t (by simp)) ?_ h2⟩, Reps.keep hk hB ts q (j + 1) (fun u hu => ho u (by simp [hu])) h3⟩
    refine hk.word q j h1 ?_
    cases t with
    | mk k z w b ks => rw [Rep] at h2; exact h2.1
end
theorem last_lt {A : List (List Int)} (h : 1 ≤ A.length) : lastP A < A.length ∧ lastP A + 1 = A.length := by unfold lastP; omega
/-- Where something is placed, and what says so. -/
theorem placeP_pts (size : Int) (t : Nd) (S : Lay) (s i : Nat) (h1 : 1 ≤ S.A.length) (hs : s < S.A.length) (hi : i < len2 S.A s) :
    (∀ q j, j < len2 S.A q → ¬ (q = s ∧ j = i) → w2 (placeP size t S s i).S.A q j = w2 S.A q j) ∧
    (((placeP size t S s i).seg = s ∧ w2 (placeP size t S s i).S.A s i = t.near (((placeP size t S s i).at_ : Int) - i - 1)) ∨
      (∃ p, p + 1 = (placeP size t S s i).at_ ∧ len2 S.A (placeP size t S s i).seg ≤ p ∧ p < len2 (placeP size t S s i).S.A (placeP size t S s i).seg ∧ w2 (placeP size t S s i).S.A s i = farP (placeP size t S s i).seg p ∧ w2 (placeP size t S s i).S.A (placeP size t S s i).seg p = t.near 0)) := by
  obtain ⟨hl, hl1⟩ := last_lt h1
  unfold placeP
  by_cases h : s = lastP S.A ∧ (len2 S.A (lastP S.A) : Int) + t.need ≤ size
  · simp only [if_pos h]
    refine ⟨fun q j hj hn => by rw [w2_set _ hs hi, if_neg hn], .inl ⟨h.1.symm, ?_⟩⟩
    rw [w2_set _ hs hi, if_pos ⟨rfl, rfl⟩]
  · by_cases hn : newSeg size t S.A s = true
    · simp only [if_neg h, if_pos hn, moreP]
      have hq : lastP S.A + 1 ≤ (setP S.A s i (farP ((lastP S.A : Int) + 1) 0)).length := by rw [setP_length]; omega
      have hz : len2 (setP S.A s i (farP ((lastP S.A : Int) + 1) 0)) (lastP S.A + 1) = 0 := len2_none (by rw [setP_length]; omega)
      refine ⟨fun q j hj hn2 => ?_, .inr ⟨0, rfl, ?_, ?_, ?_, ?_⟩⟩
      · have hql := len2_lt hj
        rw [w2_grow _ hq, if_neg (by omega), w2_set _ hs hi, if_neg hn2]
      · rw [len2_none (by omega)]; exact Nat.le_refl _
      · simp only [len2] at hz ⊢
        rw [growA_getD _ _ _ _ hq, if_pos rfl, List.length_append, hz]
        simp
      · rw [w2_grow _ hq, if_neg (by omega), w2_set _ hs hi, if_pos ⟨rfl, rfl⟩]
        rfl
      · rw [w2_grow _ hq, if_pos ⟨rfl, by omega⟩, hz]
        rfl
    · simp only [if_neg h, if_neg hn, moreP]
      have hq : lastP S.A ≤ (setP S.A s i (farP (lastP S.A) (len2 S.A (lastP S.A)))).length := by rw [setP_length]; omega
      have hz := setP_len2 S.A s i (lastP S.A) (farP (lastP S.A) (len2 S.A (lastP S.A)))
      refine ⟨fun q j hj hn2 => ?_, .inr ⟨len2 S.A (lastP S.A), rfl, Nat.le_refl _, ?_, ?_, ?_⟩⟩
      · rw [w2_grow _ hq, if_neg (by rw [hz]; rintro ⟨rfl, h9⟩; omega), w2_set _ hs hi, if_neg hn2]
      · have hg : len2 (growA (setP S.A s i (farP (lastP S.A) (len2 S.A (lastP S.A)))) (lastP S.A) [t.near 0]) (lastP S.A) = len2 S.A (lastP S.A) + 1 := by
          have hz' : ((setP S.A s i (farP (lastP S.A) (len2 S.A (lastP S.A)))).getD (lastP S.A) []).length = len2 S.A (lastP S.A) := hz
          rw [len2, growA_getD _ _ _ _ hq, if_pos rfl, List.length_append, hz']; rfl
        omega
      · rw [w2_grow _ hq, if_neg (by rw [hz]; rintro ⟨rfl, h9⟩; omega), w2_set _ hs hi, if_pos ⟨rfl, rfl⟩]
      · rw [w2_grow _ hq, if_pos ⟨rfl, by omega⟩, hz, Nat.sub_self]
        rfl
theorem lay_not_full {size : Int} {ts : List Nd} {S : Lay} {s i : Nat} (h : (Nd.lays size ts S s i).full = false) : S.full = false := by
  cases hS : S.full with
  | false => rfl
  | true => rw [Nd.lays_full hS] at h; rw [hS] at h; exact h
mutual
theorem Nd.lay_rep (size : Int) : ∀ (t : Nd) (S : Lay) (s i : Nat), t.fine → 1 ≤ S.A.length → s < S.A.length → i < len2 S.A s → w2 S.A s i = 0 → (t.lay size S s i).full = false →
    (∀ q j, j < len2 S.A q → ¬ (q = s ∧ j = i) → w2 (t.lay size S s i).A q j = w2 S.A q j) ∧ Rep (t.lay size S s i).A (len2 S.A) t s i
  | .mk k z w b ks, S, s, i, hf, h1, hs, hi, hz, hfull => by
    have ho := Nd.fine_own hf
    obtain ⟨hkd, hlw, hlb, hlk, hnn, hnm, hkn, hb1⟩ := Nd.own_b ho
    have hSf : S.full = false := by
      cases hS : S.full with
      | false => rfl
      | true => rw [Nd.lay_full hS] at hfull; rw [hS] at hfull; exact hfull
    by_cases hk : k = 0
    · have hl : (Nd.mk k z w b ks).lay size S s i = S := by simp only [Nd.lay]; rw [if_pos (.inl hk)]
      rw [hl]
      refine ⟨fun q j _ _ => rfl, ?_⟩
      rw [Rep, if_pos hk]
      exact ⟨hi, hs, hz⟩
    · have hbl := body_len ho hk
      by_cases hn : (Nd.mk k z w b ks).need = 0
      · have hl : (Nd.mk k z w b ks).lay size S s i = ⟨setP S.A s i ((Nd.mk k z w b ks).near (if k = 1 then -1 else 0)), S.full⟩ := by
          simp only [Nd.lay]; rw [if_neg (by rw [hSf]; simp [hk]), if_pos hn]
        have hks : ks = [] := List.eq_nil_of_length_eq_zero (by omega)
        rw [hl]
        refine ⟨fun q j hj hn2 => by rw [w2_set _ hs hi, if_neg hn2], ?_⟩
        rw [Rep, if_neg hk]
        refine ⟨by rw [setP_len2]; exact hi, by rw [setP_length]; exact hs, s, if k = 1 then i else i + 1, .inl ⟨rfl, ?_⟩, by rw [setP_length]; exact hs, fun h => absurd hn h, fun _ h => ⟨rfl, if_pos h⟩, ?_, fun j hj => by omega, ?_⟩
        · rw [w2_set _ hs hi, if_pos ⟨rfl, rfl⟩]
          congr 1
          split <;> omega
        · rw [setP_len2, hn]
          split <;> (simp only [Int.toNat_zero, Nat.add_zero]; omega)
        · rw [hks]; trivial
      · obtain ⟨hkeep, hpts⟩ := placeP_pts size (.mk k z w b ks) S s i h1 hs hi
        have hpo := placeP_ok size (.mk k z w b ks) S s i h1
        have hl : (Nd.mk k z w b ks).lay size S s i = Nd.lays size ks (moreP size (placeP size (.mk k z w b ks) S s i).S (placeP size (.mk k z w b ks) S s i).seg (Nd.mk k z w b ks).content) (placeP size (.mk k z w b ks) S s i).seg ((placeP size (.mk k z w b ks) S s i).at_ + ((Nd.mk k z w b ks).need.toNat - ks.length)) := by
          simp only [Nd.lay]; rw [if_neg (by rw [hSf]; simp [hk]), if_neg hn]
        rw [hl] at hfull ⊢
        obtain ⟨hg, hseg, hat, -, -⟩ := hpo
        generalize (placeP size (.mk k z w b ks) S s i).S = P at *
        generalize (placeP size (.mk k z w b ks) S s i).seg = sg at *
        generalize (placeP size (.mk k z w b ks) S s i).at_ = at_ at *
        have hcl : (Nd.mk k z w b ks).content.length = (Nd.mk k z w b ks).need.toNat := by
          simp only [Nd.content, List.length_append, List.length_replicate]
          rw [List.length_append] at hbl
          omega
        have hwg : ∀ q j, w2 (moreP size P sg (Nd.mk k z w b ks).content).A q j = if q = sg ∧ len2 P.A sg ≤ j then (Nd.mk k z w b ks).content.getD (j - len2 P.A sg) 0 else w2 P.A q j := fun q j => w2_grow _ (Nat.le_of_lt hseg) q j
        have hgl : ∀ q, len2 (moreP size P sg (Nd.mk k z w b ks).content).A q = if q = sg then len2 P.A sg + (Nd.mk k z w b ks).need.toNat else len2 P.A q := by
          intro q
          simp only [moreP, len2]
          rw [growA_getD _ _ _ _ (Nat.le_of_lt hseg)]
          split
          · rw [List.length_append, hcl]
          · rfl
        have hgs : P.A.length ≤ (moreP size P sg (Nd.mk k z w b ks).content).A.length := growA_len _ _ _
        have hslot : (Nd.mk k z w b ks).need.toNat - ks.length = (w ++ chunksP b).length := by omega
        rw [hslot] at hfull ⊢
        have hsl : len2 S.A sg ≤ at_ := by rw [hat]; exact hg.seg sg
        have hlen2 : ∀ q, len2 S.A q ≤ len2 (moreP size P sg (Nd.mk k z w b ks).content).A q := fun q => by
          rw [hgl]
          have := hg.seg q
          split
          · subst_vars; omega
          · exact this
        have hco : ∀ j, (Nd.mk k z w b ks).content.getD j 0 = if (w ++ chunksP b).length ≤ j then 0 else (w ++ chunksP b).getD j 0 := by
          intro j
          simp only [Nd.content]
          rw [getD_app]
          split
          · simp only [List.getD_eq_getElem?_getD, List.getElem?_replicate]
            split <;> rfl
          · rfl
        obtain ⟨hkeep2, hreps⟩ := Nd.lays_rep size ks (moreP size P sg (Nd.mk k z w b ks).content) sg (at_ + (w ++ chunksP b).length) (fine_kids hf) (Nat.le_trans (Nat.le_trans h1 hg.len) hgs) (Nat.lt_of_lt_of_le hseg hgs)
          (by rw [hgl, if_pos rfl, ← hat]; omega) (fun j hj => by rw [hwg, if_pos ⟨rfl, by omega⟩, hco, if_pos (by omega)]) hfull (len2 S.A) hlen2 (by omega)
        have hgr := (Nd.lays_ok size ks (moreP size P sg (Nd.mk k z w b ks).content) sg (at_ + (w ++ chunksP b).length) (Nat.le_trans (Nat.le_trans h1 hg.len) hgs)).grew
        generalize (Nd.lays size ks (moreP size P sg (Nd.mk k z w b ks).content) sg (at_ + (w ++ chunksP b).length)) = R at *
        have hold : ∀ q j, j < len2 P.A q → w2 R.A q j = w2 P.A q j := fun q j hj => by
          rw [hkeep2 q j (by rw [hgl]; split <;> (first | omega | (subst_vars; omega))) (by rintro ⟨rfl, h5, h6⟩; omega), hwg, if_neg (by rintro ⟨rfl, h5⟩; omega)]
        refine ⟨fun q j hj hn2 => ?_, ?_⟩
        · rw [hold q j (Nat.lt_of_lt_of_le hj (hg.seg q)), hkeep q j hj hn2]
        · rw [Rep, if_neg hk]
          have hi2 : i < len2 P.A s := Nat.lt_of_lt_of_le hi (hg.seg s)
          refine ⟨Nat.lt_of_lt_of_le hi2 (Nat.le_trans ?_ (hgr.seg s)), Nat.lt_of_lt_of_le hs (Nat.le_trans hg.len (Nat.le_trans hgs hgr.len)), sg, at_, ?_, Nat.lt_of_lt_of_le hseg (Nat.le_trans hgs hgr.len), fun _ => hsl, fun h => absurd h hn, ?_, fun j hj => ?_, hreps⟩
          · rw [hgl]; split
            · subst_vars; omega
            · exact Nat.le_refl _
          · rcases hpts with ⟨h5, h6⟩ | ⟨p, h5, h6, h7, h8, h9⟩
            · exact .inl ⟨h5, by rw [hold s i hi2, h6]⟩
            · exact .inr ⟨p, hn, h5, h6, Nat.lt_of_lt_of_le h7 (Nat.le_trans (by rw [hgl, if_pos rfl]; omega) (hgr.seg sg)), by rw [hold s i hi2, h8], by rw [hold sg p h7, h9]⟩
          · have := hgr.seg sg
            rw [hgl, if_pos rfl] at this
            omega
          · rw [hkeep2 sg (at_ + j) (by rw [hgl, if_pos rfl]; omega) (by rintro ⟨-, h5, h6⟩; omega), hwg, if_pos ⟨rfl, by omega⟩, hco, if_neg (by omega)]
            congr 1
            omega
theorem Nd.lays_rep (size : Int) : ∀ (ts : List Nd) (S : Lay) (s i : Nat), (∀ t ∈ ts, t.fine) → 1 ≤ S.A.length → s < S.A.length → i + ts.length ≤ len2 S.A s → (∀ j, j < ts.length → w2 S.A s (i + j) = 0) → (Nd.lays size ts S s i).full = false → ∀ (B : Nat → Nat), (∀ q, B q ≤ len2 S.A q) → B s ≤ i →
    (∀ q j, j < len2 S.A q → ¬ (q = s ∧ i ≤ j ∧ j < i + ts.length) → w2 (Nd.lays size ts S s i).A q j = w2 S.A q j) ∧ Reps (Nd.lays size ts S s i).A B ts s i
  | [], S, s, i, _, _, _, _, _, _, _, _, _ => ⟨fun _ _ _ _ => rfl, trivial⟩
  | t :: ts, S, s, i, hf, h1, hs, hi, hz, hfull, B, hB, hBs => by
    simp only [List.length_cons] at hi hz
    simp only [Nd.lays] at hfull ⊢
    have hf1 := lay_not_full hfull
    obtain ⟨k1, r1⟩ := Nd.lay_rep size t S s i (hf t (by simp)) h1 hs (by omega) (by simpa using hz 0 (by omega)) hf1
    have g1 := (Nd.lay_ok size t S s i h1).grew
    obtain ⟨k2, r2⟩ := Nd.lays_rep size ts (t.lay size S s i) s (i + 1) (fun u hu => hf u (by simp [hu])) (Nat.le_trans h1 g1.len) (Nat.lt_of_lt_of_le hs g1.len) (by have := g1.seg s; omega)
      (fun j hj => by rw [k1 s (i + 1 + j) (by omega) (by omega)]; have := hz (j + 1) (by omega); rw [← this]; congr 1; omega) hfull B (fun q => Nat.le_trans (hB q) (g1.seg q)) (by omega)
    have g2 := (Nd.lays_ok size ts (t.lay size S s i) s (i + 1) (Nat.le_trans h1 g1.len)).grew
    refine ⟨fun q j hj hn => ?_, ?_⟩
    · simp only [List.length_cons] at hn
      rw [k2 q j (Nat.lt_of_lt_of_le hj (g1.seg q)) (by omega), k1 q j hj (by omega)]
    · rw [Reps]
      refine ⟨⟨hBs, Rep.keep ⟨g2.len, g2.seg, fun q j h5 h6 => k2 q j h6 ?_⟩ hB t s i (hf t (by simp)) ?_ r1⟩, r2⟩
      · rintro ⟨rfl, h7, h8⟩; omega
      · exact k2 s i (Nat.lt_of_lt_of_le (by omega) (g1.seg s)) (by omega)
end
/-! ### decoding it -/
mutual
def Nd.cst : Nd → Int
  | .mk k z w b ks => 1 + (Nd.mk k z w b ks).need + Nd.cstL ks
def Nd.cstL : List Nd → Int
  | [] => 0
  | t :: ts => t.cst + Nd.cstL ts
end
mutual
theorem Nd.cst_pos : ∀ (t : Nd), 1 ≤ t.cst
  | .mk k z w b ks => by have := Nd.need_nn (.mk k z w b ks); have := Nd.cstL_nn ks; rw [Nd.cst]; omega
theorem Nd.cstL_nn : ∀ (ts : List Nd), 0 ≤ Nd.cstL ts
  | [] => by rw [Nd.cstL]; exact Int.le_refl _
  | t :: ts => by have := Nd.cst_pos t; have := Nd.cstL_nn ts; rw [Nd.cstL]; omega
end
theorem kidsD_succ {f : Int → Int → Int × Nd × Int} {a p r : Int} {n : Nat} {ks : List Nd} (h : kidsD f a p n = (r, ks, 0)) : kidsD f a p (n + 1) = ((f (a + (n : Int)) r).1, ks ++ [(f (a + (n : Int)) r).2.1], (f (a + (n : Int)) r).2.2) := by
  rw [kidsD, h, if_neg (by simp)]
theorem kidsD_head {f : Int → Int → Int × Nd × Int} {a p p1 : Int} {t : Nd} (h : f a p = (p1, t, 0)) : ∀ (n : Nat) (p2 : Int) (ts : List Nd), kidsD f (a + 1) p1 n = (p2, ts, 0) → kidsD f a p (n + 1) = (p2, t :: ts, 0)
  | 0, p2, ts, hk => by
    simp only [kidsD, Prod.mk.injEq] at hk
    obtain ⟨rfl, rfl, -⟩ := hk
    rw [kidsD_succ (show kidsD f a p 0 = (p, [], 0) from rfl), show a + ((0 : Nat) : Int) = a from by omega, h]
    rfl
  | n + 1, p2, ts, hk => by
    by_cases h0 : (kidsD f (a + 1) p1 n).2.2 ≠ 0
    · rw [kidsD, if_pos h0] at hk; rw [hk] at h0; exact absurd rfl h0
    · have hr : kidsD f (a + 1) p1 n = ((kidsD f (a + 1) p1 n).1, (kidsD f (a + 1) p1 n).2.1, 0) := Prod.ext rfl (Prod.ext rfl (by simpa using h0))
      rw [kidsD_succ hr] at hk
      have ih := kidsD_head h n _ _ hr
      rw [kidsD_succ ih, show a + ((n + 1 : Nat) : Int) = a + 1 + (n : Int) from by omega]
      simp only [Prod.mk.injEq] at hk
      obtain ⟨h4, h5, h6⟩ := hk
      rw [h4, h6, ← h5]
      rfl
theorem follow_says {s : Src} {seg a x : Int} {p : Pt} (hx : Says x p) (h0 : s.word seg a = (x, 0)) (hn : nearP p = true) (he : wordsE (objP p seg (a + 1 + p.off)).pt = 0) (hw : withinP s.sizes seg (a + 1 + p.off) (wordsN (objP p seg (a + 1 + p.off)).pt) = true) : followS s seg a = (objP p seg (a + 1 + p.off), 0) := by
  have hp := ptrS_says hx h0
  have e1 : (ptrS s seg a).1 = p := by rw [hp]
  have e2 : (ptrS s seg a).2 = 0 := by rw [hp]
  unfold followS
  rw [e1, e2]
  refine (if_neg ?_).trans ((if_pos hn).trans ?_)
  · have : p.kind = 1 ∨ p.kind = 2 := by simpa [nearP] using hn
    omega
  · unfold foundS
    rw [he, hw]
    rfl
theorem follow_land {s : Src} {seg a x y q pd : Int} {p : Pt} (hy : Says y ⟨3, pd, 0, 0, 0, 0, q, false⟩) (h0 : s.word seg a = (y, 0)) (hx : Says x p) (h1 : s.word q pd = (x, 0)) (hn : nearP p = true) (he : wordsE (objP p q (pd + 1 + p.off)).pt = 0) (hw : withinP s.sizes q (pd + 1 + p.off) (wordsN (objP p q (pd + 1 + p.off)).pt) = true) : followS s seg a = (objP p q (pd + 1 + p.off), 0) := by
  have hp := ptrS_says hy h0
  have hq := ptrS_says hx h1
  have e1 : (ptrS s seg a).1 = ⟨3, pd, 0, 0, 0, 0, q, false⟩ := by rw [hp]
  have e2 : (ptrS s seg a).2 = 0 := by rw [hp]
  have f1 : (ptrS s q pd).1 = p := by rw [hq]
  have f2 : (ptrS s q pd).2 = 0 := by rw [hq]
  unfold followS
  rw [e1, e2]
  refine (if_neg (by simp)).trans ((if_neg (by simp [nearP])).trans ((if_neg (by simp)).trans ?_))
  unfold landedS
  show (if (ptrS s q pd).2 ≠ 0 then _ else if nearP (ptrS s q pd).1 = false then _ else _) = _
  rw [f1, f2]
  refine (if_neg (by decide)).trans ((if_neg (by rw [hn]; decide)).trans ?_)
  unfold foundS
  show (if wordsE (objP p q (pd + 1 + p.off)).pt ≠ 0 then _ else if withinP s.sizes q (pd + 1 + p.off) _ = false then _ else _) = _
  rw [he, hw]
  rfl
theorem objP_ptr (t : Nd) (off q a : Int) : objP (t.ptr off) q a = objP (t.ptr 0) q a := by
  cases t with
  | mk k z w b ks =>
    simp only [Nd.ptr]
    split
    · rfl
    · split <;> rfl
/-- Its numbers. -/
theorem own2_words {k z : Int} {w b : List Int} {ks : List Nd} {q a : Int} (h : Own2 k z w b ks q a) : wordsE (objP ((Nd.mk k z w b ks).ptr 0) q a).pt = 0 ∧ wordsN (objP ((Nd.mk k z w b ks).ptr 0) q a).pt = (Nd.mk k z w b ks).need ∧ wordsO (objP ((Nd.mk k z w b ks).ptr 0) q a) = (Nd.mk k z w b ks).need ∧
    kidN (objP ((Nd.mk k z w b ks).ptr 0) q a) = ks.length ∧ (ks = [] ∨ kidA (objP ((Nd.mk k z w b ks).ptr 0) q a) = a + ((w ++ chunksP b).length : Nat)) := by
  have key : ∀ (o : Ob) (n : Int), o.kind ≠ 3 → wordsE o.pt = 0 → wordsN o.pt = n → wordsE o.pt = 0 ∧ wordsN o.pt = n ∧ wordsO o = n := by
    intro o n h3 h1 h2
    exact ⟨h1, h2, by unfold wordsO; rw [if_neg h3, h2]⟩
  cases h with
  | st h1 h2 h3 h4 h5 h6 =>
    rw [h4, h5]
    have := key ⟨1, q, a, w.length, ks.length, 0, 0⟩ ((w.length : Int) + ks.length) (by simp) (by rw [wordsE_ob, wordsE_mk]; rfl) (by rw [wordsN_ob, wordsN_mk, if_neg (by simp), if_pos rfl, wrap_in (by simp only [inR]; omega)])
    refine ⟨this.1, this.2.1, this.2.2, rfl, ?_⟩
    subst h3
    exact .inr (by simp [kidA, chunksP])
  | bt h1 h2 h3 h4 h5 h6 h7 =>
    rw [h5, h6]
    have := key ⟨2, q, a, 0, 0, 2, b.length⟩ (((b.length : Int) + 7) / 8) (by simp) (by rw [wordsE_ob, wordsE_mk]; rfl) (by
      rw [wordsN_ob, wordsN_mk, if_neg (by simp), if_neg (by simp), if_neg (by simp), if_pos rfl, if_pos rfl, wrap_in (by simp only [inR]; omega : inR .i64 ((b.length : Int) + 8)), wrap_in (by simp only [inR]; omega : inR .i64 ((b.length : Int) + 8 - 1)), Int.tdiv_eq_ediv_of_nonneg (by omega), wrap_in (by simp only [inR]; omega : inR .i64 (((b.length : Int) + 8 - 1) / 8))]
      congr 1
      omega)
    subst h3; subst h4
    exact ⟨this.1, this.2.1, this.2.2, rfl, .inl rfl⟩
  | wd h1 h2 h3 h4 h5 h6 h7 =>
    rw [h5, h6]
    have := key ⟨2, q, a, 0, 0, 5, w.length⟩ (w.length : Int) (by simp) (by rw [wordsE_ob, wordsE_mk]; rfl) (by rw [wordsN_ob, wordsN_mk]; rfl)
    subst h3; subst h4
    exact ⟨this.1, this.2.1, this.2.2, rfl, .inl rfl⟩
  | pt h1 h2 h3 h4 h5 h6 h7 =>
    rw [h5, h6]
    have := key ⟨2, q, a, 0, 0, 6, ks.length⟩ (ks.length : Int) (by simp) (by rw [wordsE_ob, wordsE_mk]; rfl) (by rw [wordsN_ob, wordsN_mk]; rfl)
    subst h3; subst h4
    exact ⟨this.1, this.2.1, this.2.2, rfl, .inr (by simp [kidA, chunksP])⟩
/-! ### words and bytes as they lie -/
mutual
def Nd.u8 : Nd → Prop
  | .mk _ _ _ b ks => (∀ x ∈ b, inR .u8 x) ∧ Nd.u8L ks
def Nd.u8L : List Nd → Prop
  | [] => True
  | t :: ts => t.u8 ∧ Nd.u8L ts
end
mutual
theorem NodeR.u8 {w : World} : ∀ {c : List Value} {t : Nd}, NodeR w c t → t.u8
  | _, _, .mk h1 h2 h3 h4 h5 h6 h7 h8 => ⟨h6, KidsR.u8 h8⟩
theorem KidsR.u8 {w : World} : ∀ {c : List Value} {t : List Nd}, KidsR w c t → Nd.u8L t
  | _, _, .nil => trivial
  | _, _, .cons h1 h2 => ⟨NodeR.u8 h1, KidsR.u8 h2⟩
end
theorem wordsS_at {A : List (List Int)} {q a : Nat} {l : List Int} (hq : q < A.length) (hl : a + l.length ≤ len2 A q) (h : ∀ j, j < l.length → w2 A q (a + j) = l.getD j 0) : wordsS (wholeS A) (q : Int) (a : Int) l.length = l := by
  refine List.ext_getElem (wordsS_len _ _ _ _) fun j h1 h2 => ?_
  have hw : wordA A (q : Int) (((a + j : Nat)) : Int) = (w2 A q (a + j), 0) := word_at hq (by omega)
  simp only [wordsS, List.getElem_map, List.getElem_range]
  have e : ((a : Int) + (j : Int)) = ((a + j : Nat) : Int) := by omega
  show (wordA A q ((a : Int) + (j : Int))).1 = _
  rw [e, hw, h j h2, getD_at h2]
theorem flat8_at : ∀ (l : List Int) (i : Nat), i < 8 * l.length → (l.flatMap byt8).getD i 0 = byt1 (l.getD (i / 8) 0) (i % 8)
  | [], i, h => by simp at h
  | x :: l, i, h => by
    rw [List.flatMap_cons, getD_app, byt8_len]
    simp only [List.length_cons] at h
    by_cases hi : 8 ≤ i
    · rw [if_pos hi, flat8_at l (i - 8) (by omega), show i / 8 = (i - 8) / 8 + 1 from by omega, List.getD_cons_succ, show (i - 8) % 8 = i % 8 from by omega]
    · rw [if_neg hi, show i / 8 = 0 from by omega, List.getD_cons_zero, show i % 8 = i from by omega]
      have hl : i < (byt8 x).length := by rw [byt8_len]; omega
      rw [getD_at hl]
      simp [byt8]
theorem chunks_len (b : List Int) : (chunksP b).length = (b.length + 7) / 8 := by simp [chunksP]
theorem chunks_bytes {b : List Int} (hb : isU8 b) : ((chunksP b).flatMap byt8).take b.length = b := by
  have hl : ((chunksP b).flatMap byt8).length = 8 * ((b.length + 7) / 8) := by rw [flat8_len, chunks_len]
  refine List.ext_getElem (by rw [List.length_take, hl]; omega) fun i h1 h2 => ?_
  have h3 : i < ((chunksP b).flatMap byt8).length := by rw [hl]; omega
  rw [List.getElem_take, ← getD_at h3, flat8_at _ _ (by rw [chunks_len]; omega), ← getD_at h2, ← chunk_digit hb h2]
  have h4 : i / 8 < (chunksP b).length := by rw [chunks_len]; omega
  rw [getD_at h4]
  simp only [chunksP, List.getElem_map, List.getElem_range, byt1]
  rw [show (2 : Int) ^ (8 * (i % 8)) = 256 ^ (i % 8) from by rw [← pow_8, Nat.mul_comm]]
theorem own2_read {A : List (List Int)} {k z : Int} {w b : List Int} {ks : List Nd} {q a : Nat} (h : Own2 k z w b ks q a) (hb : isU8 b) (hq : q < A.length) (hl : a + (w ++ chunksP b).length ≤ len2 A q) (hw : ∀ j, j < (w ++ chunksP b).length → w2 A q (a + j) = (w ++ chunksP b).getD j 0) :
    nodL (wholeS A) (objP ((Nd.mk k z w b ks).ptr 0) q a) = w ∧ nodB (wholeS A) (objP ((Nd.mk k z w b ks).ptr 0) q a) = b ∧ (objP ((Nd.mk k z w b ks).ptr 0) q a).kind = k ∧ (objP ((Nd.mk k z w b ks).ptr 0) q a).size = z := by
  have all := wordsS_at hq hl hw
  cases h with
  | st h1 h2 h3 h4 h5 h6 =>
    subst h3
    rw [h4]
    simp only [chunksP, List.length_nil, Nat.zero_add, Nat.reduceDiv, List.range_zero, List.map_nil, List.append_nil] at all
    exact ⟨all, rfl, h1.symm, h2.symm⟩
  | bt h1 h2 h3 h4 h5 h6 h7 =>
    subst h3
    rw [h5]
    simp only [List.nil_append] at all
    rw [chunks_len] at all
    refine ⟨rfl, ?_, h1.symm, h2.symm⟩
    show bytesS (wholeS A) q a ((b.length : Int)).toNat = b
    rw [Int.toNat_natCast, bytesS, all, chunks_bytes hb]
  | wd h1 h2 h3 h4 h5 h6 h7 =>
    subst h3
    rw [h5]
    simp only [chunksP, List.length_nil, Nat.zero_add, Nat.reduceDiv, List.range_zero, List.map_nil, List.append_nil] at all
    exact ⟨all, rfl, h1.symm, h2.symm⟩
  | pt h1 h2 h3 h4 h5 h6 h7 =>
    subst h3; subst h4
    rw [h5]
    exact ⟨rfl, rfl, h1.symm, h2.symm⟩
theorem ptr_off (t : Nd) (off : Int) : (t.ptr off).off = off := by
  cases t with
  | mk k z w b ks =>
    simp only [Nd.ptr]
    split
    · rfl
    · split <;> rfl
theorem ptr_near {k z : Int} {w b : List Int} {ks : List Nd} {q a : Int} (h : Own2 k z w b ks q a) (off : Int) : nearP ((Nd.mk k z w b ks).ptr off) = true := by
  have hk : k = 1 ∨ k = 2 := by cases h <;> simp [*]
  have : ((Nd.mk k z w b ks).ptr off).kind = k := by
    simp only [Nd.ptr]
    split
    · rfl
    · split <;> rfl
  simp [nearP, this, hk]
theorem ptr_ok {k z : Int} {w b : List Int} {ks : List Nd} {q a : Int} (h : Own2 k z w b ks q a) {off : Int} (h0 : -5000 ≤ off) (h1 : off ≤ 5000) (hz : (Nd.mk k z w b ks).need = 0 → k = 1 → off ≠ 0) : okP ((Nd.mk k z w b ks).ptr off) := by
  cases h with
  | st h2 h3 h4 h5 h6 h7 =>
    have hp : (Nd.mk k z w b ks).ptr off = ⟨1, off, w.length, ks.length, 0, 0, 0, false⟩ := by simp [Nd.ptr, h2]
    rw [hp]
    exact .inl ⟨rfl, by simp only []; omega, by simp only []; omega, by simp only []; omega, by simp only []; omega, by simp only []; omega, by simp only []; omega, by
      rintro ⟨g1, g2, g3⟩
      simp only [] at g1 g2 g3
      exact hz (by omega) h2 g1⟩
  | bt h2 h3 h4 h5 h6 h7 h8 =>
    have hp : (Nd.mk k z w b ks).ptr off = ⟨2, off, 0, 0, 2, b.length, 0, false⟩ := by simp [Nd.ptr, h2, h3, h4, h5]
    rw [hp]
    exact .inr (.inl ⟨rfl, by simp only []; omega, by simp only []; omega, by simp, by simp, by simp only []; omega, by simp only []; omega⟩)
  | wd h2 h3 h4 h5 h6 h7 h8 =>
    have hp : (Nd.mk k z w b ks).ptr off = ⟨2, off, 0, 0, 5, w.length, 0, false⟩ := by simp [Nd.ptr, h2, h3, h4, h5]
    rw [hp]
    exact .inr (.inl ⟨rfl, by simp only []; omega, by simp only []; omega, by simp, by simp, by simp only []; omega, by simp only []; omega⟩)
  | pt h2 h3 h4 h5 h6 h7 h8 =>
    have hp : (Nd.mk k z w b ks).ptr off = ⟨2, off, 0, 0, 6, ks.length, 0, false⟩ := by simp [Nd.ptr, h2, h3, h4, h5]
    rw [hp]
    exact .inr (.inl ⟨rfl, by simp only []; omega, by simp only []; omega, by simp, by simp, by simp only []; omega, by simp only []; omega⟩)
/-- The word of a thing leads to it. -/
theorem rep_follow {A : List (List Int)} {B : Nat → Nat} (hA : A.length ≤ 16) (hl : ∀ q, len2 A q ≤ 4096) {k z : Int} {w b : List Int} {ks : List Nd} (ho : (Nd.mk k z w b ks).own = true) (hk : ¬ k = 0) {s i q a : Nat} (hs : s < A.length) (hi : i < len2 A s) (hp : Pts A B (.mk k z w b ks) s i q a) (hq : q < A.length)
    (hz : (Nd.mk k z w b ks).need = 0 → k = 1 → q = s ∧ a = i) (hlen : a + (Nd.mk k z w b ks).need.toNat ≤ len2 A q) : followS (wholeS A) (s : Int) (i : Int) = (objP ((Nd.mk k z w b ks).ptr 0) q a, 0) := by
  obtain ⟨hkd, hlw, hlb, hlk, hnn, hnm, hkn, hb1⟩ := Nd.own_b ho
  have h2 := own2 ho hk (q : Int) (a : Int)
  obtain ⟨e1, e2, e3, e4, e5⟩ := own2_words h2
  have hlq := hl q
  have hls := hl s
  have hwi : withinP (wholeS A).sizes (q : Int) (a : Int) (Nd.mk k z w b ks).need = true := by
    have hg : (wholeS A).sizes.getD q 0 = (len2 A q : Int) := by
      rw [getD_at (by simpa [wholeS] using hq)]
      simp only [wholeS, List.getElem_map, len2]
      rw [getD_at hq]
    unfold withinP addOk
    rw [Int.toNat_natCast, hg]
    simp only [Bool.and_eq_true, decide_eq_true_eq, wholeS, List.length_map]
    omega
  rcases hp with ⟨rfl, hw⟩ | ⟨p, hne0, hpa, hBp, hpl, hw, hw2⟩
  · have hword : (wholeS A).word (q : Int) (i : Int) = (encR ((Nd.mk k z w b ks).ptr ((a : Int) - i - 1)), 0) := by
      have := word_at hs hi
      show wordA A _ _ = _
      rw [this]
      exact congrArg (fun x => (x, (0 : Int))) hw
    have hsay := says_enc (ptr_ok h2 (off := (a : Int) - i - 1) (by omega) (by omega) (fun g1 g2 => by have := (hz g1 g2).2; omega))
    have hat : (i : Int) + 1 + ((Nd.mk k z w b ks).ptr ((a : Int) - i - 1)).off = (a : Int) := by rw [ptr_off]; omega
    have := follow_says hsay hword (ptr_near h2 _) (by rw [hat, objP_ptr, e1]) (by rw [hat, objP_ptr, e2]; exact hwi)
    rw [this, hat, objP_ptr]
  · have hword : (wholeS A).word (s : Int) (i : Int) = (encR ⟨3, (p : Int), 0, 0, 0, 0, (q : Int), false⟩, 0) := by
      have := word_at hs hi
      show wordA A _ _ = _
      rw [this]
      exact congrArg (fun x => (x, (0 : Int))) hw
    have hword2 : (wholeS A).word (q : Int) (p : Int) = (encR ((Nd.mk k z w b ks).ptr 0), 0) := by
      have := word_at hq hpl
      show wordA A _ _ = _
      rw [this]
      exact congrArg (fun x => (x, (0 : Int))) hw2
    have hsay := says_enc (ptr_ok h2 (off := 0) (by omega) (by omega) (fun g1 _ => absurd g1 hne0))
    have hfar : Says (encR ⟨3, (p : Int), 0, 0, 0, 0, (q : Int), false⟩) ⟨3, (p : Int), 0, 0, 0, 0, (q : Int), false⟩ := says_enc (.inr (.inr (.inl ⟨rfl, by simp only []; omega, by simp only []; omega, by simp only []; omega, by simp only []; omega⟩)))
    have hat : (p : Int) + 1 + ((Nd.mk k z w b ks).ptr 0).off = (a : Int) := by rw [ptr_off]; omega
    have := follow_land hfar hword hsay hword2 (ptr_near h2 _) (by rw [hat, e1]) (by rw [hat, e2]; exact hwi)
    rw [this, hat]
mutual
/-- What lies as it should is decoded as it is. -/
theorem dec_rep {A : List (List Int)} {B : Nat → Nat} (hA : A.length ≤ 16) (hl : ∀ q, len2 A q ≤ 4096) : ∀ (t : Nd) (s i d : Nat) (p : Int), t.right d = true → t.u8 → Rep A B t s i → 0 ≤ p → p + t.cst ≤ 8192 → nodeD (wholeS A) d (s : Int) (i : Int) p = (p + t.cst, t, 0)
  | .mk k z w b ks, s, i, d, p, hr, hu, h, h0, h1 => by
    have hfine : (Nd.mk k z w b ks).fine := ⟨d, hr⟩
    have ho := Nd.fine_own hfine
    rw [Rep] at h
    obtain ⟨hi, hs, h⟩ := h
    rw [Nd.cst] at h1 ⊢
    have hcl := Nd.cstL_nn ks
    have hnn := Nd.need_nn (.mk k z w b ks)
    simp only [Nd.right, Bool.and_eq_true, Bool.not_eq_true', Bool.and_eq_false_iff, decide_eq_false_iff_not] at hr
    obtain ⟨⟨-, hr2⟩, hr3⟩ := hr
    rw [nodeD_eq]
    by_cases hk : k = 0
    · rw [if_pos hk] at h
      have hks : ks = [] := own_kids ho (by omega)
      have hf : followS (wholeS A) (s : Int) (i : Int) = (Ob0, 0) := by
        have hw := word_at hs hi
        have hw' : wordA A (s : Int) (i : Int) = (0, 0) := by rw [hw]; exact congrArg (fun x => (x, (0 : Int))) h
        have hp : ptrS (wholeS A) (s : Int) (i : Int) = (Pt0, 0) := by
          unfold ptrS
          show (if (wordA A (s : Int) (i : Int)).2 ≠ 0 then _ else (decP (wordA A (s : Int) (i : Int)).1, decE (wordA A (s : Int) (i : Int)).1)) = _
          rw [hw']
          rfl
        unfold followS
        rw [hp]
        exact if_pos (.inr rfl)
      simp only [Nd.own, if_pos hk, Bool.and_eq_true, decide_eq_true_eq] at ho
      have hw0 : w = [] := List.eq_nil_of_length_eq_zero (by omega)
      have hb0 : b = [] := List.eq_nil_of_length_eq_zero (by omega)
      have hz0 : z = 0 := ho.1
      subst hw0; subst hb0; subst hz0; subst hk; subst hks
      have hn0 : (Nd.mk 0 0 [] [] []).need = 0 := rfl
      have hc0 : Nd.cstL [] = 0 := by rw [Nd.cstL]
      rw [hn0, hc0] at h1 ⊢
      unfold nodeK
      rw [hf]
      have hw1 : wordsO Ob0 = 0 := rfl
      rw [if_neg (by simp), if_neg (by simp [Ob0]), hw1, if_neg (by omega)]
      rfl
    · rw [if_neg hk] at h
      obtain ⟨q, a, hp, hq, -, hz, hlen, hwd, hreps⟩ := h
      have hbl := body_len ho hk
      have hf := rep_follow hA hl ho hk hs hi hp hq hz hlen
      have h2 := own2 ho hk (q : Int) (a : Int)
      obtain ⟨e1, e2, e3, e4, e5⟩ := own2_words h2
      rw [Nd.u8] at hu
      obtain ⟨f1, f2, f3, f4⟩ := own2_read h2 hu.1 hq (by omega) hwd
      obtain ⟨d1, rfl⟩ : ∃ e, d = e + 1 := ⟨d - 1, by rcases hr2 with h | h <;> omega⟩
      have hkids : kidsD (fun x y => nodeD (wholeS A) d1 (q : Int) x y) (kidA (objP ((Nd.mk k z w b ks).ptr 0) (q : Int) (a : Int))) (p + (1 + (Nd.mk k z w b ks).need)) ks.length = (p + (1 + (Nd.mk k z w b ks).need) + Nd.cstL ks, ks, 0) := by
        rcases e5 with e5 | e5
        · subst e5
          have hc0 : Nd.cstL [] = 0 := by rw [Nd.cstL]
          rw [hc0]
          simp [kidsD]
        · rw [e5, show ((a : Int) + (((w ++ chunksP b).length : Nat) : Int)) = ((a + (w ++ chunksP b).length : Nat) : Int) from by omega]
          exact decs_rep hA hl ks q _ d1 _ hr3 hu.2 hreps (by omega) (by omega)
      unfold nodeK
      rw [hf]
      simp only [] at *
      rw [if_neg (by simp), if_neg (by simp), e3, if_neg (by omega), e4, Int.toNat_natCast]
      have hseg : (objP ((Nd.mk k z w b ks).ptr 0) (q : Int) (a : Int)).seg = q := rfl
      rw [hseg]
      have hF : nodeF (wholeS A) (d1 + 1) (q : Int) = fun x y => nodeD (wholeS A) d1 (q : Int) x y := rfl
      rw [hF, hkids, if_neg (by simp), f1, f2, f3, f4]
      exact Prod.ext (by simp only []; omega) rfl
theorem decs_rep {A : List (List Int)} {B : Nat → Nat} (hA : A.length ≤ 16) (hl : ∀ q, len2 A q ≤ 4096) : ∀ (ts : List Nd) (q j d : Nat) (p : Int), Nd.rights ts d = true → Nd.u8L ts → Reps A B ts q j → 0 ≤ p → p + Nd.cstL ts ≤ 8192 → kidsD (fun x y => nodeD (wholeS A) d (q : Int) x y) (j : Int) p ts.length = (p + Nd.cstL ts, ts, 0)
  | [], q, j, d, p, _, _, _, _, _ => by rw [Nd.cstL, Int.add_zero]; rfl
  | t :: ts, q, j, d, p, hr, hu, h, h0, h1 => by
    rw [Nd.cstL] at h1 ⊢
    have hc := Nd.cst_pos t
    have hcl := Nd.cstL_nn ts
    rw [Reps] at h
    simp only [Nd.rights, Bool.and_eq_true] at hr
    rw [Nd.u8L] at hu
    have h2 := dec_rep hA hl t q j d p hr.1 hu.1 h.1.2 h0 (by omega)
    have h3 := decs_rep hA hl ts q (j + 1) d (p + t.cst) hr.2 hu.2 h.2 (by omega) (by omega)
    rw [List.length_cons, ← Int.add_assoc]
    exact kidsD_head (f := fun x y => nodeD (wholeS A) d (q : Int) x y) h2 ts.length _ ts h3
end
mutual
theorem Nd.cst_needs : ∀ (t : Nd) (l : Nat), t.right l = true → t.cst ≤ 1 + 2 * t.needs
  | .mk k z w b ks, l, h => by
    simp only [Nd.right, Bool.and_eq_true] at h
    obtain ⟨hkd, hlw, hlb, hlk, hnn, hnm, hkn, hb1⟩ := Nd.own_b h.1.1
    have hk := Nd.cstL_needs ks _ h.2
    have h0 : (ks.length : Int) ≤ (Nd.mk k z w b ks).need := by
      by_cases hk0 : k = 0
      · have hks : ks = [] := own_kids h.1.1 (by omega)
        subst hks; simpa using hnn
      · exact hkn hk0
    rw [Nd.cst, Nd.needs]
    omega
theorem Nd.cstL_needs : ∀ (ts : List Nd) (l : Nat), Nd.rights ts l = true → Nd.cstL ts ≤ ts.length + 2 * Nd.needsL ts
  | [], _, _ => by simp [Nd.cstL, Nd.needsL]
  | t :: ts, l, h => by
    simp only [Nd.rights, Bool.and_eq_true] at h
    have h1 := Nd.cst_needs t l h.1
    have h2 := Nd.cstL_needs ts l h.2
    rw [Nd.cstL, Nd.needsL, List.length_cons]
    omega
end
/-- What was built is decoded as it was. -/
theorem back_dec {t : Nd} {size : Int} (hu : t.u8) (hn : t.needs ≤ 4000) (h : (t.build size).2 = 0) : nodeD (wholeS (t.build size).1) 32 0 0 0 = (t.cst, t, 0) := by
  have hfit := Nd.build_fit h
  unfold Nd.build at h hfit ⊢
  by_cases h1 : size < 1 ∨ size > 4096 ∨ t.right 32 = false
  · rw [if_pos h1] at h; exact absurd h (by decide)
  · rw [if_neg h1] at h hfit ⊢
    have hr : t.right 32 = true := by
      cases hc : t.right 32 with
      | true => rfl
      | false => exact absurd (.inr (.inr hc)) h1
    by_cases h2 : (t.lay size ⟨[[0]], false⟩ 0 0).full = true
    · rw [if_pos h2] at h; exact absurd h (by decide)
    · rw [if_neg h2] at h hfit ⊢
      obtain ⟨-, hrep⟩ := Nd.lay_rep size t ⟨[[0]], false⟩ 0 0 ⟨32, hr⟩ (by simp) (by simp) (by simp [len2]) (by simp [w2]) (by simpa using h2)
      have hc := Nd.cst_needs t 32 hr
      have hs4 : size ≤ 4096 := by omega
      replace hfit : Fit size (t.lay size ⟨[[0]], false⟩ 0 0).A := hfit
      have := dec_rep (A := (t.lay size ⟨[[0]], false⟩ 0 0).A) hfit.most (fun q => by have := hfit.seg q; omega) t 0 0 32 0 hr hu hrep (by omega) (by omega)
      rw [Int.zero_add] at this
      exact this
/-! ### what is built are words -/
def AllU (A : List (List Int)) : Prop := ∀ q ∈ A, ∀ x ∈ q, inR .u64 x
mutual
def Nd.u64 : Nd → Prop
  | .mk _ _ w _ ks => (∀ x ∈ w, inR .u64 x) ∧ Nd.u64L ks
def Nd.u64L : List Nd → Prop
  | [] => True
  | t :: ts => t.u64 ∧ Nd.u64L ts
end
mutual
theorem NodeR.u64 {w : World} : ∀ {c : List Value} {t : Nd}, NodeR w c t → t.u64
  | _, _, .mk h1 h2 h3 h4 h5 h6 h7 h8 => ⟨h4, KidsR.u64 h8⟩
theorem KidsR.u64 {w : World} : ∀ {c : List Value} {t : List Nd}, KidsR w c t → Nd.u64L t
  | _, _, .nil => trivial
  | _, _, .cons h1 h2 => ⟨NodeR.u64 h1, KidsR.u64 h2⟩
end
theorem AllU.getD {A : List (List Int)} (h : AllU A) (s : Nat) : ∀ x ∈ A.getD s [], inR .u64 x := by
  by_cases hs : s < A.length
  · rw [getD_at hs]; exact h _ (List.getElem_mem hs)
  · rw [List.getD_eq_getElem?_getD, List.getElem?_eq_none (by omega)]; intro x hx; simp at hx
theorem AllU.set {A : List (List Int)} (h : AllU A) (s i : Nat) {x : Int} (hx : inR .u64 x) : AllU (setP A s i x) := by
  intro q hq y hy
  rcases List.mem_or_eq_of_mem_set hq with hq | rfl
  · exact h q hq y hy
  · rcases List.mem_or_eq_of_mem_set hy with hy | rfl
    · exact h.getD s y hy
    · exact hx
theorem AllU.growB {A : List (List Int)} (h : AllU A) (q : Nat) : AllU (growB A q) := by
  unfold K.growB
  split
  · intro p hp y hy
    rcases List.mem_append.1 hp with hp | hp
    · exact h p hp y hy
    · simp only [List.mem_singleton] at hp; subst hp; simp at hy
  · exact h
theorem AllU.grow {A : List (List Int)} (h : AllU A) (q : Nat) {l : List Int} (hl : ∀ x ∈ l, inR .u64 x) : AllU (growA A q l) := by
  intro p hp y hy
  unfold growA at hp
  rcases List.mem_or_eq_of_mem_set hp with hp | rfl
  · exact (h.growB q) p hp y hy
  · rcases List.mem_append.1 hy with hy | hy
    · exact (h.growB q).getD q y hy
    · exact hl y hy
theorem content_u64 {k z : Int} {w b : List Int} {ks : List Nd} (hw : ∀ x ∈ w, inR .u64 x) (hb : isU8 b) : ∀ x ∈ (Nd.mk k z w b ks).content, inR .u64 x := by
  intro x hx
  simp only [Nd.content, List.mem_append, chunksP, List.mem_map, List.mem_replicate] at hx
  rcases hx with (hx | ⟨j, -, rfl⟩) | ⟨-, rfl⟩
  · exact hw x hx
  · have := chunkP_range hb j
    simp only [inR]; omega
  · simp [inR]
theorem place_u64 (size : Int) (t : Nd) (S : Lay) (s i : Nat) (h : AllU S.A) : AllU (placeP size t S s i).S.A := by
  have h1 : ∀ x ∈ [t.near 0], inR .u64 x := fun x hx => by simp only [List.mem_singleton] at hx; subst hx; exact encR_u64 _
  unfold placeP
  split
  · exact h.set _ _ (encR_u64 _)
  · split
    · exact (h.set _ _ (encR_u64 _)).grow _ h1
    · exact (h.set _ _ (encR_u64 _)).grow _ h1
mutual
theorem lay_u64 (size : Int) : ∀ (t : Nd) (S : Lay) (s i : Nat), t.u64 → t.u8 → AllU S.A → AllU (t.lay size S s i).A
  | .mk k z w b ks, S, s, i, hw, hb, h => by
    rw [Nd.u64] at hw
    rw [Nd.u8] at hb
    simp only [Nd.lay]
    split
    · exact h
    · split
      · exact h.set _ _ (encR_u64 _)
      · exact lays_u64 size ks _ _ _ hw.2 hb.2 ((place_u64 size _ S s i h).grow _ (content_u64 hw.1 hb.1))
theorem lays_u64 (size : Int) : ∀ (ts : List Nd) (S : Lay) (s i : Nat), Nd.u64L ts → Nd.u8L ts → AllU S.A → AllU (Nd.lays size ts S s i).A
  | [], S, s, i, _, _, h => h
  | t :: ts, S, s, i, hw, hb, h => by
    rw [Nd.u64L] at hw
    rw [Nd.u8L] at hb
    simp only [Nd.lays]
    exact lays_u64 size ts _ _ _ hw.2 hb.2 (lay_u64 size t S s i hw.1 hb.1 h)
end
theorem build_u64 {t : Nd} (size : Int) (hw : t.u64) (hb : t.u8) : ∀ q ∈ (t.build size).1, ∀ x ∈ q, inR .u64 x := by
  unfold Nd.build
  split
  · intro q hq; simp at hq
  · split
    · intro q hq; simp at hq
    · refine lay_u64 size t _ 0 0 hw hb ?_
      intro q hq x hx
      simp only [List.mem_singleton] at hq
      subst hq
      simp only [List.mem_singleton] at hx
      subst hx
      simp [inR]
theorem build_right {t : Nd} {size : Int} (h : (t.build size).2 = 0) : rightB (t.build size).1 = true := by
  have hf := Nd.build_fit h
  have h0 : 1 ≤ len2 (t.build size).1 0 := by
    unfold Nd.build at h ⊢
    by_cases h1 : size < 1 ∨ size > 4096 ∨ t.right 32 = false
    · rw [if_pos h1] at h; exact absurd h (by decide)
    · rw [if_neg h1] at h ⊢
      by_cases h2 : (t.lay size ⟨[[0]], false⟩ 0 0).full = true
      · rw [if_pos h2] at h; exact absurd h (by decide)
      · rw [if_neg h2]
        exact Nat.le_trans (by decide : 1 ≤ len2 [[0]] 0) ((Nd.lay_ok size t ⟨[[0]], false⟩ 0 0 (by simp)).grew.seg 0)
  unfold rightB
  exact decide_eq_true ⟨hf.one, hf.most, h0, hf.all⟩
/-- Decoding what was built. -/
theorem back_decT {t : Nd} {size : Int} (hu : t.u8) (hn : t.needs ≤ 4000) (h : (t.build size).2 = 0) : decT (t.build size).1 = (t, 0) := by
  unfold decT
  rw [build_right h, if_neg (by simp), back_dec hu hn h]
theorem back_none {t : Nd} {size : Int} (h : (t.build size).2 ≠ 0) : decT (t.build size).1 = (.nil, 1) := by
  rw [Nd.build_none h]
  rfl
end Go.Proofs.Ytfhfecepcnapfaa.K

namespace Go.Proofs.Ytfhfecepcnapfaa.K
open Go Go.RowKit
def bentZ (k : Int) : Int := if k = 0 then 2 else if k = 1 then 5 else if k = 2 then 6 else 3
theorem bentZ_at (k : Int) (h0 : 0 ≤ k) (h1 : k < 4) : ([.int .i64 2, .int .i64 5, .int .i64 6, .int .i64 3] : List Value)[k.toNat * 1]? = some (.int .i64 (bentZ k)) := by
  have h : k = 0 ∨ k = 1 ∨ k = 2 ∨ k = 3 := by omega
  rcases h with rfl | rfl | rfl | rfl <;> rfl
/-- The pointer of two choices, in an arena of so many segments. -/
def bentP (x y n : Int) : Pt :=
  if x % 3 = 0 then ⟨1, y % 16 - 4, x % 4, x / 64, 0, 0, 0, false⟩
  else if x % 3 = 1 then ⟨2, y % 16 - 4, 0, 0, bentZ (x % 4), x / 16, 0, false⟩
  else ⟨3, y % 12, 0, 0, 0, 0, x / 3 % (n + 1), decide (x % 2 = 1)⟩
/-- An arena of which some words were put anew. -/
inductive BentA (B : List (List Int)) : List (List Int) → Prop
  | refl : BentA B B
  | put {A : List (List Int)} {s i : Nat} {x y : Int} : BentA B A → s < A.length → i < len2 A s → 0 ≤ x → x ≤ 255 → 0 ≤ y → y ≤ 255 → BentA B (setP A s i (encR (bentP x y A.length)))
def bentT (xs : List Int) : Nd := (treeP 6 xs).1
def bentB (xs : List Int) (k : Int) : List (List Int) := if ((bentT xs).build (3 + k % 30)).2 ≠ 0 then ((bentT xs).build 4096).1 else ((bentT xs).build (3 + k % 30)).1
/-- What law09.Bent may make of choices. -/
def Bent1 (xs : List Int) (k : Int) (A : List (List Int)) : Prop := BentA (bentB xs k) A
theorem bentT_right {xs : List Int} (h : isU8 xs) : (bentT xs).right 32 = true := treeP_right 6 xs 32 (by decide) h
theorem bentT_needs {xs : List Int} (h : isU8 xs) (hl : xs.length ≤ 200) : 0 ≤ (bentT xs).needs ∧ (bentT xs).needs ≤ 1400 := by
  have := treeP_needs 6 xs h
  have := Nd.needs_nn (bentT xs)
  unfold bentT at *
  omega
theorem bent_4096 {xs : List Int} (h : isU8 xs) (hl : xs.length ≤ 200) : ∃ s, (bentT xs).build 4096 = ([s], 0) ∧ (s.length : Int) = 1 + (bentT xs).needs :=
  Nd.build_one (bentT_right h) (by have := bentT_needs h hl; omega) (by decide)
theorem treeP_u64 : ∀ (d : Nat) (c : List Int), (treeP d c).1.u64 ∧ (treeP d c).1.u8
  | 0, c => ⟨⟨by simp, trivial⟩, ⟨by simp [isU8], trivial⟩⟩
  | d + 1, [] => ⟨⟨by simp, trivial⟩, ⟨by simp [isU8], trivial⟩⟩
  | d + 1, k :: c => by
    have hk : ∀ n, Nd.u64L (treesP (treeP d) n c).1 ∧ Nd.u8L (treesP (treeP d) n c).1 := fun n => by
      have h1 := treesP_all (f := treeP d) (Q := fun _ => True) (R := fun t => t.u64 ∧ t.u8) (fun c _ => ⟨trivial, treeP_u64 d c⟩) n c trivial
      have : ∀ (ts : List Nd), (∀ t ∈ ts, t.u64 ∧ t.u8) → Nd.u64L ts ∧ Nd.u8L ts := by
        intro ts
        induction ts with
        | nil => exact fun _ => ⟨trivial, trivial⟩
        | cons t ts ih => exact fun h => ⟨⟨(h t (by simp)).1, (ih fun u hu => h u (by simp [hu])).1⟩, ⟨(h t (by simp)).2, (ih fun u hu => h u (by simp [hu])).2⟩⟩
      exact this _ h1
    have hb : ∀ n, isU8 ((List.range n).map (bTree k)) := fun n x hx => by obtain ⟨i, _, rfl⟩ := List.mem_map.1 hx; exact wrap_u8R _
    have h3 : ∀ n, ∀ x ∈ (List.range n).map (w3Tree k), inR .u64 x := fun n x hx => by obtain ⟨i, _, rfl⟩ := List.mem_map.1 hx; exact wrap_u64R _
    have h4 : ∀ n, ∀ x ∈ (List.range n).map (w4Tree k), inR .u64 x := fun n x hx => by obtain ⟨i, _, rfl⟩ := List.mem_map.1 hx; exact wrap_u64R _
    simp only [treeP]
    split
    · exact ⟨⟨by simp, trivial⟩, ⟨by simp [isU8], trivial⟩⟩
    · split
      · exact ⟨⟨by simp, trivial⟩, ⟨hb _, trivial⟩⟩
      · split
        · exact ⟨⟨h3 _, trivial⟩, ⟨by simp [isU8], trivial⟩⟩
        · split
          · exact ⟨⟨by simp, (hk _).1⟩, ⟨by simp [isU8], (hk _).2⟩⟩
          · exact ⟨⟨h4 _, (hk _).1⟩, ⟨by simp [isU8], (hk _).2⟩⟩
theorem bentB_ok {xs : List Int} (h : isU8 xs) (hl : xs.length ≤ 200) (k : Int) : rightB (bentB xs k) = true ∧ AllU (bentB xs k) ∧ totalP (bentB xs k) ≤ 4096 ∧ (∀ i, len2 (bentB xs k) i ≤ 4096) := by
  obtain ⟨s, h4, -⟩ := bent_4096 h hl
  have key : ∀ n, ((bentT xs).build n).2 = 0 → rightB ((bentT xs).build n).1 = true ∧ AllU ((bentT xs).build n).1 ∧ totalP ((bentT xs).build n).1 ≤ 4096 ∧ (∀ i, len2 ((bentT xs).build n).1 i ≤ 4096) := fun n hn => by
    have hr := build_right hn
    refine ⟨hr, build_u64 n (treeP_u64 6 xs).1 (treeP_u64 6 xs).2, ?_⟩
    unfold rightB at hr
    have h1 := of_decide_eq_true hr
    exact ⟨h1.2.2.2, fun i => by have := seg_le_total ((bentT xs).build n).1 i; omega⟩
  unfold bentB
  split
  · exact key 4096 (by rw [h4])
  · exact key _ (by omega)
theorem BentA.len {B A : List (List Int)} (h : BentA B A) : A.length = B.length ∧ totalP A = totalP B ∧ ∀ i, len2 A i = len2 B i := by
  induction h with
  | refl => exact ⟨rfl, rfl, fun _ => rfl⟩
  | put _ hs hi _ _ _ _ ih => exact ⟨(setP_length _ _ _ _).trans ih.1, (totalP_setP _ _ _ _).trans ih.2.1, fun j => (setP_len2 _ _ _ j _).trans (ih.2.2 j)⟩
theorem BentA.allU {B A : List (List Int)} (h : BentA B A) (hB : AllU B) : AllU A := by
  induction h with
  | refl => exact hB
  | put _ hs hi _ _ _ _ ih => exact ih.set _ _ (encR_u64 _)
theorem BentA.right {B A : List (List Int)} (h : BentA B A) : rightB A = rightB B := by
  obtain ⟨h1, h2, h3⟩ := h.len
  unfold rightB
  rw [h1, h2, h3 0]
theorem Bent1.ok {xs : List Int} {k : Int} {A : List (List Int)} (hA : Bent1 xs k A) (h : isU8 xs) (hl : xs.length ≤ 200) : rightB A = true ∧ AllU A ∧ totalP A ≤ 4096 ∧ (∀ i, len2 A i ≤ 4096) ∧ 1 ≤ A.length ∧ A.length ≤ 16 ∧ ∀ s ∈ A, s.length ≤ 100000 := by
  obtain ⟨h1, h2, h3⟩ := BentA.len hA
  obtain ⟨g1, g2, g3, g4⟩ := bentB_ok h hl k
  have hr : rightB A = true := by rw [BentA.right hA]; exact g1
  have hr2 := hr
  unfold rightB at hr2
  obtain ⟨r1, r2, -, -⟩ := of_decide_eq_true hr2
  refine ⟨hr, BentA.allU hA g2, by rw [h2]; exact g3, fun i => by rw [h3]; exact g4 i, r1, r2, fun s hs => ?_⟩
  obtain ⟨i, hi, rfl⟩ := List.getElem_of_mem hs
  have := h3 i
  have := g4 i
  rw [← h3 i, len2, getD_at hi] at this
  omega
theorem bentB_len {xs : List Int} (h : isU8 xs) (hl : xs.length ≤ 200) (k : Int) : 1 ≤ (bentB xs k).length ∧ (bentB xs k).length ≤ 16 := by
  obtain ⟨-, -, -, -, h1, h2, -⟩ := Bent1.ok (BentA.refl (B := bentB xs k)) h hl
  exact ⟨h1, h2⟩
end Go.Proofs.Ytfhfecepcnapfaa.K

namespace Go.Proofs.Ytfhfecepcnapfaa.K
open Go Go.RowKit
/-- One more segment. -/
theorem OwnA.push {TO TW : TypeId} {w w' : World} {base : Nat} {so so' v : Value} {segs : List Value} {A : List (List Int)} {ws : List Int} (hOW : TO ≠ TW) (h : OwnA TO TW w base so segs A) (hv : w.ownsRow base TW 1 v ws.length (wordsV ws)) (hd : ∀ (i : Nat) (u : Value) (b : Nat), segs[i]? = some u → u.ownBlock = some b → v.ownBlock ≠ some b)
    (gr : w.grownBy w' so.ownBlock) (ho : w'.ownsRow base TO 1 so' (A.length + 1) (segs ++ [v])) : OwnA TO TW w' base so' (segs ++ [v]) (A ++ [ws]) := by
  have hl := h.len
  refine ⟨by rw [List.length_append]; exact ho, fun i u wi hu hw => ?_, fun i j u u' b hu hu' hb hb' => ?_⟩
  · by_cases hi : i < A.length
    · rw [List.getElem?_append_left (by omega)] at hu
      rw [List.getElem?_append_left hi] at hw
      exact own_gr (h.seg i u wi hu hw) h.out hOW.symm gr
    · have hb := (List.getElem?_eq_some_iff.1 hw).1
      simp only [List.length_append, List.length_singleton] at hb
      have hie : i = A.length := by omega
      subst hie
      rw [List.getElem?_append_right (by omega), hl, Nat.sub_self] at hu
      rw [List.getElem?_append_right (Nat.le_refl _), Nat.sub_self] at hw
      simp only [List.getElem?_cons_zero, Option.some.injEq] at hu hw
      subst hu; subst hw
      exact own_gr hv h.out hOW.symm gr
  · have key : ∀ k (x : Value), (segs ++ [v])[k]? = some x → (k < segs.length ∧ segs[k]? = some x) ∨ (k = segs.length ∧ x = v) := fun k x hx => by
      by_cases hk : k < segs.length
      · rw [List.getElem?_append_left hk] at hx; exact .inl ⟨hk, hx⟩
      · have hb := (List.getElem?_eq_some_iff.1 hx).1
        simp only [List.length_append, List.length_singleton] at hb
        have hke : k = segs.length := by omega
        subst hke
        rw [List.getElem?_append_right (Nat.le_refl _), Nat.sub_self] at hx
        simp only [List.getElem?_cons_zero, Option.some.injEq] at hx
        exact .inr ⟨rfl, hx.symm⟩
    rcases key i u hu with ⟨hi, hui⟩ | ⟨hi, rfl⟩
    · rcases key j u' hu' with ⟨hj, huj⟩ | ⟨hj, rfl⟩
      · exact h.dis i j u u' b hui huj hb hb'
      · exact absurd hb' (hd i u b hui hb)
    · rcases key j u' hu' with ⟨hj, huj⟩ | ⟨hj, rfl⟩
      · exact absurd hb (hd j u' b huj hb')
      · rw [hi, hj]
theorem OwnA.low {TO TW : TypeId} {w : World} {base : Nat} {so : Value} {segs : List Value} {A : List (List Int)} (h : OwnA TO TW w base so segs A) (i : Nat) (u : Value) (b : Nat) (hu : segs[i]? = some u) (hb : u.ownBlock = some b) : b < w.heap.size := by
  have hi := (List.getElem?_eq_some_iff.1 hu).1
  rw [h.len] at hi
  exact ((h.seg i u _ hu (List.getElem?_eq_getElem hi)).lt b hb).2
/-- What law07.Arena makes of choices. -/
structure Aren7 (n : Int) (A : List (List Int)) : Prop where
  len : (A.length : Int) = 1 + n % 5
  first : 1 ≤ len2 A 0
  seg : ∀ j, len2 A j ≤ 13
  u64 : AllU A
theorem AllU.push {A : List (List Int)} (h : AllU A) {l : List Int} (hl : ∀ x ∈ l, inR .u64 x) : AllU (A ++ [l]) := by
  intro q hq x hx
  rcases List.mem_append.1 hq with hq | hq
  · exact h q hq x hx
  · simp only [List.mem_singleton] at hq; subst hq; exact hl x hx
theorem len2_push (A : List (List Int)) (l : List Int) (j : Nat) : len2 (A ++ [l]) j = if j < A.length then len2 A j else if j = A.length then l.length else 0 := by
  unfold len2
  rw [List.getD_eq_getElem?_getD, List.getD_eq_getElem?_getD]
  split
  · rename_i h; rw [List.getElem?_append_left h]
  · rename_i h
    rw [List.getElem?_append_right (by omega)]
    split
    · rename_i h2; subst h2; simp
    · rw [List.getElem?_eq_none (by simp; omega)]; rfl
theorem small_mem {A : List (List Int)} {m : Nat} (h : ∀ j, len2 A j ≤ m) : ∀ s ∈ A, s.length ≤ m := fun s hs => by
  obtain ⟨i, hi, rfl⟩ := List.getElem_of_mem hs
  have := h i
  rw [len2, getD_at hi] at this
  exact this
end Go.Proofs.Ytfhfecepcnapfaa.K

