/- What was built is decoded as it was. Plain law. -/
import Derived.Test.YtfhfecepcnapfaaU10
import Derived.Test.YtfhfecepcnapfaaU08
set_option linter.unusedVariables false
set_option linter.unusedSimpArgs false
namespace Go.Proofs.Ytfhfecepcnapfaa.K
open Go Go.RowKit
abbrev w2 (A : List (List Int)) (s i : Nat) : Int := (A.getD s []).getD i 0
theorem w2_set {A : List (List Int)} {s i : Nat} (x : Int) (hs : s < A.length) (hi : i < len2 A s) (q j : Nat) : w2 (setP A s i x) q j = if q = s ∧ j = i then x else w2 A q j := by
  simp only [w2, setP_getD A s i q x hs]
  by_cases hq : q = s
  · subst hq
    rw [if_pos rfl, getD_set _ _ _ _ _ hi]
    by_cases hj : j = i
    · rw [if_pos hj, if_pos ⟨rfl, hj⟩]
    · rw [if_neg hj, if_neg (fun h => hj h.2)]
  · rw [if_neg hq, if_neg (fun h => hq h.1)]
theorem getD_app (u l : List Int) (j : Nat) : (u ++ l).getD j 0 = if u.length ≤ j then l.getD (j - u.length) 0 else u.getD j 0 := by
  simp only [List.getD_eq_getElem?_getD]
  split
  · rename_i h; rw [List.getElem?_append_right h]
  · rename_i h; rw [List.getElem?_append_left (by omega)]
theorem w2_grow {A : List (List Int)} {q : Nat} (l : List Int) (hq : q ≤ A.length) (s j : Nat) : w2 (growA A q l) s j = if s = q ∧ len2 A q ≤ j then l.getD (j - len2 A q) 0 else w2 A s j := by
  simp only [w2, growA_getD A q s l hq]
  by_cases hs : s = q
  · subst hs
    rw [if_pos rfl, getD_app]
    by_cases hj : len2 A s ≤ j
    · rw [if_pos (show (A.getD s []).length ≤ j from hj), if_pos (show s = s ∧ len2 A s ≤ j from ⟨rfl, hj⟩)]
    · rw [if_neg (show ¬ (A.getD s []).length ≤ j from hj), if_neg (show ¬ (s = s ∧ len2 A s ≤ j) from fun h => hj h.2)]
  · rw [if_neg hs, if_neg (fun h => hs h.1)]
theorem body_len {k z : Int} {w b : List Int} {ks : List Nd} (ho : (Nd.mk k z w b ks).own = true) (hk : ¬ k = 0) : (w ++ chunksP b).length + ks.length = (Nd.mk k z w b ks).need.toNat := by
  obtain ⟨hkd, hlw, hlb, hlk, hnn, hnm, hkn, hb1⟩ := Nd.own_b ho
  have hc := Nd.content_length (.mk k z w b ks) (by simp only [Nd.kind]; omega) (by simpa only [Nd.kind, Nd.bytes] using hb1)
  simp only [Nd.content, List.length_append, List.length_replicate] at hc
  rw [List.length_append]
  omega
def bodyN : Nd → List Int
  | .mk _ _ w b _ => w ++ chunksP b
/-- How a word leads to a thing that lies at a place; landing places lie beyond the base. -/
def Pts (A : List (List Int)) (B : Nat → Nat) (t : Nd) (s i q a : Nat) : Prop :=
  (q = s ∧ w2 A s i = t.near ((a : Int) - i - 1)) ∨ (∃ p, t.need ≠ 0 ∧ p + 1 = a ∧ B q ≤ p ∧ p < len2 A q ∧ w2 A s i = farP q p ∧ w2 A q p = t.near 0)
mutual
def Rep (A : List (List Int)) (B : Nat → Nat) : Nd → Nat → Nat → Prop
  | .mk k z w b ks, s, i => i < len2 A s ∧ s < A.length ∧ (if k = 0 then w2 A s i = 0 else
    ∃ q a, Pts A B (.mk k z w b ks) s i q a ∧ q < A.length ∧ ((Nd.mk k z w b ks).need ≠ 0 → B q ≤ a) ∧ ((Nd.mk k z w b ks).need = 0 → k = 1 → q = s ∧ a = i) ∧ a + (Nd.mk k z w b ks).need.toNat ≤ len2 A q ∧ (∀ j, j < (w ++ chunksP b).length → w2 A q (a + j) = (w ++ chunksP b).getD j 0) ∧ Reps A B ks q (a + (w ++ chunksP b).length))
def Reps (A : List (List Int)) (B : Nat → Nat) : List Nd → Nat → Nat → Prop
  | [], _, _ => True
  | t :: ts, q, j => (B q ≤ j ∧ Rep A B t q j) ∧ Reps A B ts q (j + 1)
end
/-- What is read beyond the base, and the word itself, is kept. -/
structure Kept (A A' : List (List Int)) (B : Nat → Nat) : Prop where
  len : A.length ≤ A'.length
  seg : ∀ q, len2 A q ≤ len2 A' q
  word : ∀ q j, B q ≤ j → j < len2 A q → w2 A' q j = w2 A q j
theorem len2_lt {A : List (List Int)} {q j : Nat} (h : j < len2 A q) : q < A.length := by
  by_cases hq : q < A.length
  · exact hq
  · have := len2_none (A := A) (j := q) (by omega); omega
theorem fine_kids {k s : Int} {w b : List Int} {ks : List Nd} (h : (Nd.mk k s w b ks).fine) : ∀ t ∈ ks, t.fine := by
  intro t ht
  obtain ⟨j, hj, rfl⟩ := List.getElem_of_mem ht
  exact Nd.fine_kid h hj
mutual
theorem Rep.keep {A A' : List (List Int)} {B B' : Nat → Nat} (hk : Kept A A' B) (hB : ∀ q, B' q ≤ B q) : ∀ (t : Nd) (s i : Nat), t.fine → w2 A' s i = w2 A s i → Rep A B t s i → Rep A' B' t s i
  | .mk k z w b ks, s, i, hf, hw, h => by
    have ho := Nd.fine_own hf
    obtain ⟨hkd, hlw, hlb, hlk, hnn, hnm, hkn, hb1⟩ := Nd.own_b ho
    rw [Rep] at h ⊢
    obtain ⟨h1, h2, h3⟩ := h
    refine ⟨Nat.lt_of_lt_of_le h1 (hk.seg s), Nat.lt_of_lt_of_le h2 hk.len, ?_⟩
    split
    · rename_i hk0
      rw [if_pos hk0] at h3
      rw [hw, h3]
    · rename_i hk0
      rw [if_neg hk0] at h3
      obtain ⟨q, a, hp, hq, hb, hz0, hl, hc, hr⟩ := h3
      have hbl := body_len ho hk0
      have hok := fine_kids hf
      refine ⟨q, a, ?_, Nat.lt_of_lt_of_le hq hk.len, fun hn => Nat.le_trans (hB q) (hb hn), hz0, Nat.le_trans hl (hk.seg q), fun j hj => ?_, Reps.keep hk hB ks q _ hok hr⟩
      · rcases hp with ⟨h4, h5⟩ | ⟨p, hne, h4, h5, h6, h7, h8⟩
        · exact .inl ⟨h4, by rw [hw, h5]⟩
        · exact .inr ⟨p, hne, h4, Nat.le_trans (hB q) h5, Nat.lt_of_lt_of_le h6 (hk.seg q), by rw [hw, h7], by rw [hk.word q p h5 h6, h8]⟩
      · rw [hk.word q (a + j) (Nat.le_trans (hb (by omega)) (Nat.le_add_right _ _)) (by omega), hc j hj]
theorem Reps.keep {A A' : List (List Int)} {B B' : Nat → Nat} (hk : Kept A A' B) (hB : ∀ q, B' q ≤ B q) : ∀ (ts : List Nd) (q j : Nat), (∀ t ∈ ts, t.fine) → Reps A B ts q j → Reps A' B' ts q j
  | [], _, _, _, _ => trivial
  | t :: ts, q, j, ho, h => by
    rw [Reps] at h ⊢
    obtain ⟨⟨h1, h2⟩, h3⟩ := h
    refine ⟨⟨Nat.le_trans (hB q) h1, Rep.keep hk hB t q j (ho t (by simp)) ?_ h2⟩, Reps.keep hk hB ts q (j + 1) (fun u hu => ho u (by simp [hu])) h3⟩
    refine hk.word q j h1 ?_
    cases t with
    | mk k z w b ks => rw [Rep] at h2; exact h2.1
end
theorem last_lt {A : List (List Int)} (h : 1 ≤ A.length) : lastP A < A.length ∧ lastP A + 1 = A.length := by unfold lastP; omega
/-- Where something is placed, and what says so. -/
theorem placeP_pts (size : Int) (t : Nd) (S : Lay) (s i : Nat) (h1 : 1 ≤ S.A.length) (hs : s < S.A.length) (hi : i < len2 S.A s) :
    (∀ q j, j < len2 S.A q → ¬ (q = s ∧ j = i) → w2 (placeP size t S s i).S.A q j = w2 S.A q j) ∧
    (((placeP size t S s i).seg = s ∧ w2 (placeP size t S s i).S.A s i = t.near (((placeP size t S s i).at_ : Int) - i - 1)) ∨
      (∃ p, p + 1 = (placeP size t S s i).at_ ∧ len2 S.A (placeP size t S s i).seg ≤ p ∧ p < len2 (placeP size t S s i).S.A (placeP size t S s i).seg ∧ w2 (placeP size t S s i).S.A s i = farP (placeP size t S s i).seg p ∧ w2 (placeP size t S s i).S.A (placeP size t S s i).seg p = t.near 0)) := by
  obtain ⟨hl, hl1⟩ := last_lt h1
  unfold placeP
  by_cases h : s = lastP S.A ∧ (len2 S.A (lastP S.A) : Int) + t.need ≤ size
  · simp only [if_pos h]
    refine ⟨fun q j hj hn => by rw [w2_set _ hs hi, if_neg hn], .inl ⟨h.1.symm, ?_⟩⟩
    rw [w2_set _ hs hi, if_pos ⟨rfl, rfl⟩]
  · by_cases hn : newSeg size t S.A s = true
    · simp only [if_neg h, if_pos hn, moreP]
      have hq : lastP S.A + 1 ≤ (setP S.A s i (farP ((lastP S.A : Int) + 1) 0)).length := by rw [setP_length]; omega
      have hz : len2 (setP S.A s i (farP ((lastP S.A : Int) + 1) 0)) (lastP S.A + 1) = 0 := len2_none (by rw [setP_length]; omega)
      refine ⟨fun q j hj hn2 => ?_, .inr ⟨0, rfl, ?_, ?_, ?_, ?_⟩⟩
      · have hql := len2_lt hj
        rw [w2_grow _ hq, if_neg (by omega), w2_set _ hs hi, if_neg hn2]
      · rw [len2_none (by omega)]; exact Nat.le_refl _
      · simp only [len2] at hz ⊢
        rw [growA_getD _ _ _ _ hq, if_pos rfl, List.length_append, hz]
        simp
      · rw [w2_grow _ hq, if_neg (by omega), w2_set _ hs hi, if_pos ⟨rfl, rfl⟩]
        rfl
      · rw [w2_grow _ hq, if_pos ⟨rfl, by omega⟩, hz]
        rfl
    · simp only [if_neg h, if_neg hn, moreP]
      have hq : lastP S.A ≤ (setP S.A s i (farP (lastP S.A) (len2 S.A (lastP S.A)))).length := by rw [setP_length]; omega
      have hz := setP_len2 S.A s i (lastP S.A) (farP (lastP S.A) (len2 S.A (lastP S.A)))
      refine ⟨fun q j hj hn2 => ?_, .inr ⟨len2 S.A (lastP S.A), rfl, Nat.le_refl _, ?_, ?_, ?_⟩⟩
      · rw [w2_grow _ hq, if_neg (by rw [hz]; rintro ⟨rfl, h9⟩; omega), w2_set _ hs hi, if_neg hn2]
      · have hg : len2 (growA (setP S.A s i (farP (lastP S.A) (len2 S.A (lastP S.A)))) (lastP S.A) [t.near 0]) (lastP S.A) = len2 S.A (lastP S.A) + 1 := by
          have hz' : ((setP S.A s i (farP (lastP S.A) (len2 S.A (lastP S.A)))).getD (lastP S.A) []).length = len2 S.A (lastP S.A) := hz
          rw [len2, growA_getD _ _ _ _ hq, if_pos rfl, List.length_append, hz']; rfl
        omega
      · rw [w2_grow _ hq, if_neg (by rw [hz]; rintro ⟨rfl, h9⟩; omega), w2_set _ hs hi, if_pos ⟨rfl, rfl⟩]
      · rw [w2_grow _ hq, if_pos ⟨rfl, by omega⟩, hz, Nat.sub_self]
        rfl
theorem lay_not_full {size : Int} {ts : List Nd} {S : Lay} {s i : Nat} (h : (Nd.lays size ts S s i).full = false) : S.full = false := by
  cases hS : S.full with
  | false => rfl
  | true => rw [Nd.lays_full hS] at h; rw [hS] at h; exact h
mutual
theorem Nd.lay_rep (size : Int) : ∀ (t : Nd) (S : Lay) (s i : Nat), t.fine → 1 ≤ S.A.length → s < S.A.length → i < len2 S.A s → w2 S.A s i = 0 → (t.lay size S s i).full = false →
    (∀ q j, j < len2 S.A q → ¬ (q = s ∧ j = i) → w2 (t.lay size S s i).A q j = w2 S.A q j) ∧ Rep (t.lay size S s i).A (len2 S.A) t s i
  | .mk k z w b ks, S, s, i, hf, h1, hs, hi, hz, hfull => by
    have ho := Nd.fine_own hf
    obtain ⟨hkd, hlw, hlb, hlk, hnn, hnm, hkn, hb1⟩ := Nd.own_b ho
    have hSf : S.full = false := by
      cases hS : S.full with
      | false => rfl
      | true => rw [Nd.lay_full hS] at hfull; rw [hS] at hfull; exact hfull
    by_cases hk : k = 0
    · have hl : (Nd.mk k z w b ks).lay size S s i = S := by simp only [Nd.lay]; rw [if_pos (.inl hk)]
      rw [hl]
      refine ⟨fun q j _ _ => rfl, ?_⟩
      rw [Rep, if_pos hk]
      exact ⟨hi, hs, hz⟩
    · have hbl := body_len ho hk
      by_cases hn : (Nd.mk k z w b ks).need = 0
      · have hl : (Nd.mk k z w b ks).lay size S s i = ⟨setP S.A s i ((Nd.mk k z w b ks).near (if k = 1 then -1 else 0)), S.full⟩ := by
          simp only [Nd.lay]; rw [if_neg (by rw [hSf]; simp [hk]), if_pos hn]
        have hks : ks = [] := List.eq_nil_of_length_eq_zero (by omega)
        rw [hl]
        refine ⟨fun q j hj hn2 => by rw [w2_set _ hs hi, if_neg hn2], ?_⟩
        rw [Rep, if_neg hk]
        refine ⟨by rw [setP_len2]; exact hi, by rw [setP_length]; exact hs, s, if k = 1 then i else i + 1, .inl ⟨rfl, ?_⟩, by rw [setP_length]; exact hs, fun h => absurd hn h, fun _ h => ⟨rfl, if_pos h⟩, ?_, fun j hj => by omega, ?_⟩
        · rw [w2_set _ hs hi, if_pos ⟨rfl, rfl⟩]
          congr 1
          split <;> omega
        · rw [setP_len2, hn]
          split <;> (simp only [Int.toNat_zero, Nat.add_zero]; omega)
        · rw [hks]; trivial
      · obtain ⟨hkeep, hpts⟩ := placeP_pts size (.mk k z w b ks) S s i h1 hs hi
        have hpo := placeP_ok size (.mk k z w b ks) S s i h1
        have hl : (Nd.mk k z w b ks).lay size S s i = Nd.lays size ks (moreP size (placeP size (.mk k z w b ks) S s i).S (placeP size (.mk k z w b ks) S s i).seg (Nd.mk k z w b ks).content) (placeP size (.mk k z w b ks) S s i).seg ((placeP size (.mk k z w b ks) S s i).at_ + ((Nd.mk k z w b ks).need.toNat - ks.length)) := by
          simp only [Nd.lay]; rw [if_neg (by rw [hSf]; simp [hk]), if_neg hn]
        rw [hl] at hfull ⊢
        obtain ⟨hg, hseg, hat, -, -⟩ := hpo
        generalize (placeP size (.mk k z w b ks) S s i).S = P at *
        generalize (placeP size (.mk k z w b ks) S s i).seg = sg at *
        generalize (placeP size (.mk k z w b ks) S s i).at_ = at_ at *
        have hcl : (Nd.mk k z w b ks).content.length = (Nd.mk k z w b ks).need.toNat := by
          simp only [Nd.content, List.length_append, List.length_replicate]
          rw [List.length_append] at hbl
          omega
        have hwg : ∀ q j, w2 (moreP size P sg (Nd.mk k z w b ks).content).A q j = if q = sg ∧ len2 P.A sg ≤ j then (Nd.mk k z w b ks).content.getD (j - len2 P.A sg) 0 else w2 P.A q j := fun q j => w2_grow _ (Nat.le_of_lt hseg) q j
        have hgl : ∀ q, len2 (moreP size P sg (Nd.mk k z w b ks).content).A q = if q = sg then len2 P.A sg + (Nd.mk k z w b ks).need.toNat else len2 P.A q := by
          intro q
          simp only [moreP, len2]
          rw [growA_getD _ _ _ _ (Nat.le_of_lt hseg)]
          split
          · rw [List.length_append, hcl]
          · rfl
        have hgs : P.A.length ≤ (moreP size P sg (Nd.mk k z w b ks).content).A.length := growA_len _ _ _
        have hslot : (Nd.mk k z w b ks).need.toNat - ks.length = (w ++ chunksP b).length := by omega
        rw [hslot] at hfull ⊢
        have hsl : len2 S.A sg ≤ at_ := by rw [hat]; exact hg.seg sg
        have hlen2 : ∀ q, len2 S.A q ≤ len2 (moreP size P sg (Nd.mk k z w b ks).content).A q := fun q => by
          rw [hgl]
          have := hg.seg q
          split
          · subst_vars; omega
          · exact this
        have hco : ∀ j, (Nd.mk k z w b ks).content.getD j 0 = if (w ++ chunksP b).length ≤ j then 0 else (w ++ chunksP b).getD j 0 := by
          intro j
          simp only [Nd.content]
          rw [getD_app]
          split
          · simp only [List.getD_eq_getElem?_getD, List.getElem?_replicate]
            split <;> rfl
          · rfl
        obtain ⟨hkeep2, hreps⟩ := Nd.lays_rep size ks (moreP size P sg (Nd.mk k z w b ks).content) sg (at_ + (w ++ chunksP b).length) (fine_kids hf) (Nat.le_trans (Nat.le_trans h1 hg.len) hgs) (Nat.lt_of_lt_of_le hseg hgs)
          (by rw [hgl, if_pos rfl, ← hat]; omega) (fun j hj => by rw [hwg, if_pos ⟨rfl, by omega⟩, hco, if_pos (by omega)]) hfull (len2 S.A) hlen2 (by omega)
        have hgr := (Nd.lays_ok size ks (moreP size P sg (Nd.mk k z w b ks).content) sg (at_ + (w ++ chunksP b).length) (Nat.le_trans (Nat.le_trans h1 hg.len) hgs)).grew
        generalize (Nd.lays size ks (moreP size P sg (Nd.mk k z w b ks).content) sg (at_ + (w ++ chunksP b).length)) = R at *
        have hold : ∀ q j, j < len2 P.A q → w2 R.A q j = w2 P.A q j := fun q j hj => by
          rw [hkeep2 q j (by rw [hgl]; split <;> (first | omega | (subst_vars; omega))) (by rintro ⟨rfl, h5, h6⟩; omega), hwg, if_neg (by rintro ⟨rfl, h5⟩; omega)]
        refine ⟨fun q j hj hn2 => ?_, ?_⟩
        · rw [hold q j (Nat.lt_of_lt_of_le hj (hg.seg q)), hkeep q j hj hn2]
        · rw [Rep, if_neg hk]
          have hi2 : i < len2 P.A s := Nat.lt_of_lt_of_le hi (hg.seg s)
          refine ⟨Nat.lt_of_lt_of_le hi2 (Nat.le_trans ?_ (hgr.seg s)), Nat.lt_of_lt_of_le hs (Nat.le_trans hg.len (Nat.le_trans hgs hgr.len)), sg, at_, ?_, Nat.lt_of_lt_of_le hseg (Nat.le_trans hgs hgr.len), fun _ => hsl, fun h => absurd h hn, ?_, fun j hj => ?_, hreps⟩
          · rw [hgl]; split
            · subst_vars; omega
            · exact Nat.le_refl _
          · rcases hpts with ⟨h5, h6⟩ | ⟨p, h5, h6, h7, h8, h9⟩
            · exact .inl ⟨h5, by rw [hold s i hi2, h6]⟩
            · exact .inr ⟨p, hn, h5, h6, Nat.lt_of_lt_of_le h7 (Nat.le_trans (by rw [hgl, if_pos rfl]; omega) (hgr.seg sg)), by rw [hold s i hi2, h8], by rw [hold sg p h7, h9]⟩
          · have := hgr.seg sg
            rw [hgl, if_pos rfl] at this
            omega
          · rw [hkeep2 sg (at_ + j) (by rw [hgl, if_pos rfl]; omega) (by rintro ⟨-, h5, h6⟩; omega), hwg, if_pos ⟨rfl, by omega⟩, hco, if_neg (by omega)]
            congr 1
            omega
theorem Nd.lays_rep (size : Int) : ∀ (ts : List Nd) (S : Lay) (s i : Nat), (∀ t ∈ ts, t.fine) → 1 ≤ S.A.length → s < S.A.length → i + ts.length ≤ len2 S.A s → (∀ j, j < ts.length → w2 S.A s (i + j) = 0) → (Nd.lays size ts S s i).full = false → ∀ (B : Nat → Nat), (∀ q, B q ≤ len2 S.A q) → B s ≤ i →
    (∀ q j, j < len2 S.A q → ¬ (q = s ∧ i ≤ j ∧ j < i + ts.length) → w2 (Nd.lays size ts S s i).A q j = w2 S.A q j) ∧ Reps (Nd.lays size ts S s i).A B ts s i
  | [], S, s, i, _, _, _, _, _, _, _, _, _ => ⟨fun _ _ _ _ => rfl, trivial⟩
  | t :: ts, S, s, i, hf, h1, hs, hi, hz, hfull, B, hB, hBs => by
    simp only [List.length_cons] at hi hz
    simp only [Nd.lays] at hfull ⊢
    have hf1 := lay_not_full hfull
    obtain ⟨k1, r1⟩ := Nd.lay_rep size t S s i (hf t (by simp)) h1 hs (by omega) (by simpa using hz 0 (by omega)) hf1
    have g1 := (Nd.lay_ok size t S s i h1).grew
    obtain ⟨k2, r2⟩ := Nd.lays_rep size ts (t.lay size S s i) s (i + 1) (fun u hu => hf u (by simp [hu])) (Nat.le_trans h1 g1.len) (Nat.lt_of_lt_of_le hs g1.len) (by have := g1.seg s; omega)
      (fun j hj => by rw [k1 s (i + 1 + j) (by omega) (by omega)]; have := hz (j + 1) (by omega); rw [← this]; congr 1; omega) hfull B (fun q => Nat.le_trans (hB q) (g1.seg q)) (by omega)
    have g2 := (Nd.lays_ok size ts (t.lay size S s i) s (i + 1) (Nat.le_trans h1 g1.len)).grew
    refine ⟨fun q j hj hn => ?_, ?_⟩
    · simp only [List.length_cons] at hn
      rw [k2 q j (Nat.lt_of_lt_of_le hj (g1.seg q)) (by omega), k1 q j hj (by omega)]
    · rw [Reps]
      refine ⟨⟨hBs, Rep.keep ⟨g2.len, g2.seg, fun q j h5 h6 => k2 q j h6 ?_⟩ hB t s i (hf t (by simp)) ?_ r1⟩, r2⟩
      · rintro ⟨rfl, h7, h8⟩; omega
      · exact k2 s i (Nat.lt_of_lt_of_le (by omega) (g1.seg s)) (by omega)
end
/-! ### decoding it -/
mutual
def Nd.cst : Nd → Int
  | .mk k z w b ks => 1 + (Nd.mk k z w b ks).need + Nd.cstL ks
def Nd.cstL : List Nd → Int
  | [] => 0
  | t :: ts => t.cst + Nd.cstL ts
end
mutual
theorem Nd.cst_pos : ∀ (t : Nd), 1 ≤ t.cst
  | .mk k z w b ks => by have := Nd.need_nn (.mk k z w b ks); have := Nd.cstL_nn ks; rw [Nd.cst]; omega
theorem Nd.cstL_nn : ∀ (ts : List Nd), 0 ≤ Nd.cstL ts
  | [] => by rw [Nd.cstL]; exact Int.le_refl _
  | t :: ts => by have := Nd.cst_pos t; have := Nd.cstL_nn ts; rw [Nd.cstL]; omega
end
theorem kidsD_succ {f : Int → Int → Int × Nd × Int} {a p r : Int} {n : Nat} {ks : List Nd} (h : kidsD f a p n = (r, ks, 0)) : kidsD f a p (n + 1) = ((f (a + (n : Int)) r).1, ks ++ [(f (a + (n : Int)) r).2.1], (f (a + (n : Int)) r).2.2) := by
  rw [kidsD, h, if_neg (by simp)]
theorem kidsD_head {f : Int → Int → Int × Nd × Int} {a p p1 : Int} {t : Nd} (h : f a p = (p1, t, 0)) : ∀ (n : Nat) (p2 : Int) (ts : List Nd), kidsD f (a + 1) p1 n = (p2, ts, 0) → kidsD f a p (n + 1) = (p2, t :: ts, 0)
  | 0, p2, ts, hk => by
    simp only [kidsD, Prod.mk.injEq] at hk
    obtain ⟨rfl, rfl, -⟩ := hk
    rw [kidsD_succ (show kidsD f a p 0 = (p, [], 0) from rfl), show a + ((0 : Nat) : Int) = a from by omega, h]
    rfl
  | n + 1, p2, ts, hk => by
    by_cases h0 : (kidsD f (a + 1) p1 n).2.2 ≠ 0
    · rw [kidsD, if_pos h0] at hk; rw [hk] at h0; exact absurd rfl h0
    · have hr : kidsD f (a + 1) p1 n = ((kidsD f (a + 1) p1 n).1, (kidsD f (a + 1) p1 n).2.1, 0) := Prod.ext rfl (Prod.ext rfl (by simpa using h0))
      rw [kidsD_succ hr] at hk
      have ih := kidsD_head h n _ _ hr
      rw [kidsD_succ ih, show a + ((n + 1 : Nat) : Int) = a + 1 + (n : Int) from by omega]
      simp only [Prod.mk.injEq] at hk
      obtain ⟨h4, h5, h6⟩ := hk
      rw [h4, h6, ← h5]
      rfl
theorem follow_says {s : Src} {seg a x : Int} {p : Pt} (hx : Says x p) (h0 : s.word seg a = (x, 0)) (hn : nearP p = true) (he : wordsE (objP p seg (a + 1 + p.off)).pt = 0) (hw : withinP s.sizes seg (a + 1 + p.off) (wordsN (objP p seg (a + 1 + p.off)).pt) = true) : followS s seg a = (objP p seg (a + 1 + p.off), 0) := by
  have hp := ptrS_says hx h0
  have e1 : (ptrS s seg a).1 = p := by rw [hp]
  have e2 : (ptrS s seg a).2 = 0 := by rw [hp]
  unfold followS
  rw [e1, e2]
  refine (if_neg ?_).trans ((if_pos hn).trans ?_)
  · have : p.kind = 1 ∨ p.kind = 2 := by simpa [nearP] using hn
    omega
  · unfold foundS
    rw [he, hw]
    rfl
theorem follow_land {s : Src} {seg a x y q pd : Int} {p : Pt} (hy : Says y ⟨3, pd, 0, 0, 0, 0, q, false⟩) (h0 : s.word seg a = (y, 0)) (hx : Says x p) (h1 : s.word q pd = (x, 0)) (hn : nearP p = true) (he : wordsE (objP p q (pd + 1 + p.off)).pt = 0) (hw : withinP s.sizes q (pd + 1 + p.off) (wordsN (objP p q (pd + 1 + p.off)).pt) = true) : followS s seg a = (objP p q (pd + 1 + p.off), 0) := by
  have hp := ptrS_says hy h0
  have hq := ptrS_says hx h1
  have e1 : (ptrS s seg a).1 = ⟨3, pd, 0, 0, 0, 0, q, false⟩ := by rw [hp]
  have e2 : (ptrS s seg a).2 = 0 := by rw [hp]
  have f1 : (ptrS s q pd).1 = p := by rw [hq]
  have f2 : (ptrS s q pd).2 = 0 := by rw [hq]
  unfold followS
  rw [e1, e2]
  refine (if_neg (by simp)).trans ((if_neg (by simp [nearP])).trans ((if_neg (by simp)).trans ?_))
  unfold landedS
  show (if (ptrS s q pd).2 ≠ 0 then _ else if nearP (ptrS s q pd).1 = false then _ else _) = _
  rw [f1, f2]
  refine (if_neg (by decide)).trans ((if_neg (by rw [hn]; decide)).trans ?_)
  unfold foundS
  show (if wordsE (objP p q (pd + 1 + p.off)).pt ≠ 0 then _ else if withinP s.sizes q (pd + 1 + p.off) _ = false then _ else _) = _
  rw [he, hw]
  rfl
theorem objP_ptr (t : Nd) (off q a : Int) : objP (t.ptr off) q a = objP (t.ptr 0) q a := by
  cases t with
  | mk k z w b ks =>
    simp only [Nd.ptr]
    split
    · rfl
    · split <;> rfl
/-- What is found where something of its own kind lies. -/
inductive Own2 (k z : Int) (w b : List Int) (ks : List Nd) (q a : Int) : Prop where
  | st (h1 : k = 1) (h2 : z = 0) (h3 : b = []) (h4 : objP ((Nd.mk k z w b ks).ptr 0) q a = ⟨1, q, a, w.length, ks.length, 0, 0⟩) (h5 : (Nd.mk k z w b ks).need = (w.length : Int) + ks.length) (h6 : w.length ≤ 100 ∧ ks.length ≤ 100)
  | bt (h1 : k = 2) (h2 : z = 2) (h3 : w = []) (h4 : ks = []) (h5 : objP ((Nd.mk k z w b ks).ptr 0) q a = ⟨2, q, a, 0, 0, 2, b.length⟩) (h6 : (Nd.mk k z w b ks).need = ((b.length : Int) + 7) / 8) (h7 : b.length ≤ 4096)
  | wd (h1 : k = 2) (h2 : z = 5) (h3 : b = []) (h4 : ks = []) (h5 : objP ((Nd.mk k z w b ks).ptr 0) q a = ⟨2, q, a, 0, 0, 5, w.length⟩) (h6 : (Nd.mk k z w b ks).need = (w.length : Int)) (h7 : w.length ≤ 4096)
  | pt (h1 : k = 2) (h2 : z = 6) (h3 : w = []) (h4 : b = []) (h5 : objP ((Nd.mk k z w b ks).ptr 0) q a = ⟨2, q, a, 0, 0, 6, ks.length⟩) (h6 : (Nd.mk k z w b ks).need = (ks.length : Int)) (h7 : ks.length ≤ 4096)
theorem own2 {k z : Int} {w b : List Int} {ks : List Nd} (ho : (Nd.mk k z w b ks).own = true) (hk : ¬ k = 0) (q a : Int) : Own2 k z w b ks q a := by
  simp only [Nd.own, if_neg hk] at ho
  split at ho
  · rename_i h1
    simp only [Bool.and_eq_true, decide_eq_true_eq] at ho
    obtain ⟨h2, h3, h4⟩ := ho
    have hb : b = [] := List.eq_nil_of_length_eq_zero (by omega)
    have hm : w.length ≤ 100 ∧ ks.length ≤ 100 := by split at h4 <;> omega
    subst hb
    subst h1
    exact .st rfl h2 rfl (by simp [Nd.ptr, objP]) (by simp [Nd.need]) hm
  · split at ho
    · rename_i h1 h2
      subst h2
      split at ho
      · rename_i h3
        simp only [Bool.and_eq_true, decide_eq_true_eq] at ho
        have hw : w = [] := List.eq_nil_of_length_eq_zero (by omega)
        have hks : ks = [] := List.eq_nil_of_length_eq_zero (by omega)
        subst hw; subst hks; subst h3
        exact .bt rfl rfl rfl rfl (by simp [Nd.ptr, objP]) (by simp [Nd.need]) (by omega)
      · split at ho
        · rename_i h3
          simp only [Bool.and_eq_true, decide_eq_true_eq] at ho
          have hb : b = [] := List.eq_nil_of_length_eq_zero (by omega)
          have hks : ks = [] := List.eq_nil_of_length_eq_zero (by omega)
          subst hb; subst hks; subst h3
          exact .wd rfl rfl rfl rfl (by simp [Nd.ptr, objP]) (by simp [Nd.need]) (by omega)
        · split at ho
          · rename_i h3
            simp only [Bool.and_eq_true, decide_eq_true_eq] at ho
            have hb : b = [] := List.eq_nil_of_length_eq_zero (by omega)
            have hw : w = [] := List.eq_nil_of_length_eq_zero (by omega)
            subst hb; subst hw; subst h3
            exact .pt rfl rfl rfl rfl (by simp [Nd.ptr, objP]) (by simp [Nd.need]) (by omega)
          · cases ho
    · cases ho
theorem wordsN_ob (o : Ob) : wordsN o.pt = wordsN ⟨o.kind, 0, o.data, o.ptrs, o.size, o.count, 0, false⟩ := rfl
theorem wordsE_ob (o : Ob) : wordsE o.pt = wordsE ⟨o.kind, 0, o.data, o.ptrs, o.size, o.count, 0, false⟩ := rfl
/-- Its numbers. -/
theorem own2_words {k z : Int} {w b : List Int} {ks : List Nd} {q a : Int} (h : Own2 k z w b ks q a) : wordsE (objP ((Nd.mk k z w b ks).ptr 0) q a).pt = 0 ∧ wordsN (objP ((Nd.mk k z w b ks).ptr 0) q a).pt = (Nd.mk k z w b ks).need ∧ wordsO (objP ((Nd.mk k z w b ks).ptr 0) q a) = (Nd.mk k z w b ks).need ∧
    kidN (objP ((Nd.mk k z w b ks).ptr 0) q a) = ks.length ∧ (ks = [] ∨ kidA (objP ((Nd.mk k z w b ks).ptr 0) q a) = a + ((w ++ chunksP b).length : Nat)) := by
  have key : ∀ (o : Ob) (n : Int), o.kind ≠ 3 → wordsE o.pt = 0 → wordsN o.pt = n → wordsE o.pt = 0 ∧ wordsN o.pt = n ∧ wordsO o = n := by
    intro o n h3 h1 h2
    exact ⟨h1, h2, by unfold wordsO; rw [if_neg h3, h2]⟩
  cases h with
  | st h1 h2 h3 h4 h5 h6 =>
    rw [h4, h5]
    have := key ⟨1, q, a, w.length, ks.length, 0, 0⟩ ((w.length : Int) + ks.length) (by simp) (by rw [wordsE_ob, wordsE_mk]; rfl) (by rw [wordsN_ob, wordsN_mk, if_neg (by simp), if_pos rfl, wrap_in (by simp only [inR]; omega)])
    refine ⟨this.1, this.2.1, this.2.2, rfl, ?_⟩
    subst h3
    exact .inr (by simp [kidA, chunksP])
  | bt h1 h2 h3 h4 h5 h6 h7 =>
    rw [h5, h6]
    have := key ⟨2, q, a, 0, 0, 2, b.length⟩ (((b.length : Int) + 7) / 8) (by simp) (by rw [wordsE_ob, wordsE_mk]; rfl) (by
      rw [wordsN_ob, wordsN_mk, if_neg (by simp), if_neg (by simp), if_neg (by simp), if_pos rfl, if_pos rfl, wrap_in (by simp only [inR]; omega : inR .i64 ((b.length : Int) + 8)), wrap_in (by simp only [inR]; omega : inR .i64 ((b.length : Int) + 8 - 1)), Int.tdiv_eq_ediv_of_nonneg (by omega), wrap_in (by simp only [inR]; omega : inR .i64 (((b.length : Int) + 8 - 1) / 8))]
      congr 1
      omega)
    subst h3; subst h4
    exact ⟨this.1, this.2.1, this.2.2, rfl, .inl rfl⟩
  | wd h1 h2 h3 h4 h5 h6 h7 =>
    rw [h5, h6]
    have := key ⟨2, q, a, 0, 0, 5, w.length⟩ (w.length : Int) (by simp) (by rw [wordsE_ob, wordsE_mk]; rfl) (by rw [wordsN_ob, wordsN_mk]; rfl)
    subst h3; subst h4
    exact ⟨this.1, this.2.1, this.2.2, rfl, .inl rfl⟩
  | pt h1 h2 h3 h4 h5 h6 h7 =>
    rw [h5, h6]
    have := key ⟨2, q, a, 0, 0, 6, ks.length⟩ (ks.length : Int) (by simp) (by rw [wordsE_ob, wordsE_mk]; rfl) (by rw [wordsN_ob, wordsN_mk]; rfl)
    subst h3; subst h4
    exact ⟨this.1, this.2.1, this.2.2, rfl, .inr (by simp [kidA, chunksP])⟩
/-! ### words and bytes as they lie -/
mutual
def Nd.u8 : Nd → Prop
  | .mk _ _ _ b ks => (∀ x ∈ b, inR .u8 x) ∧ Nd.u8L ks
def Nd.u8L : List Nd → Prop
  | [] => True
  | t :: ts => t.u8 ∧ Nd.u8L ts
end
mutual
theorem NodeR.u8 {w : World} : ∀ {c : List Value} {t : Nd}, NodeR w c t → t.u8
  | _, _, .mk h1 h2 h3 h4 h5 h6 h7 h8 => ⟨h6, KidsR.u8 h8⟩
theorem KidsR.u8 {w : World} : ∀ {c : List Value} {t : List Nd}, KidsR w c t → Nd.u8L t
  | _, _, .nil => trivial
  | _, _, .cons h1 h2 => ⟨NodeR.u8 h1, KidsR.u8 h2⟩
end
theorem wordsS_at {A : List (List Int)} {q a : Nat} {l : List Int} (hq : q < A.length) (hl : a + l.length ≤ len2 A q) (h : ∀ j, j < l.length → w2 A q (a + j) = l.getD j 0) : wordsS (wholeS A) (q : Int) (a : Int) l.length = l := by
  refine List.ext_getElem (wordsS_len _ _ _ _) fun j h1 h2 => ?_
  have hw : wordA A (q : Int) (((a + j : Nat)) : Int) = (w2 A q (a + j), 0) := word_at hq (by omega)
  simp only [wordsS, List.getElem_map, List.getElem_range]
  have e : ((a : Int) + (j : Int)) = ((a + j : Nat) : Int) := by omega
  show (wordA A q ((a : Int) + (j : Int))).1 = _
  rw [e, hw, h j h2, getD_at h2]
theorem flat8_at : ∀ (l : List Int) (i : Nat), i < 8 * l.length → (l.flatMap byt8).getD i 0 = byt1 (l.getD (i / 8) 0) (i % 8)
  | [], i, h => by simp at h
  | x :: l, i, h => by
    rw [List.flatMap_cons, getD_app, byt8_len]
    simp only [List.length_cons] at h
    by_cases hi : 8 ≤ i
    · rw [if_pos hi, flat8_at l (i - 8) (by omega), show i / 8 = (i - 8) / 8 + 1 from by omega, List.getD_cons_succ, show (i - 8) % 8 = i % 8 from by omega]
    · rw [if_neg hi, show i / 8 = 0 from by omega, List.getD_cons_zero, show i % 8 = i from by omega]
      have hl : i < (byt8 x).length := by rw [byt8_len]; omega
      rw [getD_at hl]
      simp [byt8]
theorem chunks_len (b : List Int) : (chunksP b).length = (b.length + 7) / 8 := by simp [chunksP]
theorem chunks_bytes {b : List Int} (hb : isU8 b) : ((chunksP b).flatMap byt8).take b.length = b := by
  have hl : ((chunksP b).flatMap byt8).length = 8 * ((b.length + 7) / 8) := by rw [flat8_len, chunks_len]
  refine List.ext_getElem (by rw [List.length_take, hl]; omega) fun i h1 h2 => ?_
  have h3 : i < ((chunksP b).flatMap byt8).length := by rw [hl]; omega
  rw [List.getElem_take, ← getD_at h3, flat8_at _ _ (by rw [chunks_len]; omega), ← getD_at h2, ← chunk_digit hb h2]
  have h4 : i / 8 < (chunksP b).length := by rw [chunks_len]; omega
  rw [getD_at h4]
  simp only [chunksP, List.getElem_map, List.getElem_range, byt1]
  rw [show (2 : Int) ^ (8 * (i % 8)) = 256 ^ (i % 8) from by rw [← pow_8, Nat.mul_comm]]
theorem own2_read {A : List (List Int)} {k z : Int} {w b : List Int} {ks : List Nd} {q a : Nat} (h : Own2 k z w b ks q a) (hb : isU8 b) (hq : q < A.length) (hl : a + (w ++ chunksP b).length ≤ len2 A q) (hw : ∀ j, j < (w ++ chunksP b).length → w2 A q (a + j) = (w ++ chunksP b).getD j 0) :
    nodL (wholeS A) (objP ((Nd.mk k z w b ks).ptr 0) q a) = w ∧ nodB (wholeS A) (objP ((Nd.mk k z w b ks).ptr 0) q a) = b ∧ (objP ((Nd.mk k z w b ks).ptr 0) q a).kind = k ∧ (objP ((Nd.mk k z w b ks).ptr 0) q a).size = z := by
  have all := wordsS_at hq hl hw
  cases h with
  | st h1 h2 h3 h4 h5 h6 =>
    subst h3
    rw [h4]
    simp only [chunksP, List.length_nil, Nat.zero_add, Nat.reduceDiv, List.range_zero, List.map_nil, List.append_nil] at all
    exact ⟨all, rfl, h1.symm, h2.symm⟩
  | bt h1 h2 h3 h4 h5 h6 h7 =>
    subst h3
    rw [h5]
    simp only [List.nil_append] at all
    rw [chunks_len] at all
    refine ⟨rfl, ?_, h1.symm, h2.symm⟩
    show bytesS (wholeS A) q a ((b.length : Int)).toNat = b
    rw [Int.toNat_natCast, bytesS, all, chunks_bytes hb]
  | wd h1 h2 h3 h4 h5 h6 h7 =>
    subst h3
    rw [h5]
    simp only [chunksP, List.length_nil, Nat.zero_add, Nat.reduceDiv, List.range_zero, List.map_nil, List.append_nil] at all
    exact ⟨all, rfl, h1.symm, h2.symm⟩
  | pt h1 h2 h3 h4 h5 h6 h7 =>
    subst h3; subst h4
    rw [h5]
    exact ⟨rfl, rfl, h1.symm, h2.symm⟩
theorem ptr_off (t : Nd) (off : Int) : (t.ptr off).off = off := by
  cases t with
  | mk k z w b ks =>
    simp only [Nd.ptr]
    split
    · rfl
    · split <;> rfl
theorem ptr_near {k z : Int} {w b : List Int} {ks : List Nd} {q a : Int} (h : Own2 k z w b ks q a) (off : Int) : nearP ((Nd.mk k z w b ks).ptr off) = true := by
  have hk : k = 1 ∨ k = 2 := by cases h <;> simp [*]
  have : ((Nd.mk k z w b ks).ptr off).kind = k := by
    simp only [Nd.ptr]
    split
    · rfl
    · split <;> rfl
  simp [nearP, this, hk]
theorem ptr_ok {k z : Int} {w b : List Int} {ks : List Nd} {q a : Int} (h : Own2 k z w b ks q a) {off : Int} (h0 : -5000 ≤ off) (h1 : off ≤ 5000) (hz : (Nd.mk k z w b ks).need = 0 → k = 1 → off ≠ 0) : okP ((Nd.mk k z w b ks).ptr off) := by
  cases h with
  | st h2 h3 h4 h5 h6 h7 =>
    have hp : (Nd.mk k z w b ks).ptr off = ⟨1, off, w.length, ks.length, 0, 0, 0, false⟩ := by simp [Nd.ptr, h2]
    rw [hp]
    exact .inl ⟨rfl, by simp only []; omega, by simp only []; omega, by simp only []; omega, by simp only []; omega, by simp only []; omega, by simp only []; omega, by
      rintro ⟨g1, g2, g3⟩
      simp only [] at g1 g2 g3
      exact hz (by omega) h2 g1⟩
  | bt h2 h3 h4 h5 h6 h7 h8 =>
    have hp : (Nd.mk k z w b ks).ptr off = ⟨2, off, 0, 0, 2, b.length, 0, false⟩ := by simp [Nd.ptr, h2, h3, h4, h5]
    rw [hp]
    exact .inr (.inl ⟨rfl, by simp only []; omega, by simp only []; omega, by simp, by simp, by simp only []; omega, by simp only []; omega⟩)
  | wd h2 h3 h4 h5 h6 h7 h8 =>
    have hp : (Nd.mk k z w b ks).ptr off = ⟨2, off, 0, 0, 5, w.length, 0, false⟩ := by simp [Nd.ptr, h2, h3, h4, h5]
    rw [hp]
    exact .inr (.inl ⟨rfl, by simp only []; omega, by simp only []; omega, by simp, by simp, by simp only []; omega, by simp only []; omega⟩)
  | pt h2 h3 h4 h5 h6 h7 h8 =>
    have hp : (Nd.mk k z w b ks).ptr off = ⟨2, off, 0, 0, 6, ks.length, 0, false⟩ := by simp [Nd.ptr, h2, h3, h4, h5]
    rw [hp]
    exact .inr (.inl ⟨rfl, by simp only []; omega, by simp only []; omega, by simp, by simp, by simp only []; omega, by simp only []; omega⟩)
/-- The word of a thing leads to it. -/
theorem rep_follow {A : List (List Int)} {B : Nat → Nat} (hA : A.length ≤ 16) (hl : ∀ q, len2 A q ≤ 4096) {k z : Int} {w b : List Int} {ks : List Nd} (ho : (Nd.mk k z w b ks).own = true) (hk : ¬ k = 0) {s i q a : Nat} (hs : s < A.length) (hi : i < len2 A s) (hp : Pts A B (.mk k z w b ks) s i q a) (hq : q < A.length)
    (hz : (Nd.mk k z w b ks).need = 0 → k = 1 → q = s ∧ a = i) (hlen : a + (Nd.mk k z w b ks).need.toNat ≤ len2 A q) : followS (wholeS A) (s : Int) (i : Int) = (objP ((Nd.mk k z w b ks).ptr 0) q a, 0) := by
  obtain ⟨hkd, hlw, hlb, hlk, hnn, hnm, hkn, hb1⟩ := Nd.own_b ho
  have h2 := own2 ho hk (q : Int) (a : Int)
  obtain ⟨e1, e2, e3, e4, e5⟩ := own2_words h2
  have hlq := hl q
  have hls := hl s
  have hwi : withinP (wholeS A).sizes (q : Int) (a : Int) (Nd.mk k z w b ks).need = true := by
    have hg : (wholeS A).sizes.getD q 0 = (len2 A q : Int) := by
      rw [getD_at (by simpa [wholeS] using hq)]
      simp only [wholeS, List.getElem_map, len2]
      rw [getD_at hq]
    unfold withinP addOk
    rw [Int.toNat_natCast, hg]
    simp only [Bool.and_eq_true, decide_eq_true_eq, wholeS, List.length_map]
    omega
  rcases hp with ⟨rfl, hw⟩ | ⟨p, hne0, hpa, hBp, hpl, hw, hw2⟩
  · have hword : (wholeS A).word (q : Int) (i : Int) = (encR ((Nd.mk k z w b ks).ptr ((a : Int) - i - 1)), 0) := by
      have := word_at hs hi
      show wordA A _ _ = _
      rw [this]
      exact congrArg (fun x => (x, (0 : Int))) hw
    have hsay := says_enc (ptr_ok h2 (off := (a : Int) - i - 1) (by omega) (by omega) (fun g1 g2 => by have := (hz g1 g2).2; omega))
    have hat : (i : Int) + 1 + ((Nd.mk k z w b ks).ptr ((a : Int) - i - 1)).off = (a : Int) := by rw [ptr_off]; omega
    have := follow_says hsay hword (ptr_near h2 _) (by rw [hat, objP_ptr, e1]) (by rw [hat, objP_ptr, e2]; exact hwi)
    rw [this, hat, objP_ptr]
  · have hword : (wholeS A).word (s : Int) (i : Int) = (encR ⟨3, (p : Int), 0, 0, 0, 0, (q : Int), false⟩, 0) := by
      have := word_at hs hi
      show wordA A _ _ = _
      rw [this]
      exact congrArg (fun x => (x, (0 : Int))) hw
    have hword2 : (wholeS A).word (q : Int) (p : Int) = (encR ((Nd.mk k z w b ks).ptr 0), 0) := by
      have := word_at hq hpl
      show wordA A _ _ = _
      rw [this]
      exact congrArg (fun x => (x, (0 : Int))) hw2
    have hsay := says_enc (ptr_ok h2 (off := 0) (by omega) (by omega) (fun g1 _ => absurd g1 hne0))
    have hfar : Says (encR ⟨3, (p : Int), 0, 0, 0, 0, (q : Int), false⟩) ⟨3, (p : Int), 0, 0, 0, 0, (q : Int), false⟩ := says_enc (.inr (.inr (.inl ⟨rfl, by simp only []; omega, by simp only []; omega, by simp only []; omega, by simp only []; omega⟩)))
    have hat : (p : Int) + 1 + ((Nd.mk k z w b ks).ptr 0).off = (a : Int) := by rw [ptr_off]; omega
    have := follow_land hfar hword hsay hword2 (ptr_near h2 _) (by rw [hat, e1]) (by rw [hat, e2]; exact hwi)
    rw [this, hat]
mutual
/-- What lies as it should is decoded as it is. -/
theorem dec_rep {A : List (List Int)} {B : Nat → Nat} (hA : A.length ≤ 16) (hl : ∀ q, len2 A q ≤ 4096) : ∀ (t : Nd) (s i d : Nat) (p : Int), t.right d = true → t.u8 → Rep A B t s i → 0 ≤ p → p + t.cst ≤ 8192 → nodeD (wholeS A) d (s : Int) (i : Int) p = (p + t.cst, t, 0)
  | .mk k z w b ks, s, i, d, p, hr, hu, h, h0, h1 => by
    have hfine : (Nd.mk k z w b ks).fine := ⟨d, hr⟩
    have ho := Nd.fine_own hfine
    rw [Rep] at h
    obtain ⟨hi, hs, h⟩ := h
    rw [Nd.cst] at h1 ⊢
    have hcl := Nd.cstL_nn ks
    have hnn := Nd.need_nn (.mk k z w b ks)
    simp only [Nd.right, Bool.and_eq_true, Bool.not_eq_true', Bool.and_eq_false_iff, decide_eq_false_iff_not] at hr
    obtain ⟨⟨-, hr2⟩, hr3⟩ := hr
    rw [nodeD_eq]
    by_cases hk : k = 0
    · rw [if_pos hk] at h
      have hks : ks = [] := own_kids ho (by omega)
      have hf : followS (wholeS A) (s : Int) (i : Int) = (Ob0, 0) := by
        have hw := word_at hs hi
        have hw' : wordA A (s : Int) (i : Int) = (0, 0) := by rw [hw]; exact congrArg (fun x => (x, (0 : Int))) h
        have hp : ptrS (wholeS A) (s : Int) (i : Int) = (Pt0, 0) := by
          unfold ptrS
          show (if (wordA A (s : Int) (i : Int)).2 ≠ 0 then _ else (decP (wordA A (s : Int) (i : Int)).1, decE (wordA A (s : Int) (i : Int)).1)) = _
          rw [hw']
          rfl
        unfold followS
        rw [hp]
        exact if_pos (.inr rfl)
      simp only [Nd.own, if_pos hk, Bool.and_eq_true, decide_eq_true_eq] at ho
      have hw0 : w = [] := List.eq_nil_of_length_eq_zero (by omega)
      have hb0 : b = [] := List.eq_nil_of_length_eq_zero (by omega)
      have hz0 : z = 0 := ho.1
      subst hw0; subst hb0; subst hz0; subst hk; subst hks
      have hn0 : (Nd.mk 0 0 [] [] []).need = 0 := rfl
      have hc0 : Nd.cstL [] = 0 := by rw [Nd.cstL]
      rw [hn0, hc0] at h1 ⊢
      unfold nodeK
      rw [hf]
      have hw1 : wordsO Ob0 = 0 := rfl
      rw [if_neg (by simp), if_neg (by simp [Ob0]), hw1, if_neg (by omega)]
      rfl
    · rw [if_neg hk] at h
      obtain ⟨q, a, hp, hq, -, hz, hlen, hwd, hreps⟩ := h
      have hbl := body_len ho hk
      have hf := rep_follow hA hl ho hk hs hi hp hq hz hlen
      have h2 := own2 ho hk (q : Int) (a : Int)
      obtain ⟨e1, e2, e3, e4, e5⟩ := own2_words h2
      rw [Nd.u8] at hu
      obtain ⟨f1, f2, f3, f4⟩ := own2_read h2 hu.1 hq (by omega) hwd
      obtain ⟨d1, rfl⟩ : ∃ e, d = e + 1 := ⟨d - 1, by rcases hr2 with h | h <;> omega⟩
      have hkids : kidsD (fun x y => nodeD (wholeS A) d1 (q : Int) x y) (kidA (objP ((Nd.mk k z w b ks).ptr 0) (q : Int) (a : Int))) (p + (1 + (Nd.mk k z w b ks).need)) ks.length = (p + (1 + (Nd.mk k z w b ks).need) + Nd.cstL ks, ks, 0) := by
        rcases e5 with e5 | e5
        · subst e5
          have hc0 : Nd.cstL [] = 0 := by rw [Nd.cstL]
          rw [hc0]
          simp [kidsD]
        · rw [e5, show ((a : Int) + (((w ++ chunksP b).length : Nat) : Int)) = ((a + (w ++ chunksP b).length : Nat) : Int) from by omega]
          exact decs_rep hA hl ks q _ d1 _ hr3 hu.2 hreps (by omega) (by omega)
      unfold nodeK
      rw [hf]
      simp only [] at *
      rw [if_neg (by simp), if_neg (by simp), e3, if_neg (by omega), e4, Int.toNat_natCast]
      have hseg : (objP ((Nd.mk k z w b ks).ptr 0) (q : Int) (a : Int)).seg = q := rfl
      rw [hseg]
      have hF : nodeF (wholeS A) (d1 + 1) (q : Int) = fun x y => nodeD (wholeS A) d1 (q : Int) x y := rfl
      rw [hF, hkids, if_neg (by simp), f1, f2, f3, f4]
      exact Prod.ext (by simp only []; omega) rfl
theorem decs_rep {A : List (List Int)} {B : Nat → Nat} (hA : A.length ≤ 16) (hl : ∀ q, len2 A q ≤ 4096) : ∀ (ts : List Nd) (q j d : Nat) (p : Int), Nd.rights ts d = true → Nd.u8L ts → Reps A B ts q j → 0 ≤ p → p + Nd.cstL ts ≤ 8192 → kidsD (fun x y => nodeD (wholeS A) d (q : Int) x y) (j : Int) p ts.length = (p + Nd.cstL ts, ts, 0)
  | [], q, j, d, p, _, _, _, _, _ => by rw [Nd.cstL, Int.add_zero]; rfl
  | t :: ts, q, j, d, p, hr, hu, h, h0, h1 => by
    rw [Nd.cstL] at h1 ⊢
    have hc := Nd.cst_pos t
    have hcl := Nd.cstL_nn ts
    rw [Reps] at h
    simp only [Nd.rights, Bool.and_eq_true] at hr
    rw [Nd.u8L] at hu
    have h2 := dec_rep hA hl t q j d p hr.1 hu.1 h.1.2 h0 (by omega)
    have h3 := decs_rep hA hl ts q (j + 1) d (p + t.cst) hr.2 hu.2 h.2 (by omega) (by omega)
    rw [List.length_cons, ← Int.add_assoc]
    exact kidsD_head (f := fun x y => nodeD (wholeS A) d (q : Int) x y) h2 ts.length _ ts h3
end
mutual
theorem Nd.cst_needs : ∀ (t : Nd) (l : Nat), t.right l = true → t.cst ≤ 1 + 2 * t.needs
  | .mk k z w b ks, l, h => by
    simp only [Nd.right, Bool.and_eq_true] at h
    obtain ⟨hkd, hlw, hlb, hlk, hnn, hnm, hkn, hb1⟩ := Nd.own_b h.1.1
    have hk := Nd.cstL_needs ks _ h.2
    have h0 : (ks.length : Int) ≤ (Nd.mk k z w b ks).need := by
      by_cases hk0 : k = 0
      · have hks : ks = [] := own_kids h.1.1 (by omega)
        subst hks; simpa using hnn
      · exact hkn hk0
    rw [Nd.cst, Nd.needs]
    omega
theorem Nd.cstL_needs : ∀ (ts : List Nd) (l : Nat), Nd.rights ts l = true → Nd.cstL ts ≤ ts.length + 2 * Nd.needsL ts
  | [], _, _ => by simp [Nd.cstL, Nd.needsL]
  | t :: ts, l, h => by
    simp only [Nd.rights, Bool.and_eq_true] at h
    have h1 := Nd.cst_needs t l h.1
    have h2 := Nd.cstL_needs ts l h.2
    rw [Nd.cstL, Nd.needsL, List.length_cons]
    omega
end
/-- What was built is decoded as it was. -/
theorem back_dec {t : Nd} {size : Int} (hu : t.u8) (hn : t.needs ≤ 4000) (h : (t.build size).2 = 0) : nodeD (wholeS (t.build size).1) 32 0 0 0 = (t.cst, t, 0) := by
  have hfit := Nd.build_fit h
  unfold Nd.build at h hfit ⊢
  by_cases h1 : size < 1 ∨ size > 4096 ∨ t.right 32 = false
  · rw [if_pos h1] at h; exact absurd h (by decide)
  · rw [if_neg h1] at h hfit ⊢
    have hr : t.right 32 = true := by
      cases hc : t.right 32 with
      | true => rfl
      | false => exact absurd (.inr (.inr hc)) h1
    by_cases h2 : (t.lay size ⟨[[0]], false⟩ 0 0).full = true
    · rw [if_pos h2] at h; exact absurd h (by decide)
    · rw [if_neg h2] at h hfit ⊢
      obtain ⟨-, hrep⟩ := Nd.lay_rep size t ⟨[[0]], false⟩ 0 0 ⟨32, hr⟩ (by simp) (by simp) (by simp [len2]) (by simp [w2]) (by simpa using h2)
      have hc := Nd.cst_needs t 32 hr
      have hs4 : size ≤ 4096 := by omega
      replace hfit : Fit size (t.lay size ⟨[[0]], false⟩ 0 0).A := hfit
      have := dec_rep (A := (t.lay size ⟨[[0]], false⟩ 0 0).A) hfit.most (fun q => by have := hfit.seg q; omega) t 0 0 32 0 hr hu hrep (by omega) (by omega)
      rw [Int.zero_add] at this
      exact this
/-! ### what is built are words -/
def AllU (A : List (List Int)) : Prop := ∀ q ∈ A, ∀ x ∈ q, inR .u64 x
mutual
def Nd.u64 : Nd → Prop
  | .mk _ _ w _ ks => (∀ x ∈ w, inR .u64 x) ∧ Nd.u64L ks
def Nd.u64L : List Nd → Prop
  | [] => True
  | t :: ts => t.u64 ∧ Nd.u64L ts
end
mutual
theorem NodeR.u64 {w : World} : ∀ {c : List Value} {t : Nd}, NodeR w c t → t.u64
  | _, _, .mk h1 h2 h3 h4 h5 h6 h7 h8 => ⟨h4, KidsR.u64 h8⟩
theorem KidsR.u64 {w : World} : ∀ {c : List Value} {t : List Nd}, KidsR w c t → Nd.u64L t
  | _, _, .nil => trivial
  | _, _, .cons h1 h2 => ⟨NodeR.u64 h1, KidsR.u64 h2⟩
end
theorem AllU.getD {A : List (List Int)} (h : AllU A) (s : Nat) : ∀ x ∈ A.getD s [], inR .u64 x := by
  by_cases hs : s < A.length
  · rw [getD_at hs]; exact h _ (List.getElem_mem hs)
  · rw [List.getD_eq_getElem?_getD, List.getElem?_eq_none (by omega)]; intro x hx; simp at hx
theorem AllU.set {A : List (List Int)} (h : AllU A) (s i : Nat) {x : Int} (hx : inR .u64 x) : AllU (setP A s i x) := by
  intro q hq y hy
  rcases List.mem_or_eq_of_mem_set hq with hq | rfl
  · exact h q hq y hy
  · rcases List.mem_or_eq_of_mem_set hy with hy | rfl
    · exact h.getD s y hy
    · exact hx
theorem AllU.growB {A : List (List Int)} (h : AllU A) (q : Nat) : AllU (growB A q) := by
  unfold K.growB
  split
  · intro p hp y hy
    rcases List.mem_append.1 hp with hp | hp
    · exact h p hp y hy
    · simp only [List.mem_singleton] at hp; subst hp; simp at hy
  · exact h
theorem AllU.grow {A : List (List Int)} (h : AllU A) (q : Nat) {l : List Int} (hl : ∀ x ∈ l, inR .u64 x) : AllU (growA A q l) := by
  intro p hp y hy
  unfold growA at hp
  rcases List.mem_or_eq_of_mem_set hp with hp | rfl
  · exact (h.growB q) p hp y hy
  · rcases List.mem_append.1 hy with hy | hy
    · exact (h.growB q).getD q y hy
    · exact hl y hy
theorem content_u64 {k z : Int} {w b : List Int} {ks : List Nd} (hw : ∀ x ∈ w, inR .u64 x) (hb : isU8 b) : ∀ x ∈ (Nd.mk k z w b ks).content, inR .u64 x := by
  intro x hx
  simp only [Nd.content, List.mem_append, chunksP, List.mem_map, List.mem_replicate] at hx
  rcases hx with (hx | ⟨j, -, rfl⟩) | ⟨-, rfl⟩
  · exact hw x hx
  · have := chunkP_range hb j
    simp only [inR]; omega
  · simp [inR]
theorem place_u64 (size : Int) (t : Nd) (S : Lay) (s i : Nat) (h : AllU S.A) : AllU (placeP size t S s i).S.A := by
  have h1 : ∀ x ∈ [t.near 0], inR .u64 x := fun x hx => by simp only [List.mem_singleton] at hx; subst hx; exact encR_u64 _
  unfold placeP
  split
  · exact h.set _ _ (encR_u64 _)
  · split
    · exact (h.set _ _ (encR_u64 _)).grow _ h1
    · exact (h.set _ _ (encR_u64 _)).grow _ h1
mutual
theorem lay_u64 (size : Int) : ∀ (t : Nd) (S : Lay) (s i : Nat), t.u64 → t.u8 → AllU S.A → AllU (t.lay size S s i).A
  | .mk k z w b ks, S, s, i, hw, hb, h => by
    rw [Nd.u64] at hw
    rw [Nd.u8] at hb
    simp only [Nd.lay]
    split
    · exact h
    · split
      · exact h.set _ _ (encR_u64 _)
      · exact lays_u64 size ks _ _ _ hw.2 hb.2 ((place_u64 size _ S s i h).grow _ (content_u64 hw.1 hb.1))
theorem lays_u64 (size : Int) : ∀ (ts : List Nd) (S : Lay) (s i : Nat), Nd.u64L ts → Nd.u8L ts → AllU S.A → AllU (Nd.lays size ts S s i).A
  | [], S, s, i, _, _, h => h
  | t :: ts, S, s, i, hw, hb, h => by
    rw [Nd.u64L] at hw
    rw [Nd.u8L] at hb
    simp only [Nd.lays]
    exact lays_u64 size ts _ _ _ hw.2 hb.2 (lay_u64 size t S s i hw.1 hb.1 h)
end
theorem build_u64 {t : Nd} (size : Int) (hw : t.u64) (hb : t.u8) : ∀ q ∈ (t.build size).1, ∀ x ∈ q, inR .u64 x := by
  unfold Nd.build
  split
  · intro q hq; simp at hq
  · split
    · intro q hq; simp at hq
    · refine lay_u64 size t _ 0 0 hw hb ?_
      intro q hq x hx
      simp only [List.mem_singleton] at hq
      subst hq
      simp only [List.mem_singleton] at hx
      subst hx
      simp [inR]
theorem build_right {t : Nd} {size : Int} (h : (t.build size).2 = 0) : rightB (t.build size).1 = true := by
  have hf := Nd.build_fit h
  have h0 : 1 ≤ len2 (t.build size).1 0 := by
    unfold Nd.build at h ⊢
    by_cases h1 : size < 1 ∨ size > 4096 ∨ t.right 32 = false
    · rw [if_pos h1] at h; exact absurd h (by decide)
    · rw [if_neg h1] at h ⊢
      by_cases h2 : (t.lay size ⟨[[0]], false⟩ 0 0).full = true
      · rw [if_pos h2] at h; exact absurd h (by decide)
      · rw [if_neg h2]
        exact Nat.le_trans (by decide : 1 ≤ len2 [[0]] 0) ((Nd.lay_ok size t ⟨[[0]], false⟩ 0 0 (by simp)).grew.seg 0)
  unfold rightB
  exact decide_eq_true ⟨hf.one, hf.most, h0, hf.all⟩
/-- Decoding what was built. -/
theorem back_decT {t : Nd} {size : Int} (hu : t.u8) (hn : t.needs ≤ 4000) (h : (t.build size).2 = 0) : decT (t.build size).1 = (t, 0) := by
  unfold decT
  rw [build_right h, if_neg (by simp), back_dec hu hn h]
theorem back_none {t : Nd} {size : Int} (h : (t.build size).2 ≠ 0) : decT (t.build size).1 = (.nil, 1) := by
  rw [Nd.build_none h]
  rfl
end Go.Proofs.Ytfhfecepcnapfaa.K
