/- Spans as sets of places. Plain law; no program here. -/
import Derived.Test.YtldlfhodboigeaaJ11
set_option linter.unusedVariables false
set_option linter.unusedSimpArgs false
namespace Go.Proofs.Ytldlfhodboigeaa.K
open Go Go.RowKit
abbrev Spn := Int × Int
def encS (s : Spn) : List Value := [.int .i64 s.1, .int .i64 s.2]
def encL (L : List Spn) : List Value := L.flatMap encS
theorem encL_len (L : List Spn) : (encL L).length = L.length * 2 := by
  induction L with
  | nil => rfl
  | cons s L ih => simp only [encL, List.flatMap_cons, List.length_append, List.length_cons] at ih ⊢; rw [ih]; simp [encS]; omega
theorem encL_append (A B : List Spn) : encL (A ++ B) = encL A ++ encL B := by simp [encL]
theorem encL_at : ∀ {L : List Spn} {i : Nat} (h : i < L.length), ((encL L).drop (i * 2)).take 2 = encS L[i]
  | [], i, h => by simp at h
  | s :: L, 0, _ => by simp [encL, encS]
  | s :: L, i + 1, h => by
    have := encL_at (L := L) (i := i) (by simpa using h)
    rw [show (i + 1) * 2 = i * 2 + 1 + 1 from by omega]
    simpa [encL, encS] using this
theorem encL_one {L : List Spn} : ∀ q ∈ encL L, q.oneCell' = true := by
  intro q hq
  obtain ⟨s, -, h⟩ := List.mem_flatMap.1 hq
  simp only [encS, List.mem_cons, List.not_mem_nil, or_false] at h
  rcases h with rfl | rfl <;> rfl
def noneS (s : Spn) : Bool := decide (s.2 ≤ s.1)
/-- Is a place there? -/
def inS (L : List Spn) (n : Int) : Prop := ∃ s ∈ L, s.1 ≤ n ∧ n < s.2
theorem inS_nil (n : Int) : ¬ inS [] n := fun ⟨_, h, _⟩ => by simp at h
theorem inS_cons (s : Spn) (L : List Spn) (n : Int) : inS (s :: L) n ↔ (s.1 ≤ n ∧ n < s.2) ∨ inS L n := by simp [inS]
theorem inS_append (A B : List Spn) (n : Int) : inS (A ++ B) n ↔ inS A n ∨ inS B n := by
  unfold inS
  constructor
  · rintro ⟨s, h, h2⟩
    rcases List.mem_append.1 h with h | h
    · exact .inl ⟨s, h, h2⟩
    · exact .inr ⟨s, h, h2⟩
  · rintro (⟨s, h, h2⟩ | ⟨s, h, h2⟩)
    · exact ⟨s, List.mem_append_left _ h, h2⟩
    · exact ⟨s, List.mem_append_right _ h, h2⟩
theorem inS_perm {A B : List Spn} (h : A.Perm B) (n : Int) : inS A n ↔ inS B n := by
  unfold inS
  constructor
  · rintro ⟨s, hs, h2⟩; exact ⟨s, h.mem_iff.1 hs, h2⟩
  · rintro ⟨s, hs, h2⟩; exact ⟨s, h.mem_iff.2 hs, h2⟩
theorem inS_filter (L : List Spn) (n : Int) : inS (L.filter fun s => !noneS s) n ↔ inS L n := by
  unfold inS
  constructor
  · rintro ⟨s, hs, h2⟩; exact ⟨s, (List.mem_filter.1 hs).1, h2⟩
  · rintro ⟨s, hs, h2⟩
    exact ⟨s, List.mem_filter.2 ⟨hs, by simp only [noneS, Bool.not_eq_true', decide_eq_false_iff_not]; omega⟩, h2⟩
/-- They rise, apart. -/
def RightS : List Spn → Prop
  | [] => True
  | s :: L => s.1 < s.2 ∧ (∀ t ∈ L, s.2 < t.1) ∧ RightS L
theorem RightS.lo : ∀ {L : List Spn} {s : Spn}, RightS (s :: L) → ∀ n, inS (s :: L) n → s.1 ≤ n
  | L, s, ⟨h1, h2, h3⟩, n, h => by
    rcases (inS_cons s L n).1 h with h | ⟨t, ht, h4, h5⟩
    · exact h.1
    · have := h2 t ht; omega
/-- Spans that are right are told by their places. -/
theorem right_same : ∀ (A B : List Spn), RightS A → RightS B → (∀ n, inS A n ↔ inS B n) → A = B
  | [], [], _, _, _ => rfl
  | [], t :: B, _, hB, h => absurd ((h t.1).2 ⟨t, by simp, Int.le_refl _, hB.1⟩) (inS_nil _)
  | s :: A, [], hA, _, h => absurd ((h s.1).1 ⟨s, by simp, Int.le_refl _, hA.1⟩) (inS_nil _)
  | s :: A, t :: B, hA, hB, h => by
    have h1 : s.1 = t.1 := by
      have g1 := hB.lo s.1 ((h s.1).1 ⟨s, by simp, Int.le_refl _, hA.1⟩)
      have g2 := hA.lo t.1 ((h t.1).2 ⟨t, by simp, Int.le_refl _, hB.1⟩)
      omega
    have key : ∀ {s t : Spn} {A B : List Spn}, RightS (s :: A) → RightS (t :: B) → (∀ n, inS (s :: A) n ↔ inS (t :: B) n) → s.1 = t.1 → t.2 ≤ s.2 := by
      intro s t A B hA hB h h1
      by_cases hlt : s.2 < t.2
      · exfalso
        have g := (h s.2).2 ⟨t, by simp, by have := hA.1; omega, hlt⟩
        rcases (inS_cons s A s.2).1 g with g | ⟨u, hu, g1, g2⟩
        · omega
        · have := hA.2.1 u hu; omega
      · omega
    have h2 : s.2 = t.2 := by
      have g1 := key hA hB h h1
      have g2 := key hB hA (fun n => (h n).symm) h1.symm
      omega
    have h3 : s = t := Prod.ext h1 h2
    subst h3
    congr 1
    refine right_same A B hA.2.2 hB.2.2 fun n => ?_
    have g := h n
    rw [inS_cons, inS_cons] at g
    constructor
    · intro hn
      obtain ⟨u, hu, g1, g2⟩ := hn
      have g3 := hA.2.1 u hu
      rcases g.1 (.inr ⟨u, hu, g1, g2⟩) with g4 | g4
      · omega
      · exact g4
    · intro hn
      obtain ⟨u, hu, g1, g2⟩ := hn
      have g3 := hB.2.1 u hu
      rcases g.2 (.inr ⟨u, hu, g1, g2⟩) with g4 | g4
      · omega
      · exact g4
/-! ### Norm: what is sorted is joined; the last one is at the list's head here -/
def joinS (out : List Spn) (s : Spn) : List Spn := match out with
  | [] => [s]
  | t :: r => if s.1 ≤ t.2 then (t.1, max t.2 s.2) :: r else s :: t :: r
def normR (L : List Spn) : List Spn := L.foldl joinS []
/-- Right from the end. -/
def RevR : List Spn → Prop
  | [] => True
  | s :: L => s.1 < s.2 ∧ (∀ t ∈ L, t.2 < s.1) ∧ RevR L
theorem revR_right : ∀ {L : List Spn}, RevR L → ∀ {R : List Spn}, RightS R → (∀ t ∈ L, ∀ u ∈ R, t.2 < u.1) → RightS (L.reverse ++ R)
  | [], _, R, hR, _ => by simpa using hR
  | s :: L, h, R, hR, hs => by
    rw [List.reverse_cons, List.append_assoc]
    refine revR_right h.2.2 ⟨h.1, fun t ht => hs s (by simp) t ht, hR⟩ ?_
    intro t ht u hu
    rcases List.mem_cons.1 hu with rfl | hu
    · exact h.2.1 t ht
    · exact hs t (by simp [ht]) u hu
theorem join_ok {out : List Spn} {s : Spn} (h : RevR out) (hs : s.1 < s.2) (hle : ∀ t ∈ out, t.1 ≤ s.1) : RevR (joinS out s) ∧ (∀ t ∈ joinS out s, t.1 ≤ s.1) ∧ ∀ n, inS (joinS out s) n ↔ inS out n ∨ (s.1 ≤ n ∧ n < s.2) := by
  cases out with
  | nil => exact ⟨⟨hs, fun t ht => by simp at ht, trivial⟩, fun t ht => by simp [joinS] at ht; subst ht; exact Int.le_refl _, fun n => by simp [joinS, inS]⟩
  | cons t r =>
    obtain ⟨h1, h2, h3⟩ := h
    have h4 := hle t (by simp)
    unfold joinS
    by_cases hc : s.1 ≤ t.2
    · simp only [if_pos hc]
      refine ⟨⟨by simp only []; omega, h2, h3⟩, fun u hu => ?_, fun n => ?_⟩
      · rcases List.mem_cons.1 hu with rfl | hu
        · exact h4
        · exact hle u (by simp [hu])
      · rw [inS_cons, inS_cons]
        simp only []
        constructor
        · rintro (g | g)
          · by_cases hn : n < t.2
            · exact .inl (.inl ⟨g.1, hn⟩)
            · exact .inr ⟨by omega, by omega⟩
          · exact .inl (.inr g)
        · rintro ((g | g) | g)
          · exact .inl ⟨g.1, by omega⟩
          · exact .inr g
          · exact .inl ⟨by omega, by omega⟩
    · simp only [if_neg hc]
      refine ⟨⟨hs, fun u hu => ?_, h1, h2, h3⟩, fun u hu => ?_, fun n => ?_⟩
      · rcases List.mem_cons.1 hu with rfl | hu
        · omega
        · have := h2 u hu; omega
      · rcases List.mem_cons.1 hu with rfl | hu
        · exact Int.le_refl _
        · exact hle u hu
      · rw [inS_cons s]; exact or_comm
theorem fold_ok : ∀ (L out : List Spn), RevR out → (∀ s ∈ L, s.1 < s.2) → (∀ t ∈ out, ∀ s ∈ L, t.1 ≤ s.1) → L.Pairwise (fun a b => a.1 ≤ b.1) → RevR (L.foldl joinS out) ∧ ∀ n, inS (L.foldl joinS out) n ↔ inS out n ∨ inS L n
  | [], out, h, _, _, _ => ⟨h, fun n => by simp [inS]⟩
  | s :: L, out, h, hs, hle, hp => by
    obtain ⟨g1, g2, g3⟩ := join_ok h (hs s (by simp)) (fun t ht => hle t ht s (by simp))
    obtain ⟨hp1, hp2⟩ := List.pairwise_cons.1 hp
    obtain ⟨k1, k2⟩ := fold_ok L (joinS out s) g1 (fun t ht => hs t (by simp [ht])) (fun t ht u hu => Int.le_trans (g2 t ht) (hp1 u hu)) hp2
    refine ⟨k1, fun n => ?_⟩
    show inS (L.foldl joinS (joinS out s)) n ↔ _
    rw [k2, g3, inS_cons]
    exact or_assoc
/-- What Norm is of what was sorted. -/
def normS (L : List Spn) : List Spn := (normR L).reverse
theorem normS_ok {L : List Spn} (hs : ∀ s ∈ L, s.1 < s.2) (hp : L.Pairwise (fun a b => a.1 ≤ b.1)) : RightS (normS L) ∧ ∀ n, inS (normS L) n ↔ inS L n := by
  obtain ⟨h1, h2⟩ := fold_ok L [] trivial hs (fun t ht => by simp at ht) hp
  refine ⟨by have := revR_right h1 (R := []) trivial (fun t _ u hu => by simp at hu); simpa [normS, normR] using this, fun n => ?_⟩
  rw [normS, inS_perm (List.reverse_perm _), normR, h2]
  exact ⟨fun h => h.resolve_left (inS_nil n), .inr⟩
/-- Norm: right, and the same places. -/
structure NormOf (L N : List Spn) : Prop where
  right : RightS N
  pts : ∀ n, inS N n ↔ inS L n
theorem NormOf.same {L M A B : List Spn} (h : NormOf L A) (k : NormOf M B) (hp : ∀ n, inS L n ↔ inS M n) : A = B := right_same A B h.right k.right fun n => by rw [h.pts, k.pts, hp]
theorem norm_of {L d : List Spn} (hperm : d.Perm (L.filter fun s => !noneS s)) (hp : d.Pairwise (fun a b => a.1 ≤ b.1)) : NormOf L (normS d) := by
  have hs : ∀ s ∈ d, s.1 < s.2 := fun s hs => by
    have := (List.mem_filter.1 (hperm.mem_iff.1 hs)).2
    simp only [noneS, Bool.not_eq_true', decide_eq_false_iff_not] at this
    omega
  obtain ⟨h1, h2⟩ := normS_ok hs hp
  exact ⟨h1, fun n => by rw [h2, inS_perm hperm, inS_filter]⟩
/-! ### holes -/
def putS (f t : Int) : List Spn := if f < t then [(f, t)] else []
def holesG : List Spn → Int → Int → List Spn
  | [], f, t => putS f t
  | a :: N, f, t => putS f (min a.1 t) ++ holesG N (max f a.2) t
theorem holesG_pts : ∀ (N : List Spn) (f t : Int), RightS N → ∀ n, inS (holesG N f t) n ↔ f ≤ n ∧ n < t ∧ ¬ inS N n
  | [], f, t, _, n => by
    unfold holesG putS
    split
    · simp [inS]
    · simp [inS]; omega
  | a :: N, f, t, h, n => by
    rw [holesG, inS_append, holesG_pts N _ t h.2.2 n, inS_cons]
    have hput : inS (putS f (min a.1 t)) n ↔ f ≤ n ∧ n < min a.1 t := by
      unfold putS
      split
      · simp [inS]
      · simp [inS]; omega
    rw [hput]
    have ha := h.1
    have hN : inS N n → a.2 < n := fun ⟨u, hu, g1, g2⟩ => by have := h.2.1 u hu; omega
    constructor
    · rintro (g | ⟨g1, g2, g3⟩)
      · exact ⟨g.1, by omega, fun hh => hh.elim (fun x => by omega) (fun x => by have := hN x; omega)⟩
      · exact ⟨by omega, g2, fun hh => hh.elim (fun x => by omega) g3⟩
    · rintro ⟨g1, g2, g3⟩
      by_cases hn : n < a.1
      · exact .inl ⟨g1, by omega⟩
      · refine .inr ⟨?_, g2, fun x => g3 (.inr x)⟩
        have : ¬ n < a.2 := fun x => g3 (.inl ⟨by omega, x⟩)
        omega
theorem holesG_lo : ∀ (N : List Spn) (f t : Int), ∀ u ∈ holesG N f t, f ≤ u.1 ∧ u.1 < u.2
  | [], f, t, u, hu => by
    unfold holesG putS at hu
    split at hu
    · simp only [List.mem_singleton] at hu; subst hu; exact ⟨Int.le_refl _, by assumption⟩
    · simp at hu
  | a :: N, f, t, u, hu => by
    rw [holesG, List.mem_append] at hu
    rcases hu with hu | hu
    · unfold putS at hu
      split at hu
      · simp only [List.mem_singleton] at hu; subst hu; exact ⟨Int.le_refl _, by assumption⟩
      · simp at hu
    · have := holesG_lo N _ t u hu
      omega
theorem holesG_right : ∀ (N : List Spn) (f t : Int), RightS N → RightS (holesG N f t)
  | [], f, t, _ => by
    unfold holesG putS
    split
    · exact ⟨by assumption, fun t ht => by simp at ht, trivial⟩
    · trivial
  | a :: N, f, t, h => by
    rw [holesG]
    have ih := holesG_right N (max f a.2) t h.2.2
    unfold putS
    split
    · refine ⟨by assumption, fun u hu => ?_, ih⟩
      have g1 := holesG_lo N _ t u hu
      have g2 := h.1
      simp only []
      omega
    · exact ih
/-- Holes: right, and the places of a span that are not there. -/
structure HolesOf (L : List Spn) (s : Spn) (H : List Spn) : Prop where
  right : RightS H
  pts : ∀ n, inS H n ↔ s.1 ≤ n ∧ n < s.2 ∧ ¬ inS L n
theorem holes_of {L N : List Spn} (h : NormOf L N) (s : Spn) : HolesOf L s (holesG N s.1 s.2) := ⟨holesG_right N _ _ h.right, fun n => by rw [holesG_pts N _ _ h.right, h.pts]⟩
theorem HolesOf.same {L M H K : List Spn} {s t : Spn} (h : HolesOf L s H) (k : HolesOf M t K) (hp : ∀ n, (s.1 ≤ n ∧ n < s.2 ∧ ¬ inS L n) ↔ (t.1 ≤ n ∧ n < t.2 ∧ ¬ inS M n)) : H = K := right_same H K h.right k.right fun n => by rw [h.pts, k.pts, hp]
theorem RightS.nil_iff {H : List Spn} (h : RightS H) : H = [] ↔ ∀ n, ¬ inS H n := by
  cases H with
  | nil => simp [inS]
  | cons s H => simp only [reduceCtorEq, false_iff]; exact fun g => g s.1 ⟨s, by simp, Int.le_refl _, h.1⟩
theorem HolesOf.nil_iff {L H : List Spn} {s : Spn} (h : HolesOf L s H) : H = [] ↔ ∀ n, s.1 ≤ n → n < s.2 → inS L n := by
  rw [h.right.nil_iff]
  constructor
  · intro g n h1 h2
    exact Classical.byContradiction fun h3 => g n ((h.pts n).2 ⟨h1, h2, h3⟩)
  · intro g n hn
    obtain ⟨h1, h2, h3⟩ := (h.pts n).1 hn
    exact h3 (g n h1 h2)
end Go.Proofs.Ytldlfhodboigeaa.K
