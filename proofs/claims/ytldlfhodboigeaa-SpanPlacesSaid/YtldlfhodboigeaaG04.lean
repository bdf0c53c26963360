/- How many places spans have; spans that are moved; what the statements of chapter 04 say. Plain law. No program here. -/
import Derived.Test.YtldlfhodboigeaaF04
set_option linter.unusedVariables false
set_option linter.unusedSimpArgs false
namespace Go.Proofs.Ytldlfhodboigeaa.K
open Go Go.RowKit
def inB (L : List Spn) (n : Int) : Bool := L.any fun s => decide (s.1 ≤ n) && decide (n < s.2)
theorem inB_iff {L : List Spn} {n : Int} : inB L n = true ↔ inS L n := by simp [inB, inS]
def cnt (p : Int → Bool) (lo : Int) : Nat → Int
  | 0 => 0
  | k + 1 => cnt p lo k + (if p (lo + k) then 1 else 0)
theorem cnt_le {p q : Int → Bool} {lo : Int} : ∀ {k : Nat}, (∀ i : Nat, i < k → p (lo + i) = true → q (lo + i) = true) → cnt p lo k ≤ cnt q lo k
  | 0, _ => Int.le_refl _
  | k + 1, h => by
    have ih := cnt_le (k := k) fun i hi => h i (by omega)
    have hk := h k (by omega)
    simp only [cnt]
    cases hp : p (lo + k) with
    | false => simp only [Bool.false_eq_true, if_false]; split <;> omega
    | true => rw [hk hp]; omega
theorem cnt_same {p q : Int → Bool} {lo : Int} {k : Nat} (h : ∀ i : Nat, i < k → p (lo + i) = q (lo + i)) : cnt p lo k = cnt q lo k := by
  have h1 := cnt_le (p := p) (q := q) (lo := lo) (k := k) fun i hi hp => by rw [← h i hi]; exact hp
  have h2 := cnt_le (p := q) (q := p) (lo := lo) (k := k) fun i hi hp => by rw [h i hi]; exact hp
  omega
theorem cnt_or {p q : Int → Bool} {lo : Int} : ∀ {k : Nat}, cnt (fun n => p n || q n) lo k ≤ cnt p lo k + cnt q lo k
  | 0 => Int.le_refl _
  | k + 1 => by
    have ih := cnt_or (p := p) (q := q) (lo := lo) (k := k)
    simp only [cnt]
    rcases Bool.eq_false_or_eq_true (p (lo + k)) with hp | hp <;> rcases Bool.eq_false_or_eq_true (q (lo + k)) with hq | hq <;> simp [hp, hq] <;> omega
theorem cnt_add {p q : Int → Bool} {lo : Int} : ∀ {k : Nat}, (∀ i : Nat, i < k → ¬ (p (lo + i) = true ∧ q (lo + i) = true)) → cnt (fun n => p n || q n) lo k = cnt p lo k + cnt q lo k
  | 0, _ => rfl
  | k + 1, h => by
    have ih := cnt_add (p := p) (q := q) (lo := lo) (k := k) fun i hi => h i (by omega)
    have hk := h k (by omega)
    simp only [cnt]
    rw [ih]
    rcases Bool.eq_false_or_eq_true (p (lo + k)) with hp | hp <;> rcases Bool.eq_false_or_eq_true (q (lo + k)) with hq | hq
    · exact absurd ⟨hp, hq⟩ hk
    · simp [hp, hq]; omega
    · simp [hp, hq]; omega
    · simp [hp, hq]
theorem cnt_none {lo : Int} : ∀ {k : Nat}, cnt (fun _ => false) lo k = 0
  | 0 => rfl
  | k + 1 => by simp only [cnt, cnt_none (k := k)]; rfl
/-- The places of one span. -/
theorem cnt_span {a b lo : Int} : ∀ {k : Nat}, a ≤ b → lo ≤ a → cnt (fun n => decide (a ≤ n) && decide (n < b)) lo k = max 0 (min (lo + k) b - a)
  | 0, h1, h2 => by simp only [cnt]; omega
  | k + 1, h1, h2 => by
    have ih := cnt_span (a := a) (b := b) (lo := lo) (k := k) h1 h2
    simp only [cnt]
    rw [ih]
    by_cases c1 : a ≤ lo + k
    · by_cases c2 : lo + k < b
      · simp [c1, c2]; omega
      · simp [c1, c2]; omega
    · simp [c1]; omega
theorem sum_cnt {lo : Int} {k : Nat} : ∀ {N : List Spn}, RightS N → (∀ s ∈ N, lo ≤ s.1 ∧ s.2 ≤ lo + k) → sumS N = cnt (inB N) lo k
  | [], _, _ => (cnt_none (lo := lo) (k := k)).symm
  | s :: N, h, hr => by
    have ih := sum_cnt (lo := lo) (k := k) h.2.2 (fun t ht => hr t (by simp [ht]))
    have h1 := hr s (by simp)
    have h2 := h.1
    have h3 : cnt (inB (s :: N)) lo k = cnt (fun n => (decide (s.1 ≤ n) && decide (n < s.2)) || inB N n) lo k := cnt_same fun i _ => rfl
    rw [h3, cnt_add, cnt_span (by omega) (by omega), ← ih]
    · simp only [sumS]; omega
    · rintro i _ ⟨g1, g2⟩
      simp only [Bool.and_eq_true, decide_eq_true_eq] at g1
      obtain ⟨t, ht, g3, g4⟩ := inB_iff.1 g2
      have := h.2.1 t ht
      omega
theorem nrm_rng {L : List Spn} {lo hi : Int} (h : ∀ s ∈ L, lo ≤ s.1 ∧ s.2 ≤ hi) : ∀ s ∈ nrm L, lo ≤ s.1 ∧ s.2 ≤ hi := (nrm_of L).ends h
theorem sum_nrm {L : List Spn} {lo : Int} {k : Nat} (h : ∀ s ∈ L, lo ≤ s.1 ∧ s.2 ≤ lo + k) : sumS (nrm L) = cnt (inB L) lo k := by
  rw [sum_cnt (nrm_of L).right (nrm_rng h)]
  exact cnt_same fun i _ => by rw [Bool.eq_iff_iff, inB_iff, inB_iff]; exact (nrm_of L).pts _
theorem NormOf.self {N : List Spn} (h : RightS N) : nrm N = N := (NormOf.eq (L := N) ⟨h, fun _ => Iff.rfl⟩).symm
theorem nrm_nrm (L : List Spn) : nrm (nrm L) = nrm L := NormOf.self (nrm_of L).right
theorem nrm_right (L : List Spn) : rightB (nrm L) = true := rightB_iff.2 (nrm_of L).right
theorem inB_append (A B : List Spn) (n : Int) : inB (A ++ B) n = (inB A n || inB B n) := by simp [inB]
/-! ### the statements -/
theorem grows_has {A B : List Spn} {i : Nat} (hi : i < A.length) : hasB (A ++ B) (gS A i) = true := hasB_iff.2 fun n h1 h2 => ⟨gS A i, by rw [gS_get hi]; exact List.mem_append_left _ (List.getElem_mem hi), h1, h2⟩
theorem grows_long {A B : List Spn} {lo : Int} {k : Nat} (hA : ∀ s ∈ A, lo ≤ s.1 ∧ s.2 ≤ lo + k) (hB : ∀ s ∈ B, lo ≤ s.1 ∧ s.2 ≤ lo + k) : longS (nrm A) ≤ longS (nrm (A ++ B)) ∧ longS (nrm (A ++ B)) ≤ longS (nrm A) + longS (nrm B) := by
  have hAB : ∀ s ∈ A ++ B, lo ≤ s.1 ∧ s.2 ≤ lo + k := fun s hs => (List.mem_append.1 hs).elim (hA s) (hB s)
  have h1 := sum_nrm hA
  have h2 := sum_nrm hB
  have h3 := sum_nrm hAB
  have h4 : cnt (inB A) lo k ≤ cnt (inB (A ++ B)) lo k := cnt_le fun i _ h => by rw [inB_append, h]; rfl
  have h5 : cnt (inB (A ++ B)) lo k = cnt (fun n => inB A n || inB B n) lo k := cnt_same fun i _ => inB_append A B _
  have h6 := cnt_or (p := inB A) (q := inB B) (lo := lo) (k := k)
  have h7 := sumS_nonneg (nrm_of A).right
  have h8 := sumS_nonneg (nrm_of B).right
  unfold longS big
  omega
theorem holes_empty (L : List Spn) (k : Int) : (hls L (k, k)) = [] := by
  have := (hls_of L (k, k)).nil_iff
  exact this.2 fun n h1 h2 => by simp only [] at h1 h2; omega
theorem back_has {L : List Spn} {s : Spn} {i : Nat} (hi : i < (hls (hls L s) s).length) : hasB L (gS (hls (hls L s) s) i) = true := by
  refine hasB_iff.2 fun n h1 h2 => ?_
  have hm : inS (hls (hls L s) s) n := ⟨_, by rw [gS_get hi] at h1; exact List.getElem_mem hi, by rw [gS_get hi] at h1; exact h1, by rw [gS_get hi] at h2; exact h2⟩
  obtain ⟨g1, g2, g3⟩ := ((hls_of _ s).pts n).1 hm
  exact Classical.byContradiction fun g4 => g3 (((hls_of L s).pts n).2 ⟨g1, g2, g4⟩)
theorem back_same (L : List Spn) (s : Spn) : hls (hls (hls L s) s) s = hls L s := by
  refine right_same _ _ (hls_of _ s).right (hls_of L s).right fun n => ?_
  rw [(hls_of (hls (hls L s) s) s).pts, (hls_of (hls L s) s).pts, (hls_of L s).pts]
  constructor
  · rintro ⟨g1, g2, g3⟩
    refine ⟨g1, g2, fun g4 => g3 ⟨g1, g2, fun g5 => g5.2.2 g4⟩⟩
  · rintro ⟨g1, g2, g3⟩
    exact ⟨g1, g2, fun g4 => g4.2.2 ⟨g1, g2, g3⟩⟩
theorem hls_rng {L : List Spn} {s : Spn} {lo hi : Int} (h1 : lo ≤ s.1) (h2 : s.2 ≤ hi) : ∀ t ∈ hls L s, lo ≤ t.1 ∧ t.2 ≤ hi := by
  intro t ht
  have hlt := (hls_of L s).right.mem t ht
  have g1 := ((hls_of L s).pts t.1).1 ⟨t, ht, Int.le_refl _, hlt⟩
  have g2 := ((hls_of L s).pts (t.2 - 1)).1 ⟨t, ht, by omega, by omega⟩
  omega
theorem back_long {L : List Spn} {s : Spn} {k : Nat} (h0 : 0 ≤ s.1) (h1 : s.1 ≤ k) (h2 : s.2 ≤ k) (hk : k ≤ 1000) : longS (nrm (hls (hls L s) s)) + longS (nrm (hls L s)) = max (s.2 - s.1) 0 := by
  have hH := (hls_of L s).right
  have hX := (hls_of (hls L s) s).right
  rw [NormOf.self hH, NormOf.self hX]
  have hr1 : ∀ t ∈ hls L s, (0 : Int) ≤ t.1 ∧ t.2 ≤ 0 + k := hls_rng h0 (by omega)
  have hr2 : ∀ t ∈ hls (hls L s) s, (0 : Int) ≤ t.1 ∧ t.2 ≤ 0 + k := hls_rng h0 (by omega)
  have c1 := sum_cnt hH hr1
  have c2 := sum_cnt hX hr2
  have c3 : cnt (inB (hls (hls L s) s)) 0 k + cnt (inB (hls L s)) 0 k = cnt (fun n => decide (s.1 ≤ n) && decide (n < s.2)) 0 k := by
    rw [← cnt_add]
    · refine cnt_same fun i _ => ?_
      rw [Bool.eq_iff_iff, Bool.or_eq_true, inB_iff, inB_iff, (hls_of (hls L s) s).pts, (hls_of L s).pts, Bool.and_eq_true, decide_eq_true_eq, decide_eq_true_eq]
      constructor
      · rintro (g | g) <;> exact ⟨g.1, g.2.1⟩
      · rintro ⟨g1, g2⟩
        by_cases g : inS L (0 + i)
        · exact .inl ⟨g1, g2, fun g3 => g3.2.2 g⟩
        · exact .inr ⟨g1, g2, g⟩
    · rintro i _ ⟨g1, g2⟩
      exact (((hls_of (hls L s) s).pts _).1 (inB_iff.1 g1)).2.2 (inB_iff.1 g2)
  have n1 := sumS_nonneg hH
  have n2 := sumS_nonneg hX
  have c4 : cnt (fun n => decide (s.1 ≤ n) && decide (n < s.2)) 0 k = max (s.2 - s.1) 0 := by
    by_cases hs : s.1 ≤ s.2
    · rw [cnt_span hs h0]; omega
    · rw [show (fun n : Int => decide (s.1 ≤ n) && decide (n < s.2)) = fun _ => false from funext fun n => by by_cases g : s.1 ≤ n <;> simp [g]; omega, cnt_none]; omega
  unfold longS big
  omega
theorem order_same {L : List Spn} (i : Nat) : nrm (L.drop i ++ L) = nrm L := nrm_same fun n => by
  rw [inS_append]
  exact ⟨fun h => h.elim (fun ⟨s, hs, g⟩ => ⟨s, List.mem_of_mem_drop hs, g⟩) id, .inr⟩
theorem one_has {L : List Spn} {n : Int} : hasB L (n, n + 1) = inB L n := by
  rw [Bool.eq_iff_iff, hasB_iff, inB_iff]
  constructor
  · intro h
    exact h n (Int.le_refl _) (show n < n + 1 by omega)
  · intro h m (h1 : n ≤ m) (h2 : m < n + 1)
    rw [show m = n from by omega]; exact h
theorem none_has {L : List Spn} {n : Int} : hasB L (n, n) = true := hasB_iff.2 fun m h1 h2 => by simp only [] at h1 h2; omega
theorem places_has {L : List Spn} {s : Spn} {n : Int} : hasB (hls L s) (n, n + 1) = ((decide (n ≥ s.1) && decide (n < s.2)) && !hasB L (n, n + 1)) := by
  rw [one_has, one_has, Bool.eq_iff_iff, inB_iff, (hls_of L s).pts]
  simp only [Bool.and_eq_true, decide_eq_true_eq, Bool.not_eq_true']
  rw [Bool.eq_false_iff, Ne, inB_iff]
  constructor
  · rintro ⟨h1, h2, h3⟩; exact ⟨⟨h1, h2⟩, h3⟩
  · rintro ⟨⟨h1, h2⟩, h3⟩; exact ⟨h1, h2, h3⟩
theorem hls_right (L : List Spn) (s : Spn) : rightB (hls L s) = true := rightB_iff.2 (hls_of L s).right
/-- Spans that are moved. -/
def movS (d : Int) (L : List Spn) : List Spn := L.map fun s => (s.1 + d, s.2 + d)
theorem mov_right {d : Int} : ∀ {L : List Spn}, RightS L → RightS (movS d L)
  | [], _ => trivial
  | s :: L, h => ⟨by have := h.1; simp only []; omega, fun t ht => by
      obtain ⟨u, hu, rfl⟩ := List.mem_map.1 ht
      have := h.2.1 u hu
      simp only []; omega, mov_right h.2.2⟩
theorem mov_pts {d n : Int} {L : List Spn} : inS (movS d L) n ↔ inS L (n - d) := by
  unfold inS movS
  constructor
  · rintro ⟨s, hs, h1, h2⟩
    obtain ⟨u, hu, rfl⟩ := List.mem_map.1 hs
    exact ⟨u, hu, by simp only [] at h1; omega, by simp only [] at h2; omega⟩
  · rintro ⟨s, hs, h1, h2⟩
    exact ⟨_, List.mem_map.2 ⟨s, hs, rfl⟩, by simp only []; omega, by simp only []; omega⟩
theorem mov_nrm (d : Int) (L : List Spn) : nrm (movS d L) = movS d (nrm L) := ((NormOf.eq (L := movS d L) ⟨mov_right (nrm_of L).right, fun n => by rw [mov_pts, mov_pts]; exact (nrm_of L).pts _⟩)).symm
theorem mov_sum (d : Int) : ∀ (L : List Spn), sumS (movS d L) = sumS L
  | [] => rfl
  | s :: L => by have := mov_sum d L; simp only [movS, List.map_cons, sumS] at this ⊢; omega
theorem mov_get {d : Int} {L : List Spn} {i : Nat} (hi : i < L.length) : gS (movS d L) i = ((gS L i).1 + d, (gS L i).2 + d) := by
  rw [gS_get hi, gS_get (by simpa [movS] using hi)]
  simp [movS]
theorem mov_snoc {d : Int} {L : List Spn} {k : Nat} (hk : k < L.length) : movS d (L.take (k + 1)) = movS d (L.take k) ++ [((gS L k).1 + d, (gS L k).2 + d)] := by
  rw [List.take_succ_eq_append_getElem hk, gS_get hk, movS, List.map_append]
  rfl
/-! ### bits -/
theorem bits_pts (xs : List Int) (n : Int) : inB (ofS xs) n = (decide (0 ≤ n) && (decide (n < 8 * xs.length) && getB xs n)) := by
  rw [Bool.eq_iff_iff, inB_iff, ofS, (nrm_of _).pts, ofL_pts]
  simp only [Bool.and_eq_true, decide_eq_true_eq]
  constructor
  · rintro ⟨h1, h2, h3⟩; exact ⟨h1, by omega, h3⟩
  · rintro ⟨h1, h2, h3⟩; exact ⟨h1, by omega, h3⟩
theorem ofL_rng (xs : List Int) : ∀ (k : Nat), ∀ s ∈ ofL xs k, (0 : Int) ≤ s.1 ∧ s.2 ≤ 0 + k
  | 0, s, hs => by simp [ofL] at hs
  | k + 1, s, hs => by
    unfold ofL at hs
    split at hs
    · rcases List.mem_append.1 hs with hs | hs
      · have := ofL_rng xs k s hs; omega
      · simp at hs; subst hs; simp only []; omega
    · have := ofL_rng xs k s hs; omega
def cntB (xs : List Int) (k : Nat) : Int := cnt (fun n => getB xs n) 0 k
theorem cntB_rng (xs : List Int) : ∀ k, 0 ≤ cntB xs k ∧ cntB xs k ≤ k
  | 0 => by simp [cntB, cnt]
  | k + 1 => by
    have := cntB_rng xs k
    unfold cntB at this ⊢
    simp only [cnt]
    split <;> omega
theorem bits_long (xs : List Int) (h : xs.length ≤ 100) : longS (nrm (ofS xs)) = cntB xs (8 * xs.length) := by
  have h1 := sum_nrm (ofL_rng xs (8 * xs.length))
  have h2 : cnt (inB (ofL xs (8 * xs.length))) 0 (8 * xs.length) = cntB xs (8 * xs.length) := cnt_same fun i hi => by
    rw [Bool.eq_iff_iff, inB_iff, ofL_pts]
    exact ⟨fun g => g.2.2, fun g => ⟨by omega, by omega, g⟩⟩
  have h3 := cntB_rng xs (8 * xs.length)
  unfold ofS
  rw [nrm_nrm]
  unfold longS big
  omega
theorem ofS_len (xs : List Int) : (ofS xs).length ≤ 8 * xs.length := Nat.le_trans (nrm_len _) (ofL_len _ _)
theorem ofS_rng (xs : List Int) : ∀ s ∈ ofS xs, (0 : Int) ≤ s.1 ∧ s.2 ≤ 0 + (8 * xs.length : Nat) := nrm_rng (ofL_rng xs _)
/-! ### the rows that choices make -/
def spn (xs : List Int) (k : Nat) : Spn := (xs.getD (2 * (k : Int)).toNat 0 % 60, xs.getD (2 * (k : Int)).toNat 0 % 60 + xs.getD (2 * (k : Int) + 1).toNat 0 % 16 - 2)
def rowK (xs : List Int) : Nat → List Spn
  | 0 => []
  | k + 1 => rowK xs k ++ [spn xs k]
def rowS (xs : List Int) : List Spn := rowK xs (min (xs.length / 2) 30)
theorem rowK_len (xs : List Int) : ∀ k, (rowK xs k).length = k
  | 0 => rfl
  | k + 1 => by rw [rowK, List.length_append, rowK_len]; rfl
theorem rowS_len (xs : List Int) : (rowS xs).length ≤ 30 := by rw [rowS, rowK_len]; omega
theorem rowK_rng (xs : List Int) : ∀ k, ∀ s ∈ rowK xs k, (0 : Int) ≤ s.1 ∧ s.1 ≤ 59 ∧ -2 ≤ s.2 ∧ s.2 ≤ 75
  | 0, s, hs => by simp [rowK] at hs
  | k + 1, s, hs => by
    rw [rowK] at hs
    rcases List.mem_append.1 hs with hs | hs
    · exact rowK_rng xs k s hs
    · simp at hs; subst hs; unfold spn; simp only []; omega
theorem rowS_rng (xs : List Int) : ∀ s ∈ rowS xs, (0 : Int) ≤ s.1 ∧ s.1 ≤ 59 ∧ -2 ≤ s.2 ∧ s.2 ≤ 75 := rowK_rng xs _
theorem known_norm : nrm [((3 : Int), (5 : Int)), (0, 3)] = [(0, 5)] := (NormOf.eq (L := [((3 : Int), (5 : Int)), (0, 3)]) (N := [(0, 5)]) ⟨⟨by decide, fun t ht => by simp at ht, trivial⟩, fun n => by simp [inS]; omega⟩).symm
theorem known_holes : hls [((2 : Int), (4 : Int))] (0, 6) = [(0, 2), (4, 6)] := by
  unfold hls
  rw [NormOf.self (N := [((2 : Int), (4 : Int))]) ⟨by decide, fun t ht => by simp at ht, trivial⟩]
  rfl
theorem known_long : longS (nrm [((0 : Int), (5 : Int))]) = 5 := by
  rw [NormOf.self (N := [((0 : Int), (5 : Int))]) ⟨by decide, fun t ht => by simp at ht, trivial⟩]
  rfl
theorem own_cat {w : World} {base : Nat} {T : TypeId} {v : Value} {O L : List Spn} (h : w.ownsRow base T 2 v (O.length + L.length) (encL O ++ encL L)) : w.ownsRow base T 2 v (O ++ L).length (encL (O ++ L)) := by
  rw [List.length_append, encL_append]
  exact h
theorem encL_drop (L : List Spn) (i : Nat) : (encL L).drop (i * 2) = encL (L.drop i) := by
  rcases Nat.lt_or_ge L.length i with h | h
  · rw [List.drop_eq_nil_of_le (by rw [encL_len]; omega), List.drop_eq_nil_of_le (by omega)]; rfl
  · conv => lhs; rw [← List.take_append_drop i L, encL_append, List.drop_append, List.drop_eq_nil_of_le (by rw [encL_len, List.length_take]; omega), encL_len, List.length_take, Nat.min_eq_left h, Nat.sub_self]
    rfl
theorem mov_len (d : Int) (L : List Spn) : (movS d L).length = L.length := by simp [movS]
theorem cntB_step (xs : List Int) (k : Nat) : cntB xs (k + 1) = cntB xs k + if getB xs k then 1 else 0 := by
  unfold cntB
  simp only [cnt, Int.zero_add]
theorem getB_in {xs : List Int} {i : Int} (h0 : 0 ≤ i) (h1 : i < 8 * xs.length) : getB xs i = bitP xs i := by
  unfold getB
  rw [decide_eq_true h0, decide_eq_true (show i / 8 < xs.length by omega)]; rfl
theorem bits_has {xs : List Int} {i : Int} (h0 : 0 ≤ i) : hasB (ofS xs) (i, i + 1) = (decide (i < 8 * xs.length) && bitP xs i) := by
  rw [one_has, bits_pts, decide_eq_true h0, Bool.true_and]
  by_cases h : i < 8 * xs.length
  · rw [getB_in h0 h]
  · rw [decide_eq_false h]; rfl
end Go.Proofs.Ytldlfhodboigeaa.K
