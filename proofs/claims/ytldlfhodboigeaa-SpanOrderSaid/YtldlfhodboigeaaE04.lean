/- Spans: what is told of them, each as a function; the document's answers are the same. Plain law, and what is kept of memory while a row behind a box grows. No program here. -/
import Derived.Test.YtldlfhodboigeaaD04
set_option linter.unusedVariables false
set_option linter.unusedSimpArgs false
namespace Go.Proofs.Ytldlfhodboigeaa.K
open Go Go.RowKit
def nrm (L : List Spn) : List Spn := normS ((L.filter keepS).mergeSort fun a b => decide (a.1 ≤ b.1))
theorem nrm_of (L : List Spn) : NormOf L (nrm L) := by
  refine norm_of (List.mergeSort_perm _ _) ?_
  have := List.pairwise_mergeSort (le := fun a b : Spn => decide (a.1 ≤ b.1)) (fun a b c h1 h2 => by simp only [decide_eq_true_eq] at *; omega) (fun a b => by simp only [Bool.or_eq_true, decide_eq_true_eq]; omega) (L.filter keepS)
  exact this.imp fun h => by simpa using h
theorem NormOf.eq {L N : List Spn} (h : NormOf L N) : N = nrm L := h.same (nrm_of L) fun _ => Iff.rfl
theorem nrm_same {L M : List Spn} (h : ∀ n, inS L n ↔ inS M n) : nrm L = nrm M := (nrm_of L).same (nrm_of M) h
def hls (L : List Spn) (s : Spn) : List Spn := holesG (nrm L) s.1 s.2
theorem hls_of (L : List Spn) (s : Spn) : HolesOf L s (hls L s) := holes_of (nrm_of L) s
def hasB (L : List Spn) (s : Spn) : Bool := (hls L s).isEmpty
theorem hasB_iff {L : List Spn} {s : Spn} : hasB L s = true ↔ ∀ n, s.1 ≤ n → n < s.2 → inS L n := by
  unfold hasB
  rw [List.isEmpty_iff]
  exact (hls_of L s).nil_iff
def sumS : List Spn → Int
  | [] => 0
  | s :: L => (s.2 - s.1) + sumS L
def big : Int := 9007199254740992
def longS (N : List Spn) : Int := min (sumS N) big
theorem sumS_nonneg : ∀ {N : List Spn}, RightS N → 0 ≤ sumS N
  | [], _ => Int.le_refl _
  | s :: N, h => by have h1 := sumS_nonneg h.2.2; have h2 := h.1; simp only [sumS]; omega
theorem sumS_append (A B : List Spn) : sumS (A ++ B) = sumS A + sumS B := by
  induction A with
  | nil => simp [sumS]
  | cons s A ih => simp only [List.cons_append, sumS, ih]; omega
theorem RightS.take : ∀ {N : List Spn} (k : Nat), RightS N → RightS (N.take k)
  | N, 0, h => by simp only [List.take_zero]; trivial
  | [], k + 1, h => by simp only [List.take_nil]; trivial
  | s :: N, k + 1, h => ⟨h.1, fun t ht => h.2.1 t (List.mem_of_mem_take ht), RightS.take k h.2.2⟩
theorem longS_rng (N : List Spn) (h : RightS N) : 0 ≤ longS N ∧ longS N ≤ 9007199254740992 := by
  have := sumS_nonneg h
  unfold longS big
  omega
theorem long_step {N : List Spn} {k : Nat} (h : RightS N) (hk : k < N.length) : longS (N.take (k + 1)) = min (longS (N.take k) + ((gS N k).2 - (gS N k).1)) big := by
  have h1 := sumS_nonneg (RightS.take k h)
  have h2 : sumS (N.take (k + 1)) = sumS (N.take k) + ((gS N k).2 - (gS N k).1) := by
    rw [List.take_succ_eq_append_getElem hk, sumS_append, gS_get hk]
    simp only [sumS]; omega
  have h3 : (gS N k).1 < (gS N k).2 := by
    have hm : gS N k ∈ N := by rw [gS_get hk]; exact List.getElem_mem hk
    clear h1 h2
    induction N generalizing k with
    | nil => simp at hk
    | cons s N ih =>
      cases k with
      | zero => exact h.1
      | succ k => exact ih h.2.2 (by simpa using hk) (by rw [gS_get (by simpa using hk)]; exact List.getElem_mem _)
  unfold longS
  rw [h2]
  unfold big
  omega
theorem wrap_sub {a b : Int} (h1 : 0 < a - b) (h2 : a - b < 18446744073709551616) : IntKind.u64.wrap (IntKind.u64.wrap a - IntKind.u64.wrap b) = a - b := by
  have hw : ∀ n : Int, IntKind.u64.wrap n = n % 18446744073709551616 := fun n => by simp [IntKind.wrap, IntKind.signed, IntKind.bits]
  rw [hw, hw, hw]
  omega
theorem RightS.mem : ∀ {N : List Spn}, RightS N → ∀ s ∈ N, s.1 < s.2
  | t :: N, h, s, hs => by
    rcases List.mem_cons.1 hs with rfl | hs
    · exact h.1
    · exact RightS.mem h.2.2 s hs
theorem RightS.drop : ∀ {N : List Spn} (k : Nat), RightS N → RightS (N.drop k)
  | N, 0, h => h
  | [], k + 1, h => by simpa using h
  | s :: N, k + 1, h => RightS.drop k h.2.2
/-- Its ends lie within the ends of what it is of. -/
theorem NormOf.ends {L N : List Spn} (h : NormOf L N) {lo hi : Int} (hL : ∀ s ∈ L, lo ≤ s.1 ∧ s.2 ≤ hi) : ∀ s ∈ N, lo ≤ s.1 ∧ s.2 ≤ hi := by
  intro s hs
  have hlt := h.right.mem s hs
  obtain ⟨t, ht, h1, h2⟩ := (h.pts s.1).1 ⟨s, hs, Int.le_refl _, hlt⟩
  obtain ⟨u, hu, h3, h4⟩ := (h.pts (s.2 - 1)).1 ⟨s, hs, by omega, by omega⟩
  have h5 := hL t ht
  have h6 := hL u hu
  omega
/-! ### right? -/
def rightB : List Spn → Bool
  | [] => true
  | s :: L => !noneS s && (match L with | [] => true | t :: _ => decide (s.2 < t.1)) && rightB L
theorem rightB_of : ∀ {L : List Spn}, rightB L = true → RightS L
  | [], _ => trivial
  | [s], h => by
    simp only [rightB, noneS, Bool.and_eq_true, Bool.not_eq_true', decide_eq_false_iff_not] at h
    exact ⟨by omega, fun t ht => by simp at ht, trivial⟩
  | s :: t :: L, h => by
    rw [rightB] at h
    simp only [noneS, Bool.and_eq_true, Bool.not_eq_true', decide_eq_false_iff_not, decide_eq_true_eq] at h
    have ih := rightB_of h.2
    refine ⟨by omega, fun u hu => ?_, ih⟩
    rcases List.mem_cons.1 hu with rfl | hu
    · exact h.1.2
    · have h1 := ih.1
      have h2 := ih.2.1 u hu
      omega
theorem rightB_to : ∀ {L : List Spn}, RightS L → rightB L = true
  | [], _ => rfl
  | [s], h => by
    have := h.1
    simp [rightB, noneS]; omega
  | s :: t :: L, h => by
    rw [rightB]
    have h1 := h.1
    have h2 := h.2.1 t (by simp)
    have ih := rightB_to h.2.2
    simp only [noneS, Bool.and_eq_true, Bool.not_eq_true', decide_eq_false_iff_not, decide_eq_true_eq]
    exact ⟨⟨by omega, h2⟩, ih⟩
theorem rightB_iff {L : List Spn} : rightB L = true ↔ RightS L := ⟨rightB_of, rightB_to⟩
/-- What stands at a place that is not right. -/
def badS (L : List Spn) (i : Nat) : Bool := noneS (gS L i) || (decide ((i : Int) > 0) && decide ((gS L i).1 ≤ (gS L (i - 1)).2))
theorem gS_cons (s : Spn) (L : List Spn) (i : Nat) : gS (s :: L) (i + 1) = gS L i := rfl
theorem right_of_bad : ∀ {L : List Spn}, (∀ i, i < L.length → badS L i = false) → rightB L = true
  | [], _ => rfl
  | [s], h => by
    have := h 0 (by simp)
    simp only [badS, gS, List.getD_cons_zero, Bool.or_eq_false_iff] at this
    simp [rightB, this.1]
  | s :: t :: L, h => by
    have h0 := h 0 (by simp)
    have h1 := h 1 (by simp)
    have ih := right_of_bad (L := t :: L) fun i hi => by
      have := h (i + 1) (by simpa using hi)
      unfold badS at this ⊢
      rw [gS_cons] at this
      simp only [Bool.or_eq_false_iff, Bool.and_eq_false_iff] at this ⊢
      refine ⟨this.1, ?_⟩
      rcases Nat.eq_zero_or_pos i with h0 | h0
      · subst h0; exact .inl rfl
      · right
        rcases this.2 with h2 | h2
        · exact absurd h2 (by simp)
        · rw [show i + 1 - 1 = (i - 1) + 1 from by omega, gS_cons] at h2
          exact h2
    rw [rightB]
    unfold badS at h0 h1
    simp only [gS, List.getD_cons_zero, Bool.or_eq_false_iff, Bool.and_eq_false_iff, List.getD_cons_succ] at h0 h1
    simp only [Bool.and_eq_true, Bool.not_eq_true', decide_eq_true_eq]
    refine ⟨⟨h0.1, ?_⟩, ih⟩
    rcases h1.2 with h2 | h2
    · exact absurd h2 (by decide)
    · have := of_decide_eq_false h2
      simp only [Nat.sub_self, List.getD_cons_zero] at this
      omega
theorem bad_of_right : ∀ {L : List Spn}, rightB L = true → ∀ i, i < L.length → badS L i = false
  | [], _, i, hi => by simp at hi
  | s :: L, h, 0, _ => by
    have h1 : noneS s = false := by
      cases L with
      | nil => simpa [rightB] using h
      | cons t L => rw [rightB] at h; simp only [Bool.and_eq_true, Bool.not_eq_true'] at h; exact h.1.1
    simp [badS, gS, h1]
  | [s], h, i + 1, hi => by simp at hi
  | s :: t :: L, h, i + 1, hi => by
    rw [rightB] at h
    simp only [Bool.and_eq_true, Bool.not_eq_true', decide_eq_true_eq] at h
    have ih := bad_of_right h.2 i (by simpa using hi)
    unfold badS at ih ⊢
    rw [gS_cons]
    simp only [Bool.or_eq_false_iff, Bool.and_eq_false_iff] at ih ⊢
    refine ⟨ih.1, .inr ?_⟩
    rcases Nat.eq_zero_or_pos i with h0 | h0
    · subst h0
      have := h.1.2
      simp only [gS, List.getD_cons_zero, Nat.zero_add, Nat.sub_self]
      exact decide_eq_false (by omega)
    · rcases ih.2 with h2 | h2
      · exact absurd (of_decide_eq_false h2) (by omega)
      · rw [show i + 1 - 1 = (i - 1) + 1 from by omega, gS_cons]
        exact h2
theorem right_bad {L : List Spn} {k : Nat} (hk : k < L.length) (h : badS L k = true) : rightB L = false := by
  cases hr : rightB L with
  | false => rfl
  | true => rw [bad_of_right hr k hk] at h; cases h
/-! ### the document's answers -/
def addG : List Spn → Spn → Bool → List Spn
  | [], s, laid => if laid then [] else [s]
  | t :: r, s, laid => if t.2 < s.1 then t :: addG r s laid else if t.1 > s.2 then (if laid then t :: addG r s laid else s :: t :: addG r s true) else addG r (min s.1 t.1, max s.2 t.2) laid
def addS (L : List Spn) (s : Spn) : List Spn := if noneS s then L else addG L s false
theorem addG_laid : ∀ {L : List Spn} {s : Spn}, RightS L → s.1 < s.2 → (∀ t ∈ L, s.2 < t.1) → addG L s true = L
  | [], _, _, _, _ => rfl
  | t :: r, s, h, hs, hl => by
    have h1 := hl t (by simp)
    have h2 := h.1
    rw [addG, if_neg (by omega), if_pos h1, if_pos rfl, addG_laid h.2.2 hs (fun u hu => hl u (by simp [hu]))]
theorem addG_ok : ∀ {L : List Spn} {s : Spn}, RightS L → s.1 < s.2 → RightS (addG L s false) ∧ (∀ n, inS (addG L s false) n ↔ inS L n ∨ (s.1 ≤ n ∧ n < s.2)) ∧ ∀ b, (b < s.1 ∧ ∀ t ∈ L, b < t.1) → ∀ t ∈ addG L s false, b < t.1
  | [], s, h, hs => by
    simp only [addG, Bool.false_eq_true, if_false]
    exact ⟨⟨hs, fun t ht => by simp at ht, trivial⟩, fun n => by simp [inS], fun b hb t ht => by simp at ht; subst ht; exact hb.1⟩
  | t :: r, s, h, hs => by
    obtain ⟨h1, h2, h3⟩ := h
    rw [addG]
    by_cases c1 : t.2 < s.1
    · rw [if_pos c1]
      obtain ⟨g1, g2, g3⟩ := addG_ok h3 hs
      refine ⟨⟨h1, g3 t.2 ⟨c1, h2⟩, g1⟩, fun n => ?_, fun b hb u hu => ?_⟩
      · rw [inS_cons, g2, inS_cons, or_assoc]
      · rcases List.mem_cons.1 hu with rfl | hu
        · exact hb.2 u (by simp)
        · exact g3 b ⟨hb.1, fun v hv => hb.2 v (by simp [hv])⟩ u hu
    · rw [if_neg c1]
      by_cases c2 : t.1 > s.2
      · rw [if_pos c2, if_neg (by simp), addG_laid h3 hs (fun u hu => by have := h2 u hu; omega)]
        refine ⟨⟨hs, fun u hu => ?_, h1, h2, h3⟩, fun n => ?_, fun b hb u hu => ?_⟩
        · rcases List.mem_cons.1 hu with rfl | hu
          · exact c2
          · have := h2 u hu; omega
        · rw [inS_cons s]; exact or_comm
        · rcases List.mem_cons.1 hu with rfl | hu
          · exact hb.1
          · exact hb.2 u hu
      · rw [if_neg c2]
        obtain ⟨g1, g2, g3⟩ := addG_ok (s := (min s.1 t.1, max s.2 t.2)) h3 (by simp only []; omega)
        refine ⟨g1, fun n => ?_, fun b hb u hu => ?_⟩
        · rw [g2, inS_cons]
          simp only []
          constructor
          · rintro (g | g)
            · exact .inl (.inr g)
            · by_cases hn : t.1 ≤ n ∧ n < t.2
              · exact .inl (.inl hn)
              · exact .inr (by omega)
          · rintro ((g | g) | g)
            · exact .inr (by omega)
            · exact .inl g
            · exact .inr (by omega)
        · have hbt := hb.2 t (by simp)
          exact g3 b ⟨by simp only []; omega, fun v hv => hb.2 v (by simp [hv])⟩ u hu
theorem addS_of {L O : List Spn} {s : Spn} (h : NormOf L O) : NormOf (L ++ [s]) (addS O s) := by
  unfold addS noneS
  by_cases hs : s.2 ≤ s.1
  · rw [if_pos (by simpa using hs)]
    refine ⟨h.right, fun n => ?_⟩
    rw [h.pts, inS_append]
    exact ⟨.inl, fun g => g.elim id fun ⟨u, hu, g1, g2⟩ => by simp at hu; subst hu; omega⟩
  · rw [if_neg (by simpa using hs)]
    obtain ⟨g1, g2, -⟩ := addG_ok h.right (show s.1 < s.2 by omega)
    refine ⟨g1, fun n => ?_⟩
    rw [g2, h.pts, inS_append]
    simp [inS]
theorem norm_nil : NormOf [] [] := ⟨trivial, fun _ => Iff.rfl⟩
theorem nrm_nil : nrm [] = [] := norm_nil.eq.symm
theorem nrm_step {L : List Spn} {k : Nat} (h : k < L.length) : addS (nrm (L.take k)) (gS L k) = nrm (L.take (k + 1)) := by
  have := (addS_of (s := gS L k) (nrm_of (L.take k))).eq
  rw [this, List.take_succ_eq_append_getElem h, gS_get h]
theorem addG_len : ∀ (L : List Spn) (s : Spn) (b : Bool), (addG L s b).length ≤ L.length + 1
  | [], s, b => by unfold addG; cases b <;> simp
  | t :: r, s, b => by
    have h1 := fun s b => addG_len r s b
    unfold addG
    split
    · simp only [List.length_cons]; have := h1 s b; omega
    · split
      · split
        · simp only [List.length_cons]; have := h1 s b; omega
        · rename_i h2 h3
          simp only [List.length_cons]
          have hl : ∀ (r : List Spn) (s : Spn), (addG r s true).length ≤ r.length := by
            intro r
            induction r with
            | nil => intro s; simp [addG]
            | cons u r ih =>
              intro s
              unfold addG
              split
              · simp only [List.length_cons]; have := ih s; omega
              · split
                · simp only [if_true, List.length_cons]; have := ih s; omega
                · have := ih (min s.1 u.1, max s.2 u.2); simp only [List.length_cons]; omega
          have := hl r s
          omega
      · have := h1 (min s.1 t.1, max s.2 t.2) b; simp only [List.length_cons]; omega
theorem addS_len (L : List Spn) (s : Spn) : (addS L s).length ≤ L.length + 1 := by
  unfold addS
  split
  · omega
  · exact addG_len _ _ _
theorem nrm_len : ∀ (L : List Spn), (nrm L).length ≤ L.length := by
  intro L
  have h1 := normR_len ((L.filter keepS).mergeSort fun a b => decide (a.1 ≤ b.1)) []
  have h2 := List.length_mergeSort (le := fun a b : Spn => decide (a.1 ≤ b.1)) (L.filter keepS)
  have h3 := List.length_filter_le keepS L
  unfold nrm normS normR
  rw [List.length_reverse]
  simp only [List.length_nil] at h1
  omega
theorem holesG_len : ∀ (N : List Spn) (f t : Int), (holesG N f t).length ≤ N.length + 1
  | [], f, t => by unfold holesG putS; split <;> simp
  | a :: N, f, t => by
    have := holesG_len N (max f a.2) t
    rw [holesG, List.length_append, List.length_cons]
    have : (putS f (min a.1 t)).length ≤ 1 := by unfold putS; split <;> simp
    omega
theorem hls_len (L : List Spn) (s : Spn) : (hls L s).length ≤ (nrm L).length + 1 := holesG_len _ _ _
theorem holesG_none : ∀ (N : List Spn) (f t : Int), t ≤ f → holesG N f t = []
  | [], f, t, h => by rw [holesG, putS, if_neg (by omega)]
  | a :: N, f, t, h => by rw [holesG, putS, if_neg (by omega), holesG_none N _ t (by omega)]; rfl
def refH : List Spn → Int → Int → List Spn
  | [], f, t => putS f t
  | a :: N, f, t => if a.2 ≤ f ∨ a.1 ≥ t then refH N f t else (if a.1 > f then [(f, a.1)] else []) ++ refH N a.2 t
theorem refH_past : ∀ {N : List Spn} {f t : Int}, (∀ a ∈ N, a.1 ≥ t) → refH N f t = putS f t
  | [], f, t, _ => rfl
  | a :: N, f, t, h => by rw [refH, if_pos (.inr (h a (by simp))), refH_past (fun b hb => h b (by simp [hb]))]
theorem refH_holes : ∀ {N : List Spn} {f t : Int}, RightS N → refH N f t = holesG N f t
  | [], f, t, _ => rfl
  | a :: N, f, t, h => by
    have h1 := h.1
    rw [refH, holesG]
    by_cases c1 : a.2 ≤ f
    · rw [if_pos (.inl c1), refH_holes h.2.2, putS, if_neg (by omega), show max f a.2 = f from by omega]; rfl
    · by_cases c2 : a.1 ≥ t
      · rw [if_pos (.inr c2), refH_past (fun b hb => by have := h.2.1 b hb; omega), holesG_none N _ t (by omega), List.append_nil, show min a.1 t = t from by omega]
      · rw [if_neg (by omega), refH_holes h.2.2, show max f a.2 = a.2 from by omega, show min a.1 t = a.1 from by omega]; rfl
/-! ### what is kept while a row grows behind a box -/
structure KB (B : Nat) (F : List Nat) (w w' : World) : Prop where
  os : w'.os = w.os
  tape : w'.tape = w.tape
  output : w'.output = w.output
  size : w.heap.size ≤ w'.heap.size
  block : ∀ k, k < B → k ∉ F → w'.heap[k]? = w.heap[k]?
theorem KB.refl (B : Nat) (F : List Nat) (w : World) : KB B F w w := ⟨rfl, rfl, rfl, Nat.le_refl _, fun _ _ _ => rfl⟩
theorem KB.tr {B : Nat} {F : List Nat} {x y z : World} (h : KB B F x y) (k : KB B F y z) : KB B F x z := ⟨k.os.trans h.os, k.tape.trans h.tape, k.output.trans h.output, Nat.le_trans h.size k.size, fun i hi hn => (k.block i hi hn).trans (h.block i hi hn)⟩
theorem KB.of_grow {B : Nat} {F : List Nat} {w w' : World} (g : Grow w w') (hB : B ≤ w.heap.size) : KB B F w w' := ⟨g.os, g.tape, g.output, g.size, fun k hk _ => g.block k (by omega)⟩
theorem KB.of_upd {B q : Nat} {F : List Nat} {w w' : World} (u : Upd q w w') (hq : q ∈ F ∨ B ≤ q) : KB B F w w' := ⟨u.os, u.tape, u.output, by rw [u.size]; exact Nat.le_refl _, fun k hk hn => u.other k (fun he => by subst he; rcases hq with h | h; exact hn h; omega)⟩
theorem KB.of_gr {B : Nat} {F : List Nat} {w w' : World} {row : Option Nat} (g : w.grownBy w' row) (hr : ∀ k, row = some k → B ≤ k) (hB : B ≤ w.heap.size) : KB B F w w' := ⟨g.os, g.tape, g.output, g.size, fun k hk _ => g.block k (by omega) (fun he => by have := hr k he.symm; omega)⟩
theorem KB.heap {B k : Nat} {F : List Nat} {w w' : World} {o : Obj} (h : KB B F w w') (hk : w.heap[k]? = some o) (hB : k < B) (hn : k ∉ F) : w'.heap[k]? = some o := by rw [h.block k hB hn]; exact hk
theorem KB.own {base n sz : Nat} {F : List Nat} {T : TypeId} {v : Value} {xs : List Value} {w w' : World} (h : KB w.heap.size F w w') (own : w.ownsRow base T sz v n xs) (hne : ∀ k, v.ownBlock = some k → k ∉ F) : w'.ownsRow base T sz v n xs := by
  obtain ⟨h1, h2⟩ := own
  refine ⟨h1, ?_⟩
  rcases h2 with h2 | ⟨g, cap, cur, rfl, hg, hgc, rest⟩
  · exact .inl h2
  · exact .inr ⟨g, cap, cur, rfl, hg, h.heap hgc (lt_of_heap hgc) (hne g rfl), rest⟩
theorem KB.below {B a : Nat} {F : List Nat} {w w' : World} (h : KB B F w w') (ha : a ≤ B) (hb : ∀ x ∈ F, a ≤ x) : Below a w w' := ⟨h.os, h.tape, h.output, h.size, fun k hk => h.block k (by omega) (fun hm => by have := hb k hm; omega)⟩
theorem KB.of_kp {B : Nat} {F E : List Nat} {w w' : World} (h : Kp E w w') (hF : ∀ x ∈ E, x ∈ F ∨ B ≤ x) (hB : B ≤ w.heap.size) : KB B F w w' := ⟨h.os, h.tape, h.output, h.size, fun k hk hn => h.block k (by omega) (fun hm => by rcases hF k hm with h1 | h1; exact hn h1; omega)⟩
theorem kp_own {b k base n sz : Nat} {T : TypeId} {v : Value} {xs : List Value} {w : World} (own : w.ownsRow base T sz v n xs) (h1 : k ≠ b) (h2 : w.heap.size ≤ k) : k ∉ b :: v.ownBlock.toList := by
  intro hm
  rcases List.mem_cons.1 hm with h | h
  · exact h1 h
  · have := (own.lt k (by simpa using h)).2; omega
theorem kp_low {b B n sz : Nat} {T : TypeId} {v : Value} {xs : List Value} {w : World} (own : w.ownsRow B T sz v n xs) : ∀ x ∈ b :: v.ownBlock.toList, x = b ∨ B ≤ x := by
  intro x hm
  rcases List.mem_cons.1 hm with h | h
  · exact .inl h
  · exact .inr (own.lt x (by simpa using h)).1
end Go.Proofs.Ytldlfhodboigeaa.K
