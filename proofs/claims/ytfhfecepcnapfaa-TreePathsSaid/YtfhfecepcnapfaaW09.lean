/- By a far pointer the same is read as by a near one. Plain law. -/
import Derived.Test.YtfhfecepcnapfaaV09
set_option linter.unusedVariables false
set_option linter.unusedSimpArgs false
namespace Go.Proofs.Ytfhfecepcnapfaa.K
open Go Go.RowKit
/-- A word that says a pointer. -/
def Says (x : Int) (p : Pt) : Prop := decP x = p ∧ decE x = 0
theorem says_enc {p : Pt} (h : okP p) : Says (encR p) p := dec_enc h
theorem ptrS_says {s : Src} {seg a x : Int} {p : Pt} (hp : Says x p) (hw : s.word seg a = (x, 0)) : ptrS s seg a = (p, 0) := by
  unfold ptrS
  rw [hw, if_neg (by simp), hp.1, hp.2]
def oneP (k : Int) : Pt := ⟨1, k, 1, 0, 0, 0, 0, false⟩
def farQ (s : Int) (d : Bool) : Pt := ⟨3, 0, 0, 0, 0, 0, s, d⟩
def oneO (seg a : Int) : Ob := ⟨1, seg, a, 1, 0, 0, 0⟩
theorem oneP_ok {k : Int} (h0 : 0 ≤ k) (h1 : k ≤ 20) : okP (oneP k) := .inl ⟨rfl, by simp [oneP]; omega, by simp [oneP]; omega, by simp [oneP], by simp [oneP], by simp [oneP], by simp [oneP], by simp [oneP]⟩
theorem farQ_ok {s : Int} (d : Bool) (h0 : 0 ≤ s) (h1 : s ≤ 20) : okP (farQ s d) := .inr (.inr (.inl ⟨rfl, by simp [farQ], by simp [farQ], by simp [farQ]; omega, by simp [farQ]; omega⟩))
theorem found_one {s : Src} {k seg a : Int} (hw : withinP s.sizes seg a 1 = true) : foundS s (oneP k) seg a = (oneO seg a, 0) := by
  have h1 : wordsE (objP (oneP k) seg a).pt = 0 := rfl
  have h2 : wordsN (objP (oneP k) seg a).pt = 1 := rfl
  unfold foundS
  rw [h1, h2, hw, if_neg (by decide), if_neg (by decide)]
  rfl
theorem walk_one {s : Src} {seg a w : Int} (hf : followS s 0 0 = (oneO seg a, 0)) (hw : s.word seg a = (w, 0)) : walkS s [] 0 9 = (⟨1, 0, 0, 0, w⟩, 0) := by
  have h1 : wordsO (oneO seg a) = 1 := rfl
  have hm : max (9 : Int) (-1) = 9 := by decide
  have hs : atS s (oneO seg a) 0 = (w, 0) := by
    unfold atS
    rw [if_neg (by simp [oneO]), if_pos (by simp [oneO])]
    show s.word seg (a + 0) = _
    rw [Int.add_zero, hw]
  unfold walkS
  rw [if_neg (by simp), if_neg (by simp), hf, if_neg (by simp), hm]
  simp only []
  rw [h1, if_neg (by decide), nextS]
  unfold valS
  rw [if_neg (by decide), hs, if_neg (by simp)]
  rfl
theorem follow_near {s : Src} {k seg a x : Int} (hx : Says x (oneP k)) (h0 : s.word seg a = (x, 0)) (hw : withinP s.sizes seg (a + 1 + k) 1 = true) : followS s seg a = (oneO seg (a + 1 + k), 0) := by
  have hp := ptrS_says hx h0
  have e1 : (ptrS s seg a).1 = oneP k := by rw [hp]
  have e2 : (ptrS s seg a).2 = 0 := by rw [hp]
  unfold followS
  rw [e1, e2]
  refine (if_neg (by simp [oneP])).trans ((if_pos (by simp [nearP, oneP])).trans ?_)
  exact found_one hw
theorem follow_far {s : Src} {k seg x y : Int} (hy : Says y (farQ seg false)) (hx : Says x (oneP k)) (h0 : s.word 0 0 = (y, 0)) (h1 : s.word seg 0 = (x, 0)) (hw : withinP s.sizes seg (0 + 1 + k) 1 = true) : followS s 0 0 = (oneO seg (0 + 1 + k), 0) := by
  have hp := ptrS_says hy h0
  have hq := ptrS_says hx h1
  have e1 : (ptrS s 0 0).1 = farQ seg false := by rw [hp]
  have e2 : (ptrS s 0 0).2 = 0 := by rw [hp]
  have f1 : (ptrS s seg 0).1 = oneP k := by rw [hq]
  have f2 : (ptrS s seg 0).2 = 0 := by rw [hq]
  unfold followS
  rw [e1, e2]
  refine (if_neg (by simp [farQ])).trans ((if_neg (by simp [nearP, farQ])).trans ((if_neg (by simp [farQ])).trans ?_))
  unfold landedS
  have g1 : (farQ seg false).seg = seg := rfl
  have g2 : (farQ seg false).off = 0 := rfl
  rw [g1, g2, f1, f2]
  refine (if_neg (by decide)).trans ((if_neg (by simp [nearP, oneP])).trans ?_)
  exact found_one hw
theorem follow_twice {s : Src} {x y z : Int} (hy : Says y (farQ 1 true)) (hz : Says z (farQ 2 false)) (hx : Says x (oneP 0)) (h0 : s.word 0 0 = (y, 0)) (h1 : s.word 1 0 = (z, 0)) (h2 : s.word 1 1 = (x, 0)) (hw : withinP s.sizes 2 0 1 = true) : followS s 0 0 = (oneO 2 0, 0) := by
  have hp := ptrS_says hy h0
  have e1 : (ptrS s 0 0).1 = farQ 1 true := by rw [hp]
  have e2 : (ptrS s 0 0).2 = 0 := by rw [hp]
  unfold followS
  rw [e1, e2]
  refine (if_neg (by simp [farQ])).trans ((if_neg (by simp [nearP, farQ])).trans ((if_pos (by simp [farQ])).trans ?_))
  unfold twiceS
  have g1 : (farQ 1 true).seg = 1 := rfl
  have g2 : (farQ 1 true).off = 0 := rfl
  rw [g1, g2, show ((0 : Int) + 1) = 1 from rfl, h1, h2]
  refine (if_neg (by simp)).trans ((if_neg (by simp)).trans ?_)
  show (if decE z ≠ 0 then _ else if decE x ≠ 0 then _ else _) = _
  rw [hz.2, hx.2, hz.1, hx.1]
  refine (if_neg (by decide)).trans ((if_neg (by decide)).trans ((if_neg (by simp [nearP, oneP, farQ])).trans ?_))
  exact found_one hw
/-! ### the three arenas -/
def farSeg (k : Nat) (x w : Int) : List Int := (x :: List.replicate k 0) ++ [w]
def farA (k : Nat) (x w : Int) : List (List Int) := [farSeg k x w]
def farB (k : Nat) (y x w : Int) : List (List Int) := [[y], farSeg k x w]
def farC (y z x w : Int) : List (List Int) := [[y], [z, x], [w]]
theorem farSeg_len (k : Nat) (x w : Int) : (farSeg k x w).length = k + 2 := by simp [farSeg]
theorem farSeg_last (k : Nat) (x w : Int) : (farSeg k x w).getD (k + 1) 0 = w := by simp [farSeg, List.getD_eq_getElem?_getD]
theorem word_at {A : List (List Int)} {s i : Nat} (hs : s < A.length) (hi : i < len2 A s) : wordA A (s : Int) (i : Int) = ((A.getD s []).getD i 0, 0) := by
  unfold wordA
  rw [if_pos (by refine ⟨by omega, by omega, by omega, ?_⟩; rw [Int.toNat_natCast]; omega)]
  simp only [Int.toNat_natCast]
theorem farA_walk {k : Nat} (hk : k ≤ 20) {x w : Int} (hx : Says x (oneP k)) : walkS (wholeS (farA k x w)) [] 0 9 = (⟨1, 0, 0, 0, w⟩, 0) := by
  have hl := farSeg_len k x w
  have h0 : wordA (farA k x w) ((0 : Nat) : Int) ((0 : Nat) : Int) = (x, 0) := word_at (A := farA k x w) (s := 0) (i := 0) (by simp [farA]) (by simp [farA, len2, hl])
  have h1 : wordA (farA k x w) ((0 : Nat) : Int) ((k + 1 : Nat) : Int) = (w, 0) := by
    rw [word_at (A := farA k x w) (s := 0) (i := k + 1) (by simp [farA]) (by simp [farA, len2, hl])]
    rw [show (farA k x w).getD 0 [] = farSeg k x w from rfl, farSeg_last]
  rw [show ((k + 1 : Nat) : Int) = 0 + 1 + (k : Int) from by omega] at h1
  exact walk_one (follow_near hx h0 (by simp [withinP, addOk, wholeS, farA, hl]; omega)) h1
theorem farB_walk {k : Nat} (hk : k ≤ 20) {y x w : Int} (hy : Says y (farQ 1 false)) (hx : Says x (oneP k)) : walkS (wholeS (farB k y x w)) [] 0 9 = (⟨1, 0, 0, 0, w⟩, 0) := by
  have hl := farSeg_len k x w
  have h0 : wordA (farB k y x w) ((0 : Nat) : Int) ((0 : Nat) : Int) = (y, 0) := word_at (A := farB k y x w) (s := 0) (i := 0) (by simp [farB]) (by simp [farB, len2])
  have h2 : wordA (farB k y x w) ((1 : Nat) : Int) ((0 : Nat) : Int) = (x, 0) := word_at (A := farB k y x w) (s := 1) (i := 0) (by simp [farB]) (by simp [farB, len2, hl])
  have h1 : wordA (farB k y x w) ((1 : Nat) : Int) ((k + 1 : Nat) : Int) = (w, 0) := by
    rw [word_at (A := farB k y x w) (s := 1) (i := k + 1) (by simp [farB]) (by simp [farB, len2, hl])]
    rw [show (farB k y x w).getD 1 [] = farSeg k x w from rfl, farSeg_last]
  rw [show ((k + 1 : Nat) : Int) = 0 + 1 + (k : Int) from by omega] at h1
  exact walk_one (follow_far hy hx h0 h2 (by simp [withinP, addOk, wholeS, farB, hl]; omega)) h1
theorem farC_walk {y z x w : Int} (hy : Says y (farQ 1 true)) (hz : Says z (farQ 2 false)) (hx : Says x (oneP 0)) : walkS (wholeS (farC y z x w)) [] 0 9 = (⟨1, 0, 0, 0, w⟩, 0) :=
  walk_one (follow_twice hy hz hx (word_at (A := farC y z x w) (s := 0) (i := 0) (by simp [farC]) (by simp [farC, len2])) (word_at (A := farC y z x w) (s := 1) (i := 0) (by simp [farC]) (by simp [farC, len2])) (word_at (A := farC y z x w) (s := 1) (i := 1) (by simp [farC]) (by simp [farC, len2])) (by simp [withinP, addOk, wholeS, farC])) (word_at (A := farC y z x w) (s := 2) (i := 0) (by simp [farC]) (by simp [farC, len2]))
theorem farSeg_num {k : Nat} {x w : Int} (hx : inR .u64 x) (hw : inR .u64 w) : ∀ y ∈ farSeg k x w, inR .u64 y := by
  intro y hy
  simp only [farSeg, List.cons_append, List.mem_cons, List.mem_append, List.mem_replicate, List.not_mem_nil, or_false] at hy
  rcases hy with rfl | ⟨-, rfl⟩ | rfl
  · exact hx
  · simp [inR]
  · exact hw
theorem farA_ok {k : Nat} (hk : k ≤ 20) {x w : Int} (hx : inR .u64 x) (hw : inR .u64 w) : OkA (farA k x w) := by
  have hl := farSeg_len k x w
  refine ⟨by simp [farA], by simp [farA], by simp [farA, hl], by simp [farA, totalP, hl]; omega, ?_⟩
  intro q hq
  simp only [farA, List.mem_singleton] at hq
  subst hq
  exact farSeg_num hx hw
theorem farB_ok {k : Nat} (hk : k ≤ 20) {y x w : Int} (hy : inR .u64 y) (hx : inR .u64 x) (hw : inR .u64 w) : OkA (farB k y x w) := by
  have hl := farSeg_len k x w
  refine ⟨by simp [farB], by simp [farB], by simp [farB], by simp [farB, totalP, hl]; omega, ?_⟩
  intro q hq
  simp only [farB, List.mem_cons, List.not_mem_nil, or_false] at hq
  rcases hq with rfl | rfl
  · intro z hz; simp only [List.mem_singleton] at hz; subst hz; exact hy
  · exact farSeg_num hx hw
theorem farC_ok {y z x w : Int} (hy : inR .u64 y) (hz : inR .u64 z) (hx : inR .u64 x) (hw : inR .u64 w) : OkA (farC y z x w) := by
  refine ⟨by simp [farC], by simp [farC], by simp [farC], by simp [farC, totalP], ?_⟩
  intro q hq v hv
  simp only [farC, List.mem_cons, List.not_mem_nil, or_false] at hq
  rcases hq with rfl | rfl | rfl <;> simp only [List.mem_cons, List.not_mem_nil, or_false] at hv
  · subst hv; exact hy
  · rcases hv with rfl | rfl
    · exact hz
    · exact hx
  · subst hv; exact hw
/-- A made row is a block. -/
theorem own_made {w : World} {base b n : Nat} {T : TypeId} {xs : List Value} (h : w.ownsRow base T 1 (.slice (some ⟨b, 0, none⟩) n n) n xs) : base ≤ b ∧ ∃ cur : Array Value, w.heap[b]? = some (.cells cur T (0, 0)) ∧ cur.size = n ∧ cur.toList = xs := by
  obtain ⟨h0, h1⟩ := h
  rcases h1 with ⟨h1, -⟩ | ⟨q, cap, cur, hv, hq, hg, h1, h2, h3, h4⟩
  · simp at h1
  · simp only [Value.slice.injEq, Option.some.injEq, Addr.mk.injEq, and_true, true_and] at hv
    obtain ⟨rfl, rfl⟩ := hv
    refine ⟨hq, cur, hg, by omega, ?_⟩
    rw [← h4, List.take_of_length_le (by rw [Array.length_toList]; omega)]
theorem encR_u64 (p : Pt) : inR .u64 (encR p) := by
  obtain ⟨h0, h1⟩ := encW_range p
  unfold encR
  split
  · exact ⟨h0, h1⟩
  · simp [inR]
theorem farSeg_cells (k : Nat) (x w : Int) : (wordsV (farSeg k x w)).length = (k + 2) * 1 := by simp [wordsV, farSeg]
theorem far_cells (k : Nat) (x w : Int) : ((((List.replicate (k + 2) (Value.int .u64 0)).set 0 (.int .u64 x)).set (k + 1) (.int .u64 w))) = wordsV (farSeg k x w) := by
  have h1 : ∀ (k : Nat) (v z : Value), (List.replicate (k + 1) z).set k v = List.replicate k z ++ [v] := by
    intro k v z
    induction k with
    | zero => rfl
    | succ k ih => rw [List.replicate_succ, List.set_cons_succ, ih, List.replicate_succ, List.cons_append]
  rw [List.replicate_succ, List.set_cons_zero, List.set_cons_succ, h1]
  simp [wordsV, farSeg]
theorem arena_two {w : World} {b : Nat} {u v : Value} {q r : List Int} {T : TypeId} {fr : Nat × Nat} (hb : w.heap[b]? = some (.cells #[u, v] T fr)) (hu : Row w 1 u q.length (wordsV q)) (hv : Row w 1 v r.length (wordsV r)) : ArenaR w (.slice (some ⟨b, 0, none⟩) 2 2) [q, r] := by
  refine ⟨[u, v], Row.of_block (n := 2) hb rfl rfl (by decide), fun i s hi => ?_⟩
  cases i with
  | zero => simp only [List.getElem?_cons_zero, Option.some.injEq] at hi; subst hi; exact ⟨u, rfl, hu⟩
  | succ i => cases i with
    | zero => simp only [List.getElem?_cons_succ, List.getElem?_cons_zero, Option.some.injEq] at hi; subst hi; exact ⟨v, rfl, hv⟩
    | succ i => simp at hi
theorem arena_three {w : World} {b : Nat} {u v t : Value} {q r s : List Int} {T : TypeId} {fr : Nat × Nat} (hb : w.heap[b]? = some (.cells #[u, v, t] T fr)) (hu : Row w 1 u q.length (wordsV q)) (hv : Row w 1 v r.length (wordsV r)) (ht : Row w 1 t s.length (wordsV s)) : ArenaR w (.slice (some ⟨b, 0, none⟩) 3 3) [q, r, s] := by
  refine ⟨[u, v, t], Row.of_block (n := 3) hb rfl rfl (by decide), fun i s hi => ?_⟩
  cases i with
  | zero => simp only [List.getElem?_cons_zero, Option.some.injEq] at hi; subst hi; exact ⟨u, rfl, hu⟩
  | succ i => cases i with
    | zero => simp only [List.getElem?_cons_succ, List.getElem?_cons_zero, Option.some.injEq] at hi; subst hi; exact ⟨v, rfl, hv⟩
    | succ i => cases i with
      | zero => simp only [List.getElem?_cons_succ, List.getElem?_cons_zero, Option.some.injEq] at hi; subst hi; exact ⟨t, rfl, ht⟩
      | succ i => simp at hi
end Go.Proofs.Ytfhfecepcnapfaa.K
