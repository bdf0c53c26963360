/- A list that is built is read as it was. Plain law. -/
import Derived.Test.YtfhfecepcnapfaaU09
import Derived.Test.YtfhfecepcnapfaaU08
set_option linter.unusedVariables false
set_option linter.unusedSimpArgs false
namespace Go.Proofs.Ytfhfecepcnapfaa.K
open Go Go.RowKit
theorem rowat_one {w : World} {b : Nat} {x : Value} {T : TypeId} {fr : Nat × Nat} (hb : w.heap[b]? = some (.cells #[x] T fr)) : RowAt w 1 (some ⟨b, 0, none⟩) 1 [x] := ⟨by simp, by decide, fun _ => ⟨b, 0, _, _, _, rfl, hb, by simp⟩⟩
def kindN (ws : Bool) (c : List Int) : Nd := if ws then .mk 2 5 c [] [] else .mk 2 2 [] c []
def kindK (ws : Bool) (c : List Int) : List Int := if ws then c else chunksP c
def kindP (ws : Bool) (c : List Int) : Pt := ⟨2, 0, 0, 0, if ws then 5 else 2, c.length, 0, false⟩
theorem dec_enc {p : Pt} (h : okP p) : decP (encR p) = p ∧ decE (encR p) = 0 := by
  have h1 := okP_ok p h
  have h2 := (encE_ok p h).2
  rw [h2]
  simp only [encOk, decide_eq_true_eq] at h1
  exact ⟨h1.2, h1.1⟩
theorem kind_right (ws : Bool) (c : List Int) (hc : c.length ≤ 100) : (kindN ws c).right 32 = true := by
  cases ws <;> simp [kindN, Nd.right, Nd.own, Nd.rights] <;> omega
theorem kindP_ok (ws : Bool) (c : List Int) (hc : c.length ≤ 100) : okP (kindP ws c) := by
  refine .inr (.inl ⟨rfl, ?_, ?_, ?_, ?_, ?_, ?_⟩) <;> cases ws <;> simp [kindP] <;> omega
theorem kindK_len (ws : Bool) (c : List Int) : ((kindK ws c).length : Int) = if ws then (c.length : Int) else ((c.length : Int) + 7) / 8 := by
  cases ws
  · simp [kindK, chunksP]
  · simp [kindK]
theorem kind_words (ws : Bool) (c : List Int) (hc : c.length ≤ 100) : wordsN (kindP ws c) = ((kindK ws c).length : Int) ∧ wordsE (kindP ws c) = 0 := by
  rw [kindK_len]
  cases ws
  · exact ⟨words_bytes _ (by omega) (by omega), rfl⟩
  · exact ⟨rfl, rfl⟩
theorem kind_need (ws : Bool) (c : List Int) : (kindN ws c).need = ((kindK ws c).length : Int) := by
  rw [kindK_len]
  cases ws <;> simp [kindN, Nd.need]
theorem kind_build (ws : Bool) (c : List Int) (hc : c.length ≤ 100) : (kindN ws c).build 200 = ([encR (kindP ws c) :: kindK ws c], 0) := by
  have hr := kind_right ws c hc
  have hn := kind_need ws c
  have hl := kindK_len ws c
  have hnear : (kindN ws c).near 0 = encR (kindP ws c) := by
    cases ws <;> simp [kindN, kindP, Nd.near, Nd.ptr]
  have hlay : (kindN ws c).lay 200 ⟨[[0]], false⟩ 0 0 = ⟨[encR (kindP ws c) :: kindK ws c], false⟩ := by
    by_cases h0 : (kindN ws c).need = 0
    · have hk : kindK ws c = [] := List.eq_nil_of_length_eq_zero (by omega)
      rw [hk, ← hnear]
      cases ws <;> (simp only [kindN, Bool.false_eq_true, if_false, if_true] at h0 ⊢; simp only [Nd.lay, Bool.false_eq_true, or_false]; rw [if_neg (by decide), if_pos h0]; rfl)
    · have key : ∀ (z : Int) (w b : List Int), (Nd.mk 2 z w b []).right 32 = true → ¬ (Nd.mk 2 z w b []).need = 0 → (Nd.mk 2 z w b []).need ≤ 100 → (Nd.mk 2 z w b []).lay 200 ⟨[[0]], false⟩ 0 0 = ⟨[(Nd.mk 2 z w b []).near 0 :: (Nd.mk 2 z w b []).content], false⟩ := by
        intro z w b h1 h2 h3
        rw [Nd.lay_step 200 ⟨32, h1⟩ (by decide) h2 (by simp; omega) (by simp; omega), Nd.lays]
        rfl
      have hb : (kindN ws c).need ≤ 100 := by rw [hn, hl]; split <;> omega
      rw [← hnear]
      cases ws
      · have := key 2 [] c hr h0 hb
        simpa [kindN, kindK, Nd.content] using this
      · have := key 5 c [] hr h0 hb
        simpa [kindN, kindK, Nd.content, chunksP] using this
  unfold Nd.build
  rw [if_neg (by rw [hr]; simp), hlay, if_neg (by simp)]
def kindA (ws : Bool) (c : List Int) : List (List Int) := [encR (kindP ws c) :: kindK ws c]
def kindO (ws : Bool) (c : List Int) : Ob := ⟨2, 0, 1, 0, 0, if ws then 5 else 2, c.length⟩
theorem chunkP_range {c : List Int} (hx : isU8 c) (j : Nat) : 0 ≤ chunkP c j ∧ chunkP c j ≤ 18446744073709551615 := by
  have h := getP_range ((c.drop (8 * j)).take 8) (fun x hx2 => hx x (List.mem_of_mem_drop (List.mem_of_mem_take hx2)))
  have hl : ((c.drop (8 * j)).take 8).length ≤ 8 := by rw [List.length_take]; omega
  have h2 : (256 : Int) ^ ((c.drop (8 * j)).take 8).length ≤ 256 ^ 8 := by
    generalize ((c.drop (8 * j)).take 8).length = n at hl
    have : n = 0 ∨ n = 1 ∨ n = 2 ∨ n = 3 ∨ n = 4 ∨ n = 5 ∨ n = 6 ∨ n = 7 ∨ n = 8 := by omega
    rcases this with rfl | rfl | rfl | rfl | rfl | rfl | rfl | rfl | rfl <;> decide
  have h3 : (256 : Int) ^ 8 = 18446744073709551616 := by decide
  unfold chunkP
  omega
theorem kindK_range {ws : Bool} {c : List Int} (hx : isU8 c) : ∀ x ∈ kindK ws c, inR .u64 x := by
  intro x hm
  cases ws
  · simp only [kindK, Bool.false_eq_true, if_false, chunksP] at hm
    obtain ⟨j, _, rfl⟩ := List.mem_map.1 hm
    have := chunkP_range hx j
    simp only [inR]
    omega
  · have := hx x hm
    simp only [inR] at this ⊢
    omega
theorem kind_ok {ws : Bool} {c : List Int} (hx : isU8 c) (hc : c.length ≤ 100) : OkA (kindA ws c) := by
  have hl := kindK_len ws c
  have hl2 : (kindK ws c).length ≤ 100 := by cases ws <;> simp at hl <;> omega
  refine ⟨by simp [kindA], by simp [kindA], by simp [kindA], by simp [kindA, totalP]; omega, ?_⟩
  intro q hq x hm
  simp only [kindA, List.mem_singleton] at hq
  subst hq
  rcases List.mem_cons.1 hm with h | h
  · rw [h, (encE_ok _ (kindP_ok ws c hc)).2]
    have := encW_range (kindP ws c)
    simp only [inR]
    omega
  · exact kindK_range hx x h
theorem kind_word (ws : Bool) (c : List Int) {a : Int} (h0 : 0 ≤ a) (h1 : a < (kindK ws c).length) : (wholeS (kindA ws c)).word 0 (1 + a) = ((kindK ws c).getD a.toNat 0, 0) := by
  show wordA _ _ _ = _
  unfold wordA
  rw [if_pos (by refine ⟨by decide, by simp [kindA], by omega, ?_⟩; simp [kindA, len2]; omega)]
  have : (1 + a).toNat = a.toNat + 1 := by omega
  rw [this]
  rfl
theorem kind_follow (ws : Bool) (c : List Int) (hc : c.length ≤ 100) : followS (wholeS (kindA ws c)) 0 0 = (kindO ws c, 0) := by
  obtain ⟨hd, he⟩ := dec_enc (kindP_ok ws c hc)
  have hp : ptrS (wholeS (kindA ws c)) 0 0 = (kindP ws c, 0) := by
    have hw : (wholeS (kindA ws c)).word 0 0 = (encR (kindP ws c), 0) := by
      show wordA _ _ _ = _
      unfold wordA
      rw [if_pos (by simp [kindA, len2])]
      rfl
    unfold ptrS
    rw [hw, if_neg (by simp), hd, he]
  have hk : (kindP ws c).kind = 2 := rfl
  have ho : (objP (kindP ws c) 0 (0 + 1 + (kindP ws c).off)) = kindO ws c := rfl
  have hpt : (kindO ws c).pt = kindP ws c := by cases ws <;> rfl
  obtain ⟨h1, h2⟩ := kind_words ws c hc
  unfold followS
  rw [hp, if_neg (by simp [hk]), if_pos (by simp [nearP, hk])]
  unfold foundS
  rw [ho, hpt, h2, h1, if_neg (by decide), if_neg ?_]
  have hz : (wholeS (kindA ws c)).sizes = [((kindK ws c).length : Int) + 1] := by simp [wholeS, kindA]
  have ho2 : (kindP ws c).off = 0 := rfl
  rw [hz, ho2]
  simp only [withinP, addOk, Bool.not_eq_false, Bool.and_eq_true, decide_eq_true_eq]
  refine ⟨by simp, by omega, by omega, ?_, ?_⟩ <;> simp <;> omega
theorem kindO_words (ws : Bool) (c : List Int) (hc : c.length ≤ 100) : wordsO (kindO ws c) = ((kindK ws c).length : Int) := by
  have hpt : (kindO ws c).pt = kindP ws c := by cases ws <;> rfl
  unfold wordsO
  rw [if_neg (by simp [kindO]), hpt, (kind_words ws c hc).1]
theorem kindK_small (ws : Bool) (c : List Int) (hc : c.length ≤ 100) : (kindK ws c).length ≤ 100 := by
  have hl := kindK_len ws c
  cases ws <;> simp at hl <;> omega
theorem kind_walk0 (ws : Bool) (c : List Int) (hc : c.length ≤ 100) (a : Int) : walkS (wholeS (kindA ws c)) [] a 500 = valS (wholeS (kindA ws c)) (kindO ws c) a := by
  have h := kindK_small ws c hc
  have hm : max (500 : Int) (-1) = 500 := by decide
  unfold walkS
  rw [if_neg (by simp), if_neg (by simp), kind_follow ws c hc, if_neg (by simp), hm]
  simp only []
  rw [kindO_words ws c hc, if_neg (by omega), nextS]
theorem kind_walk1 (ws : Bool) (c : List Int) (hc : c.length ≤ 100) (a : Int) : walkS (wholeS (kindA ws c)) [0] a 500 = (Vl0, 23) := by
  have h := kindK_small ws c hc
  have hm : max (500 : Int) (-1) = 500 := by decide
  have hs : stepS (wholeS (kindA ws c)) (kindO ws c) 0 = (kindO ws c, 23) := by
    unfold stepS
    rw [if_neg (by simp [kindO]), if_neg (by simp [kindO]), if_pos (by cases ws <;> simp [kindO])]
  unfold walkS
  rw [if_neg (by simp), if_neg (by simp), kind_follow ws c hc, if_neg (by simp), hm]
  simp only []
  rw [kindO_words ws c hc, if_neg (by omega), nextS, hs, if_pos (by show (23 : Int) ≠ 0; decide)]
theorem kind_is (ws : Bool) (c : List Int) : valS (wholeS (kindA ws c)) (kindO ws c) (-1) = (⟨2, if ws then 5 else 2, c.length, 0, 0⟩, 0) := by
  unfold valS
  rw [if_pos (by decide)]
  cases ws <;> rfl
theorem kind_beyond (ws : Bool) (c : List Int) {a : Int} (h0 : 0 ≤ a) (h : (c.length : Int) ≤ a) : valS (wholeS (kindA ws c)) (kindO ws c) a = (Vl0, 20) := by
  have hs : atS (wholeS (kindA ws c)) (kindO ws c) a = (0, 20) := by
    unfold atS
    rw [if_neg (by simp [kindO]), if_neg (by simp [kindO]), if_neg (by cases ws <;> simp [kindO]), if_pos (by simpa [kindO] using h)]
  unfold valS
  rw [if_neg (by omega), hs, if_pos (by decide)]
theorem getP_digit : ∀ (xs : List Int) (i : Nat), (∀ x ∈ xs, inR .u8 x) → i < xs.length → getP xs / 256 ^ i % 256 = xs.getD i 0
  | [], i, _, h => by simp at h
  | x :: xs, 0, hx, _ => by
    have := hx x (by simp)
    simp only [inR] at this
    simp only [getP, List.getD_cons_zero, Int.pow_zero, Int.ediv_one]
    omega
  | x :: xs, i + 1, hx, h => by
    have h1 := hx x (by simp)
    simp only [inR] at h1
    have h2 := getP_digit xs i (fun y hy => hx y (by simp [hy])) (by simpa using h)
    rw [List.getD_cons_succ, ← h2, Int.pow_succ, Int.mul_comm, ← Int.ediv_ediv_of_nonneg (by decide : (0 : Int) ≤ 256)]
    congr 2
    simp only [getP]
    omega
theorem chunk_digit {c : List Int} (hx : isU8 c) {i : Nat} (h : i < c.length) : chunkP c (i / 8) / 256 ^ (i % 8) % 256 = c.getD i 0 := by
  unfold chunkP
  rw [getP_digit _ _ (fun x hx2 => hx x (List.mem_of_mem_drop (List.mem_of_mem_take hx2))) (by rw [List.length_take, List.length_drop]; omega)]
  rw [List.getD_eq_getElem?_getD, List.getD_eq_getElem?_getD, List.getElem?_take_of_lt (by omega), List.getElem?_drop, show 8 * (i / 8) + i % 8 = i from by omega]
theorem pow_8 (n : Nat) : (2 : Int) ^ (n * 8) = 256 ^ n := by rw [Nat.mul_comm, Int.pow_mul]; rfl
theorem kind_at {ws : Bool} {c : List Int} (hx : isU8 c) {i : Nat} (h : i < c.length) (hc : c.length ≤ 100) : valS (wholeS (kindA ws c)) (kindO ws c) (i : Int) = (⟨2, 0, 0, 0, c.getD i 0⟩, 0) := by
  have hl := kindK_len ws c
  have hs : atS (wholeS (kindA ws c)) (kindO ws c) (i : Int) = (c.getD i 0, 0) := by
    unfold atS
    rw [if_neg (by simp [kindO]), if_neg (by simp [kindO]), if_neg (by cases ws <;> simp [kindO]), if_neg (by simp [kindO]; omega)]
    cases ws
    · rw [if_neg (by simp [kindO])]
      simp only [Bool.false_eq_true, if_false] at hl
      have hw := kind_word false c (a := ((i / 8 : Nat) : Int)) (by omega) (by omega)
      have he : (kindO false c).at_ + (i : Int) / 8 = 1 + ((i / 8 : Nat) : Int) := by simp [kindO]
      have hk : (kindK false c).getD (i / 8) 0 = chunkP c (i / 8) := by
        have hlt : i / 8 < (c.length + 7) / 8 := by omega
        rw [List.getD_eq_getElem?_getD]
        simp [kindK, chunksP, hlt]
      have hm : ((i : Int) % 8 * 8).toNat = i % 8 * 8 := by omega
      rw [he]
      show ((((wholeS (kindA false c)).word 0 _).1 / _) % 256, ((wholeS (kindA false c)).word 0 _).2) = _
      rw [hw, hm, pow_8]
      simp only [Int.toNat_natCast]
      rw [hk, chunk_digit hx h]
    · rw [if_pos (by simp [kindO])]
      have hw := kind_word true c (a := (i : Int)) (by omega) (by rw [hl]; simp; omega)
      show (wholeS (kindA true c)).word 0 (1 + (i : Int)) = _
      rw [hw, Int.toNat_natCast]
      rfl
  unfold valS
  rw [if_neg (by omega), hs, if_neg (by simp)]
  rfl
end Go.Proofs.Ytfhfecepcnapfaa.K
