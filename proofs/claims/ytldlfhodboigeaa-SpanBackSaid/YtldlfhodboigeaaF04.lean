/- Spans of bits, and one more span; plain law. No program here. -/
import Derived.Test.YtldlfhodboigeaaE04
import Derived.Test.YtldlfhodboigeaaM06
set_option linter.unusedVariables false
set_option linter.unusedSimpArgs false
namespace Go.Proofs.Ytldlfhodboigeaa.K
open Go Go.RowKit
theorem addS_nrm (L : List Spn) (s : Spn) : addS (nrm L) s = nrm (L ++ [s]) := (addS_of (nrm_of L)).eq
theorem own_snoc {w : World} {base : Nat} {T : TypeId} {v : Value} {O : List Spn} {s : Spn} (h : w.ownsRow base T 2 v (O.length + 1) (encL O ++ [.int .i64 s.1, .int .i64 s.2])) : w.ownsRow base T 2 v (O ++ [s]).length (encL (O ++ [s])) := by
  rw [List.length_append, encL_append]
  exact h
theorem addG_drop {L : List Spn} {k : Nat} (h : k < L.length) (s : Spn) (b : Bool) : addG (L.drop k) s b = if (gS L k).2 < s.1 then gS L k :: addG (L.drop (k + 1)) s b else if (gS L k).1 > s.2 then (if b then gS L k :: addG (L.drop (k + 1)) s b else s :: gS L k :: addG (L.drop (k + 1)) s true) else addG (L.drop (k + 1)) (min s.1 (gS L k).1, max s.2 (gS L k).2) b := by
  rw [List.drop_eq_getElem_cons h, gS_get h, addG]
theorem refH_drop {N : List Spn} {k : Nat} (h : k < N.length) (f t : Int) : refH (N.drop k) f t = if (gS N k).2 ≤ f ∨ (gS N k).1 ≥ t then refH (N.drop (k + 1)) f t else (if (gS N k).1 > f then [(f, (gS N k).1)] else []) ++ refH (N.drop (k + 1)) (gS N k).2 t := by
  rw [List.drop_eq_getElem_cons h, gS_get h, refH]
theorem sumS_take {N : List Spn} {k : Nat} (hk : k < N.length) : sumS (N.take (k + 1)) = sumS (N.take k) + ((gS N k).2 - (gS N k).1) := by
  rw [List.take_succ_eq_append_getElem hk, sumS_append, gS_get hk]
  simp only [sumS]; omega
theorem sumS_le {N : List Spn} (h : RightS N) (k : Nat) : sumS (N.take k) ≤ sumS N := by
  have h1 := sumS_nonneg (RightS.drop k h)
  have h2 := sumS_append (N.take k) (N.drop k)
  rw [List.take_append_drop] at h2
  omega
theorem wrap_i64 {d : Int} (h0 : 0 < d) (h1 : d < 18446744073709551616) : IntKind.i64.wrap d = if d < 9223372036854775808 then d else d - 18446744073709551616 := by
  have hw : ∀ n : Int, IntKind.i64.wrap n = if 9223372036854775808 ≤ n % 18446744073709551616 then n % 18446744073709551616 - 18446744073709551616 else n % 18446744073709551616 := fun n => by simp [IntKind.wrap, IntKind.signed, IntKind.bits]
  rw [hw]
  split <;> split <;> omega
/-! ### bits -/
def bitP (xs : List Int) (i : Int) : Bool := decide (xs.getD (i / 8).toNat 0 / 2 ^ (i % 8).toNat % 2 = 1)
def getB (xs : List Int) (i : Int) : Bool := decide (0 ≤ i) && (decide (i / 8 < xs.length) && bitP xs i)
theorem and_one {a : Int} (h0 : 0 ≤ a) (h1 : a < 256) : bitop .and .u8 a 1 = a % 2 := by
  rw [bitop_and h0 (by omega) (by show _ < (256 : Int); omega) (by show _ < (256 : Int); omega)]
  have h2 : (1 : Int).toNat = 1 := rfl
  rw [h2, Nat.and_one_is_mod]
  have hw : ∀ n : Int, IntKind.u8.wrap n = n % 256 := fun n => by simp [IntKind.wrap, IntKind.signed, IntKind.bits]
  rw [hw]
  omega
theorem pow_pos2 (k : Nat) : (0 : Int) < 2 ^ k := Int.pow_pos (by decide)
theorem div_rng {a : Int} (h0 : 0 ≤ a) (h1 : a < 256) (k : Nat) : 0 ≤ a / 2 ^ k ∧ a / 2 ^ k < 256 := by
  have hp := pow_pos2 k
  refine ⟨Int.ediv_nonneg h0 (Int.le_of_lt hp), ?_⟩
  have := Int.ediv_le_self (2 ^ k : Int) h0
  omega
theorem getD_rng {xs : List Int} (hx : ∀ x ∈ xs, 0 ≤ x ∧ x < 256) (i : Nat) : 0 ≤ xs.getD i 0 ∧ xs.getD i 0 < 256 := by
  rw [List.getD_eq_getElem?_getD]
  cases h : xs[i]? with
  | none => simp
  | some x => exact hx x (List.mem_of_getElem? h)
theorem div_pow2s {a : Int} (k : Nat) : a / 2 ^ k / 2 = a / 2 ^ (k + 1) := by
  rw [Int.pow_succ, Int.ediv_ediv_of_nonneg (Int.le_of_lt (pow_pos2 k))]
def ofL (xs : List Int) : Nat → List Spn
  | 0 => []
  | k + 1 => if getB xs k then ofL xs k ++ [((k : Int), (k : Int) + 1)] else ofL xs k
theorem ofL_len (xs : List Int) : ∀ k, (ofL xs k).length ≤ k
  | 0 => by simp [ofL]
  | k + 1 => by have := ofL_len xs k; unfold ofL; split <;> simp <;> omega
theorem ofL_pts (xs : List Int) : ∀ (k : Nat) (n : Int), inS (ofL xs k) n ↔ 0 ≤ n ∧ n < k ∧ getB xs n = true
  | 0, n => by simp [ofL, inS]; omega
  | k + 1, n => by
    have ih := ofL_pts xs k n
    unfold ofL
    by_cases hb : getB xs k = true
    · rw [if_pos hb, inS_append, ih]
      constructor
      · rintro (h | ⟨s, hs, h1, h2⟩)
        · exact ⟨h.1, by omega, h.2.2⟩
        · simp at hs; subst hs
          simp only [] at h1 h2
          have : n = k := by omega
          subst this
          exact ⟨by omega, by omega, hb⟩
      · rintro ⟨h1, h2, h3⟩
        by_cases hn : n < k
        · exact .inl ⟨h1, hn, h3⟩
        · exact .inr ⟨_, List.mem_singleton.2 rfl, by simp only []; omega, by simp only []; omega⟩
    · rw [if_neg hb, ih]
      constructor
      · rintro ⟨h1, h2, h3⟩; exact ⟨h1, by omega, h3⟩
      · rintro ⟨h1, h2, h3⟩
        refine ⟨h1, ?_, h3⟩
        by_cases hn : n < k
        · exact hn
        · have : n = k := by omega
          subst this; exact absurd h3 hb
def ofS (xs : List Int) : List Spn := nrm (ofL xs (8 * xs.length))
theorem eqS {s t : Spn} : (decide (s.1 = t.1) && (decide (s.2 = t.2) && true)) = decide (s = t) := by
  rw [Bool.and_true, ← Bool.decide_and]
  exact decide_eq_decide.2 ⟨fun h => Prod.ext h.1 h.2, fun h => by rw [h]; exact ⟨rfl, rfl⟩⟩
theorem same_of {A B : List Spn} (hl : A.length = B.length) (h : ∀ i, i < A.length → gS A i = gS B i) : A = B := by
  refine List.ext_getElem hl fun i h1 h2 => ?_
  have := h i h1
  rw [gS_get h1, gS_get h2] at this
  exact this
end Go.Proofs.Ytldlfhodboigeaa.K
