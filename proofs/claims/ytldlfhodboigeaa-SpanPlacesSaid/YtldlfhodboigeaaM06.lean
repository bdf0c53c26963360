/- Plain arithmetic of chapter 06: fields of a word. No program here. -/
import Derived.Test.YtldlfhodboigeaaJ4
set_option linter.unusedVariables false
set_option linter.unusedSimpArgs false
namespace Go.Proofs.Ytldlfhodboigeaa.K
open Go Go.RowKit

theorem wrap_u64 (n : Int) : IntKind.u64.wrap n = n % 18446744073709551616 := by simp [IntKind.wrap, IntKind.bits, IntKind.signed]
theorem bitop_and {k : IntKind} {a b : Int} (ha : 0 ≤ a) (hb : 0 ≤ b) (ha' : a < 2 ^ k.bits) (hb' : b < 2 ^ k.bits) : bitop .and k a b = k.wrap ((a.toNat &&& b.toNat : Nat) : Int) := by
  simp only [bitop, BitVec.toNat_and, BitVec.toNat_ofInt]
  congr 2
  have h1 : (a % ((2 ^ k.bits : Nat) : Int)).toNat = a.toNat := by rw [Int.emod_eq_of_lt ha (by simpa using ha')]
  have h2 : (b % ((2 ^ k.bits : Nat) : Int)).toNat = b.toNat := by rw [Int.emod_eq_of_lt hb (by simpa using hb')]
  rw [h1, h2]
theorem bitop_or {k : IntKind} {a b : Int} (ha : 0 ≤ a) (hb : 0 ≤ b) (ha' : a < 2 ^ k.bits) (hb' : b < 2 ^ k.bits) : bitop .or k a b = k.wrap ((a.toNat ||| b.toNat : Nat) : Int) := by
  simp only [bitop, BitVec.toNat_or, BitVec.toNat_ofInt]
  congr 2
  have h1 : (a % ((2 ^ k.bits : Nat) : Int)).toNat = a.toNat := by rw [Int.emod_eq_of_lt ha (by simpa using ha')]
  have h2 : (b % ((2 ^ k.bits : Nat) : Int)).toNat = b.toNat := by rw [Int.emod_eq_of_lt hb (by simpa using hb')]
  rw [h1, h2]

def getF (at_ wide x : Int) : Int := bitop .and .u64 (x / 2 ^ min at_.toNat 64) (IntKind.u64.wrap (IntKind.u64.wrap (1 * 2 ^ min wide.toNat 64) - 1))
theorem getF_eq (a b : Nat) (ha : a ≤ 63) (hb : b ≤ 63) (x : Int) (h0 : 0 ≤ x) (h1 : x ≤ 18446744073709551615) : getF a b x = x / 2 ^ a % 2 ^ b := by
  unfold getF
  have e1 : min ((a : Int)).toNat 64 = a := by simp; omega
  have e2 : min ((b : Int)).toNat 64 = b := by simp; omega
  rw [e1, e2, Int.one_mul]
  have hp : (2 : Int) ^ b ≤ 2 ^ 63 := by
    have := Nat.pow_le_pow_right (show 0 < 2 by omega) hb
    exact_mod_cast this
  have hp1 : (1 : Int) ≤ 2 ^ b := by
    have := Nat.one_le_two_pow (n := b)
    exact_mod_cast this
  have hw1 : IntKind.u64.wrap ((2 : Int) ^ b) = 2 ^ b := by rw [wrap_u64]; omega
  have hw2 : IntKind.u64.wrap ((2 : Int) ^ b - 1) = 2 ^ b - 1 := by rw [wrap_u64]; omega
  rw [hw1, hw2]
  have hq0 : 0 ≤ x / 2 ^ a := Int.ediv_nonneg h0 (by have := Nat.one_le_two_pow (n := a); have : (1 : Int) ≤ 2 ^ a := by exact_mod_cast this
                                                     omega)
  have hq1 : x / 2 ^ a ≤ x := Int.ediv_le_self _ h0
  rw [bitop_and hq0 (by omega) (by show _ < (18446744073709551616 : Int); omega) (by show _ < (18446744073709551616 : Int); omega)]
  have ht : ((2 : Int) ^ b - 1).toNat = 2 ^ b - 1 := by
    have : ((2 : Int) ^ b - 1) = ((2 ^ b - 1 : Nat) : Int) := by
      have := Nat.one_le_two_pow (n := b); push_cast [this]; rfl
    rw [this]; simp
  rw [ht, Nat.and_two_pow_sub_one_eq_mod]
  have hx : ((((x / 2 ^ a).toNat % 2 ^ b : Nat)) : Int) = x / 2 ^ a % 2 ^ b := by
    rw [Int.natCast_emod, Int.toNat_of_nonneg hq0]; simp
  rw [hx]
  have hm0 := Int.emod_nonneg (x / 2 ^ a) (show (2 : Int) ^ b ≠ 0 by omega)
  have hm1 := Int.emod_lt_of_pos (x / 2 ^ a) (show (0 : Int) < 2 ^ b by omega)
  rw [wrap_u64]; omega

/-- The lowest thirty bits, with their sign. -/
def sgn30 (n : Int) : Int := if n < 536870912 then n else n - 1073741824
theorem signed_eq (n : Int) (h0 : 0 ≤ n) (h1 : n < 1073741824) :
    IntKind.i64.wrap (IntKind.u64.wrap (n * 2 ^ min ((64 : Int) - 30).toNat IntKind.u64.bits)) / 2 ^ min ((64 : Int) - 30).toNat IntKind.i64.bits = sgn30 n := by
  show IntKind.i64.wrap (IntKind.u64.wrap (n * 17179869184)) / 17179869184 = sgn30 n
  rw [wrap_u64, IntKind.wrap_i64]
  unfold sgn30
  split <;> omega

/-- One more field, joined to a word. -/
def stepJ (acc : Int) (p : Int × Int × Int) : Int :=
  bitop .or .u64 acc (IntKind.u64.wrap (bitop .and .u64 (IntKind.u64.wrap p.2.2) (IntKind.u64.wrap (IntKind.u64.wrap (1 * 2 ^ min p.2.1.toNat 64) - 1)) * 2 ^ min p.1.toNat 64))
def joinF (l : List (Int × Int × Int)) : Int := l.foldl stepJ 0
theorem stepJ_eq (a b : Nat) (hb : b ≤ 63) (hab : a + b ≤ 64) (acc n : Int) (h0 : 0 ≤ acc) (h1 : acc < 2 ^ a) : stepJ acc (a, b, n) = acc + n % 2 ^ b * 2 ^ a := by
  have hm0 : 0 ≤ n % 18446744073709551616 := by omega
  have hg := getF_eq 0 b (by omega) hb (n % 18446744073709551616) hm0 (by omega)
  unfold getF at hg
  simp only [Int.natCast_zero, Int.toNat_zero, Nat.zero_min, Int.pow_zero, Int.ediv_one] at hg
  unfold stepJ
  simp only
  rw [wrap_u64 n, hg]
  have hp1 : (1 : Int) ≤ 2 ^ b := by have := Nat.one_le_two_pow (n := b); exact_mod_cast this
  have hp2 : (1 : Int) ≤ 2 ^ a := by have := Nat.one_le_two_pow (n := a); exact_mod_cast this
  have hdvd : ((2 : Int) ^ b) ∣ 18446744073709551616 := by
    have : (18446744073709551616 : Int) = 2 ^ b * 2 ^ (64 - b) := by rw [← Int.pow_add]; rw [show b + (64 - b) = 64 from by omega]; rfl
    rw [this]; exact Int.dvd_mul_right _ _
  rw [Int.emod_emod_of_dvd n hdvd]
  have hr0 := Int.emod_nonneg n (show (2 : Int) ^ b ≠ 0 by omega)
  have hr1 := Int.emod_lt_of_pos n (show (0 : Int) < 2 ^ b by omega)
  by_cases ha : a = 64
  · subst ha
    have hb0 : b = 0 := by omega
    subst hb0
    have : n % 2 ^ 0 = 0 := by simp
    rw [this]
    simp only [Int.zero_mul, Int.add_zero]
    rw [bitop_or h0 (by rw [wrap_u64]; omega) (by exact h1) (by rw [wrap_u64]; show _ < (18446744073709551616 : Int); omega)]
    have h1' : acc < 18446744073709551616 := h1
    rw [wrap_u64, wrap_u64]
    simp
    omega
  have e1 : min ((a : Int)).toNat 64 = a := by simp; omega
  rw [e1]
  have hprod : (n % 2 ^ b) * 2 ^ a < 18446744073709551616 := by
    have h3 : (n % 2 ^ b) * 2 ^ a < 2 ^ b * 2 ^ a := Int.mul_lt_mul_of_pos_right hr1 (by omega)
    have h4 : (2 : Int) ^ b * 2 ^ a ≤ 18446744073709551616 := by
      rw [← Int.pow_add]
      have := Nat.pow_le_pow_right (show 0 < 2 by omega) (show b + a ≤ 64 by omega)
      have h5 : ((2 ^ (b + a) : Nat) : Int) ≤ ((2 ^ 64 : Nat) : Int) := by exact_mod_cast this
      simpa using h5
    omega
  have hprod0 : 0 ≤ (n % 2 ^ b) * 2 ^ a := Int.mul_nonneg hr0 (by omega)
  have hacc : acc < 18446744073709551616 := by
    have := Nat.pow_le_pow_right (show 0 < 2 by omega) (show a ≤ 64 by omega)
    have h5 : ((2 ^ a : Nat) : Int) ≤ ((2 ^ 64 : Nat) : Int) := by exact_mod_cast this
    have h6 : (2 : Int) ^ a ≤ 18446744073709551616 := by simpa using h5
    omega
  rw [show IntKind.u64.wrap (n % 2 ^ b * 2 ^ a) = n % 2 ^ b * 2 ^ a from by rw [wrap_u64]; omega]
  rw [bitop_or h0 hprod0 (by exact hacc) (by exact hprod)]
  obtain ⟨x, hx⟩ := Int.eq_ofNat_of_zero_le h0
  obtain ⟨y, hy⟩ := Int.eq_ofNat_of_zero_le hr0
  rw [hx, hy]
  have hxa : x < 2 ^ a := by have : ((x : Nat) : Int) < ((2 ^ a : Nat) : Int) := by rw [← hx]; simpa using h1
                             exact_mod_cast this
  have ht : ((y : Int) * 2 ^ a).toNat = y * 2 ^ a := by
    have : ((y : Int) * 2 ^ a) = ((y * 2 ^ a : Nat) : Int) := by push_cast; rfl
    rw [this, Int.toNat_natCast]
  rw [ht]
  simp only [Int.toNat_natCast]
  rw [Nat.or_comm, Nat.mul_comm y, ← Nat.two_pow_add_eq_or_of_lt hxa, wrap_u64]
  have hsum : ((2 ^ a * y + x : Nat) : Int) = x + y * 2 ^ a := by push_cast; rw [Int.mul_comm]; omega
  rw [hsum, Int.emod_eq_of_lt]
  · rw [hx, hy] at *; omega
  · -- the sum stays below 2^64
    have h7 : (y : Int) + 1 ≤ 2 ^ b := by rw [← hy]; omega
    have h8 : ((y : Int) + 1) * 2 ^ a ≤ 2 ^ b * 2 ^ a := Int.mul_le_mul_of_nonneg_right h7 (by omega)
    have h4 : (2 : Int) ^ b * 2 ^ a ≤ 18446744073709551616 := by
      rw [← Int.pow_add]
      have := Nat.pow_le_pow_right (show 0 < 2 by omega) (show b + a ≤ 64 by omega)
      have h5 : ((2 ^ (b + a) : Nat) : Int) ≤ ((2 ^ 64 : Nat) : Int) := by exact_mod_cast this
      simpa using h5
    rw [Int.add_mul, Int.one_mul] at h8
    rw [hx] at h1
    omega

/-- What a word points to. -/
structure Pt where
  kind : Int
  off : Int
  data : Int
  ptrs : Int
  size : Int
  count : Int
  seg : Int
  dbl : Bool
  deriving DecidableEq
def Pt.v (p : Pt) : Value := .agg #[.int .i64 p.kind, .int .i64 p.off, .int .i64 p.data, .int .i64 p.ptrs, .int .i64 p.size, .int .i64 p.count, .int .i64 p.seg, .bool p.dbl]
def Pt0 : Pt := ⟨0, 0, 0, 0, 0, 0, 0, false⟩
def decP (x : Int) : Pt :=
  if x = 0 then Pt0
  else if x % 4 = 0 then ⟨1, sgn30 (x / 4 % 1073741824), x / 4294967296 % 65536, x / 281474976710656 % 65536, 0, 0, 0, false⟩
  else if x % 4 = 1 then ⟨2, sgn30 (x / 4 % 1073741824), 0, 0, x / 4294967296 % 8, x / 34359738368 % 536870912, 0, false⟩
  else if x % 4 = 2 then ⟨3, x / 8 % 536870912, 0, 0, 0, 0, x / 4294967296 % 4294967296, decide (x / 4 % 2 = 1)⟩
  else Pt0
def decE (x : Int) : Int := if x = 0 then 0 else if x % 4 = 3 then 23 else 0
/-- A pointer's fields, laid in a word. -/
def encW (p : Pt) : Int :=
  if p.kind = 1 then p.off % 1073741824 * 4 + p.data % 65536 * 4294967296 + p.ptrs % 65536 * 281474976710656
  else if p.kind = 2 then 1 + p.off % 1073741824 * 4 + p.size % 8 * 4294967296 + p.count % 536870912 * 34359738368
  else if p.kind = 3 then 2 + (if p.dbl then 4 else 0) + p.off % 536870912 * 8 + p.seg % 4294967296 * 4294967296
  else 0
def encOk (p : Pt) : Bool := decide (decE (encW p) = 0 ∧ decP (encW p) = p)
def encR (p : Pt) : Int := if encOk p then encW p else 0
def encE (p : Pt) : Int := if encOk p then 0 else 1
theorem encW_range (p : Pt) : 0 ≤ encW p ∧ encW p ≤ 18446744073709551615 := by
  unfold encW
  split
  · omega
  · split
    · omega
    · split
      · split <;> omega
      · omega
/-- How many words there are where it points. -/
def wordsN (p : Pt) : Int :=
  if p.kind = 0 then 0
  else if p.kind = 1 then IntKind.i64.wrap (p.data + p.ptrs)
  else if p.kind = 3 then (if p.dbl then 2 else 1)
  else if p.kind = 2 then (if p.size = 2 then IntKind.i64.wrap ((IntKind.i64.wrap (IntKind.i64.wrap (p.count + 8) - 1)).tdiv 8) else if p.size = 5 ∨ p.size = 6 then p.count else 0)
  else 0
def wordsE (p : Pt) : Int :=
  if p.kind = 0 then 0
  else if p.kind = 1 then 0
  else if p.kind = 3 then 0
  else if p.kind = 2 then (if p.size = 2 then 0 else if p.size = 5 ∨ p.size = 6 then 0 else 23)
  else 23

/-- The fields that are joined for a pointer. -/
def fieldsOf (p : Pt) : List (Int × Int × Int) :=
  if p.kind = 1 then [(0, 2, 0), (2, 30, p.off), (32, 16, p.data), (48, 16, p.ptrs)]
  else if p.kind = 2 then [(0, 2, 1), (2, 30, p.off), (32, 3, p.size), (35, 29, p.count)]
  else [(0, 2, 2), (2, 1, if p.dbl then 1 else 0), (3, 29, p.off), (32, 32, p.seg)]
theorem joinF4 (a0 b0 a1 b1 a2 b2 a3 b3 : Nat) (h0 : a0 = 0) (h1 : a1 = b0) (h2 : a1 + b1 ≤ a2) (h3 : a2 + b2 ≤ a3) (h4 : a3 + b3 ≤ 64) (hb0 : b0 ≤ 63) (hb1 : b1 ≤ 63) (hb2 : b2 ≤ 63) (hb3 : b3 ≤ 63) (n0 n1 n2 n3 : Int) :
    joinF [(a0, b0, n0), (a1, b1, n1), (a2, b2, n2), (a3, b3, n3)] = 0 + n0 % 2 ^ b0 * 2 ^ a0 + n1 % 2 ^ b1 * 2 ^ a1 + n2 % 2 ^ b2 * 2 ^ a2 + n3 % 2 ^ b3 * 2 ^ a3 := by
  have pw : ∀ x : Nat, (1 : Int) ≤ 2 ^ x := fun x => by have := Nat.one_le_two_pow (n := x); exact_mod_cast this
  have step : ∀ (a b c : Nat) (acc n : Int), 0 ≤ acc → acc < 2 ^ a → a + b ≤ c → 0 ≤ acc + n % 2 ^ b * 2 ^ a ∧ acc + n % 2 ^ b * 2 ^ a < 2 ^ c := by
    intro a b c acc n g0 g1 hc
    have r0 := Int.emod_nonneg n (show (2 : Int) ^ b ≠ 0 by have := pw b; omega)
    have r1 := Int.emod_lt_of_pos n (show (0 : Int) < 2 ^ b by have := pw b; omega)
    have r2 : 0 ≤ n % 2 ^ b * 2 ^ a := Int.mul_nonneg r0 (by have := pw a; omega)
    refine ⟨by omega, ?_⟩
    have r3 : (n % 2 ^ b + 1) * 2 ^ a ≤ 2 ^ b * 2 ^ a := Int.mul_le_mul_of_nonneg_right (by omega) (by have := pw a; omega)
    rw [Int.add_mul, Int.one_mul, ← Int.pow_add] at r3
    have r4 : (2 : Int) ^ (b + a) ≤ 2 ^ c := by
      have := Nat.pow_le_pow_right (show 0 < 2 by omega) (show b + a ≤ c by omega)
      exact_mod_cast this
    omega
  subst h0
  have s0 := step 0 b0 a1 0 n0 (by omega) (by simp) (by omega)
  have s1 := step a1 b1 a2 _ n1 s0.1 s0.2 (by omega)
  have s2 := step a2 b2 a3 _ n2 s1.1 s1.2 (by omega)
  unfold joinF
  simp only [List.foldl_cons, List.foldl_nil]
  rw [stepJ_eq 0 b0 hb0 (by omega) 0 n0 (by omega) (by simp), stepJ_eq a1 b1 hb1 (by omega) _ n1 s0.1 s0.2, stepJ_eq a2 b2 hb2 (by omega) _ n2 s1.1 s1.2, stepJ_eq a3 b3 hb3 h4 _ n3 s2.1 s2.2]
theorem join_enc (p : Pt) (hk : p.kind = 1 ∨ p.kind = 2 ∨ p.kind = 3) : joinF (fieldsOf p) = encW p := by
  unfold fieldsOf encW
  by_cases h1 : p.kind = 1
  · rw [if_pos h1, if_pos h1]
    have := joinF4 0 2 2 30 32 16 48 16 rfl rfl (by omega) (by omega) (by omega) (by omega) (by omega) (by omega) (by omega) 0 p.off p.data p.ptrs
    refine this.trans ?_
    simp
  · by_cases h2 : p.kind = 2
    · rw [if_neg h1, if_pos h2, if_neg h1, if_pos h2]
      have := joinF4 0 2 2 30 32 3 35 29 rfl rfl (by omega) (by omega) (by omega) (by omega) (by omega) (by omega) (by omega) 1 p.off p.size p.count
      refine this.trans ?_
      simp
    · have h3 : p.kind = 3 := by omega
      rw [if_neg h1, if_neg h2, if_neg h1, if_neg h2, if_pos h3]
      have := joinF4 0 2 2 1 3 29 32 32 rfl rfl (by omega) (by omega) (by omega) (by omega) (by omega) (by omega) (by omega) 2 (if p.dbl then 1 else 0) p.off p.seg
      refine this.trans ?_
      cases p.dbl <;> simp
/-- A row of fields, as cells. -/
def laidCells (l : List (Int × Int × Int)) : List Value := l.flatMap fun p => [.int .i64 p.1, .int .i64 p.2.1, .int .i64 p.2.2]
theorem length_laid (l : List (Int × Int × Int)) : (laidCells l).length = 3 * l.length := by
  induction l with
  | nil => rfl
  | cons p l ih => simp only [laidCells, List.flatMap_cons, List.length_append, List.length_cons, List.length_nil] at *; omega
theorem laid_at : ∀ (l : List (Int × Int × Int)) (k : Nat) (h : k < l.length), ((laidCells l).drop (k * 3)).take 3 = [.int .i64 l[k].1, .int .i64 l[k].2.1, .int .i64 l[k].2.2]
  | p :: l, 0, _ => by simp [laidCells]
  | p :: l, k + 1, h => by
    have ih := laid_at l k (by simpa using h)
    have : laidCells (p :: l) = [.int .i64 p.1, .int .i64 p.2.1, .int .i64 p.2.2] ++ laidCells l := rfl
    rw [this, show (k + 1) * 3 = 3 + k * 3 from by omega, ← List.drop_drop]
    simp only [List.getElem_cons_succ]
    exact ih
theorem joinF_take (l : List (Int × Int × Int)) (k : Nat) (h : k < l.length) : joinF (l.take (k + 1)) = stepJ (joinF (l.take k)) l[k] := by
  unfold joinF
  rw [List.take_succ_eq_append_getElem h, List.foldl_append]
  rfl

theorem wrap87 (n : Int) : IntKind.i64.wrap (n + 7) = IntKind.i64.wrap (IntKind.i64.wrap (n + 8) - 1) := by
  simp only [IntKind.wrap_i64, wrap64]; omega
theorem div_pow (x : Int) (k : Nat) : x / 2 ^ (k + 1) = x / 2 ^ k / 2 := by
  have h1 : (1 : Int) ≤ 2 ^ k := by have := Nat.one_le_two_pow (n := k); exact_mod_cast this
  rw [Int.pow_succ, Int.ediv_ediv_of_nonneg (by omega)]
theorem pow_bound (k : Nat) (h : k ≤ 62) : (1 : Int) ≤ 2 ^ k ∧ (2 : Int) ^ k ≤ 4611686018427387904 ∧ (2 : Int) ^ (k + 1) = 2 * 2 ^ k := by
  refine ⟨?_, ?_, ?_⟩
  · have := Nat.one_le_two_pow (n := k); exact_mod_cast this
  · have := Nat.pow_le_pow_right (show 0 < 2 by omega) h
    have h5 : ((2 ^ k : Nat) : Int) ≤ ((2 ^ 62 : Nat) : Int) := by exact_mod_cast this
    simpa using h5
  · rw [Int.pow_succ]; omega
theorem div_range (x : Int) (k : Nat) (h0 : 0 ≤ x) : 0 ≤ x / 2 ^ k ∧ x / 2 ^ k ≤ x := by
  have : (1 : Int) ≤ 2 ^ k := by have := Nat.one_le_two_pow (n := k); exact_mod_cast this
  exact ⟨Int.ediv_nonneg h0 (by omega), Int.ediv_le_self _ h0⟩
theorem pow_bound30 (k : Nat) (h : k ≤ 29) : (1 : Int) ≤ 2 ^ k ∧ (2 : Int) ^ k ≤ 536870912 ∧ (2 : Int) ^ (k + 1) = 2 * 2 ^ k := by
  refine ⟨(pow_bound k (by omega)).1, ?_, (pow_bound k (by omega)).2.2⟩
  have := Nat.pow_le_pow_right (show 0 < 2 by omega) h
  have h5 : ((2 ^ k : Nat) : Int) ≤ ((2 ^ 29 : Nat) : Int) := by exact_mod_cast this
  simpa using h5

theorem dec3 (x : Int) (h : x % 4 = 3) : decP x = Pt0 ∧ decE x = 23 := by
  have h0 : x ≠ 0 := by omega
  unfold decP decE
  rw [if_neg h0, if_neg (by omega), if_neg (by omega), if_neg (by omega), if_neg h0, if_pos h]
  exact ⟨rfl, rfl⟩
theorem decN (x : Int) (h : x % 4 ≠ 3) : decE x = 0 := by
  unfold decE
  by_cases h0 : x = 0
  · rw [if_pos h0]
  · rw [if_neg h0, if_neg h]
theorem decE_iff (x : Int) : decE x = 0 ↔ x % 4 ≠ 3 := by
  constructor
  · intro h h3
    rw [(dec3 x h3).2] at h
    omega
  · exact decN x
/-- What a word's pointer is: by its lowest bits. -/
theorem dec_form (x : Int) (hx0 : 0 ≤ x) (hx1 : x ≤ 18446744073709551615) :
    (x = 0 ∧ decP x = Pt0) ∨
    (x ≠ 0 ∧ x % 4 = 0 ∧ ∃ o d q, decP x = ⟨1, o, d, q, 0, 0, 0, false⟩ ∧ -536870912 ≤ o ∧ o ≤ 536870911 ∧ 0 ≤ d ∧ d ≤ 65535 ∧ 0 ≤ q ∧ q ≤ 65535 ∧ x = o % 1073741824 * 4 + d * 4294967296 + q * 281474976710656) ∨
    (x % 4 = 1 ∧ ∃ o s n, decP x = ⟨2, o, 0, 0, s, n, 0, false⟩ ∧ -536870912 ≤ o ∧ o ≤ 536870911 ∧ 0 ≤ s ∧ s ≤ 7 ∧ 0 ≤ n ∧ n ≤ 536870911 ∧ x = 1 + o % 1073741824 * 4 + s * 4294967296 + n * 34359738368) ∨
    (x % 4 = 2 ∧ ∃ o g b, decP x = ⟨3, o, 0, 0, 0, 0, g, b⟩ ∧ 0 ≤ o ∧ o ≤ 536870911 ∧ 0 ≤ g ∧ g ≤ 4294967295 ∧ x = 2 + (if b then 4 else 0) + o * 8 + g * 4294967296) ∨
    (x % 4 = 3 ∧ decP x = Pt0) := by
  by_cases h0 : x = 0
  · left; exact ⟨h0, by unfold decP; rw [if_pos h0]⟩
  right
  have hs : ∀ n : Int, 0 ≤ n → n < 1073741824 → -536870912 ≤ sgn30 n ∧ sgn30 n ≤ 536870911 ∧ sgn30 n % 1073741824 = n := by
    intro n h1 h2; unfold sgn30; split <;> omega
  have hn := hs (x / 4 % 1073741824) (by omega) (by omega)
  by_cases h1 : x % 4 = 0
  · left
    refine ⟨h0, h1, _, _, _, by unfold decP; rw [if_neg h0, if_pos h1], hn.1, hn.2.1, by omega, by omega, by omega, by omega, ?_⟩
    rw [hn.2.2]; omega
  right
  by_cases h2 : x % 4 = 1
  · left
    refine ⟨h2, _, _, _, by unfold decP; rw [if_neg h0, if_neg h1, if_pos h2], hn.1, hn.2.1, by omega, by omega, by omega, by omega, ?_⟩
    rw [hn.2.2]; omega
  right
  by_cases h3 : x % 4 = 2
  · left
    refine ⟨h3, _, _, _, by unfold decP; rw [if_neg h0, if_neg h1, if_neg h2, if_pos h3], by omega, by omega, by omega, by omega, ?_⟩
    by_cases hb : x / 4 % 2 = 1
    · simp only [hb, decide_true, if_true]; omega
    · simp only [hb, decide_false, Bool.false_eq_true, if_false]; omega
  right
  have h4 : x % 4 = 3 := by omega
  exact ⟨h4, (dec3 x h4).1⟩
theorem enc_dec (x : Int) (hx0 : 0 ≤ x) (hx1 : x ≤ 18446744073709551615) (hE : decE x = 0) : encW (decP x) = x := by
  have h3 := (decE_iff x).1 hE
  rcases dec_form x hx0 hx1 with ⟨h, e⟩ | ⟨h, h', o, d, q, e, r1, r2, r3, r4, r5, r6, hx⟩ | ⟨h, o, s, n, e, r1, r2, r3, r4, r5, r6, hx⟩ | ⟨h, o, g, b, e, r1, r2, r3, r4, hx⟩ | ⟨h, e⟩
  · rw [e, h]; rfl
  · rw [e]; unfold encW; simp; omega
  · rw [e]; unfold encW; simp; omega
  · rw [e]; unfold encW; cases b <;> simp at hx ⊢ <;> omega
  · exact absurd h h3
theorem encOk_dec (x : Int) (hx0 : 0 ≤ x) (hx1 : x ≤ 18446744073709551615) (hE : decE x = 0) : encE (decP x) = 0 ∧ encR (decP x) = x := by
  have h := enc_dec x hx0 hx1 hE
  have hok : encOk (decP x) = true := by unfold encOk; rw [h]; simp [hE]
  unfold encE encR
  rw [hok, h]
  exact ⟨rfl, rfl⟩
theorem dec_inj (x y : Int) (hx0 : 0 ≤ x) (hx1 : x ≤ 18446744073709551615) (hy0 : 0 ≤ y) (hy1 : y ≤ 18446744073709551615) (hE : decE x = 0) (hF : decE y = 0) : decP x = decP y ↔ x = y := by
  constructor
  · intro h
    rw [← enc_dec x hx0 hx1 hE, h, enc_dec y hy0 hy1 hF]
  · rintro rfl; rfl
theorem dec_nonneg (x : Int) (hx0 : 0 ≤ x) (hx1 : x ≤ 18446744073709551615) : 0 ≤ (decP x).data ∧ 0 ≤ (decP x).ptrs ∧ 0 ≤ (decP x).count ∧ ((decP x).kind = 3 → 0 ≤ (decP x).off ∧ 0 ≤ (decP x).seg) ∧ (x ≠ 0 → x % 4 ≠ 3 → (decP x).kind = x % 4 + 1) := by
  rcases dec_form x hx0 hx1 with ⟨h, e⟩ | ⟨h, h', o, d, q, e, r1, r2, r3, r4, r5, r6, hx⟩ | ⟨h, o, s, n, e, r1, r2, r3, r4, r5, r6, hx⟩ | ⟨h, o, g, b, e, r1, r2, r3, r4, hx⟩ | ⟨h, e⟩ <;>
    (rw [e]; simp [Pt0]; try omega)
/-- The fields that a pointer may have: no others are told. -/
def okP (p : Pt) : Prop :=
  (p = ⟨1, p.off, p.data, p.ptrs, 0, 0, 0, false⟩ ∧ -536870912 ≤ p.off ∧ p.off ≤ 536870911 ∧ 0 ≤ p.data ∧ p.data ≤ 65535 ∧ 0 ≤ p.ptrs ∧ p.ptrs ≤ 65535 ∧ ¬ (p.off = 0 ∧ p.data = 0 ∧ p.ptrs = 0)) ∨
  (p = ⟨2, p.off, 0, 0, p.size, p.count, 0, false⟩ ∧ -536870912 ≤ p.off ∧ p.off ≤ 536870911 ∧ 0 ≤ p.size ∧ p.size ≤ 7 ∧ 0 ≤ p.count ∧ p.count ≤ 536870911) ∨
  (p = ⟨3, p.off, 0, 0, 0, 0, p.seg, p.dbl⟩ ∧ 0 ≤ p.off ∧ p.off ≤ 536870911 ∧ 0 ≤ p.seg ∧ p.seg ≤ 4294967295) ∨ p = Pt0
theorem okP_ok (p : Pt) (h : okP p) : encOk p = true := by
  have key : decE (encW p) = 0 ∧ decP (encW p) = p := by
    obtain ⟨kind, o, d, q, s, n, g, b⟩ := p
    simp only [okP, Pt.mk.injEq, Pt0] at h
    rcases h with ⟨⟨rfl, _, _, _, rfl, rfl, rfl, rfl⟩, r1, r2, r3, r4, r5, r6, r7⟩ | ⟨⟨rfl, _, rfl, rfl, _, _, rfl, rfl⟩, r1, r2, r3, r4, r5, r6⟩ | ⟨⟨rfl, _, rfl, rfl, rfl, rfl, _, _⟩, r1, r2, r3, r4⟩ | ⟨rfl, rfl, rfl, rfl, rfl, rfl, rfl, rfl⟩
    · have hw : encW ⟨1, o, d, q, 0, 0, 0, false⟩ = o % 1073741824 * 4 + d * 4294967296 + q * 281474976710656 := by unfold encW; simp; omega
      rw [hw]
      generalize hx : o % 1073741824 * 4 + d * 4294967296 + q * 281474976710656 = x
      have h0 : x ≠ 0 := by omega
      have h1 : x % 4 = 0 := by omega
      refine ⟨decN x (by omega), ?_⟩
      unfold decP
      rw [if_neg h0, if_pos h1]
      have e1 : x / 4 % 1073741824 = o % 1073741824 := by omega
      have e2 : sgn30 (o % 1073741824) = o := by unfold sgn30; split <;> omega
      rw [e1, e2]
      congr 1 <;> omega
    · have hw : encW ⟨2, o, 0, 0, s, n, 0, false⟩ = 1 + o % 1073741824 * 4 + s * 4294967296 + n * 34359738368 := by unfold encW; simp; omega
      rw [hw]
      generalize hx : 1 + o % 1073741824 * 4 + s * 4294967296 + n * 34359738368 = x
      have h0 : x ≠ 0 := by omega
      have h1 : x % 4 = 1 := by omega
      refine ⟨decN x (by omega), ?_⟩
      unfold decP
      rw [if_neg h0, if_neg (by omega), if_pos h1]
      have e1 : x / 4 % 1073741824 = o % 1073741824 := by omega
      have e2 : sgn30 (o % 1073741824) = o := by unfold sgn30; split <;> omega
      rw [e1, e2]
      congr 1 <;> omega
    · have hw : encW ⟨3, o, 0, 0, 0, 0, g, b⟩ = 2 + (if b then 4 else 0) + o * 8 + g * 4294967296 := by unfold encW; cases b <;> simp <;> omega
      rw [hw]
      generalize hc : (if b = true then (4 : Int) else 0) = c
      have hc2 : (b = true ∧ c = 4) ∨ (b = false ∧ c = 0) := by
        cases b
        · exact .inr ⟨rfl, by simpa using hc.symm⟩
        · exact .inl ⟨rfl, by simpa using hc.symm⟩
      generalize hx : 2 + c + o * 8 + g * 4294967296 = x
      have h0 : x ≠ 0 := by omega
      have h1 : x % 4 = 2 := by omega
      refine ⟨decN x (by omega), ?_⟩
      unfold decP
      rw [if_neg h0, if_neg (by omega), if_neg (by omega), if_pos h1]
      rcases hc2 with ⟨rfl, rfl⟩ | ⟨rfl, rfl⟩
      · congr 1 <;> first | omega | (simp; omega)
      · congr 1 <;> first | omega | (simp; omega)
    · exact ⟨rfl, rfl⟩
  unfold encOk
  simp [key]
theorem ok_okP (p : Pt) (h : encOk p = true) : okP p := by
  unfold encOk at h
  simp only [decide_eq_true_eq] at h
  obtain ⟨hE, hP⟩ := h
  obtain ⟨r0, r1⟩ := encW_range p
  have h3 := (decE_iff _).1 hE
  generalize encW p = x at *
  rcases dec_form x r0 r1 with ⟨h, e⟩ | ⟨h, h', o, d, q, e, q1, q2, q3, q4, q5, q6, hx⟩ | ⟨h, o, s, n, e, q1, q2, q3, q4, q5, q6, hx⟩ | ⟨h, o, g, b, e, q1, q2, q3, q4, hx⟩ | ⟨h, e⟩
  · rw [hP] at e; exact .inr (.inr (.inr e))
  · rw [hP] at e; subst e; left; exact ⟨rfl, q1, q2, q3, q4, q5, q6, by simp only; omega⟩
  · rw [hP] at e; subst e; right; left; exact ⟨rfl, q1, q2, q3, q4, q5, q6⟩
  · rw [hP] at e; subst e; right; right; left; exact ⟨rfl, q1, q2, q3, q4⟩
  · exact absurd h h3
theorem encE_ok (p : Pt) (h : okP p) : encE p = 0 ∧ encR p = encW p := by unfold encE encR; rw [okP_ok p h]; exact ⟨rfl, rfl⟩
theorem encE_bad (p : Pt) (h : ¬ okP p) : encE p = 1 ∧ encR p = 0 := by
  have : encOk p = false := by cases hb : encOk p with | false => rfl | true => exact absurd (ok_okP p hb) h
  unfold encE encR; rw [this]; exact ⟨rfl, rfl⟩

/-- The statements' own pointer, as choices say. -/
def ptrF0 (a b c k : Int) : Pt :=
  if k % 4 = 1 then ⟨1, a % 1073741824 - 536870912, b % 65536, c % 65536, 0, 0, 0, false⟩
  else if k % 4 = 2 then ⟨2, a % 1073741824 - 536870912, 0, 0, b % 8, c % 536870912, 0, false⟩
  else if k % 4 = 3 then ⟨3, a % 536870912, 0, 0, 0, 0, b, decide (c % 2 = 1)⟩
  else Pt0
def ptrF (a b c k : Int) : Pt :=
  if 200 < k then { ptrF0 a b c k with off := a, data := b % 70000, count := (ptrF0 a b c k).count + c % 3 } else ptrF0 a b c k

theorem decE_range (x : Int) : 0 ≤ decE x ∧ decE x ≤ 23 := by unfold decE; split; omega; split <;> omega
theorem wordsE_range (p : Pt) : 0 ≤ wordsE p ∧ wordsE p ≤ 23 := by unfold wordsE; repeat' split <;> omega
theorem encE_range (p : Pt) : 0 ≤ encE p ∧ encE p ≤ 1 := by unfold encE; split <;> omega
theorem words_bytes (n : Int) (h0 : 0 ≤ n) (h1 : n ≤ 65535) : wordsN ⟨2, 0, 0, 0, 2, n, 0, false⟩ = (n + 7) / 8 := by
  unfold wordsN
  rw [if_neg (show ¬ (2 : Int) = 0 from by decide), if_neg (show ¬ (2 : Int) = 1 from by decide), if_neg (show ¬ (2 : Int) = 3 from by decide), if_pos rfl, if_pos rfl]
  simp only [IntKind.wrap_i64, wrap64]
  rw [Int.tdiv_eq_ediv_of_nonneg (by omega)]
  omega
theorem okP_range (p : Pt) (h : okP p) : -536870912 ≤ p.off ∧ p.off ≤ 536870911 ∧ (p.kind = 3 → 0 ≤ p.off) ∧ p.data ≤ 65535 ∧ 0 ≤ p.ptrs ∧ p.size ≤ 7 ∧ p.count ≤ 536870911 ∧ p.seg ≤ 4294967295 := by
  obtain ⟨kind, o, d, q, s, n, g, b⟩ := p
  simp only [okP, Pt.mk.injEq, Pt0] at h
  simp only
  rcases h with ⟨⟨rfl, _, _, _, rfl, rfl, rfl, rfl⟩, r1, r2, r3, r4, r5, r6, r7⟩ | ⟨⟨rfl, _, rfl, rfl, _, _, rfl, rfl⟩, r1, r2, r3, r4, r5, r6⟩ | ⟨⟨rfl, _, rfl, rfl, rfl, rfl, _, _⟩, r1, r2, r3, r4⟩ | ⟨rfl, rfl, rfl, rfl, rfl, rfl, rfl, rfl⟩ <;> omega
theorem ptrF_ok (a b c j : Int) (ha : 0 ≤ a ∧ a ≤ 4294967295) (hb : 0 ≤ b ∧ b ≤ 4294967295) (hc : 0 ≤ c ∧ c ≤ 4294967295) (hj : 1 ≤ j ∧ j ≤ 3) :
    (okP (ptrF a b c j) ∨ ptrF a b c j = ⟨1, 0, 0, 0, 0, 0, 0, false⟩) := by
  unfold ptrF ptrF0
  rw [if_neg (by omega)]
  by_cases h1 : j % 4 = 1
  · rw [if_pos h1]
    by_cases hz : a % 1073741824 - 536870912 = 0 ∧ b % 65536 = 0 ∧ c % 65536 = 0
    · right; rw [hz.1, hz.2.1, hz.2.2]
    · left; left; exact ⟨rfl, by simp only; omega, by simp only; omega, by simp only; omega, by simp only; omega, by simp only; omega, by simp only; omega, hz⟩
  · rw [if_neg h1]
    by_cases h2 : j % 4 = 2
    · rw [if_pos h2]; left; right; left; exact ⟨rfl, by simp only; omega, by simp only; omega, by simp only; omega, by simp only; omega, by simp only; omega, by simp only; omega⟩
    · rw [if_neg h2, if_pos (by omega)]; left; right; right; left; exact ⟨rfl, by simp only; omega, by simp only; omega, by simp only; omega, by simp only; omega⟩
theorem encR_offs (n d q : Int) (h0 : -268435454 ≤ n) (h1 : n ≤ 268435457) (hd : 0 ≤ d ∧ d ≤ 65535) (hq : 0 ≤ q ∧ q ≤ 65535) (hz : ¬ (n = 0 ∧ d = 0 ∧ q = 0)) :
    encE ⟨1, n, d, q, 0, 0, 0, false⟩ = 0 ∧ encR ⟨1, n, d, q, 0, 0, 0, false⟩ = n % 1073741824 * 4 + d * 4294967296 + q * 281474976710656 := by
  have hok : okP ⟨1, n, d, q, 0, 0, 0, false⟩ := .inl ⟨rfl, by simp only; omega, by simp only; omega, hd.1, hd.2, hq.1, hq.2, hz⟩
  obtain ⟨e1, e2⟩ := encE_ok _ hok
  refine ⟨e1, ?_⟩
  rw [e2]; unfold encW; simp; omega
theorem tmod_range (x : Int) : -268435455 ≤ x.tmod 268435456 ∧ x.tmod 268435456 ≤ 268435455 := by
  have h1 := Int.tmod_lt_of_pos x (show (0 : Int) < 268435456 by decide)
  have h2 := Int.lt_tmod_of_pos x (show (0 : Int) < 268435456 by decide)
  omega
end Go.Proofs.Ytldlfhodboigeaa.K
