/- Plain laws of chapter 08: trees. No program here. -/
import Derived.Test.YtldlfhodboigeaaJ8
import Derived.Test.YtldlfhodboigeaaM06
set_option linter.unusedVariables false
set_option linter.unusedSimpArgs false
namespace Go.Proofs.Ytldlfhodboigeaa.K
open Go Go.RowKit

theorem five {c : List Value} (h : c.length = 5) : ∃ x0 x1 x2 x3 x4, c = [x0, x1, x2, x3, x4] := by
  match c, h with
  | [x0, x1, x2, x3, x4], _ => exact ⟨_, _, _, _, _, rfl⟩
/-- Bytes as a number, the least first. -/
def getP : List Int → Int
  | [] => 0
  | x :: xs => x + 256 * getP xs
theorem getP_range : ∀ (xs : List Int), (∀ x ∈ xs, inR .u8 x) → 0 ≤ getP xs ∧ getP xs < 256 ^ xs.length
  | [], _ => by simp [getP]
  | x :: xs, h => by
    have h1 := h x (by simp)
    have h2 := getP_range xs fun y hy => h y (by simp [hy])
    simp only [inR] at h1
    simp only [getP, List.length_cons, Int.pow_succ]
    omega
theorem take_min8 {n : Nat} {xs : List Int} (hn : n = xs.length) : xs.take (min n 8) = xs.take 8 := by
  subst hn
  rcases Nat.le_total xs.length 8 with h | h
  · rw [Nat.min_eq_left h, List.take_of_length_le (Nat.le_refl _), List.take_of_length_le h]
  · rw [Nat.min_eq_right h]
theorem pow_le8 {k : Nat} (h : k ≤ 7) : (256 : Int) ^ k ≤ 72057594037927936 := by
  match k, h with
  | 0, _ | 1, _ | 2, _ | 3, _ | 4, _ | 5, _ | 6, _ | 7, _ => decide
  | n + 8, h => omega
theorem getP_drop {ys : List Int} {m i : Nat} (hm : m = ys.length) (hi : i < m) : getP (ys.drop (m - (i + 1))) = ys[m - 1 - i]'(by omega) + 256 * getP (ys.drop (m - i)) := by
  rw [show m - (i + 1) = m - 1 - i from by omega, List.drop_eq_getElem_cons (by omega : m - 1 - i < ys.length), show m - 1 - i + 1 = m - i from by omega]
  rfl
theorem row_ne {w : World} {k l : Nat} {cs : Array Value} {T : TypeId} {fr : Nat × Nat} {rc : Loop} (hb : w.heap[k]? = some (.cells cs T fr)) (hl : w.heap[l]? = some (.loop rc)) : k ≠ l := by
  intro h; subst h; rw [hb] at hl; cases hl
/-- Bytes as words, eight at a time. -/
def chunkN (n j : Nat) : Nat := min 8 (n - 8 * j)
def chunkP (bs : List Int) (j : Nat) : Int := getP ((bs.drop (8 * j)).take 8)
theorem drop_chunk (bs : List Int) (j : Nat) : (bs.drop (8 * j)).take (chunkN bs.length j) = (bs.drop (8 * j)).take 8 := by
  rw [List.take_eq_take_iff, List.length_drop, chunkN]; omega
def chunksP (bs : List Int) : List Int := (List.range ((bs.length + 7) / 8)).map (chunkP bs)
theorem shl_or (a x : Int) (h0 : 0 ≤ a) (h1 : a < 72057594037927936) (hx0 : 0 ≤ x) (hx1 : x ≤ 255) : bitop .or .u64 (a * 256) x = x + 256 * a := by
  simp only [bitop, BitVec.toNat_or, BitVec.toNat_ofInt]
  have e1 : ((a * 256) % ((2 ^ IntKind.u64.bits : Nat) : Int)).toNat = a.toNat * 2 ^ 8 := by
    have : (a * 256) % ((2 ^ IntKind.u64.bits : Nat) : Int) = a * 256 := Int.emod_eq_of_lt (by omega) (by simp [IntKind.bits]; omega)
    rw [this]; omega
  have e2 : (x % ((2 ^ IntKind.u64.bits : Nat) : Int)).toNat = x.toNat := by
    rw [Int.emod_eq_of_lt hx0 (by simp [IntKind.bits]; omega)]
  rw [e1, e2, Nat.mul_comm, ← Nat.two_pow_add_eq_or_of_lt (by omega : x.toNat < 2 ^ 8)]
  rw [wrap_u64]
  omega
mutual
def Nd.sz : Nd → Nat
  | .mk _ _ _ _ ks => 1 + Nd.szs ks
def Nd.szs : List Nd → Nat
  | [] => 0
  | t :: ts => Nd.sz t + Nd.szs ts
end
theorem Nd.sz_pos (t : Nd) : 0 < t.sz := by cases t; simp only [Nd.sz]; omega
theorem Nd.szs_at : ∀ (ts : List Nd) (i : Nat) (t : Nd), ts[i]? = some t → t.sz ≤ Nd.szs ts
  | [], i, t, h => by simp at h
  | t :: ts, 0, u, h => by simp only [List.getElem?_cons_zero, Option.some.injEq] at h; subst h; simp only [Nd.szs]; omega
  | t :: ts, i + 1, u, h => by have := Nd.szs_at ts i u (by simpa using h); simp only [Nd.szs]; omega

def Nd.need : Nd → Int
  | .mk k _ w b ks => if k = 1 then (w.length : Int) + ks.length else if k = 2 then (w.length : Int) + ks.length + ((b.length : Int) + 7) / 8 else 0
def Nd.own : Nd → Bool
  | .mk k s w b ks =>
    if k = 0 then decide (s = 0) && decide ((w.length : Int) + b.length + ks.length = 0)
    else if k = 1 then decide (s = 0) && (decide ((b.length : Int) = 0) && decide ((if (ks.length : Int) > w.length then (ks.length : Int) else w.length) ≤ 100))
    else if k = 2 then
      if s = 2 then decide ((w.length : Int) + ks.length = 0) && decide ((b.length : Int) ≤ 4096)
      else if s = 5 then decide ((b.length : Int) + ks.length = 0) && decide ((w.length : Int) ≤ 4096)
      else if s = 6 then decide ((b.length : Int) + w.length = 0) && decide ((ks.length : Int) ≤ 4096)
      else false
    else false
mutual
def Nd.right : Nd → Nat → Bool
  | .mk k s w b ks, left => (Nd.mk k s w b ks).own && !(decide (k ≠ 0) && decide (left = 0)) && Nd.rights ks (left - 1)
def Nd.rights : List Nd → Nat → Bool
  | [], _ => true
  | t :: ts, left => Nd.right t left && Nd.rights ts left
end
/-- The first of so many that is so, or -1. -/
def findI (p : Nat → Bool) : Nat → Nat → Int
  | 0, i => -1
  | n + 1, i => if p i then i else findI p n (i + 1)
theorem findI_none {p : Nat → Bool} : ∀ (n i : Nat), (∀ j, i ≤ j → j < i + n → p j = false) → findI p n i = -1
  | 0, _, _ => rfl
  | n + 1, i, h => by
    simp only [findI, h i (Nat.le_refl _) (by omega), Bool.false_eq_true, if_false]
    exact findI_none n (i + 1) fun j h1 h2 => h j (by omega) (by omega)
theorem findI_some {p : Nat → Bool} : ∀ (n i k : Nat), i ≤ k → k < i + n → p k = true → (∀ j, i ≤ j → j < k → p j = false) → findI p n i = k
  | 0, i, k, h1, h2, _, _ => by omega
  | n + 1, i, k, h1, h2, h3, h4 => by
    by_cases hik : i = k
    · subst hik; simp only [findI, h3, if_true]
    · simp only [findI, h4 i (Nat.le_refl _) (by omega), Bool.false_eq_true, if_false]
      exact findI_some n (i + 1) k (by omega) (by omega) h3 fun j h5 h6 => h4 j (by omega) h6
theorem findI_any (p : Nat → Bool) : ∀ (n i : Nat), decide (findI p n i ≥ 0) = (List.range' i n).any p
  | 0, i => rfl
  | n + 1, i => by
    simp only [findI, List.range'_succ, List.any_cons]
    by_cases h : p i = true
    · simp only [h, if_true, Bool.true_or]; exact decide_eq_true (by omega)
    · have h : p i = false := by simpa using h
      simp only [h, Bool.false_eq_true, if_false, Bool.false_or]; exact findI_any p n (i + 1)
theorem rights_any (left : Nat) : ∀ (ks : List Nd), Nd.rights ks left = !((List.range' 0 ks.length).any fun i => !((ks.getD i (.mk 0 0 [] [] [])).right left))
  | [] => by simp [Nd.rights]
  | t :: ts => by
    simp only [Nd.rights, List.length_cons, List.range'_succ, List.any_cons, List.getD_cons_zero]
    rw [rights_any left ts]
    have : (List.range' (0 + 1) ts.length).any (fun i => !(((t :: ts).getD i (.mk 0 0 [] [] [])).right left)) = (List.range' 0 ts.length).any fun i => !((ts.getD i (.mk 0 0 [] [] [])).right left) := by
      rw [show List.range' (0 + 1) ts.length = (List.range' 0 ts.length).map (· + 1) from by
        apply List.ext_getElem?
        intro i
        simp [List.getElem?_range', Nat.add_comm]
        by_cases h : i < ts.length <;> simp [h, Nat.add_comm]]
      rw [List.any_map]
      rfl
    rw [this, Bool.not_or, Bool.not_not]
def Nd.content : Nd → List Int
  | .mk _ _ w b ks => w ++ chunksP b ++ List.replicate ks.length 0
/-- The pointer to something. -/
def Nd.ptr (off : Int) : Nd → Pt
  | .mk k s w b ks => if k = 1 then ⟨k, off, w.length, ks.length, 0, 0, 0, false⟩ else if k = 2 then ⟨k, off, 0, 0, s, (w.length : Int) + ks.length + b.length, 0, false⟩ else ⟨k, off, 0, 0, 0, 0, 0, false⟩
def Nd.near (t : Nd) (off : Int) : Int := encR (t.ptr off)
def farP (seg at_ : Int) : Int := encR ⟨3, at_, 0, 0, 0, 0, seg, false⟩
mutual
def Nd.many : Nd → Int → Int
  | .mk _ _ w b ks, l => Nd.manyL ks (l - 1 - w.length - b.length)
def Nd.manyL : List Nd → Int → Int
  | [], l => l
  | t :: ts, l => if l < 0 then l else Nd.manyL ts (Nd.many t l)
end
mutual
theorem Nd.many_le : ∀ (t : Nd) (l : Int), t.many l < l
  | .mk _ _ w b ks, l => by have := Nd.manyL_le ks (l - 1 - w.length - b.length); simp only [Nd.many]; omega
theorem Nd.manyL_le : ∀ (ts : List Nd) (l : Int), Nd.manyL ts l ≤ l
  | [], l => by simp [Nd.manyL]
  | t :: ts, l => by
    simp only [Nd.manyL]
    split
    · omega
    · have := Nd.many_le t l; have := Nd.manyL_le ts (t.many l); omega
end
theorem manyL_stop {l : Int} (h : l < 0) : ∀ (ts : List Nd), Nd.manyL ts l = l
  | [] => rfl
  | t :: ts => by simp [Nd.manyL, h]
mutual
def Nd.needs : Nd → Int
  | .mk k s w b ks => (Nd.mk k s w b ks).need + Nd.needsL ks
def Nd.needsL : List Nd → Int
  | [] => 0
  | t :: ts => Nd.needs t + Nd.needsL ts
end
theorem Nd.need_nn (t : Nd) : 0 ≤ t.need := by
  cases t
  simp only [Nd.need]
  split
  · omega
  · split <;> omega
mutual
theorem Nd.needs_nn : ∀ (t : Nd), 0 ≤ t.needs
  | .mk k s w b ks => by have := Nd.need_nn (.mk k s w b ks); have := Nd.needsL_nn ks; simp only [Nd.needs]; omega
theorem Nd.needsL_nn : ∀ (ts : List Nd), 0 ≤ Nd.needsL ts
  | [] => by simp [Nd.needsL]
  | t :: ts => by have := Nd.needs_nn t; have := Nd.needsL_nn ts; simp only [Nd.needsL]; omega
end
theorem needsL_append : ∀ (a b : List Nd), Nd.needsL (a ++ b) = Nd.needsL a + Nd.needsL b
  | [], b => by simp [Nd.needsL]
  | t :: a, b => by simp only [List.cons_append, Nd.needsL, needsL_append a b]; omega
theorem needsL_take {ks : List Nd} {k : Nat} (h : k < ks.length) : Nd.needsL (ks.take (k + 1)) = Nd.needsL (ks.take k) + ks[k].needs ∧ Nd.needsL (ks.take k) + ks[k].needs ≤ Nd.needsL ks := by
  have h1 : Nd.needsL (ks.take (k + 1)) = Nd.needsL (ks.take k) + ks[k].needs := by
    rw [List.take_add_one, List.getElem?_eq_getElem h, needsL_append]; simp [Nd.needsL]
  refine ⟨h1, ?_⟩
  have h2 : Nd.needsL ks = Nd.needsL (ks.take (k + 1)) + Nd.needsL (ks.drop (k + 1)) := by rw [← needsL_append, List.take_append_drop]
  have := Nd.needsL_nn (ks.drop (k + 1))
  omega
theorem rights_append (left : Nat) : ∀ (a b : List Nd), Nd.rights (a ++ b) left = (Nd.rights a left && Nd.rights b left)
  | [], b => by simp [Nd.rights]
  | t :: a, b => by simp [Nd.rights, rights_append left a b, Bool.and_assoc]
theorem rights_false {left : Nat} : ∀ {ks : List Nd} {k : Nat} (h : k < ks.length), ks[k].right left = false → Nd.rights ks left = false
  | t :: ts, 0, _, h => by simp at h; simp [Nd.rights, h]
  | t :: ts, k + 1, hk, h => by
    have := rights_false (ks := ts) (k := k) (by simpa using hk) (by simpa using h)
    simp [Nd.rights, this]
theorem own_kids_nil {w b : List Int} {ks : List Nd} (h : (w.length : Int) + b.length + ks.length = 0) : ks = [] := List.eq_nil_of_length_eq_zero (by omega)
theorem own_kids {k s : Int} {w b : List Int} {ks : List Nd} (h : (Nd.mk k s w b ks).own = true) (hk : ¬ k ≠ 0) : ks = [] := by
  have hk : k = 0 := by omega
  subst hk
  simp only [Nd.own, if_true, Bool.and_eq_true, decide_eq_true_eq] at h
  exact own_kids_nil h.2
theorem ownk_one {k s : Int} {w b : List Int} {ks : List Nd} (h0 : ¬ k = 0) (h2 : ¬ k = 2) : ((((decide (k = 1) && decide (s = 0)) && decide ((w.length : Int) ≤ 100)) && decide ((b.length : Int) = 0)) && decide ((ks.length : Int) ≤ 100)) = (Nd.mk k s w b ks).own := by
  simp only [Nd.own, if_neg h0, if_neg h2]
  rw [Bool.eq_iff_iff]
  by_cases h1 : k = 1
  · simp only [h1, decide_true, Bool.true_and, if_true, Bool.and_eq_true, decide_eq_true_eq]
    split <;> omega
  · simp [h1]
theorem ownk_two {k s : Int} {w b : List Int} {ks : List Nd} (h2 : k = 2) : ((((decide (s = 2) && decide ((w.length : Int) = 0)) && decide ((ks.length : Int) = 0)) && decide ((b.length : Int) ≤ 4096)) || (((decide (s = 5) && decide ((b.length : Int) = 0)) && decide ((ks.length : Int) = 0)) && decide ((w.length : Int) ≤ 4096)) || (((decide (s = 6) && decide ((b.length : Int) = 0)) && decide ((w.length : Int) = 0)) && decide ((ks.length : Int) ≤ 4096))) = (Nd.mk k s w b ks).own := by
  subst h2
  simp only [Nd.own, show ¬ ((2 : Int) = 0) from by decide, show ¬ ((2 : Int) = 1) from by decide, if_false, if_true]
  rw [Bool.eq_iff_iff]
  by_cases s2 : s = 2
  · simp only [if_pos s2, Bool.or_eq_true, Bool.and_eq_true, decide_eq_true_eq]; omega
  · by_cases s5 : s = 5
    · simp only [if_neg s2, if_pos s5, Bool.or_eq_true, Bool.and_eq_true, decide_eq_true_eq]; omega
    · by_cases s6 : s = 6
      · simp only [if_neg s2, if_neg s5, if_pos s6, Bool.or_eq_true, Bool.and_eq_true, decide_eq_true_eq]; omega
      · simp [s2, s5, s6]
end Go.Proofs.Ytldlfhodboigeaa.K
