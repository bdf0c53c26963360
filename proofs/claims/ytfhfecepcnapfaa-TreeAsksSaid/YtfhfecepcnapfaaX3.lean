/- Laid together: P08, U09, T10, T11, P10, S08, U08, V09, W09, U10, Z10, V11, Y10, Z11, JQ, J17. Each part is plain law, a rule, or a walk of the functions that its names tell. -/
import Derived.Test.YtfhfecepcnapfaaX2
set_option linter.unusedVariables false
set_option linter.unusedSimpArgs false
namespace Go.Proofs.Ytfhfecepcnapfaa.K
open Go Go.RowKit

/-! ### what choices make may be -/
theorem rights_iff {left : Nat} : ∀ {ks : List Nd}, Nd.rights ks left = true ↔ ∀ t ∈ ks, t.right left = true
  | [] => by simp [Nd.rights]
  | t :: ts => by simp only [Nd.rights, Bool.and_eq_true, rights_iff (ks := ts), List.mem_cons, forall_eq_or_imp]
theorem right_nil (l : Nat) : Nd.nil.right l = true := by simp [Nd.nil, Nd.right, Nd.own, Nd.rights]
theorem treesP_all {f : List Int → Nd × List Int} {Q : List Int → Prop} {R : Nd → Prop} (hf : ∀ c, Q c → Q (f c).2 ∧ R (f c).1) : ∀ (n : Nat) (c : List Int), Q c → ∀ t ∈ (treesP f n c).1, R t
  | 0, c, h => by simp [treesP]
  | n + 1, c, h => by
    have h2 := treesP_mem (f := f) (Q := Q) (fun c hc => (hf c hc).1) n c h
    intro t ht
    simp only [treesP, List.mem_append, List.mem_singleton] at ht
    rcases ht with ht | rfl
    · exact treesP_all hf n c h t ht
    · exact (hf _ h2).2
def isU8 (c : List Int) : Prop := ∀ x ∈ c, inR .u8 x
theorem treeP_right : ∀ (d : Nat) (c : List Int) (l : Nat), d ≤ l → isU8 c → (treeP d c).1.right l = true
  | 0, c, l, _, _ => by simp [treeP, right_nil]
  | d + 1, [], l, _, _ => by simp [treeP, right_nil]
  | d + 1, k :: c, l, hl, hc => by
    have hk := hc k (by simp)
    simp only [inR] at hk
    have hcc : isU8 c := fun x hx => hc x (by simp [hx])
    have hr : Nd.rights (treesP (treeP d) (k / 8 % 5).toNat c).1 (l - 1) = true := rights_iff.2 (treesP_all (f := treeP d) (Q := isU8) (R := fun t => t.right (l - 1) = true) (fun c hq => ⟨treeP_rest d c hq, treeP_right d c (l - 1) (by omega) hq⟩) _ c hcc)
    have hn := treesP_count (treeP d) (k / 8 % 5).toNat c
    have hl0 : ¬ l = 0 := by omega
    simp only [treeP]
    split
    · exact right_nil l
    · split
      · simp [Nd.right, Nd.rights, Nd.own, hl0]; omega
      · split
        · simp [Nd.right, Nd.rights, Nd.own, hl0]; omega
        · split
          · simp only [Nd.right, hr, Nd.own, Bool.and_true]
            simp [hl0]; omega
          · simp only [Nd.right, hr, Nd.own, Bool.and_true]
            simp [hl0]; split <;> omega
theorem needsL_le {f : List Int → Nd × List Int} (hf : ∀ c, (f c).1.needs + 7 * ((f c).2.length : Int) ≤ 7 * c.length) : ∀ (n : Nat) (c : List Int), Nd.needsL (treesP f n c).1 + 7 * ((treesP f n c).2.length : Int) ≤ 7 * c.length
  | 0, c => by simp [treesP, Nd.needsL]
  | n + 1, c => by
    have h1 := needsL_le hf n c
    have h2 := hf (treesP f n c).2
    simp only [treesP, needsL_append, Nd.needsL]
    omega
theorem treeP_needs : ∀ (d : Nat) (c : List Int), isU8 c → (treeP d c).1.needs + 7 * ((treeP d c).2.length : Int) ≤ 7 * c.length
  | 0, c, _ => by simp [treeP, Nd.nil, Nd.needs, Nd.needsL, Nd.need]
  | d + 1, [], _ => by simp [treeP, Nd.nil, Nd.needs, Nd.needsL, Nd.need]
  | d + 1, k :: c, hc => by
    have hk := hc k (by simp)
    simp only [inR] at hk
    have hcc : isU8 c := fun x hx => hc x (by simp [hx])
    have key : ∀ (n : Nat) (c : List Int), isU8 c → Nd.needsL (treesP (treeP d) n c).1 + 7 * ((treesP (treeP d) n c).2.length : Int) ≤ 7 * c.length := by
      intro n
      induction n with
      | zero => intro c _; simp [treesP, Nd.needsL]
      | succ n ih =>
        intro c hq
        have h1 := ih c hq
        have h2 := treeP_needs d (treesP (treeP d) n c).2 (treesP_rest d n c hq)
        simp only [treesP, needsL_append, Nd.needsL]
        omega
    have hs := key (k / 8 % 5).toNat c hcc
    have hn := treesP_count (treeP d) (k / 8 % 5).toNat c
    simp only [treeP]
    split
    · simp [Nd.nil, Nd.needs, Nd.needsL, Nd.need]; omega
    · split
      · simp [Nd.needs, Nd.needsL, Nd.need]; omega
      · split
        · simp [Nd.needs, Nd.needsL, Nd.need]; omega
        · split
          · simp only [Nd.needs, Nd.need, List.length_nil, List.length_cons, hn]; simp only [show ¬ ((2 : Int) = 1) from by decide, if_false, if_true]; omega
          · simp only [Nd.needs, Nd.need, List.length_map, List.length_range, List.length_cons, hn, if_true]; omega
/-! ### in one segment -/
theorem getD1 {s : List Int} : ([s] : List (List Int)).getD 0 [] = s := rfl
theorem growA1 (s l : List Int) : growA [s] 0 l = [s ++ l] := by simp [growA, growB]
theorem setP1 (s : List Int) (i : Nat) (x : Int) : setP [s] 0 i x = [s.set i x] := by simp [setP]
theorem full1 {size : Int} {s : List Int} (h1 : (s.length : Int) ≤ size) (h2 : s.length ≤ 4096) : fullP size [s] 0 = false := by
  simp [fullP, len2, totalP]; omega
theorem Nd.need_le (t : Nd) : t.need ≤ t.needs := by
  cases t; simp only [Nd.needs]; have := Nd.needsL_nn; rename_i ks; have := this ks; omega
mutual
theorem Nd.lay_one (size : Int) : ∀ (t : Nd) (s : List Int) (i : Nat), t.fine → i < s.length → (s.length : Int) + t.needs ≤ size → (s.length : Int) + t.needs ≤ 4096 →
    ∃ s', t.lay size ⟨[s], false⟩ 0 i = ⟨[s'], false⟩ ∧ (s'.length : Int) = s.length + t.needs
  | .mk k z w b ks, s, i, hR, hi, h1, h2 => by
    obtain ⟨hkd, hlw, hlb, hlk, hnn, hnm, hkn, hb1⟩ := Nd.own_b (Nd.fine_own hR)
    have hnl := Nd.needsL_nn ks
    simp only [Nd.needs] at h1 h2
    simp only [Nd.lay, Bool.false_eq_true, or_false]
    by_cases hk : k = 0
    · have hks : ks = [] := own_kids (Nd.fine_own hR) (by omega)
      subst hks
      rw [if_pos hk]
      exact ⟨s, rfl, by simp [Nd.needs, Nd.need, hk, Nd.needsL]⟩
    · rw [if_neg hk]
      by_cases hn : (Nd.mk k z w b ks).need = 0
      · rw [if_pos hn, setP1]
        have hks : ks = [] := List.eq_nil_of_length_eq_zero (by have := hkn hk; omega)
        subst hks
        exact ⟨_, rfl, by rw [List.length_set]; simp [Nd.needs, hn, Nd.needsL]⟩
      · rw [if_neg hn]
        have hp : placeP size (.mk k z w b ks) ⟨[s], false⟩ 0 i = ⟨⟨[s.set i ((Nd.mk k z w b ks).near ((s.length : Int) - i - 1))], false⟩, 0, s.length⟩ := by
          unfold placeP
          rw [if_pos (by refine ⟨rfl, ?_⟩; show ((s.length : Nat) : Int) + _ ≤ _; omega)]
          show (⟨⟨setP [s] 0 i _, false⟩, 0, _⟩ : Plc) = _
          rw [setP1]
          rfl
        have hco : ((Nd.mk k z w b ks).content.length : Int) = (Nd.mk k z w b ks).need := Nd.content_length _ (by simp only [Nd.kind]; omega) (by simpa only [Nd.kind, Nd.bytes] using hb1)
        rw [hp]
        have hm : moreP size ⟨[s.set i ((Nd.mk k z w b ks).near ((s.length : Int) - i - 1))], false⟩ 0 (Nd.mk k z w b ks).content = ⟨[s.set i ((Nd.mk k z w b ks).near ((s.length : Int) - i - 1)) ++ (Nd.mk k z w b ks).content], false⟩ := by
          simp only [moreP, growA1, Bool.false_or]
          rw [full1 (by rw [List.length_append, List.length_set]; omega) (by rw [List.length_append, List.length_set]; omega)]
        simp only [hm]
        obtain ⟨s', h3, h4⟩ := Nd.lays_one size ks (s.set i ((Nd.mk k z w b ks).near ((s.length : Int) - i - 1)) ++ (Nd.mk k z w b ks).content) (s.length + ((Nd.mk k z w b ks).need.toNat - ks.length)) (fun j hj => Nd.fine_kid hR hj)
          (by rw [List.length_append, List.length_set]; have := hkn hk; omega) (by rw [List.length_append, List.length_set]; omega) (by rw [List.length_append, List.length_set]; omega)
        refine ⟨s', h3, ?_⟩
        rw [h4, List.length_append, List.length_set]
        simp only [Nd.needs]
        omega
theorem Nd.lays_one (size : Int) : ∀ (ts : List Nd) (s : List Int) (i : Nat), (∀ (j : Nat) (h : j < ts.length), ts[j].fine) → i + ts.length ≤ s.length → (s.length : Int) + Nd.needsL ts ≤ size → (s.length : Int) + Nd.needsL ts ≤ 4096 →
    ∃ s', Nd.lays size ts ⟨[s], false⟩ 0 i = ⟨[s'], false⟩ ∧ (s'.length : Int) = s.length + Nd.needsL ts
  | [], s, i, _, _, _, _ => ⟨s, rfl, by simp [Nd.needsL]⟩
  | t :: ts, s, i, hR, hi, h1, h2 => by
    have ha := Nd.needs_nn t
    have hb := Nd.needsL_nn ts
    simp only [Nd.needsL, List.length_cons] at h1 h2 hi
    obtain ⟨s1, h3, h4⟩ := Nd.lay_one size t s i (hR 0 (by simp)) (by omega) (by omega) (by omega)
    obtain ⟨s2, h5, h6⟩ := Nd.lays_one size ts s1 (i + 1) (fun j hj => by have := hR (j + 1) (by simpa using hj); simpa using this) (by omega) (by omega) (by omega)
    refine ⟨s2, by simp only [Nd.lays, h3, h5], ?_⟩
    simp only [Nd.needsL]
    omega
end
theorem Nd.build_one {t : Nd} {size : Int} (hR : t.right 32 = true) (h1 : 1 + t.needs ≤ size) (h2 : size ≤ 4096) : ∃ s, t.build size = ([s], 0) ∧ (s.length : Int) = 1 + t.needs := by
  have hn := Nd.needs_nn t
  obtain ⟨s, h3, h4⟩ := Nd.lay_one size t [0] 0 ⟨32, hR⟩ (by simp) (by simpa using h1) (by simp; omega)
  refine ⟨s, ?_, by simpa using h4⟩
  unfold Nd.build
  rw [if_neg (by rw [hR]; simp; omega), h3, if_neg (by simp)]
theorem Nd.build_fit {t : Nd} {size : Int} (h : (t.build size).2 = 0) : Fit size (t.build size).1 := by
  unfold Nd.build at h ⊢
  split
  · rename_i hc; rw [if_pos hc] at h; simp at h
  · rename_i hc
    rw [if_neg hc] at h
    split
    · rename_i hf; rw [if_pos hf] at h; simp at h
    · rename_i hf
      have hf : (t.lay size ⟨[[0]], false⟩ 0 0).full = false := by simpa using hf
      exact (t.lay_ok size ⟨[[0]], false⟩ 0 0 (by simp)).fit (Fit.init (by omega)) hf
theorem Nd.build_none {t : Nd} {size : Int} (h : (t.build size).2 ≠ 0) : (t.build size).1 = [] := by
  unfold Nd.build at h ⊢
  split
  · rfl
  · rename_i hc
    rw [if_neg hc] at h
    split
    · rfl
    · rename_i hf; rw [if_neg hf] at h; exact absurd rfl h
theorem Nd.build_24 {t : Nd} {size : Int} (hR : t.right 32 = true) (h1 : 1 ≤ size) (h2 : size ≤ 4096) : (t.build size).2 = 0 ∨ (t.build size).2 = 24 := by
  unfold Nd.build
  rw [if_neg (by rw [hR]; simp; omega)]
  split
  · right; rfl
  · left; rfl
theorem Nd.build_bad {t : Nd} {size : Int} (hR : t.right 32 = false) : t.build size = ([], 1) := by
  unfold Nd.build; rw [if_pos (.inr (.inr hR))]
theorem right_own {t : Nd} (h : t.own = false) (l : Nat) : t.right l = false := by
  cases t; simp only [Nd.right, h, Bool.false_and]
theorem odd_words {k s : Int} {w b : List Int} {ks : List Nd} (h : 4097 ≤ w.length) (l : Nat) : (Nd.mk k s w b ks).right l = false := by
  refine right_own ?_ l
  cases ho : (Nd.mk k s w b ks).own with
  | false => rfl
  | true => have := (Nd.own_b ho).lw; omega
theorem odd_both {k s x y : Int} {ks : List Nd} (l : Nat) : (Nd.mk k s [x] [y] ks).right l = false := by
  refine right_own ?_ l
  simp only [Nd.own, List.length_cons, List.length_nil]
  by_cases k0 : k = 0
  · simp only [if_pos k0]; rw [Bool.and_eq_false_iff]; right; exact decide_eq_false (by omega)
  · by_cases k1 : k = 1
    · simp [k1]
    · by_cases k2 : k = 2
      · simp only [if_neg k0, if_neg k1, if_pos k2]
        by_cases s2 : s = 2
        · simp only [if_pos s2]; rw [Bool.and_eq_false_iff]; left; exact decide_eq_false (by omega)
        · by_cases s5 : s = 5
          · simp only [if_neg s2, if_pos s5]; rw [Bool.and_eq_false_iff]; left; exact decide_eq_false (by omega)
          · by_cases s6 : s = 6
            · simp only [if_neg s2, if_neg s5, if_pos s6]; rw [Bool.and_eq_false_iff]; left; exact decide_eq_false (by omega)
            · simp only [if_neg s2, if_neg s5, if_neg s6]
      · simp only [if_neg k0, if_neg k1, if_neg k2]
/-! ### one in the other -/
def deepP (ls : List Bool) : Nat → Nd
  | 0 => .nil
  | i + 1 => if ls.getD i false then .mk 2 6 [] [] [deepP ls i] else .mk 1 0 [] [] [deepP ls i]
theorem deepP_right (ls : List Bool) : ∀ (m l : Nat), (deepP ls m).right l = decide (m ≤ l)
  | 0, l => by simp [deepP, right_nil]
  | m + 1, l => by
    have ih := deepP_right ls m (l - 1)
    simp only [deepP]
    by_cases hl : l = 0
    · subst hl; split <;> simp [Nd.right]
    · have : decide (m ≤ l - 1) = decide (m + 1 ≤ l) := by rw [decide_eq_decide]; omega
      rw [this] at ih
      split <;> simp [Nd.right, Nd.rights, Nd.own, hl, ih]
theorem deepP_needs (ls : List Bool) : ∀ (m : Nat), (deepP ls m).needs = m
  | 0 => by simp [deepP, Nd.nil, Nd.needs, Nd.needsL, Nd.need]
  | m + 1 => by
    have ih := deepP_needs ls m
    simp only [deepP]
    split <;> simp [Nd.needs, Nd.needsL, Nd.need, ih] <;> omega
theorem row_see {w : World} {V : Nat → Prop} {b n sz : Nat} {cs : Array Value} {T : TypeId} {fr : Nat × Nat} (hb : w.heap[b]? = some (.cells cs T fr)) (hv : V b) (hn : cs.toList.length = n * sz) (hl : n ≤ 140737488355328) : Row (see V w) sz (.slice (some ⟨b, 0, none⟩) n n) n cs.toList :=
  Row.of_block (see_cells.2 ⟨hv, hb⟩) rfl hn hl
/-! ### things without words -/
def emptyN (ys : List Int) (i : Nat) : Nd := if i < ys.length ∧ ys.getD i 0 % 3 > 0 then .mk 2 (4 + ys.getD i 0 % 3) [] [] [] else .mk 1 0 [] [] []
def emptyP (ys : List Int) (m : Nat) : Nd := .mk 2 6 [] [] ((List.range m).map (emptyN ys))
def emptyC (ys : List Int) (i : Nat) : List Value := if i < ys.length ∧ ys.getD i 0 % 3 > 0 then [.int .i64 2, .int .i64 (4 + ys.getD i 0 % 3), .slice none 0 0, .slice none 0 0, .slice none 0 0] else [.int .i64 1, .int .i64 0, .slice none 0 0, .slice none 0 0, .slice none 0 0]
theorem emptyN_node (w : World) (ys : List Int) (i : Nat) : NodeR w (emptyC ys i) (emptyN ys i) := by
  unfold emptyC emptyN
  split
  · exact .mk (by simp [inR]) (by simp only [inR]; omega) (Row.nil _ _) (by simp) (Row.nil _ _) (by simp) (Row.nil _ _) .nil
  · exact .mk (by simp [inR]) (by simp [inR]) (Row.nil _ _) (by simp) (Row.nil _ _) (by simp) (Row.nil _ _) .nil
theorem emptyK (w : World) (ys : List Int) : ∀ (m : Nat), KidsR w ((List.range m).flatMap (emptyC ys)) ((List.range m).map (emptyN ys))
  | 0 => .nil
  | m + 1 => by
    rw [List.range_succ, List.map_append, List.flatMap_append]
    exact KidsR.append (emptyK w ys m) (by have := KidsR.cons (emptyN_node w ys m) .nil; simpa using this)
theorem emptyN_right (ys : List Int) (i l : Nat) : (emptyN ys i).right (l + 1) = true ∧ (emptyN ys i).needs = 0 := by
  unfold emptyN
  split
  · rename_i h
    have : ys.getD i 0 % 3 = 1 ∨ ys.getD i 0 % 3 = 2 := by omega
    rcases this with h | h <;> rw [h] <;> exact ⟨by simp [Nd.right, Nd.rights, Nd.own], by simp [Nd.needs, Nd.needsL, Nd.need]⟩
  · exact ⟨by simp [Nd.right, Nd.rights, Nd.own], by simp [Nd.needs, Nd.needsL, Nd.need]⟩
theorem needsL_zero : ∀ (ts : List Nd), (∀ t ∈ ts, t.needs = 0) → Nd.needsL ts = 0
  | [], _ => rfl
  | t :: ts, h => by
    have h1 := h t (by simp)
    have h2 := needsL_zero ts fun u hu => h u (by simp [hu])
    simp only [Nd.needsL]; omega
theorem emptyP_right (ys : List Int) {m : Nat} (hm : m ≤ 4096) : (emptyP ys m).right 32 = true ∧ (emptyP ys m).needs = m := by
  have hr : Nd.rights ((List.range m).map (emptyN ys)) 31 = true := rights_iff.2 fun t ht => by
    obtain ⟨i, _, rfl⟩ := List.mem_map.1 ht
    exact (emptyN_right ys i 30).1
  have hn : Nd.needsL ((List.range m).map (emptyN ys)) = 0 := needsL_zero _ fun t ht => by
    obtain ⟨i, _, rfl⟩ := List.mem_map.1 ht
    exact (emptyN_right ys i 0).2
  constructor
  · simp only [emptyP, Nd.right, hr, Nd.own]
    simp; omega
  · simp [emptyP, Nd.needs, Nd.need, hn]
theorem getD_u8 {ys : List Int} (h : isU8 ys) (i : Nat) : 0 ≤ ys.getD i 0 ∧ ys.getD i 0 ≤ 255 := by
  rcases Nat.lt_or_ge i ys.length with h1 | h1
  · have := h _ (List.getElem_mem h1)
    rw [getD_at h1]
    simpa [inR] using this
  · rw [List.getD_eq_getElem?_getD, List.getElem?_eq_none h1]; simp
end Go.Proofs.Ytfhfecepcnapfaa.K
namespace Go.Proofs.Ytfhfecepcnapfaa.K
open Go Go.RowKit
def known9 : List (List Int) := [[4294967296, 7]]
theorem known9_build : (Nd.mk 1 0 [7] [] []).build 9 = (known9, 0) := by decide +kernel
theorem known9_ok : OkA known9 := ⟨by decide, by decide, by decide, by decide, by
  intro q hq x hx
  simp only [known9, List.mem_singleton] at hq
  subst hq
  simp only [List.mem_cons, List.not_mem_nil, or_false] at hx
  rcases hx with rfl | rfl <;> simp [inR]⟩
theorem rowat_nil (w : World) (sz : Nat) : RowAt w sz none 0 [] := ⟨by simp, by omega, fun h => by omega⟩
theorem known9_a : walkS (wholeS known9) [] 0 10 = (⟨1, 0, 0, 0, 7⟩, 0) := by decide +kernel
theorem known9_b : walkS (wholeS known9) [] 0 1 = (Vl0, 22) := by decide +kernel
/-! ### noughts -/
theorem step_null (s : Src) (k : Int) : stepS s Ob0 k = (Ob0, 0) := by unfold stepS; rw [if_pos (.inl rfl)]
theorem val_null (s : Src) (a : Int) : valS s Ob0 a = (Vl0, 0) := by
  unfold valS
  split
  · rfl
  · have h : atS s Ob0 a = (0, 0) := by unfold atS; rw [if_pos (.inl rfl)]
    rw [h]; rfl
theorem next_null (s : Src) (a : Int) : ∀ (ks : List Int) (left : Int), (ks.length : Int) ≤ left → nextS s a ks Ob0 left = (Vl0, 0)
  | [], left, _ => by rw [nextS]; exact val_null s a
  | k :: ks, left, h => by
    simp only [List.length_cons] at h
    have hw : wordsO Ob0 = 0 := rfl
    rw [nextS, step_null, if_neg (by decide), hw, if_neg (by omega)]
    exact next_null s a ks _ (by omega)
theorem follow_null {A : List (List Int)} (h : (wordA A 0 0).1 = 0) (h2 : (wordA A 0 0).2 = 0) : followS (wholeS A) 0 0 = (Ob0, 0) := by
  have hp : ptrS (wholeS A) 0 0 = (Pt0, 0) := by
    unfold ptrS
    show (if (wordA A 0 0).2 ≠ 0 then (Pt0, (wordA A 0 0).2) else (decP (wordA A 0 0).1, decE (wordA A 0 0).1)) = _
    rw [h, h2]; rfl
  unfold followS
  rw [hp, if_pos (.inr rfl)]
def noughts (m : Nat) : List (List Int) := [List.replicate m 0]
theorem noughts_ok {m : Nat} (h0 : 1 ≤ m) (h1 : m ≤ 30) : OkA (noughts m) := by
  refine ⟨by simp [noughts], by simp [noughts], by simp [noughts]; omega, by simp [noughts, totalP]; omega, ?_⟩
  intro q hq x hx
  simp only [noughts, List.mem_singleton] at hq
  subst hq
  have := List.eq_of_mem_replicate hx
  subst this
  simp [inR]
theorem noughts_walk {m : Nat} (h0 : 1 ≤ m) {steps : List Int} (hs : ∀ x ∈ steps, 0 ≤ x) (hl : steps.length ≤ 32) (a : Int) : walkS (wholeS (noughts m)) steps a 100 = (Vl0, 0) := by
  have hw : wordA (noughts m) 0 0 = (0, 0) := by
    unfold wordA
    rw [if_pos (by simp [noughts, len2]; omega)]
    simp [noughts, List.getD_eq_getElem?_getD]
    cases m with
    | zero => omega
    | succ m => simp [List.replicate_succ]
  have hf := follow_null (A := noughts m) (by rw [hw]) (by rw [hw])
  unfold walkS
  have hw0 : wordsO Ob0 = 0 := rfl
  rw [if_neg (fun ⟨k, hk, h⟩ => by have := hs k hk; omega), if_neg (by omega), hf, if_neg (by decide), hw0, if_neg (by decide)]
  exact next_null _ _ _ _ (by have : max (100 : Int) (-1) = 100 := by decide
                              rw [this]; omega)
theorem long_walk (s : Src) {steps : List Int} (hs : ∀ x ∈ steps, 0 ≤ x) (hl : 32 < steps.length) (a c : Int) : walkS s steps a c = (Vl0, 3) := by
  unfold walkS
  rw [if_neg (fun ⟨k, hk, h⟩ => by have := hs k hk; omega), if_pos (by omega)]
/-- The path that choices say. -/
def pathP (c : List Int) : List Int := (c.take 6).map (· % 6)
theorem pathP_range {c : List Int} : ∀ x ∈ pathP c, 0 ≤ x ∧ x ≤ 5 := by
  intro x hx
  obtain ⟨y, _, rfl⟩ := List.mem_map.1 hx
  omega
theorem pathP_length (c : List Int) : (pathP c).length ≤ 6 := by simp only [pathP, List.length_map, List.length_take]; omega
theorem arena_one {w : World} {b : Nat} {u : Value} {q : List Int} {T : TypeId} {fr : Nat × Nat} (hb : w.heap[b]? = some (.cells #[u] T fr)) (hu : Row w 1 u q.length (wordsV q)) : ArenaR w (.slice (some ⟨b, 0, none⟩) 1 1) [q] := by
  refine ⟨[u], Row.of_block (n := 1) hb rfl rfl (by decide), fun i s hi => ?_⟩
  cases i with
  | zero => simp only [List.getElem?_cons_zero, Option.some.injEq] at hi; subst hi; exact ⟨u, rfl, hu⟩
  | succ i => simp at hi
theorem wordsV_zero (m : Nat) : wordsV (List.replicate m 0) = List.replicate m (.int .u64 0) := by simp [wordsV]
end Go.Proofs.Ytfhfecepcnapfaa.K
namespace Go.Proofs.Ytfhfecepcnapfaa.K
open Go Go.RowKit
/-- One step, in a tree. -/
def tstep (t : Nd) (k : Int) : Nd × Int :=
  if (t.kind ≠ 0 ∧ t.kind ≠ 1) ∧ t.size ≠ 6 then (.nil, 23)
  else if t.kind ≠ 0 ∧ k < t.kids.length then (t.kids.getD k.toNat .nil, 0)
  else if t.kind ≠ 0 ∧ t.kind ≠ 1 then (.nil, 20)
  else (.nil, 0)
/-- A word, of something in a tree. -/
def tat (t : Nd) (k : Int) : Int × Int :=
  if (t.kind ≠ 0 ∧ t.kind ≠ 1) ∧ t.size = 6 then (0, 23)
  else if t.kind ≠ 0 ∧ k < t.words.length then (t.words.getD k.toNat 0, 0)
  else if ((t.kind ≠ 0 ∧ t.kind ≠ 1) ∧ t.size = 2) ∧ k < t.bytes.length then (t.bytes.getD k.toNat 0, 0)
  else if t.kind ≠ 0 ∧ t.kind ≠ 1 then (0, 20)
  else (0, 0)
theorem tstep_mk (k s : Int) (w b : List Int) (ks : List Nd) (i : Int) : tstep (.mk k s w b ks) i = if (k ≠ 0 ∧ k ≠ 1) ∧ s ≠ 6 then (.nil, 23) else if k ≠ 0 ∧ i < ks.length then (ks.getD i.toNat .nil, 0) else if k ≠ 0 ∧ k ≠ 1 then (.nil, 20) else (.nil, 0) := rfl
theorem tat_mk (k s : Int) (w b : List Int) (ks : List Nd) (i : Int) : tat (.mk k s w b ks) i = if (k ≠ 0 ∧ k ≠ 1) ∧ s = 6 then (0, 23) else if k ≠ 0 ∧ i < w.length then (w.getD i.toNat 0, 0) else if ((k ≠ 0 ∧ k ≠ 1) ∧ s = 2) ∧ i < b.length then (b.getD i.toNat 0, 0) else if k ≠ 0 ∧ k ≠ 1 then (0, 20) else (0, 0) := rfl
def tgo : List Int → Nd → Nd × Int
  | [], t => (t, 0)
  | k :: ks, t => if (tstep t k).2 ≠ 0 then (.nil, (tstep t k).2) else tgo ks (tstep t k).1
def tval (t : Nd) (a : Int) : Vl × Int :=
  if a < 0 then (⟨t.kind, t.size, (t.words.length : Int) + t.bytes.length, t.kids.length, 0⟩, 0)
  else if (tat t a).2 ≠ 0 then (Vl0, (tat t a).2) else (⟨t.kind, 0, 0, 0, (tat t a).1⟩, 0)
def askT (t : Nd) (steps : List Int) (a : Int) : Vl × Int :=
  if ∃ k ∈ steps, k < 0 then (Vl0, 1)
  else if (steps.length : Int) > 32 then (Vl0, 3)
  else if (tgo steps t).2 ≠ 0 then (Vl0, (tgo steps t).2)
  else tval (tgo steps t).1 a
theorem any_neg {steps : List Int} : (List.range' 0 steps.length).any (fun i => decide (steps.getD i 0 < 0)) = true ↔ ∃ k ∈ steps, k < 0 := by
  rw [List.any_eq_true]
  constructor
  · rintro ⟨i, hi, h⟩
    have hlt : i < steps.length := by simpa using hi
    exact ⟨_, getD_mem hlt, of_decide_eq_true h⟩
  · rintro ⟨k, hk, h⟩
    obtain ⟨j, hj, rfl⟩ := List.getElem_of_mem hk
    exact ⟨j, by simpa using hj, decide_eq_true (by rw [getD_at hj]; exact h)⟩
theorem NodeR.lens {w : World} {y0 y1 : Int} {ya za ua : Option Addr} {yn yc zn zc un uc : Nat} {u : Nd} (h : NodeR w [.int .i64 y0, .int .i64 y1, .slice ya yn yc, .slice za zn zc, .slice ua un uc] u) :
    u.kind = y0 ∧ u.size = y1 ∧ u.words.length = yn ∧ u.bytes.length = zn ∧ u.kids.length = un ∧ yn ≤ 140737488355328 ∧ zn ≤ 140737488355328 ∧ un ≤ 140737488355328 := by
  generalize hc : [Value.int .i64 y0, .int .i64 y1, .slice ya yn yc, .slice za zn zc, .slice ua un uc] = c at h
  obtain @⟨kind, size, words, bytes, kids, ws, bs, ks, kc, hk, hs, hW, hwr, hB, hbr, hK, hKs⟩ := h
  obtain ⟨aw, cw, rfl, -, -, h1⟩ := hW
  obtain ⟨ab, cb, rfl, -, -, h2⟩ := hB
  obtain ⟨ak, ck, rfl, -, -, h3⟩ := hK
  simp only [List.cons.injEq, Value.int.injEq, Value.slice.injEq, true_and, and_true] at hc
  obtain ⟨rfl, rfl, ⟨-, rfl, -⟩, ⟨-, rfl, -⟩, -, rfl, -⟩ := hc
  exact ⟨rfl, rfl, rfl, rfl, rfl, h1.lim, h2.lim, h3.lim⟩
theorem tgo_drop {steps : List Int} {k : Nat} (hi : k < steps.length) (u : Nd) : tgo (steps.drop k) u = if (tstep u (steps.getD k 0)).2 ≠ 0 then (.nil, (tstep u (steps.getD k 0)).2) else tgo (steps.drop (k + 1)) (tstep u (steps.getD k 0)).1 := by
  rw [List.drop_eq_getElem_cons hi, getD_at hi, tgo]
def capM (n : Int) : Int := if 9007199254740992 < n then 9007199254740992 else n
mutual
def Nd.cost : Nd → Int
  | .mk k s w b ks => Nd.costL ks (1 + (Nd.mk k s w b ks).need)
def Nd.costL : List Nd → Int → Int
  | [], n => n
  | t :: ts, n => Nd.costL ts (capM (n + t.cost))
end
theorem Nd.costL_take : ∀ {ks : List Nd} {k : Nat} (n : Int) (h : k < ks.length), Nd.costL (ks.take (k + 1)) n = capM (Nd.costL (ks.take k) n + ks[k].cost)
  | [], k, n, h => by simp at h
  | t :: ts, 0, n, h => by simp [Nd.costL]
  | t :: ts, k + 1, n, h => by
    simp only [List.length_cons] at h
    simp only [List.take_succ_cons, Nd.costL, List.getElem_cons_succ]
    exact Nd.costL_take (ks := ts) (k := k) _ (by omega)
theorem capM_le (n : Int) : capM n ≤ 9007199254740992 := by unfold capM; split <;> omega
theorem capM_pos {n : Int} (h : 1 ≤ n) : 1 ≤ capM n := by unfold capM; split <;> omega
mutual
theorem Nd.cost_pos : ∀ (t : Nd), 1 ≤ t.cost
  | .mk k s w b ks => by
    rw [Nd.cost]
    exact Nd.costL_pos ks _ (by have := Nd.need_nn (.mk k s w b ks); omega)
theorem Nd.costL_pos : ∀ (ts : List Nd) (n : Int), 1 ≤ n → 1 ≤ Nd.costL ts n
  | [], n, h0 => h0
  | t :: ts, n, h0 => by
    rw [Nd.costL]
    exact Nd.costL_pos ts _ (capM_pos (by have := Nd.cost_pos t; omega))
end
theorem Nd.costL_le : ∀ (ts : List Nd) (n : Int), n ≤ 9007199254740992 → Nd.costL ts n ≤ 9007199254740992
  | [], n, h0 => h0
  | t :: ts, n, h0 => by rw [Nd.costL]; exact Nd.costL_le ts _ (capM_le _)
theorem NodeR.need_le {w : World} {c : List Value} {t : Nd} (h : NodeR w c t) : t.need ≤ 900000000000000 := by
  obtain @⟨kind, size, words, bytes, kids, ws, bs, ks, kc, hk, hs, hW, hwr, hB, hbr, hK, hKs⟩ := h
  obtain ⟨aw, cw, rfl, -, -, h1⟩ := hW
  obtain ⟨ab, cb, rfl, -, -, h2⟩ := hB
  obtain ⟨ak, ck, rfl, -, -, h3⟩ := hK
  have h1 := h1.lim
  have h2 := h2.lim
  have h3 := h3.lim
  simp only [Nd.need]
  split
  · omega
  · split <;> omega
theorem Nd.cost_le {t : Nd} (h : t.need ≤ 900000000000000) : t.cost ≤ 9007199254740992 := by
  cases t with
  | mk k s w b ks => rw [Nd.cost]; exact Nd.costL_le _ _ (by omega)
/-! ### decoding -/
def wordsS (s : Src) (seg a : Int) (n : Nat) : List Int := (List.range n).map fun (i : Nat) => (s.word seg (a + (i : Int))).1
def byt1 (x : Int) (i : Nat) : Int := x / 2 ^ (8 * i) % 256
def byt8 (x : Int) : List Int := (List.range 8).map (byt1 x)
def bytesS (s : Src) (seg a : Int) (n : Nat) : List Int := ((wordsS s seg a ((n + 7) / 8)).flatMap byt8).take n
theorem wordsS_len (s : Src) (seg a : Int) (n : Nat) : (wordsS s seg a n).length = n := by simp [wordsS]
theorem wordsS_succ (s : Src) (seg a : Int) (n : Nat) : wordsS s seg a (n + 1) = wordsS s seg a n ++ [(s.word seg (a + (n : Int))).1] := by simp [wordsS, List.range_succ]
theorem byt8_len (x : Int) : (byt8 x).length = 8 := by simp [byt8]
theorem flat8_len (l : List Int) : (l.flatMap byt8).length = 8 * l.length := by
  induction l with
  | nil => rfl
  | cons x l ih => rw [List.flatMap_cons, List.length_append, ih, byt8_len, List.length_cons]; omega
theorem bytesS_len (s : Src) (seg a : Int) (n : Nat) : (bytesS s seg a n).length = n := by
  rw [bytesS, List.length_take, flat8_len, wordsS_len]; omega
theorem byt1_range (x : Int) (i : Nat) : 0 ≤ byt1 x i ∧ byt1 x i ≤ 255 := by unfold byt1; omega
theorem bytesS_u8 (s : Src) (seg a : Int) (n : Nat) : ∀ x ∈ bytesS s seg a n, inR .u8 x := by
  intro x hx
  obtain ⟨y, -, hy⟩ := List.mem_flatMap.1 (List.mem_of_mem_take hx)
  obtain ⟨i, -, rfl⟩ := List.mem_map.1 hy
  have := byt1_range y i
  simp only [inR]; omega
theorem wordsS_u64 {P : Program} {w : World} {v : Value} {s : Src} (H : SrcOk P w v s) (seg a : Int) (n : Nat) : ∀ x ∈ wordsS s seg a n, inR .u64 x := by
  intro x hx
  obtain ⟨i, -, rfl⟩ := List.mem_map.1 hx
  have := H.num seg (a + i)
  simp only [inR]; omega
/-- A byte of a word, as it is put. -/
theorem put_byte (x : Int) (k : Nat) (h0 : 0 ≤ x) (h1 : x ≤ 18446744073709551615) (hk : k ≤ 7) : IntKind.u8.wrap (x / 2 ^ min (8 * (k : Int)).toNat (IntKind.bits .u64)) = byt1 x k := by
  have e : min (8 * (k : Int)).toNat (IntKind.bits .u64) = 8 * k := by show min _ 64 = _; omega
  rw [e, IntKind.wrap_u8, byt1]
def putCells (x : Int) (k : Nat) : List Value := ((List.range k).map fun i => .int .u8 (byt1 x i)) ++ List.replicate (8 - k) (.int .u8 0)
theorem putCells_set (x : Int) (k : Nat) (hk : k < 8) : (putCells x k).set k (.int .u8 (byt1 x k)) = putCells x (k + 1) := by
  have hr : 8 - k = (8 - (k + 1)) + 1 := by omega
  unfold putCells
  rw [hr, List.replicate_succ, List.set_append_right _ _ (by simp)]
  simp [List.range_succ]
theorem putCells_len (x : Int) (k : Nat) (hk : k ≤ 8) : (putCells x k).length = 8 := by simp [putCells]; omega
theorem putCells_all (x : Int) : putCells x 8 = (byt8 x).map (.int .u8) := by simp [putCells, byt8, Function.comp_def]
theorem own_hide_range {w : World} {base n : Nat} {T : TypeId} {v : Value} {k : IntKind} {xs : List Int} (h : w.ownsRow base T 1 v n (xs.map (.int k))) (hm : xs.length = n) (hl : n ≤ 140737488355328) : Row (hide base w) 1 v n (xs.map (.int k)) := by
  subst hm
  exact own_hide h hl
/-- A made row is a block. -/
theorem own_made' {w : World} {base b n : Nat} {T : TypeId} {xs : List Value} (h : w.ownsRow base T 1 (.slice (some ⟨b, 0, none⟩) n n) n xs) : base ≤ b ∧ ∃ cur : Array Value, w.heap[b]? = some (.cells cur T (0, 0)) ∧ cur.size = n ∧ cur.toList = xs := by
  obtain ⟨h0, h1⟩ := h
  rcases h1 with ⟨h1, -⟩ | ⟨q, cap, cur, hv, hq, hg, h1, h2, h3, h4⟩
  · simp at h1
  · simp only [Value.slice.injEq, Option.some.injEq, Addr.mk.injEq, and_true, true_and] at hv
    obtain ⟨rfl, rfl⟩ := hv
    refine ⟨hq, cur, hg, by omega, ?_⟩
    rw [← h4, List.take_of_length_le (by rw [Array.length_toList]; omega)]
end Go.Proofs.Ytfhfecepcnapfaa.K
namespace Go.Proofs.Ytfhfecepcnapfaa.K
open Go Go.RowKit
def kidN (o : Ob) : Int := if o.size = 6 then o.count else o.ptrs
def kidA (o : Ob) : Int := if o.size = 6 then o.at_ else o.at_ + o.data
def nodL (s : Src) (o : Ob) : List Int := wordsS s o.seg o.at_ (if o.size = 5 then o.count else o.data).toNat
def nodB (s : Src) (o : Ob) : List Int := if o.size = 2 then bytesS s o.seg o.at_ o.count.toNat else []
/-- So many kids, one behind the other; what is paid; the first error. -/
def kidsD (f : Int → Int → Int × Nd × Int) (a p : Int) : Nat → Int × List Nd × Int
  | 0 => (p, [], 0)
  | n + 1 => if (kidsD f a p n).2.2 ≠ 0 then kidsD f a p n
    else ((f (a + (n : Int)) (kidsD f a p n).1).1, (kidsD f a p n).2.1 ++ [(f (a + (n : Int)) (kidsD f a p n).1).2.1], (f (a + (n : Int)) (kidsD f a p n).1).2.2)
def nodeK (s : Src) (last : Bool) (f : Int → Int → Int → Int × Nd × Int) (seg a paid : Int) : Int × Nd × Int :=
  if (followS s seg a).2 ≠ 0 then (paid, .nil, (followS s seg a).2)
  else if (followS s seg a).1.kind ≠ 0 ∧ last = true then (paid + (1 + wordsO (followS s seg a).1), .nil, 21)
  else if paid + (1 + wordsO (followS s seg a).1) > 8192 then (paid + (1 + wordsO (followS s seg a).1), .nil, 22)
  else if (kidsD (f (followS s seg a).1.seg) (kidA (followS s seg a).1) (paid + (1 + wordsO (followS s seg a).1)) (kidN (followS s seg a).1).toNat).2.2 ≠ 0 then
    ((kidsD (f (followS s seg a).1.seg) (kidA (followS s seg a).1) (paid + (1 + wordsO (followS s seg a).1)) (kidN (followS s seg a).1).toNat).1, .nil, (kidsD (f (followS s seg a).1.seg) (kidA (followS s seg a).1) (paid + (1 + wordsO (followS s seg a).1)) (kidN (followS s seg a).1).toNat).2.2)
  else ((kidsD (f (followS s seg a).1.seg) (kidA (followS s seg a).1) (paid + (1 + wordsO (followS s seg a).1)) (kidN (followS s seg a).1).toNat).1,
    .mk (followS s seg a).1.kind (followS s seg a).1.size (nodL s (followS s seg a).1) (nodB s (followS s seg a).1) (kidsD (f (followS s seg a).1.seg) (kidA (followS s seg a).1) (paid + (1 + wordsO (followS s seg a).1)) (kidN (followS s seg a).1).toNat).2.1, 0)
/-- What a word leads to, as a tree: so many levels left, what was paid before. -/
def nodeD (s : Src) : Nat → Int → Int → Int → Int × Nd × Int
  | 0, seg, a, paid => nodeK s true (fun _ _ p => (p, .nil, 0)) seg a paid
  | d + 1, seg, a, paid => nodeK s false (fun seg a p => nodeD s d seg a p) seg a paid
def nodeF (s : Src) : Nat → Int → Int → Int → Int × Nd × Int
  | 0 => fun _ _ p => (p, .nil, 0)
  | d + 1 => nodeD s d
theorem nodeD_eq (s : Src) (d : Nat) (seg a paid : Int) : nodeD s d seg a paid = nodeK s (d == 0) (nodeF s d) seg a paid := by
  cases d with
  | zero => rfl
  | succ d => rfl
theorem kidsD_stop {f : Int → Int → Int × Nd × Int} {a p : Int} {k : Nat} (h : (kidsD f a p k).2.2 ≠ 0) : ∀ (n : Nat), kidsD f a p (k + n) = kidsD f a p k
  | 0 => rfl
  | n + 1 => by
    rw [← Nat.add_assoc, kidsD, kidsD_stop h n, if_pos h]
theorem kidsD_stop' {f : Int → Int → Int × Nd × Int} {a p : Int} {k n : Nat} (h : (kidsD f a p k).2.2 ≠ 0) (hk : k ≤ n) : kidsD f a p n = kidsD f a p k := by
  obtain ⟨m, rfl⟩ := Nat.exists_eq_add_of_le hk
  exact kidsD_stop h m
theorem kidsD_count {f : Int → Int → Int × Nd × Int} {a p : Int} : ∀ (n : Nat), (kidsD f a p n).2.2 = 0 → (kidsD f a p n).2.1.length = n
  | 0, _ => rfl
  | n + 1, h => by
    rw [kidsD] at h ⊢
    by_cases h0 : (kidsD f a p n).2.2 ≠ 0
    · rw [if_pos h0] at h; exact absurd h h0
    · rw [if_neg h0]
      rw [List.length_append, kidsD_count n (by simpa using h0)]; rfl
/-- What may be found, by its kind. -/
def ObK (o : Ob) : Prop := o = Ob0 ∨ (o.kind = 1 ∧ o.size = 0 ∧ o.count = 0) ∨ (o.kind = 2 ∧ o.data = 0 ∧ o.ptrs = 0 ∧ (o.size = 2 ∨ o.size = 5 ∨ o.size = 6))
theorem decP_kind (x : Int) : ((decP x).kind = 1 → (decP x).size = 0 ∧ (decP x).count = 0) ∧ ((decP x).kind = 2 → (decP x).data = 0 ∧ (decP x).ptrs = 0) := by
  unfold decP
  repeat' split
  all_goals simp [Pt0]
theorem wordsE_mk (k f d p z c s : Int) (b : Bool) : wordsE ⟨k, f, d, p, z, c, s, b⟩ = if k = 0 then 0 else if k = 1 then 0 else if k = 3 then 0 else if k = 2 then (if z = 2 then 0 else if z = 5 ∨ z = 6 then 0 else 23) else 23 := rfl
theorem wordsN_mk (k f d p z c s : Int) (b : Bool) : wordsN ⟨k, f, d, p, z, c, s, b⟩ = if k = 0 then 0 else if k = 1 then IntKind.i64.wrap (d + p) else if k = 3 then (if b then 2 else 1)
  else if k = 2 then (if z = 2 then IntKind.i64.wrap ((IntKind.i64.wrap (IntKind.i64.wrap (c + 8) - 1)).tdiv 8) else if z = 5 ∨ z = 6 then c else 0) else 0 := rfl
theorem foundS_kind (s : Src) (x : Int) (hn : nearP (decP x) = true) (seg a : Int) : ObK (foundS s (decP x) seg a).1 := by
  obtain ⟨h1, h2⟩ := decP_kind x
  have hk : (decP x).kind = 1 ∨ (decP x).kind = 2 := by simpa [nearP] using hn
  unfold foundS
  split
  · exact .inl rfl
  · rename_i he
    split
    · exact .inl rfl
    · rcases hk with hk | hk
      · exact .inr (.inl ⟨hk, (h1 hk).1, (h1 hk).2⟩)
      · refine .inr (.inr ⟨hk, (h2 hk).1, (h2 hk).2, ?_⟩)
        have he2 : ¬ wordsE ⟨(decP x).kind, 0, (decP x).data, (decP x).ptrs, (decP x).size, (decP x).count, 0, false⟩ ≠ 0 := he
        clear he
        have he := he2
        rw [wordsE_mk] at he
        rw [if_neg (by omega), if_neg (by omega), if_neg (by omega), if_pos hk] at he
        show (decP x).size = 2 ∨ (decP x).size = 5 ∨ (decP x).size = 6
        split at he
        · rename_i h; exact .inl h
        · split at he
          · rename_i h; exact .inr h
          · exact absurd (show (23 : Int) ≠ 0 by decide) he
theorem ptrS_dec (s : Src) (seg a : Int) : ∃ x, (ptrS s seg a).1 = decP x := by
  unfold ptrS
  split
  · exact ⟨0, rfl⟩
  · exact ⟨_, rfl⟩
theorem followS_kind (s : Src) (seg a : Int) : ObK (followS s seg a).1 := by
  obtain ⟨x, hx⟩ := ptrS_dec s seg a
  unfold followS
  split
  · exact .inl rfl
  · split
    · rename_i h
      rw [hx] at h ⊢
      exact foundS_kind s x h _ _
    · split
      · unfold twiceS
        split
        · exact .inl rfl
        · split
          · exact .inl rfl
          · split
            · exact .inl rfl
            · split
              · exact .inl rfl
              · split
                · exact .inl rfl
                · rename_i h
                  refine foundS_kind s _ ?_ _ _
                  cases hq : nearP (decP (s.word (ptrS s seg a).1.seg ((ptrS s seg a).1.off + 1)).1) with
                  | true => rfl
                  | false => exact absurd (.inr (.inr (.inl hq))) h
      · unfold landedS
        obtain ⟨y, hy⟩ := ptrS_dec s (ptrS s seg a).1.seg (ptrS s seg a).1.off
        split
        · exact .inl rfl
        · split
          · exact .inl rfl
          · rename_i h
            rw [hy] at h ⊢
            exact foundS_kind s y (by simpa using h) _ _
theorem ob_small {o : Ob} (ho : ObR o) (hk : ObK o) (hw : wordsO o ≤ 8191) : o.data ≤ 8191 ∧ o.ptrs ≤ 8191 ∧ (o.size = 5 → o.count ≤ 8191) ∧ (o.size = 2 → o.count ≤ 65528) ∧ 0 ≤ kidN o ∧ kidN o ≤ 8191 := by
  obtain ⟨r1, r2, r3, r4, r5, r6, r7⟩ := ho
  rcases hk with rfl | ⟨h1, h2, h3⟩ | ⟨h1, h2, h3, h4⟩
  · simp [Ob0, kidN]
  · have hv : wordsO o = o.data + o.ptrs := by
      unfold wordsO
      rw [if_neg (by omega)]
      unfold Ob.pt
      rw [wordsN_mk]
      rw [if_neg (by omega), if_pos h1, wrap_in (by simp only [inR]; omega)]
    unfold kidN
    rw [if_neg (by omega)]
    omega
  · have hv : (o.size = 2 → wordsO o = (o.count + 7) / 8) ∧ (o.size ≠ 2 → wordsO o = o.count) := by
      unfold wordsO
      rw [if_neg (by omega)]
      unfold Ob.pt
      rw [wordsN_mk]
      rw [if_neg (by omega), if_neg (by omega), if_neg (by omega), if_pos h1]
      refine ⟨fun h => ?_, fun h => ?_⟩
      · rw [if_pos h, wrap_in (by simp only [inR]; omega : inR .i64 (o.count + 8)), wrap_in (by simp only [inR]; omega : inR .i64 (o.count + 8 - 1)), Int.tdiv_eq_ediv_of_nonneg (by omega), wrap_in (by simp only [inR]; omega : inR .i64 ((o.count + 8 - 1) / 8))]
        congr 1
        omega
      · rw [if_neg h, if_pos (by omega)]
    obtain ⟨v1, v2⟩ := hv
    unfold kidN
    refine ⟨by omega, by omega, fun h => by have := v2 (by omega); omega, fun h => by have := v1 h; omega, ?_⟩
    split
    · have := v2 (by omega); omega
    · omega
theorem kidsD_paid {f : Int → Int → Int × Nd × Int} (hf : ∀ a p, 0 ≤ p → p ≤ 8192 → 0 ≤ (f a p).1 ∧ (f a p).1 ≤ 1000000000 ∧ ((f a p).2.2 = 0 → (f a p).1 ≤ 8192)) {a p : Int} (h0 : 0 ≤ p) (h1 : p ≤ 8192) : ∀ n, 0 ≤ (kidsD f a p n).1 ∧ (kidsD f a p n).1 ≤ 1000000000 ∧ ((kidsD f a p n).2.2 = 0 → (kidsD f a p n).1 ≤ 8192)
  | 0 => ⟨h0, by show p ≤ _; omega, fun _ => h1⟩
  | n + 1 => by
    obtain ⟨i1, i2, i3⟩ := kidsD_paid hf (a := a) h0 h1 n
    rw [kidsD]
    by_cases h : (kidsD f a p n).2.2 ≠ 0
    · rw [if_pos h]; exact ⟨i1, i2, i3⟩
    · rw [if_neg h]
      exact hf _ _ i1 (i3 (by simpa using h))
theorem nodeD_paid {P : Program} {w : World} {v : Value} {s : Src} (H : SrcOk P w v s) : ∀ (d : Nat) (seg a p : Int), 0 ≤ p → p ≤ 8192 → 0 ≤ (nodeD s d seg a p).1 ∧ (nodeD s d seg a p).1 ≤ 1000000000 ∧ ((nodeD s d seg a p).2.2 = 0 → (nodeD s d seg a p).1 ≤ 8192) := by
  have step : ∀ (d : Nat) (seg a p : Int), (∀ seg a p, 0 ≤ p → p ≤ 8192 → 0 ≤ (nodeF s d seg a p).1 ∧ (nodeF s d seg a p).1 ≤ 1000000000 ∧ ((nodeF s d seg a p).2.2 = 0 → (nodeF s d seg a p).1 ≤ 8192)) → 0 ≤ p → p ≤ 8192 → 0 ≤ (nodeD s d seg a p).1 ∧ (nodeD s d seg a p).1 ≤ 1000000000 ∧ ((nodeD s d seg a p).2.2 = 0 → (nodeD s d seg a p).1 ≤ 8192) := by
    intro d seg a p hf h0 h1
    obtain ⟨w0, w1⟩ := wordsO_range (followS_range H seg a)
    rw [nodeD_eq]
    unfold nodeK
    split
    · exact ⟨h0, by show p ≤ _; omega, fun _ => h1⟩
    · split
      · exact ⟨by simp only []; omega, by simp only []; omega, fun h => by simp at h⟩
      · split
        · exact ⟨by simp only []; omega, by simp only []; omega, fun h => by simp at h⟩
        · rename_i hp
          obtain ⟨k1, k2, k3⟩ := kidsD_paid (hf (followS s seg a).1.seg) (a := kidA (followS s seg a).1) (p := p + (1 + wordsO (followS s seg a).1)) (by omega) (by omega) (kidN (followS s seg a).1).toNat
          split
          · rename_i he
            exact ⟨k1, k2, fun h => absurd h he⟩
          · rename_i he
            exact ⟨k1, k2, fun _ => k3 (by simpa using he)⟩
  intro d
  induction d with
  | zero => exact fun seg a p => step 0 seg a p (fun seg a p h0 h1 => ⟨h0, by show p ≤ _; omega, fun _ => h1⟩)
  | succ d ih => exact fun seg a p => step (d + 1) seg a p (fun seg a p h0 h1 => ih seg a p h0 h1)
theorem nodL_u64 {P : Program} {w : World} {v : Value} {s : Src} (H : SrcOk P w v s) (o : Ob) : ∀ x ∈ nodL s o, inR .u64 x := wordsS_u64 H _ _ _
theorem nodB_u8 (s : Src) (o : Ob) : ∀ x ∈ nodB s o, inR .u8 x := by
  unfold nodB
  split
  · exact bytesS_u8 _ _ _ _
  · intro x hx; simp at hx
theorem kid_left {o : Ob} {d : Nat} {j : Nat} (hok : ObK o) (h2 : ¬ (o.kind ≠ 0 ∧ (d == 0) = true)) (hj : (j : Int) < kidN o) : ∃ e, d = e + 1 := by
  cases d with
  | succ e => exact ⟨e, rfl⟩
  | zero =>
    exfalso
    have h0 : o.kind = 0 := by
      by_cases h : o.kind = 0
      · exact h
      · exact absurd ⟨h, rfl⟩ h2
    rcases hok with rfl | h | h
    · simp [kidN, Ob0] at hj; omega
    · omega
    · omega
/-! ### memory -/
theorem Kp.upd_new {F : List Nat} {w w1 w2 : World} {b : Nat} (K : Kp F w w1) (u : Upd b w1 w2) (hb : w.heap.size ≤ b) : Kp F w w2 := K.trans (Kp.of_upd u (List.mem_singleton.2 rfl)) fun x hx => by simp only [List.mem_singleton] at hx; subst hx; exact .inr hb
theorem own_len {w : World} {base n m c sz : Nat} {T : TypeId} {ad : Option Addr} {xs : List Value} (h : w.ownsRow base T sz (.slice ad n c) m xs) : n = m := by
  rcases h.2 with ⟨hv, hm⟩ | ⟨q, cap, cur, hv, _⟩
  · simp only [Value.slice.injEq] at hv
    omega
  · simp only [Value.slice.injEq] at hv
    omega
theorem own_kp {F : List Nat} {w w' : World} {base n sz : Nat} {T : TypeId} {v : Value} {xs : List Value} (h : w.ownsRow base T sz v n xs) (k : Kp F w w') (hF : ∀ x ∈ F, x < base) : w'.ownsRow base T sz v n xs := by
  refine ⟨h.1, ?_⟩
  rcases h.2 with hn | ⟨q, cap, cur, rfl, hb, hg, rest⟩
  · exact .inl hn
  · exact .inr ⟨q, cap, cur, rfl, hb, k.heap hg (fun hm => by have := hF q hm; omega), rest⟩
/-! ### any arena -/
def sizesP (A : List (List Int)) : List Int := A.map fun s => (s.length : Int)
theorem sizesP_len (A : List (List Int)) : (sizesP A).length = A.length := by simp [sizesP]
theorem sizesP_at (A : List (List Int)) (i : Nat) : (sizesP A).getD i 0 = (len2 A i : Int) := by
  by_cases hi : i < A.length
  · rw [getD_at (by rw [sizesP_len]; exact hi)]
    simp only [sizesP, List.getElem_map, len2]
    rw [getD_at hi]
  · rw [len2_none (by omega), List.getD_eq_getElem?_getD, List.getElem?_eq_none (by rw [sizesP_len]; omega)]
    rfl
theorem sizesP_take {A : List (List Int)} {k : Nat} (h : k < A.length) : sizesP (A.take (k + 1)) = sizesP (A.take k) ++ [(len2 A k : Int)] := by
  simp only [sizesP, len2]
  rw [List.take_add_one, List.getElem?_eq_getElem h, List.map_append, getD_at h]
  rfl
/-- That arena.Right says so. -/
def rightB (A : List (List Int)) : Bool := decide (1 ≤ A.length ∧ A.length ≤ 16 ∧ 1 ≤ len2 A 0 ∧ totalP A ≤ 4096)
theorem rightB_ok {A : List (List Int)} (h : rightB A = true) (hx : ∀ q ∈ A, ∀ x ∈ q, inR .u64 x) : OkA A := by
  unfold rightB at h
  obtain ⟨h1, h2, h3, h4⟩ := of_decide_eq_true h
  exact ⟨h1, h2, h3, h4, hx⟩
/-- The tree of any arena. -/
def decT (A : List (List Int)) : Nd × Int := if rightB A = false then (.nil, 1) else (nodeD (wholeS A) 32 0 0 0).2
end Go.Proofs.Ytfhfecepcnapfaa.K
namespace Go.Proofs.Ytfhfecepcnapfaa.K
open Go Go.RowKit
mutual
def Nd.paths : Nd → List Int → List (List Int × Int)
  | .mk k s w b ks, pre => (List.range (1 + w.length + b.length)).map (fun (i : Nat) => (pre, (i : Int) - 1)) ++ Nd.pathsL ks pre 0
def Nd.pathsL : List Nd → List Int → Nat → List (List Int × Int)
  | [], _, _ => []
  | t :: ts, pre, j => t.paths (pre ++ [(j : Int)]) ++ Nd.pathsL ts pre (j + 1)
end
mutual
def Nd.dep : Nd → Nat
  | .mk _ _ _ _ ks => 1 + Nd.depL ks
def Nd.depL : List Nd → Nat
  | [] => 0
  | t :: ts => max t.dep (Nd.depL ts)
end
theorem Nd.depL_at : ∀ (ts : List Nd) (i : Nat) (h : i < ts.length), ts[i].dep ≤ Nd.depL ts
  | [], i, h => by simp at h
  | t :: ts, 0, _ => by rw [Nd.depL]; exact Nat.le_max_left _ _
  | t :: ts, i + 1, h => by
    have := Nd.depL_at ts i (by simpa using h)
    rw [Nd.depL]
    exact Nat.le_trans this (Nat.le_max_right _ _)
theorem pathsL_split : ∀ (ts : List Nd) (pre : List Int) (j0 k : Nat) (h : k < ts.length), Nd.pathsL ts pre j0 = Nd.pathsL (ts.take k) pre j0 ++ (ts[k].paths (pre ++ [((j0 + k : Nat) : Int)]) ++ Nd.pathsL (ts.drop (k + 1)) pre (j0 + k + 1))
  | [], _, _, _, h => by simp at h
  | t :: ts, pre, j0, 0, _ => by simp [Nd.pathsL]
  | t :: ts, pre, j0, k + 1, h => by
    have ih := pathsL_split ts pre (j0 + 1) k (by simpa using h)
    rw [Nd.pathsL, ih, List.take_succ_cons, Nd.pathsL, List.append_assoc, List.getElem_cons_succ, List.drop_succ_cons, show j0 + 1 + k = j0 + (k + 1) from by omega]
theorem pathsL_take (ts : List Nd) (pre : List Int) (k : Nat) (h : k < ts.length) : (Nd.pathsL (ts.take (k + 1)) pre 0).length = (Nd.pathsL (ts.take k) pre 0).length + (ts[k].paths (pre ++ [(k : Int)])).length := by
  have h1 := pathsL_split (ts.take (k + 1)) pre 0 k (by simp; omega)
  rw [h1]
  simp [List.take_take, List.getElem_take, Nd.pathsL, Nat.min_eq_left]
def own1 (w b : List Int) : Nat := 1 + w.length + b.length
theorem paths_word {k s : Int} {w b : List Int} {ks : List Nd} {pre : List Int} {i : Nat} (h : i < own1 w b) : ((Nd.mk k s w b ks).paths pre)[i]? = some (pre, (i : Int) - 1) := by
  unfold own1 at h
  rw [Nd.paths, List.getElem?_append_left (by simpa using h), List.getElem?_map, List.getElem?_range h]
  rfl
theorem paths_kid {k s : Int} {w b : List Int} {ks : List Nd} {pre : List Int} {j : Nat} (hj : j < ks.length) {i : Nat} (h : i < (ks[j].paths (pre ++ [(j : Int)])).length) : ((Nd.mk k s w b ks).paths pre)[own1 w b + (Nd.pathsL (ks.take j) pre 0).length + i]? = (ks[j].paths (pre ++ [(j : Int)]))[i]? := by
  have h1 := pathsL_split ks pre 0 j hj
  unfold own1
  rw [Nd.paths, List.getElem?_append_right (by simp; omega), h1, List.getElem?_append_right (by simp; omega), Nat.zero_add, List.getElem?_append_left (by simp; omega)]
  congr 1
  simp
  omega
theorem paths_len (k s : Int) (w b : List Int) (ks : List Nd) (pre : List Int) : ((Nd.mk k s w b ks).paths pre).length = own1 w b + (Nd.pathsL ks pre 0).length := by
  rw [Nd.paths, List.length_append, List.length_map, List.length_range]
  rfl
/-- Paths in a row. -/
inductive PathsR (w : World) : List Value → List (List Int × Int) → Prop
  | nil : PathsR w [] []
  | cons {ad : Option Addr} {c : Nat} {p : List Int × Int} {cs : List Value} {L : List (List Int × Int)} (h : RowAt w 1 ad p.1.length (p.1.map (.int .i64))) (hc : p.1.length ≤ c) (hc2 : c ≤ maxLen) (r : PathsR w cs L) : PathsR w (.slice ad p.1.length c :: .int .i64 p.2 :: cs) (p :: L)
theorem PathsR.sees {w w' : World} (g : Sees w w') : ∀ {cs : List Value} {L : List (List Int × Int)}, PathsR w cs L → PathsR w' cs L
  | _, _, .nil => .nil
  | _, _, .cons h hc hc2 r => .cons (h.sees g) hc hc2 (PathsR.sees g r)
theorem PathsR.snoc {w : World} {ad : Option Addr} {c : Nat} {p : List Int × Int} (h : RowAt w 1 ad p.1.length (p.1.map (.int .i64))) (hc : p.1.length ≤ c) (hc2 : c ≤ maxLen) : ∀ {cs : List Value} {L : List (List Int × Int)}, PathsR w cs L → PathsR w (cs ++ [.slice ad p.1.length c, .int .i64 p.2]) (L ++ [p])
  | _, _, .nil => .cons h hc hc2 .nil
  | _, _, .cons h' hc' hc2' r => .cons h' hc' hc2' (PathsR.snoc h hc hc2 r)
theorem PathsR.len {w : World} : ∀ {cs : List Value} {L : List (List Int × Int)}, PathsR w cs L → cs.length = L.length * 2
  | _, _, .nil => rfl
  | _, _, .cons h hc hc2 r => by have := PathsR.len r; simp only [List.length_cons]; omega
theorem PathsR.at_ {w : World} : ∀ {cs : List Value} {L : List (List Int × Int)} (i : Nat) (p : List Int × Int), PathsR w cs L → L[i]? = some p → ∃ ad c, (cs.drop (i * 2)).take 2 = [.slice ad p.1.length c, .int .i64 p.2] ∧ p.1.length ≤ c ∧ c ≤ maxLen ∧ RowAt w 1 ad p.1.length (p.1.map (.int .i64))
  | _, _, i, p, .nil, h => by simp at h
  | _, _, 0, p, .cons h hc hc2 r, h1 => by
    simp only [List.getElem?_cons_zero, Option.some.injEq] at h1
    subst h1
    exact ⟨_, _, by simp, hc, hc2, h⟩
  | _, _, i + 1, p, .cons h hc hc2 r, h1 => by
    simp only [List.getElem?_cons_succ] at h1
    obtain ⟨ad, c, h2, h3⟩ := PathsR.at_ i p r h1
    refine ⟨ad, c, ?_, h3⟩
    rw [show (i + 1) * 2 = i * 2 + 1 + 1 from by omega, List.drop_succ_cons, List.drop_succ_cons]
    exact h2
/-- A yield leaves alone all blocks from there on, but for rows of paths. -/
def Keeps (TP : TypeId) (N : Nat) (w w' : World) : Prop := ∀ (b : Nat) (o : Obj), N ≤ b → w.heap[b]? = some o → (∀ (cs : Array Value) (fr : Nat × Nat), o ≠ Obj.cells cs TP fr) → w'.heap[b]? = some o
theorem Keeps.trans {TP : TypeId} {N : Nat} {a b c : World} (h : Keeps TP N a b) (k : Keeps TP N b c) : Keeps TP N a c := fun x o h1 h2 h3 => k x o h1 (h x o h1 h2 h3) h3
theorem Keeps.grow {TP : TypeId} {N : Nat} {a b : World} (g : Grow a b) : Keeps TP N a b := fun _ _ _ h _ => g.heap h
theorem Keeps.upd {TP : TypeId} {N b : Nat} {w w' : World} (u : Upd b w w') (hb : b < N) : Keeps TP N w w' := fun x o h1 h2 _ => u.heap h2 (by omega)
theorem Keeps.mono {TP : TypeId} {N M : Nat} {a b : World} (h : Keeps TP N a b) (hn : N ≤ M) : Keeps TP M a b := fun x o h1 => h x o (Nat.le_trans hn h1)
def NotC (o : Obj) : Prop := ∀ (cs : Array Value) (T : TypeId) (fr : Nat × Nat), o ≠ Obj.cells cs T fr
def markD (m : Nat) : Deferred := ⟨.collected m, #[]⟩
/-- All marks are taken; what outlives that is still so. -/
theorem marks_taken {P : Program} {N : Nat} (J : World → Prop) (hJ : ∀ W W' b o, J W → N ≤ b → W.heap[b]? = some o → NotC o → Upd b W W' → J W') : ∀ (mk : List Nat) (W : World), mk.Nodup → (∀ m ∈ mk, N ≤ m ∧ W.heap[m]? = some (.deferred (some []))) → J W → ∃ W', Taken P (mk.map markD) W W' ∧ J W'
  | [], W, _, _, h => ⟨W, rfl, h⟩
  | m :: mk, W, hn, hm, h => by
    obtain ⟨h1, h2⟩ := hm m (by simp)
    have u := upd_put (o' := .deferred none) h2
    obtain ⟨hnm, hnd⟩ := List.nodup_cons.1 hn
    obtain ⟨W', h3, h4⟩ := marks_taken J hJ mk (W.putObj m (.deferred none)) hnd (fun k hk => by
      obtain ⟨h5, h6⟩ := hm k (by simp [hk])
      exact ⟨h5, u.heap h6 (fun he => hnm (he ▸ hk))⟩) (hJ W _ m _ h h1 h2 (fun _ _ _ he => by cases he) u)
    exact ⟨W', ⟨m, _, rfl, run_takeDeferred h2, h3⟩, h4⟩
theorem NodeR.kidsrow {w : World} {y0 y1 : Int} {ya za ua : Option Addr} {yn yc zn zc un uc : Nat} {k s : Int} {ws bs : List Int} {ks : List Nd} (h : NodeR w [.int .i64 y0, .int .i64 y1, .slice ya yn yc, .slice za zn zc, .slice ua un uc] (.mk k s ws bs ks)) : ∃ kc, RowAt w 5 ua un kc ∧ KidsR w kc ks := by
  generalize hc : [Value.int .i64 y0, .int .i64 y1, .slice ya yn yc, .slice za zn zc, .slice ua un uc] = c at h
  obtain @⟨kind, size, words, bytes, kids, ws, bs, ks, kc, hk, hs, hW, hwr, hB, hbr, hK, hKs⟩ := h
  obtain ⟨aw, cw, rfl, -, -, h1⟩ := hW
  obtain ⟨ab, cb, rfl, -, -, h2⟩ := hB
  obtain ⟨ak, ck, rfl, -, -, h3⟩ := hK
  simp only [List.cons.injEq, Value.int.injEq, Value.slice.injEq, true_and, and_true] at hc
  obtain ⟨rfl, rfl, ⟨rfl, rfl, -⟩, ⟨rfl, rfl, -⟩, rfl, rfl, -⟩ := hc
  exact ⟨kc, h3, hKs⟩
theorem row_none {w : World} {sz n : Nat} {xs : List Value} (h : RowAt w sz none n xs) : n = 0 := by
  rcases Nat.eq_zero_or_pos n with h0 | h0
  · exact h0
  · obtain ⟨b, o, cs, T, fr, he, -⟩ := h.at_ h0
    cases he
theorem depL_kid {k s : Int} {w b : List Int} {ks : List Nd} {j : Nat} (hj : j < ks.length) : ks[j].dep + 1 ≤ (Nd.mk k s w b ks).dep := by
  have := Nd.depL_at ks j hj
  rw [Nd.dep]; omega
/-- What a copy of numbers is, where fresh rows may be written at their far ends. -/
def CopyR (T : TypeId) (base : Nat) (pre : List Int) (w : World) (v : Value) : Prop :=
  (pre = [] ∧ v = .slice none 0 0) ∨ (pre ≠ [] ∧ ∃ b cs, v = .slice (some ⟨b, 0, none⟩) pre.length cs.size ∧ base ≤ b ∧ w.heap[b]? = some (.cells cs T (0, 0)) ∧ pre.length ≤ cs.size ∧ cs.size ≤ maxLen ∧ cs.toList.take pre.length = pre.map (.int .i64))
theorem CopyR.ks {T : TypeId} {base b2 : Nat} {pre : List Int} {w w' : World} {v : Value} (k : KsP T b2 pre.length w w') (h : CopyR T base pre w v) : CopyR T base pre w' v := by
  rcases h with h | ⟨h0, b, cs, h1, h2, h3, h4, h5, h6⟩
  · exact .inl h
  · obtain ⟨cs', g1, g2, g3, -⟩ := k.new b cs h3
    exact .inr ⟨h0, b, cs', by rw [g2]; exact h1, h2, g1, by rw [g2]; exact h4, by rw [g2]; exact h5, by rw [g3]; exact h6⟩
theorem CopyR.own {T : TypeId} {base : Nat} {pre : List Int} {w : World} {v : Value} (h : CopyR T base pre w v) : w.ownsRow base T 1 v pre.length (pre.map (.int .i64)) := by
  rcases h with ⟨rfl, rfl⟩ | ⟨h0, b, cs, rfl, h2, h3, h4, h5, h6⟩
  · exact World.ownsRow_nil _ _ _ _
  · exact ⟨by simp, .inr ⟨b, cs.size, cs, rfl, h2, h3, h4, h5, by simp, by rw [Nat.mul_one]; exact h6⟩⟩
theorem CopyR.of_own {T : TypeId} {base b2 : Nat} {pre : List Int} {w : World} {v : Value} (h : w.ownsRow b2 T 1 v pre.length (pre.map (.int .i64))) (hb : base ≤ b2) (h0 : pre ≠ []) : CopyR T base pre w v := by
  rcases h.2 with ⟨-, hn⟩ | ⟨q, cap, cur, rfl, g1, g2, g3, g4, g5, g6⟩
  · exact absurd (by simpa using hn) h0
  · rw [Nat.mul_one] at g5 g6
    exact .inr ⟨h0, q, cur, by rw [g5], Nat.le_trans hb g1, g2, by omega, by omega, g6⟩
theorem CopyR.keeps {T : TypeId} {base : Nat} {pre : List Int} {w w' : World} {v : Value} (h : CopyR T base pre w v) (gr : w.grownBy w' v.ownBlock)
    (hk : ∀ g cap cur, v = .slice (some ⟨g, 0, none⟩) pre.length cap → w.heap[g]? = some (.cells cur T (0, 0)) → ∃ cur' : Array Value, w'.heap[g]? = some (.cells cur' T (0, 0)) ∧ cur'.size = cur.size ∧ cur'.toList.take (pre.length * 1) = cur.toList.take (pre.length * 1) ∧ (cap < pre.length + 1 → cur' = cur)) : KsP T base pre.length w w' := by
  rcases h with ⟨rfl, rfl⟩ | ⟨h0, b, cs, rfl, h2, h3, h4, h5, h6⟩
  · exact (ksR T base _).grow (gr_grow gr)
  · have hl : 1 ≤ pre.length := by cases pre with | nil => exact absurd rfl h0 | cons x l => simp
    have := hk b _ cs rfl h3
    rw [Nat.mul_one] at this
    exact KsP.of_append gr h2 h3 rfl this hl
theorem CopyR.grow {T : TypeId} {base : Nat} {pre : List Int} {w w' : World} {v : Value} (g : Grow w w') (h : CopyR T base pre w v) : CopyR T base pre w' v := CopyR.ks ((ksR T base _).grow g) h
theorem CopyR.blk {T : TypeId} {base : Nat} {pre : List Int} {w : World} {v : Value} (h : CopyR T base pre w v) (h0 : pre ≠ []) : ∃ b cs, v = .slice (some ⟨b, 0, none⟩) pre.length cs.size ∧ base ≤ b ∧ w.heap[b]? = some (.cells cs T (0, 0)) ∧ pre.length ≤ cs.size ∧ cs.size ≤ maxLen ∧ cs.toList.take pre.length = pre.map (.int .i64) := by
  rcases h with ⟨h1, -⟩ | ⟨-, h⟩
  · exact absurd h1 h0
  · exact h
theorem own_neC {w : World} {base n sz b : Nat} {T : TypeId} {v : Value} {xs : List Value} (h : w.ownsRow base T sz v n xs) (hn : ∀ (cs : Array Value) (T : TypeId) (fr : Nat × Nat), w.heap[b]? ≠ some (Obj.cells cs T fr)) : v.ownBlock ≠ some b := by
  intro he
  rcases h.2 with ⟨rfl, _⟩ | ⟨q, cap, cur, rfl, _, hg, _⟩
  · simp [Value.ownBlock] at he
  · simp only [Value.ownBlock, Option.some.injEq] at he
    subst he
    exact hn _ _ _ hg
theorem Keeps.gr {TP : TypeId} {N base n sz : Nat} {v : Value} {xs : List Value} {w w' : World} (g : w.grownBy w' v.ownBlock) (h : w.ownsRow base TP sz v n xs) : Keeps TP N w w' := fun b o _ hb ho => by
  have k := Kp.of_grownBy (F := v.ownBlock.toList) g (fun k hk => by rw [Option.mem_toList]; exact hk)
  refine k.heap hb (fun hm => ?_)
  rw [Option.mem_toList] at hm
  rcases h.2 with ⟨rfl, _⟩ | ⟨q, cap, cur, rfl, _, hg, _⟩
  · simp [Value.ownBlock] at hm
  · simp only [Value.ownBlock, Option.mem_def, Option.some.injEq] at hm
    subst hm
    rw [hg] at hb
    simp only [Option.some.injEq] at hb
    exact ho _ _ hb.symm
end Go.Proofs.Ytfhfecepcnapfaa.K
namespace Go.Proofs.Ytfhfecepcnapfaa.K
open Go Go.RowKit
mutual
def Nd.beq : Nd → Nd → Bool
  | .mk k s w b ks, .mk k' s' w' b' ks' => decide (k = k') && decide (s = s') && decide (w = w') && decide (b = b') && Nd.beqs ks ks'
def Nd.beqs : List Nd → List Nd → Bool
  | [], [] => true
  | [], _ :: _ => false
  | _ :: _, [] => false
  | t :: ts, u :: us => t.beq u && Nd.beqs ts us
end
mutual
theorem Nd.beq_iff : ∀ (t u : Nd), t.beq u = true ↔ t = u
  | .mk k s w b ks, .mk k' s' w' b' ks' => by
    simp only [Nd.beq, Bool.and_eq_true, decide_eq_true_eq, Nd.mk.injEq, Nd.beqs_iff ks ks', and_assoc]
theorem Nd.beqs_iff : ∀ (t u : List Nd), Nd.beqs t u = true ↔ t = u
  | [], [] => by simp [Nd.beqs]
  | [], _ :: _ => by simp [Nd.beqs]
  | _ :: _, [] => by simp [Nd.beqs]
  | t :: ts, u :: us => by
    simp only [Nd.beqs, Bool.and_eq_true, List.cons.injEq, Nd.beq_iff t u, Nd.beqs_iff ts us]
end
theorem Nd.beqs_all : ∀ (t u : List Nd), (decide (t.length = u.length) && (List.range t.length).all fun i => (t.getD i (.mk 0 0 [] [] [])).beq (u.getD i (.mk 0 0 [] [] []))) = Nd.beqs t u
  | [], [] => by simp [Nd.beqs]
  | [], _ :: _ => by simp [Nd.beqs]
  | _ :: _, [] => by simp [Nd.beqs]
  | t :: ts, u :: us => by
    rw [Nd.beqs, ← Nd.beqs_all ts us, List.length_cons, List.length_cons, List.range_succ_eq_map, List.all_cons, List.all_map]
    have h : decide (ts.length + 1 = us.length + 1) = decide (ts.length = us.length) := by
      by_cases h : ts.length = us.length
      · rw [decide_eq_true h, decide_eq_true (by omega)]
      · rw [decide_eq_false h, decide_eq_false (by omega)]
    rw [h]
    show (decide (ts.length = us.length) && (t.beq u && (List.range ts.length).all fun i => (ts.getD i (.mk 0 0 [] [] [])).beq (us.getD i (.mk 0 0 [] [] [])))) = _
    cases decide (ts.length = us.length) <;> cases t.beq u <;> simp
theorem all_range_no {n k : Nat} {p : Nat → Bool} (hk : k < n) (h : p k = false) : (List.range n).all p = false := by
  rw [List.all_eq_false]
  exact ⟨k, List.mem_range.2 hk, by rw [h]; decide⟩
theorem all_range_yes {n : Nat} {p : Nat → Bool} (h : ∀ j, j < n → p j = true) : (List.range n).all p = true := by
  rw [List.all_eq_true]
  exact fun j hj => h j (List.mem_range.1 hj)
end Go.Proofs.Ytfhfecepcnapfaa.K
namespace Go.Proofs.Ytfhfecepcnapfaa.K
open Go Go.RowKit
theorem Nd.lay_step (size : Int) {k z : Int} {w b : List Int} {ks : List Nd} {s : List Int} {i : Nat} (hR : (Nd.mk k z w b ks).fine) (hk : ¬ k = 0) (hn : ¬ (Nd.mk k z w b ks).need = 0) (h1 : (s.length : Int) + (Nd.mk k z w b ks).need ≤ size) (h2 : (s.length : Int) + (Nd.mk k z w b ks).need ≤ 4096) :
    (Nd.mk k z w b ks).lay size ⟨[s], false⟩ 0 i = Nd.lays size ks ⟨[s.set i ((Nd.mk k z w b ks).near ((s.length : Int) - i - 1)) ++ (Nd.mk k z w b ks).content], false⟩ 0 (s.length + ((Nd.mk k z w b ks).need.toNat - ks.length)) := by
  obtain ⟨hkd, hlw, hlb, hlk, hnn, hnm, hkn, hb1⟩ := Nd.own_b (Nd.fine_own hR)
  simp only [Nd.lay, Bool.false_eq_true, or_false]
  rw [if_neg hk, if_neg hn]
  have hp : placeP size (.mk k z w b ks) ⟨[s], false⟩ 0 i = ⟨⟨[s.set i ((Nd.mk k z w b ks).near ((s.length : Int) - i - 1))], false⟩, 0, s.length⟩ := by
    unfold placeP
    rw [if_pos (by refine ⟨rfl, ?_⟩; show ((s.length : Nat) : Int) + _ ≤ _; omega)]
    show (⟨⟨setP [s] 0 i _, false⟩, 0, _⟩ : Plc) = _
    rw [setP1]
    rfl
  have hco : ((Nd.mk k z w b ks).content.length : Int) = (Nd.mk k z w b ks).need := Nd.content_length _ (by simp only [Nd.kind]; omega) (by simpa only [Nd.kind, Nd.bytes] using hb1)
  rw [hp]
  have hm : moreP size ⟨[s.set i ((Nd.mk k z w b ks).near ((s.length : Int) - i - 1))], false⟩ 0 (Nd.mk k z w b ks).content = ⟨[s.set i ((Nd.mk k z w b ks).near ((s.length : Int) - i - 1)) ++ (Nd.mk k z w b ks).content], false⟩ := by
    simp only [moreP, growA1, Bool.false_or]
    rw [full1 (by rw [List.length_append, List.length_set]; omega) (by rw [List.length_append, List.length_set]; omega)]
  simp only [hm]
mutual
theorem Nd.lay_at (size : Int) : ∀ (t : Nd) (s : List Int) (i : Nat), t.fine → i < s.length → (s.length : Int) + t.needs ≤ size → (s.length : Int) + t.needs ≤ 4096 →
    ∃ s', t.lay size ⟨[s], false⟩ 0 i = ⟨[s'], false⟩ ∧ (s'.length : Int) = s.length + t.needs ∧ ∀ j v, j < s.length → j ≠ i → t.lay size ⟨[s.set j v], false⟩ 0 i = ⟨[s'.set j v], false⟩
  | .mk k z w b ks, s, i, hR, hi, h1, h2 => by
    obtain ⟨hkd, hlw, hlb, hlk, hnn, hnm, hkn, hb1⟩ := Nd.own_b (Nd.fine_own hR)
    have hnl := Nd.needsL_nn ks
    simp only [Nd.needs] at h1 h2
    by_cases hk : k = 0
    · have hks : ks = [] := own_kids (Nd.fine_own hR) (by omega)
      subst hks
      simp only [Nd.lay, Bool.false_eq_true, or_false, if_pos hk]
      exact ⟨s, rfl, by simp [Nd.needs, Nd.need, hk, Nd.needsL], fun j v hj hji => rfl⟩
    · by_cases hn : (Nd.mk k z w b ks).need = 0
      · have hks : ks = [] := List.eq_nil_of_length_eq_zero (by have := hkn hk; omega)
        subst hks
        simp only [Nd.lay, Bool.false_eq_true, or_false, if_neg hk, if_pos hn, setP1]
        exact ⟨_, rfl, by rw [List.length_set]; simp [Nd.needs, hn, Nd.needsL], fun j v hj hji => by rw [List.set_comm _ _ hji]⟩
      · have hco : ((Nd.mk k z w b ks).content.length : Int) = (Nd.mk k z w b ks).need := Nd.content_length _ (by simp only [Nd.kind]; omega) (by simpa only [Nd.kind, Nd.bytes] using hb1)
        obtain ⟨s', h3, h4, h5⟩ := Nd.lays_at size ks (s.set i ((Nd.mk k z w b ks).near ((s.length : Int) - i - 1)) ++ (Nd.mk k z w b ks).content) (s.length + ((Nd.mk k z w b ks).need.toNat - ks.length)) (fun j hj => Nd.fine_kid hR hj)
          (by rw [List.length_append, List.length_set]; have := hkn hk; omega) (by rw [List.length_append, List.length_set]; omega) (by rw [List.length_append, List.length_set]; omega)
        rw [Nd.lay_step size hR hk hn (by omega) (by omega)]
        refine ⟨s', h3, ?_, fun j v hj hji => ?_⟩
        · rw [h4, List.length_append, List.length_set]
          simp only [Nd.needs]
          omega
        · rw [Nd.lay_step size hR hk hn (by rw [List.length_set]; omega) (by rw [List.length_set]; omega), List.length_set, List.set_comm _ _ hji]
          rw [← List.set_append_left _ _ (by rw [List.length_set]; exact hj)]
          exact h5 j v (by rw [List.length_append, List.length_set]; omega) (fun q hq => by omega)
theorem Nd.lays_at (size : Int) : ∀ (ts : List Nd) (s : List Int) (i : Nat), (∀ (j : Nat) (h : j < ts.length), ts[j].fine) → i + ts.length ≤ s.length → (s.length : Int) + Nd.needsL ts ≤ size → (s.length : Int) + Nd.needsL ts ≤ 4096 →
    ∃ s', Nd.lays size ts ⟨[s], false⟩ 0 i = ⟨[s'], false⟩ ∧ (s'.length : Int) = s.length + Nd.needsL ts ∧ ∀ j v, j < s.length → (∀ q, q < ts.length → j ≠ i + q) → Nd.lays size ts ⟨[s.set j v], false⟩ 0 i = ⟨[s'.set j v], false⟩
  | [], s, i, _, _, _, _ => ⟨s, rfl, by simp [Nd.needsL], fun j v _ _ => rfl⟩
  | t :: ts, s, i, hR, hi, h1, h2 => by
    have ha := Nd.needs_nn t
    have hb := Nd.needsL_nn ts
    simp only [Nd.needsL, List.length_cons] at h1 h2 hi
    obtain ⟨s1, h3, h4, h5⟩ := Nd.lay_at size t s i (hR 0 (by simp)) (by omega) (by omega) (by omega)
    obtain ⟨s2, h6, h7, h8⟩ := Nd.lays_at size ts s1 (i + 1) (fun j hj => by have := hR (j + 1) (by simpa using hj); simpa using this) (by omega) (by omega) (by omega)
    refine ⟨s2, by simp only [Nd.lays, h3, h6], ?_, fun j v hj hq => ?_⟩
    · simp only [Nd.needsL]
      omega
    · simp only [Nd.lays]
      rw [h5 j v hj (by have := hq 0 (by simp); omega)]
      exact h8 j v (by omega) (fun q hq2 => by have := hq (q + 1) (by simpa using hq2); omega)
end
def wrapN (n : Int) (t : Nd) : Nd := .mk 1 0 [n] [] [t]
theorem wrapN_right (n : Int) {t : Nd} {l : Nat} (h : t.right l = true) : (wrapN n t).right (l + 1) = true := by
  simp [wrapN, Nd.right, Nd.own, Nd.rights, h]
theorem wrapN_needs (n : Int) (t : Nd) : (wrapN n t).needs = 2 + t.needs := by simp [wrapN, Nd.needs, Nd.needsL, Nd.need]
theorem twice_one {t : Nd} (n : Int) (hR : t.right 31 = true) (h1 : 3 + t.needs ≤ 4096) : ∃ s : List Int, (∀ m, (wrapN m t).build 4096 = ([s.set 1 m], 0)) ∧ 2 ≤ s.length ∧ s.length ≤ 4096 := by
  have hnn := Nd.needs_nn t
  obtain ⟨s, h3, h4, h5⟩ := Nd.lay_at 4096 t [(wrapN n t).near 0, n, 0] 2 ⟨31, hR⟩ (by simp) (by simpa using h1) (by simpa using h1)
  simp only [List.length_cons, List.length_nil] at h4
  refine ⟨s, fun m => ?_, by omega, by omega⟩
  have h6 : (wrapN m t).lay 4096 ⟨[[0]], false⟩ 0 0 = ⟨[s.set 1 m], false⟩ := by
    have h7 := Nd.lay_step 4096 (k := 1) (z := 0) (w := [m]) (b := []) (ks := [t]) (s := [0]) (i := 0) ⟨32, wrapN_right m hR⟩ (by decide) (by simp [Nd.need]) (by simp [Nd.need]) (by simp [Nd.need])
    have h8 : (wrapN m t).near 0 = (wrapN n t).near 0 := rfl
    have h9 := h5 1 m (by simp) (by decide)
    show (Nd.mk 1 0 [m] [] [t]).lay 4096 ⟨[[0]], false⟩ 0 0 = _
    rw [h7]
    have h10 : ([0] : List Int).set 0 ((Nd.mk 1 0 [m] [] [t]).near ((([0] : List Int).length : Int) - ((0 : Nat) : Int) - 1)) ++ (Nd.mk 1 0 [m] [] [t]).content = [(wrapN n t).near 0, m, 0] := rfl
    rw [h10]
    have h11 : ([0] : List Int).length + ((Nd.mk 1 0 [m] [] [t]).need.toNat - [t].length) = 2 := rfl
    rw [h11, Nd.lays, Nd.lays]
    exact h9
  unfold Nd.build
  rw [if_neg (by rw [wrapN_right m hR]; simp), h6, if_neg (by simp)]
/-- What two lists are to each other that part at place 1 alone. -/
theorem set1_part {s : List Int} (n m : Int) (h : 2 ≤ s.length) (hnm : n ≠ m) : (s.set 1 n).length = s.length ∧ (s.set 1 m).length = s.length ∧ (s.set 1 n).getD 1 0 ≠ (s.set 1 m).getD 1 0 ∧ ∀ j, j ≠ 1 → (s.set 1 n).getD j 0 = (s.set 1 m).getD j 0 := by
  refine ⟨List.length_set, List.length_set, ?_, fun j hj => ?_⟩
  · simp [List.getD_eq_getElem?_getD, List.getElem?_set, show 1 < s.length from h, hnm]
  · simp [List.getD_eq_getElem?_getD, List.getElem?_set, show ¬ 1 = j from fun h => hj h.symm]
theorem wrapN_ne {n m : Int} {t : Nd} (h : n ≠ m) : (wrapN n t).beq (wrapN m t) = false := by
  cases hb : (wrapN n t).beq (wrapN m t) with
  | false => rfl
  | true => have := (Nd.beq_iff _ _).1 hb; simp only [wrapN, Nd.mk.injEq, List.cons.injEq] at this; exact absurd this.2.2.1.1 h
end Go.Proofs.Ytfhfecepcnapfaa.K
namespace Go.Proofs.Ytfhfecepcnapfaa.K
open Go Go.RowKit
theorem rowat_one {w : World} {b : Nat} {x : Value} {T : TypeId} {fr : Nat × Nat} (hb : w.heap[b]? = some (.cells #[x] T fr)) : RowAt w 1 (some ⟨b, 0, none⟩) 1 [x] := ⟨by simp, by decide, fun _ => ⟨b, 0, _, _, _, rfl, hb, by simp⟩⟩
def kindN (ws : Bool) (c : List Int) : Nd := if ws then .mk 2 5 c [] [] else .mk 2 2 [] c []
def kindK (ws : Bool) (c : List Int) : List Int := if ws then c else chunksP c
def kindP (ws : Bool) (c : List Int) : Pt := ⟨2, 0, 0, 0, if ws then 5 else 2, c.length, 0, false⟩
theorem dec_enc {p : Pt} (h : okP p) : decP (encR p) = p ∧ decE (encR p) = 0 := by
  have h1 := okP_ok p h
  have h2 := (encE_ok p h).2
  rw [h2]
  simp only [encOk, decide_eq_true_eq] at h1
  exact ⟨h1.2, h1.1⟩
theorem kind_right (ws : Bool) (c : List Int) (hc : c.length ≤ 100) : (kindN ws c).right 32 = true := by
  cases ws <;> simp [kindN, Nd.right, Nd.own, Nd.rights] <;> omega
theorem kindP_ok (ws : Bool) (c : List Int) (hc : c.length ≤ 100) : okP (kindP ws c) := by
  refine .inr (.inl ⟨rfl, ?_, ?_, ?_, ?_, ?_, ?_⟩) <;> cases ws <;> simp [kindP] <;> omega
theorem kindK_len (ws : Bool) (c : List Int) : ((kindK ws c).length : Int) = if ws then (c.length : Int) else ((c.length : Int) + 7) / 8 := by
  cases ws
  · simp [kindK, chunksP]
  · simp [kindK]
theorem kind_words (ws : Bool) (c : List Int) (hc : c.length ≤ 100) : wordsN (kindP ws c) = ((kindK ws c).length : Int) ∧ wordsE (kindP ws c) = 0 := by
  rw [kindK_len]
  cases ws
  · exact ⟨words_bytes _ (by omega) (by omega), rfl⟩
  · exact ⟨rfl, rfl⟩
theorem kind_need (ws : Bool) (c : List Int) : (kindN ws c).need = ((kindK ws c).length : Int) := by
  rw [kindK_len]
  cases ws <;> simp [kindN, Nd.need]
theorem kind_build (ws : Bool) (c : List Int) (hc : c.length ≤ 100) : (kindN ws c).build 200 = ([encR (kindP ws c) :: kindK ws c], 0) := by
  have hr := kind_right ws c hc
  have hn := kind_need ws c
  have hl := kindK_len ws c
  have hnear : (kindN ws c).near 0 = encR (kindP ws c) := by
    cases ws <;> simp [kindN, kindP, Nd.near, Nd.ptr]
  have hlay : (kindN ws c).lay 200 ⟨[[0]], false⟩ 0 0 = ⟨[encR (kindP ws c) :: kindK ws c], false⟩ := by
    by_cases h0 : (kindN ws c).need = 0
    · have hk : kindK ws c = [] := List.eq_nil_of_length_eq_zero (by omega)
      rw [hk, ← hnear]
      cases ws <;> (simp only [kindN, Bool.false_eq_true, if_false, if_true] at h0 ⊢; simp only [Nd.lay, Bool.false_eq_true, or_false]; rw [if_neg (by decide), if_pos h0]; rfl)
    · have key : ∀ (z : Int) (w b : List Int), (Nd.mk 2 z w b []).right 32 = true → ¬ (Nd.mk 2 z w b []).need = 0 → (Nd.mk 2 z w b []).need ≤ 100 → (Nd.mk 2 z w b []).lay 200 ⟨[[0]], false⟩ 0 0 = ⟨[(Nd.mk 2 z w b []).near 0 :: (Nd.mk 2 z w b []).content], false⟩ := by
        intro z w b h1 h2 h3
        rw [Nd.lay_step 200 ⟨32, h1⟩ (by decide) h2 (by simp; omega) (by simp; omega), Nd.lays]
        rfl
      have hb : (kindN ws c).need ≤ 100 := by rw [hn, hl]; split <;> omega
      rw [← hnear]
      cases ws
      · have := key 2 [] c hr h0 hb
        simpa [kindN, kindK, Nd.content] using this
      · have := key 5 c [] hr h0 hb
        simpa [kindN, kindK, Nd.content, chunksP] using this
  unfold Nd.build
  rw [if_neg (by rw [hr]; simp), hlay, if_neg (by simp)]
def kindA (ws : Bool) (c : List Int) : List (List Int) := [encR (kindP ws c) :: kindK ws c]
def kindO (ws : Bool) (c : List Int) : Ob := ⟨2, 0, 1, 0, 0, if ws then 5 else 2, c.length⟩
theorem chunkP_range {c : List Int} (hx : isU8 c) (j : Nat) : 0 ≤ chunkP c j ∧ chunkP c j ≤ 18446744073709551615 := by
  have h := getP_range ((c.drop (8 * j)).take 8) (fun x hx2 => hx x (List.mem_of_mem_drop (List.mem_of_mem_take hx2)))
  have hl : ((c.drop (8 * j)).take 8).length ≤ 8 := by rw [List.length_take]; omega
  have h2 : (256 : Int) ^ ((c.drop (8 * j)).take 8).length ≤ 256 ^ 8 := by
    generalize ((c.drop (8 * j)).take 8).length = n at hl
    have : n = 0 ∨ n = 1 ∨ n = 2 ∨ n = 3 ∨ n = 4 ∨ n = 5 ∨ n = 6 ∨ n = 7 ∨ n = 8 := by omega
    rcases this with rfl | rfl | rfl | rfl | rfl | rfl | rfl | rfl | rfl <;> decide
  have h3 : (256 : Int) ^ 8 = 18446744073709551616 := by decide
  unfold chunkP
  omega
theorem kindK_range {ws : Bool} {c : List Int} (hx : isU8 c) : ∀ x ∈ kindK ws c, inR .u64 x := by
  intro x hm
  cases ws
  · simp only [kindK, Bool.false_eq_true, if_false, chunksP] at hm
    obtain ⟨j, _, rfl⟩ := List.mem_map.1 hm
    have := chunkP_range hx j
    simp only [inR]
    omega
  · have := hx x hm
    simp only [inR] at this ⊢
    omega
theorem kind_ok {ws : Bool} {c : List Int} (hx : isU8 c) (hc : c.length ≤ 100) : OkA (kindA ws c) := by
  have hl := kindK_len ws c
  have hl2 : (kindK ws c).length ≤ 100 := by cases ws <;> simp at hl <;> omega
  refine ⟨by simp [kindA], by simp [kindA], by simp [kindA], by simp [kindA, totalP]; omega, ?_⟩
  intro q hq x hm
  simp only [kindA, List.mem_singleton] at hq
  subst hq
  rcases List.mem_cons.1 hm with h | h
  · rw [h, (encE_ok _ (kindP_ok ws c hc)).2]
    have := encW_range (kindP ws c)
    simp only [inR]
    omega
  · exact kindK_range hx x h
theorem kind_word (ws : Bool) (c : List Int) {a : Int} (h0 : 0 ≤ a) (h1 : a < (kindK ws c).length) : (wholeS (kindA ws c)).word 0 (1 + a) = ((kindK ws c).getD a.toNat 0, 0) := by
  show wordA _ _ _ = _
  unfold wordA
  rw [if_pos (by refine ⟨by decide, by simp [kindA], by omega, ?_⟩; simp [kindA, len2]; omega)]
  have : (1 + a).toNat = a.toNat + 1 := by omega
  rw [this]
  rfl
theorem kind_follow (ws : Bool) (c : List Int) (hc : c.length ≤ 100) : followS (wholeS (kindA ws c)) 0 0 = (kindO ws c, 0) := by
  obtain ⟨hd, he⟩ := dec_enc (kindP_ok ws c hc)
  have hp : ptrS (wholeS (kindA ws c)) 0 0 = (kindP ws c, 0) := by
    have hw : (wholeS (kindA ws c)).word 0 0 = (encR (kindP ws c), 0) := by
      show wordA _ _ _ = _
      unfold wordA
      rw [if_pos (by simp [kindA, len2])]
      rfl
    unfold ptrS
    rw [hw, if_neg (by simp), hd, he]
  have hk : (kindP ws c).kind = 2 := rfl
  have ho : (objP (kindP ws c) 0 (0 + 1 + (kindP ws c).off)) = kindO ws c := rfl
  have hpt : (kindO ws c).pt = kindP ws c := by cases ws <;> rfl
  obtain ⟨h1, h2⟩ := kind_words ws c hc
  unfold followS
  rw [hp, if_neg (by simp [hk]), if_pos (by simp [nearP, hk])]
  unfold foundS
  rw [ho, hpt, h2, h1, if_neg (by decide), if_neg ?_]
  have hz : (wholeS (kindA ws c)).sizes = [((kindK ws c).length : Int) + 1] := by simp [wholeS, kindA]
  have ho2 : (kindP ws c).off = 0 := rfl
  rw [hz, ho2]
  simp only [withinP, addOk, Bool.not_eq_false, Bool.and_eq_true, decide_eq_true_eq]
  refine ⟨by simp, by omega, by omega, ?_, ?_⟩ <;> simp <;> omega
theorem kindO_words (ws : Bool) (c : List Int) (hc : c.length ≤ 100) : wordsO (kindO ws c) = ((kindK ws c).length : Int) := by
  have hpt : (kindO ws c).pt = kindP ws c := by cases ws <;> rfl
  unfold wordsO
  rw [if_neg (by simp [kindO]), hpt, (kind_words ws c hc).1]
theorem kindK_small (ws : Bool) (c : List Int) (hc : c.length ≤ 100) : (kindK ws c).length ≤ 100 := by
  have hl := kindK_len ws c
  cases ws <;> simp at hl <;> omega
theorem kind_walk0 (ws : Bool) (c : List Int) (hc : c.length ≤ 100) (a : Int) : walkS (wholeS (kindA ws c)) [] a 500 = valS (wholeS (kindA ws c)) (kindO ws c) a := by
  have h := kindK_small ws c hc
  have hm : max (500 : Int) (-1) = 500 := by decide
  unfold walkS
  rw [if_neg (by simp), if_neg (by simp), kind_follow ws c hc, if_neg (by simp), hm]
  simp only []
  rw [kindO_words ws c hc, if_neg (by omega), nextS]
theorem kind_walk1 (ws : Bool) (c : List Int) (hc : c.length ≤ 100) (a : Int) : walkS (wholeS (kindA ws c)) [0] a 500 = (Vl0, 23) := by
  have h := kindK_small ws c hc
  have hm : max (500 : Int) (-1) = 500 := by decide
  have hs : stepS (wholeS (kindA ws c)) (kindO ws c) 0 = (kindO ws c, 23) := by
    unfold stepS
    rw [if_neg (by simp [kindO]), if_neg (by simp [kindO]), if_pos (by cases ws <;> simp [kindO])]
  unfold walkS
  rw [if_neg (by simp), if_neg (by simp), kind_follow ws c hc, if_neg (by simp), hm]
  simp only []
  rw [kindO_words ws c hc, if_neg (by omega), nextS, hs, if_pos (by show (23 : Int) ≠ 0; decide)]
theorem kind_is (ws : Bool) (c : List Int) : valS (wholeS (kindA ws c)) (kindO ws c) (-1) = (⟨2, if ws then 5 else 2, c.length, 0, 0⟩, 0) := by
  unfold valS
  rw [if_pos (by decide)]
  cases ws <;> rfl
theorem kind_beyond (ws : Bool) (c : List Int) {a : Int} (h0 : 0 ≤ a) (h : (c.length : Int) ≤ a) : valS (wholeS (kindA ws c)) (kindO ws c) a = (Vl0, 20) := by
  have hs : atS (wholeS (kindA ws c)) (kindO ws c) a = (0, 20) := by
    unfold atS
    rw [if_neg (by simp [kindO]), if_neg (by simp [kindO]), if_neg (by cases ws <;> simp [kindO]), if_pos (by simpa [kindO] using h)]
  unfold valS
  rw [if_neg (by omega), hs, if_pos (by decide)]
theorem getP_digit : ∀ (xs : List Int) (i : Nat), (∀ x ∈ xs, inR .u8 x) → i < xs.length → getP xs / 256 ^ i % 256 = xs.getD i 0
  | [], i, _, h => by simp at h
  | x :: xs, 0, hx, _ => by
    have := hx x (by simp)
    simp only [inR] at this
    simp only [getP, List.getD_cons_zero, Int.pow_zero, Int.ediv_one]
    omega
  | x :: xs, i + 1, hx, h => by
    have h1 := hx x (by simp)
    simp only [inR] at h1
    have h2 := getP_digit xs i (fun y hy => hx y (by simp [hy])) (by simpa using h)
    rw [List.getD_cons_succ, ← h2, Int.pow_succ, Int.mul_comm, ← Int.ediv_ediv_of_nonneg (by decide : (0 : Int) ≤ 256)]
    congr 2
    simp only [getP]
    omega
theorem chunk_digit {c : List Int} (hx : isU8 c) {i : Nat} (h : i < c.length) : chunkP c (i / 8) / 256 ^ (i % 8) % 256 = c.getD i 0 := by
  unfold chunkP
  rw [getP_digit _ _ (fun x hx2 => hx x (List.mem_of_mem_drop (List.mem_of_mem_take hx2))) (by rw [List.length_take, List.length_drop]; omega)]
  rw [List.getD_eq_getElem?_getD, List.getD_eq_getElem?_getD, List.getElem?_take_of_lt (by omega), List.getElem?_drop, show 8 * (i / 8) + i % 8 = i from by omega]
theorem pow_8 (n : Nat) : (2 : Int) ^ (n * 8) = 256 ^ n := by rw [Nat.mul_comm, Int.pow_mul]; rfl
theorem kind_at {ws : Bool} {c : List Int} (hx : isU8 c) {i : Nat} (h : i < c.length) (hc : c.length ≤ 100) : valS (wholeS (kindA ws c)) (kindO ws c) (i : Int) = (⟨2, 0, 0, 0, c.getD i 0⟩, 0) := by
  have hl := kindK_len ws c
  have hs : atS (wholeS (kindA ws c)) (kindO ws c) (i : Int) = (c.getD i 0, 0) := by
    unfold atS
    rw [if_neg (by simp [kindO]), if_neg (by simp [kindO]), if_neg (by cases ws <;> simp [kindO]), if_neg (by simp [kindO]; omega)]
    cases ws
    · rw [if_neg (by simp [kindO])]
      simp only [Bool.false_eq_true, if_false] at hl
      have hw := kind_word false c (a := ((i / 8 : Nat) : Int)) (by omega) (by omega)
      have he : (kindO false c).at_ + (i : Int) / 8 = 1 + ((i / 8 : Nat) : Int) := by simp [kindO]
      have hk : (kindK false c).getD (i / 8) 0 = chunkP c (i / 8) := by
        have hlt : i / 8 < (c.length + 7) / 8 := by omega
        rw [List.getD_eq_getElem?_getD]
        simp [kindK, chunksP, hlt]
      have hm : ((i : Int) % 8 * 8).toNat = i % 8 * 8 := by omega
      rw [he]
      show ((((wholeS (kindA false c)).word 0 _).1 / _) % 256, ((wholeS (kindA false c)).word 0 _).2) = _
      rw [hw, hm, pow_8]
      simp only [Int.toNat_natCast]
      rw [hk, chunk_digit hx h]
    · rw [if_pos (by simp [kindO])]
      have hw := kind_word true c (a := (i : Int)) (by omega) (by rw [hl]; simp; omega)
      show (wholeS (kindA true c)).word 0 (1 + (i : Int)) = _
      rw [hw, Int.toNat_natCast]
      rfl
  unfold valS
  rw [if_neg (by omega), hs, if_neg (by simp)]
  rfl
end Go.Proofs.Ytfhfecepcnapfaa.K
namespace Go.Proofs.Ytfhfecepcnapfaa.K
open Go Go.RowKit
/-- A word that says a pointer. -/
def Says (x : Int) (p : Pt) : Prop := decP x = p ∧ decE x = 0
theorem says_enc {p : Pt} (h : okP p) : Says (encR p) p := dec_enc h
theorem ptrS_says {s : Src} {seg a x : Int} {p : Pt} (hp : Says x p) (hw : s.word seg a = (x, 0)) : ptrS s seg a = (p, 0) := by
  unfold ptrS
  rw [hw, if_neg (by simp), hp.1, hp.2]
def oneP (k : Int) : Pt := ⟨1, k, 1, 0, 0, 0, 0, false⟩
def farQ (s : Int) (d : Bool) : Pt := ⟨3, 0, 0, 0, 0, 0, s, d⟩
def oneO (seg a : Int) : Ob := ⟨1, seg, a, 1, 0, 0, 0⟩
theorem oneP_ok {k : Int} (h0 : 0 ≤ k) (h1 : k ≤ 20) : okP (oneP k) := .inl ⟨rfl, by simp [oneP]; omega, by simp [oneP]; omega, by simp [oneP], by simp [oneP], by simp [oneP], by simp [oneP], by simp [oneP]⟩
theorem farQ_ok {s : Int} (d : Bool) (h0 : 0 ≤ s) (h1 : s ≤ 20) : okP (farQ s d) := .inr (.inr (.inl ⟨rfl, by simp [farQ], by simp [farQ], by simp [farQ]; omega, by simp [farQ]; omega⟩))
theorem found_one {s : Src} {k seg a : Int} (hw : withinP s.sizes seg a 1 = true) : foundS s (oneP k) seg a = (oneO seg a, 0) := by
  have h1 : wordsE (objP (oneP k) seg a).pt = 0 := rfl
  have h2 : wordsN (objP (oneP k) seg a).pt = 1 := rfl
  unfold foundS
  rw [h1, h2, hw, if_neg (by decide), if_neg (by decide)]
  rfl
theorem walk_one {s : Src} {seg a w : Int} (hf : followS s 0 0 = (oneO seg a, 0)) (hw : s.word seg a = (w, 0)) : walkS s [] 0 9 = (⟨1, 0, 0, 0, w⟩, 0) := by
  have h1 : wordsO (oneO seg a) = 1 := rfl
  have hm : max (9 : Int) (-1) = 9 := by decide
  have hs : atS s (oneO seg a) 0 = (w, 0) := by
    unfold atS
    rw [if_neg (by simp [oneO]), if_pos (by simp [oneO])]
    show s.word seg (a + 0) = _
    rw [Int.add_zero, hw]
  unfold walkS
  rw [if_neg (by simp), if_neg (by simp), hf, if_neg (by simp), hm]
  simp only []
  rw [h1, if_neg (by decide), nextS]
  unfold valS
  rw [if_neg (by decide), hs, if_neg (by simp)]
  rfl
theorem follow_near {s : Src} {k seg a x : Int} (hx : Says x (oneP k)) (h0 : s.word seg a = (x, 0)) (hw : withinP s.sizes seg (a + 1 + k) 1 = true) : followS s seg a = (oneO seg (a + 1 + k), 0) := by
  have hp := ptrS_says hx h0
  have e1 : (ptrS s seg a).1 = oneP k := by rw [hp]
  have e2 : (ptrS s seg a).2 = 0 := by rw [hp]
  unfold followS
  rw [e1, e2]
  refine (if_neg (by simp [oneP])).trans ((if_pos (by simp [nearP, oneP])).trans ?_)
  exact found_one hw
theorem follow_far {s : Src} {k seg x y : Int} (hy : Says y (farQ seg false)) (hx : Says x (oneP k)) (h0 : s.word 0 0 = (y, 0)) (h1 : s.word seg 0 = (x, 0)) (hw : withinP s.sizes seg (0 + 1 + k) 1 = true) : followS s 0 0 = (oneO seg (0 + 1 + k), 0) := by
  have hp := ptrS_says hy h0
  have hq := ptrS_says hx h1
  have e1 : (ptrS s 0 0).1 = farQ seg false := by rw [hp]
  have e2 : (ptrS s 0 0).2 = 0 := by rw [hp]
  have f1 : (ptrS s seg 0).1 = oneP k := by rw [hq]
  have f2 : (ptrS s seg 0).2 = 0 := by rw [hq]
  unfold followS
  rw [e1, e2]
  refine (if_neg (by simp [farQ])).trans ((if_neg (by simp [nearP, farQ])).trans ((if_neg (by simp [farQ])).trans ?_))
  unfold landedS
  have g1 : (farQ seg false).seg = seg := rfl
  have g2 : (farQ seg false).off = 0 := rfl
  rw [g1, g2, f1, f2]
  refine (if_neg (by decide)).trans ((if_neg (by simp [nearP, oneP])).trans ?_)
  exact found_one hw
theorem follow_twice {s : Src} {x y z : Int} (hy : Says y (farQ 1 true)) (hz : Says z (farQ 2 false)) (hx : Says x (oneP 0)) (h0 : s.word 0 0 = (y, 0)) (h1 : s.word 1 0 = (z, 0)) (h2 : s.word 1 1 = (x, 0)) (hw : withinP s.sizes 2 0 1 = true) : followS s 0 0 = (oneO 2 0, 0) := by
  have hp := ptrS_says hy h0
  have e1 : (ptrS s 0 0).1 = farQ 1 true := by rw [hp]
  have e2 : (ptrS s 0 0).2 = 0 := by rw [hp]
  unfold followS
  rw [e1, e2]
  refine (if_neg (by simp [farQ])).trans ((if_neg (by simp [nearP, farQ])).trans ((if_pos (by simp [farQ])).trans ?_))
  unfold twiceS
  have g1 : (farQ 1 true).seg = 1 := rfl
  have g2 : (farQ 1 true).off = 0 := rfl
  rw [g1, g2, show ((0 : Int) + 1) = 1 from rfl, h1, h2]
  refine (if_neg (by simp)).trans ((if_neg (by simp)).trans ?_)
  show (if decE z ≠ 0 then _ else if decE x ≠ 0 then _ else _) = _
  rw [hz.2, hx.2, hz.1, hx.1]
  refine (if_neg (by decide)).trans ((if_neg (by decide)).trans ((if_neg (by simp [nearP, oneP, farQ])).trans ?_))
  exact found_one hw
/-! ### the three arenas -/
def farSeg (k : Nat) (x w : Int) : List Int := (x :: List.replicate k 0) ++ [w]
def farA (k : Nat) (x w : Int) : List (List Int) := [farSeg k x w]
def farB (k : Nat) (y x w : Int) : List (List Int) := [[y], farSeg k x w]
def farC (y z x w : Int) : List (List Int) := [[y], [z, x], [w]]
theorem farSeg_len (k : Nat) (x w : Int) : (farSeg k x w).length = k + 2 := by simp [farSeg]
theorem farSeg_last (k : Nat) (x w : Int) : (farSeg k x w).getD (k + 1) 0 = w := by simp [farSeg, List.getD_eq_getElem?_getD]
theorem word_at {A : List (List Int)} {s i : Nat} (hs : s < A.length) (hi : i < len2 A s) : wordA A (s : Int) (i : Int) = ((A.getD s []).getD i 0, 0) := by
  unfold wordA
  rw [if_pos (by refine ⟨by omega, by omega, by omega, ?_⟩; rw [Int.toNat_natCast]; omega)]
  simp only [Int.toNat_natCast]
theorem farA_walk {k : Nat} (hk : k ≤ 20) {x w : Int} (hx : Says x (oneP k)) : walkS (wholeS (farA k x w)) [] 0 9 = (⟨1, 0, 0, 0, w⟩, 0) := by
  have hl := farSeg_len k x w
  have h0 : wordA (farA k x w) ((0 : Nat) : Int) ((0 : Nat) : Int) = (x, 0) := word_at (A := farA k x w) (s := 0) (i := 0) (by simp [farA]) (by simp [farA, len2, hl])
  have h1 : wordA (farA k x w) ((0 : Nat) : Int) ((k + 1 : Nat) : Int) = (w, 0) := by
    rw [word_at (A := farA k x w) (s := 0) (i := k + 1) (by simp [farA]) (by simp [farA, len2, hl])]
    rw [show (farA k x w).getD 0 [] = farSeg k x w from rfl, farSeg_last]
  rw [show ((k + 1 : Nat) : Int) = 0 + 1 + (k : Int) from by omega] at h1
  exact walk_one (follow_near hx h0 (by simp [withinP, addOk, wholeS, farA, hl]; omega)) h1
theorem farB_walk {k : Nat} (hk : k ≤ 20) {y x w : Int} (hy : Says y (farQ 1 false)) (hx : Says x (oneP k)) : walkS (wholeS (farB k y x w)) [] 0 9 = (⟨1, 0, 0, 0, w⟩, 0) := by
  have hl := farSeg_len k x w
  have h0 : wordA (farB k y x w) ((0 : Nat) : Int) ((0 : Nat) : Int) = (y, 0) := word_at (A := farB k y x w) (s := 0) (i := 0) (by simp [farB]) (by simp [farB, len2])
  have h2 : wordA (farB k y x w) ((1 : Nat) : Int) ((0 : Nat) : Int) = (x, 0) := word_at (A := farB k y x w) (s := 1) (i := 0) (by simp [farB]) (by simp [farB, len2, hl])
  have h1 : wordA (farB k y x w) ((1 : Nat) : Int) ((k + 1 : Nat) : Int) = (w, 0) := by
    rw [word_at (A := farB k y x w) (s := 1) (i := k + 1) (by simp [farB]) (by simp [farB, len2, hl])]
    rw [show (farB k y x w).getD 1 [] = farSeg k x w from rfl, farSeg_last]
  rw [show ((k + 1 : Nat) : Int) = 0 + 1 + (k : Int) from by omega] at h1
  exact walk_one (follow_far hy hx h0 h2 (by simp [withinP, addOk, wholeS, farB, hl]; omega)) h1
theorem farC_walk {y z x w : Int} (hy : Says y (farQ 1 true)) (hz : Says z (farQ 2 false)) (hx : Says x (oneP 0)) : walkS (wholeS (farC y z x w)) [] 0 9 = (⟨1, 0, 0, 0, w⟩, 0) :=
  walk_one (follow_twice hy hz hx (word_at (A := farC y z x w) (s := 0) (i := 0) (by simp [farC]) (by simp [farC, len2])) (word_at (A := farC y z x w) (s := 1) (i := 0) (by simp [farC]) (by simp [farC, len2])) (word_at (A := farC y z x w) (s := 1) (i := 1) (by simp [farC]) (by simp [farC, len2])) (by simp [withinP, addOk, wholeS, farC])) (word_at (A := farC y z x w) (s := 2) (i := 0) (by simp [farC]) (by simp [farC, len2]))
theorem farSeg_num {k : Nat} {x w : Int} (hx : inR .u64 x) (hw : inR .u64 w) : ∀ y ∈ farSeg k x w, inR .u64 y := by
  intro y hy
  simp only [farSeg, List.cons_append, List.mem_cons, List.mem_append, List.mem_replicate, List.not_mem_nil, or_false] at hy
  rcases hy with rfl | ⟨-, rfl⟩ | rfl
  · exact hx
  · simp [inR]
  · exact hw
theorem farA_ok {k : Nat} (hk : k ≤ 20) {x w : Int} (hx : inR .u64 x) (hw : inR .u64 w) : OkA (farA k x w) := by
  have hl := farSeg_len k x w
  refine ⟨by simp [farA], by simp [farA], by simp [farA, hl], by simp [farA, totalP, hl]; omega, ?_⟩
  intro q hq
  simp only [farA, List.mem_singleton] at hq
  subst hq
  exact farSeg_num hx hw
theorem farB_ok {k : Nat} (hk : k ≤ 20) {y x w : Int} (hy : inR .u64 y) (hx : inR .u64 x) (hw : inR .u64 w) : OkA (farB k y x w) := by
  have hl := farSeg_len k x w
  refine ⟨by simp [farB], by simp [farB], by simp [farB], by simp [farB, totalP, hl]; omega, ?_⟩
  intro q hq
  simp only [farB, List.mem_cons, List.not_mem_nil, or_false] at hq
  rcases hq with rfl | rfl
  · intro z hz; simp only [List.mem_singleton] at hz; subst hz; exact hy
  · exact farSeg_num hx hw
theorem farC_ok {y z x w : Int} (hy : inR .u64 y) (hz : inR .u64 z) (hx : inR .u64 x) (hw : inR .u64 w) : OkA (farC y z x w) := by
  refine ⟨by simp [farC], by simp [farC], by simp [farC], by simp [farC, totalP], ?_⟩
  intro q hq v hv
  simp only [farC, List.mem_cons, List.not_mem_nil, or_false] at hq
  rcases hq with rfl | rfl | rfl <;> simp only [List.mem_cons, List.not_mem_nil, or_false] at hv
  · subst hv; exact hy
  · rcases hv with rfl | rfl
    · exact hz
    · exact hx
  · subst hv; exact hw
/-- A made row is a block. -/
theorem own_made {w : World} {base b n : Nat} {T : TypeId} {xs : List Value} (h : w.ownsRow base T 1 (.slice (some ⟨b, 0, none⟩) n n) n xs) : base ≤ b ∧ ∃ cur : Array Value, w.heap[b]? = some (.cells cur T (0, 0)) ∧ cur.size = n ∧ cur.toList = xs := by
  obtain ⟨h0, h1⟩ := h
  rcases h1 with ⟨h1, -⟩ | ⟨q, cap, cur, hv, hq, hg, h1, h2, h3, h4⟩
  · simp at h1
  · simp only [Value.slice.injEq, Option.some.injEq, Addr.mk.injEq, and_true, true_and] at hv
    obtain ⟨rfl, rfl⟩ := hv
    refine ⟨hq, cur, hg, by omega, ?_⟩
    rw [← h4, List.take_of_length_le (by rw [Array.length_toList]; omega)]
theorem encR_u64 (p : Pt) : inR .u64 (encR p) := by
  obtain ⟨h0, h1⟩ := encW_range p
  unfold encR
  split
  · exact ⟨h0, h1⟩
  · simp [inR]
theorem farSeg_cells (k : Nat) (x w : Int) : (wordsV (farSeg k x w)).length = (k + 2) * 1 := by simp [wordsV, farSeg]
theorem far_cells (k : Nat) (x w : Int) : ((((List.replicate (k + 2) (Value.int .u64 0)).set 0 (.int .u64 x)).set (k + 1) (.int .u64 w))) = wordsV (farSeg k x w) := by
  have h1 : ∀ (k : Nat) (v z : Value), (List.replicate (k + 1) z).set k v = List.replicate k z ++ [v] := by
    intro k v z
    induction k with
    | zero => rfl
    | succ k ih => rw [List.replicate_succ, List.set_cons_succ, ih, List.replicate_succ, List.cons_append]
  rw [List.replicate_succ, List.set_cons_zero, List.set_cons_succ, h1]
  simp [wordsV, farSeg]
theorem arena_two {w : World} {b : Nat} {u v : Value} {q r : List Int} {T : TypeId} {fr : Nat × Nat} (hb : w.heap[b]? = some (.cells #[u, v] T fr)) (hu : Row w 1 u q.length (wordsV q)) (hv : Row w 1 v r.length (wordsV r)) : ArenaR w (.slice (some ⟨b, 0, none⟩) 2 2) [q, r] := by
  refine ⟨[u, v], Row.of_block (n := 2) hb rfl rfl (by decide), fun i s hi => ?_⟩
  cases i with
  | zero => simp only [List.getElem?_cons_zero, Option.some.injEq] at hi; subst hi; exact ⟨u, rfl, hu⟩
  | succ i => cases i with
    | zero => simp only [List.getElem?_cons_succ, List.getElem?_cons_zero, Option.some.injEq] at hi; subst hi; exact ⟨v, rfl, hv⟩
    | succ i => simp at hi
theorem arena_three {w : World} {b : Nat} {u v t : Value} {q r s : List Int} {T : TypeId} {fr : Nat × Nat} (hb : w.heap[b]? = some (.cells #[u, v, t] T fr)) (hu : Row w 1 u q.length (wordsV q)) (hv : Row w 1 v r.length (wordsV r)) (ht : Row w 1 t s.length (wordsV s)) : ArenaR w (.slice (some ⟨b, 0, none⟩) 3 3) [q, r, s] := by
  refine ⟨[u, v, t], Row.of_block (n := 3) hb rfl rfl (by decide), fun i s hi => ?_⟩
  cases i with
  | zero => simp only [List.getElem?_cons_zero, Option.some.injEq] at hi; subst hi; exact ⟨u, rfl, hu⟩
  | succ i => cases i with
    | zero => simp only [List.getElem?_cons_succ, List.getElem?_cons_zero, Option.some.injEq] at hi; subst hi; exact ⟨v, rfl, hv⟩
    | succ i => cases i with
      | zero => simp only [List.getElem?_cons_succ, List.getElem?_cons_zero, Option.some.injEq] at hi; subst hi; exact ⟨t, rfl, ht⟩
      | succ i => simp at hi
end Go.Proofs.Ytfhfecepcnapfaa.K
namespace Go.Proofs.Ytfhfecepcnapfaa.K
open Go Go.RowKit
def known10 : Nd := .mk 1 0 [7] [] []
theorem known10_ask : askT known10 [] 0 = (⟨1, 0, 0, 0, 7⟩, 0) := by decide +kernel
theorem dec_of {x : Int × Nd × Int} {p : Int} {t : Nd} {e : Int} (h : (decide (x.1 = p) && x.2.1.beq t && decide (x.2.2 = e)) = true) : x = (p, t, e) := by
  simp only [Bool.and_eq_true, decide_eq_true_eq, Nd.beq_iff] at h
  obtain ⟨⟨h1, h2⟩, h3⟩ := h
  exact Prod.ext h1 (Prod.ext h2 h3)
theorem known10_dec : nodeD (wholeS known9) 32 0 0 0 = (2, known10, 0) := dec_of (by decide +kernel)
theorem known10_cost : known10.cost = 2 := by decide +kernel
theorem beq_self (t : Nd) : t.beq t = true := (Nd.beq_iff _ _).2 rfl
/-! ### nothing -/
theorem zeros_ok {m : Nat} (h0 : 1 ≤ m) (h1 : m ≤ 4000) : OkA (noughts m) := by
  refine ⟨by simp [noughts], by simp [noughts], by simp [noughts]; omega, by simp [noughts, totalP]; omega, ?_⟩
  intro q hq x hx
  simp only [noughts, List.mem_singleton] at hq
  subst hq
  have := List.eq_of_mem_replicate hx
  subst this
  simp [inR]
theorem zeros_dec {m : Nat} (h0 : 1 ≤ m) : nodeD (wholeS (noughts m)) 32 0 0 0 = (1, .nil, 0) := by
  have hw : wordA (noughts m) 0 0 = (0, 0) := by
    unfold wordA
    rw [if_pos (by simp [noughts, len2]; omega)]
    simp [noughts, List.getD_eq_getElem?_getD]
    cases m with
    | zero => omega
    | succ m => simp [List.replicate_succ]
  have hf := follow_null (A := noughts m) (by rw [hw]) (by rw [hw])
  rw [nodeD_eq]
  unfold nodeK
  rw [hf]
  rfl
theorem ask_beyond (x : Nd) {k a : Int} (hk : 1 ≤ k) (ha : 0 ≤ a) : askT (.mk 1 0 [] [] [x]) [k] a = (Vl0, 0) := by
  have h1 : tstep (.mk 1 0 [] [] [x]) k = (.nil, 0) := by
    rw [tstep_mk, if_neg (by omega), if_neg (by simp; omega), if_neg (by omega)]
  have h2 : tat .nil a = (0, 0) := by
    unfold Nd.nil
    rw [tat_mk, if_neg (by omega), if_neg (by omega), if_neg (by omega), if_neg (by omega)]
  have h3 : tgo [k] (.mk 1 0 [] [] [x]) = (.nil, 0) := by
    rw [tgo, h1, if_neg (by simp)]
    rfl
  unfold askT
  rw [if_neg (by simp; omega), if_neg (by simp), h3, if_neg (by simp), tval, if_neg (by omega), h2, if_neg (by simp)]
  rfl
theorem ask_first (x : Nd) : askT (.mk 1 0 [] [] [x]) [0] (-1) = (⟨x.kind, x.size, (x.words.length : Int) + x.bytes.length, x.kids.length, 0⟩, 0) := by
  have h1 : tstep (.mk 1 0 [] [] [x]) 0 = (x, 0) := by
    rw [tstep_mk, if_neg (by omega), if_pos (by simp)]
    rfl
  have h3 : tgo [0] (.mk 1 0 [] [] [x]) = (x, 0) := by
    rw [tgo, h1, if_neg (by simp)]
    rfl
  unfold askT
  rw [if_neg (by simp), if_neg (by simp), h3, if_neg (by simp), tval, if_pos (by omega)]
end Go.Proofs.Ytfhfecepcnapfaa.K
namespace Go.Proofs.Ytfhfecepcnapfaa.K
open Go Go.RowKit
def zeroC : List Value := [.int .i64 0, .int .i64 0, .slice none 0 0, .slice none 0 0, .slice none 0 0]
/-- The cells of what a step leads to. -/
def stepC (kc : List Value) (t : Nd) (k : Int) : List Value :=
  if (t.kind ≠ 0 ∧ t.kind ≠ 1) ∧ t.size ≠ 6 then zeroC else if t.kind ≠ 0 ∧ k < t.kids.length then (kc.drop (k.toNat * 5)).take 5 else zeroC
theorem stepC_node {w : World} {kc : List Value} {t : Nd} {k : Int} (h : KidsR w kc t.kids) (k0 : 0 ≤ k) : NodeR w (stepC kc t k) (tstep t k).1 := by
  unfold stepC tstep
  by_cases h1 : (t.kind ≠ 0 ∧ t.kind ≠ 1) ∧ t.size ≠ 6
  · rw [if_pos h1, if_pos h1]; exact NodeR.zero _
  · rw [if_neg h1, if_neg h1]
    by_cases h2 : t.kind ≠ 0 ∧ k < t.kids.length
    · rw [if_pos h2, if_pos h2]
      have hk : k.toNat < t.kids.length := by omega
      have := KidsR.at_ k.toNat t.kids[k.toNat] h (List.getElem?_eq_getElem hk)
      rw [← getD_at (dflt := Nd.nil) hk] at this
      exact this
    · rw [if_neg h2, if_neg h2]
      split <;> exact NodeR.zero _
theorem stepC_mk (kc : List Value) (k s : Int) (w b : List Int) (ks : List Nd) (i : Int) : stepC kc (.mk k s w b ks) i = if (k ≠ 0 ∧ k ≠ 1) ∧ s ≠ 6 then zeroC else if k ≠ 0 ∧ i < ks.length then (kc.drop (i.toNat * 5)).take 5 else zeroC := rfl
/-! ### paths behind a step -/
def behindP (pre : List Int) (p : List Int × Int) : List Int × Int := (pre ++ p.1, p.2)
mutual
theorem paths_behind : ∀ (t : Nd) (pre q : List Int), t.paths (pre ++ q) = (t.paths q).map (behindP pre)
  | .mk k s w b ks, pre, q => by
    rw [Nd.paths, Nd.paths, List.map_append, List.map_map, pathsL_behind ks pre q 0]
    rfl
theorem pathsL_behind : ∀ (ks : List Nd) (pre q : List Int) (j : Nat), Nd.pathsL ks (pre ++ q) j = (Nd.pathsL ks q j).map (behindP pre)
  | [], _, _, _ => rfl
  | t :: ts, pre, q, j => by
    rw [Nd.pathsL, Nd.pathsL, List.map_append, pathsL_behind ts pre q (j + 1), List.append_assoc, paths_behind t pre (q ++ [(j : Int)])]
end
theorem paths_step (t : Nd) (j : Int) : t.paths [j] = (t.paths []).map (behindP [j]) := paths_behind t [j] []
theorem NodeR.kidsrow2 {w : World} {y0 y1 : Int} {ya za ua : Option Addr} {yn yc zn zc un uc : Nat} {u : Nd} (h : NodeR w [.int .i64 y0, .int .i64 y1, .slice ya yn yc, .slice za zn zc, .slice ua un uc] u) : ∃ kc, RowAt w 5 ua un kc ∧ KidsR w kc u.kids := by
  cases u with
  | mk k s ws bs ks => exact h.kidsrow
end Go.Proofs.Ytfhfecepcnapfaa.K
namespace Go.Proofs.Ytfhfecepcnapfaa.K
open Go Go.RowKit
/-- What is found where something of its own kind lies. -/
inductive Own2 (k z : Int) (w b : List Int) (ks : List Nd) (q a : Int) : Prop where
  | st (h1 : k = 1) (h2 : z = 0) (h3 : b = []) (h4 : objP ((Nd.mk k z w b ks).ptr 0) q a = ⟨1, q, a, w.length, ks.length, 0, 0⟩) (h5 : (Nd.mk k z w b ks).need = (w.length : Int) + ks.length) (h6 : w.length ≤ 100 ∧ ks.length ≤ 100)
  | bt (h1 : k = 2) (h2 : z = 2) (h3 : w = []) (h4 : ks = []) (h5 : objP ((Nd.mk k z w b ks).ptr 0) q a = ⟨2, q, a, 0, 0, 2, b.length⟩) (h6 : (Nd.mk k z w b ks).need = ((b.length : Int) + 7) / 8) (h7 : b.length ≤ 4096)
  | wd (h1 : k = 2) (h2 : z = 5) (h3 : b = []) (h4 : ks = []) (h5 : objP ((Nd.mk k z w b ks).ptr 0) q a = ⟨2, q, a, 0, 0, 5, w.length⟩) (h6 : (Nd.mk k z w b ks).need = (w.length : Int)) (h7 : w.length ≤ 4096)
  | pt (h1 : k = 2) (h2 : z = 6) (h3 : w = []) (h4 : b = []) (h5 : objP ((Nd.mk k z w b ks).ptr 0) q a = ⟨2, q, a, 0, 0, 6, ks.length⟩) (h6 : (Nd.mk k z w b ks).need = (ks.length : Int)) (h7 : ks.length ≤ 4096)
theorem own2 {k z : Int} {w b : List Int} {ks : List Nd} (ho : (Nd.mk k z w b ks).own = true) (hk : ¬ k = 0) (q a : Int) : Own2 k z w b ks q a := by
  simp only [Nd.own, if_neg hk] at ho
  split at ho
  · rename_i h1
    simp only [Bool.and_eq_true, decide_eq_true_eq] at ho
    obtain ⟨h2, h3, h4⟩ := ho
    have hb : b = [] := List.eq_nil_of_length_eq_zero (by omega)
    have hm : w.length ≤ 100 ∧ ks.length ≤ 100 := by split at h4 <;> omega
    subst hb
    subst h1
    exact .st rfl h2 rfl (by simp [Nd.ptr, objP]) (by simp [Nd.need]) hm
  · split at ho
    · rename_i h1 h2
      subst h2
      split at ho
      · rename_i h3
        simp only [Bool.and_eq_true, decide_eq_true_eq] at ho
        have hw : w = [] := List.eq_nil_of_length_eq_zero (by omega)
        have hks : ks = [] := List.eq_nil_of_length_eq_zero (by omega)
        subst hw; subst hks; subst h3
        exact .bt rfl rfl rfl rfl (by simp [Nd.ptr, objP]) (by simp [Nd.need]) (by omega)
      · split at ho
        · rename_i h3
          simp only [Bool.and_eq_true, decide_eq_true_eq] at ho
          have hb : b = [] := List.eq_nil_of_length_eq_zero (by omega)
          have hks : ks = [] := List.eq_nil_of_length_eq_zero (by omega)
          subst hb; subst hks; subst h3
          exact .wd rfl rfl rfl rfl (by simp [Nd.ptr, objP]) (by simp [Nd.need]) (by omega)
        · split at ho
          · rename_i h3
            simp only [Bool.and_eq_true, decide_eq_true_eq] at ho
            have hb : b = [] := List.eq_nil_of_length_eq_zero (by omega)
            have hw : w = [] := List.eq_nil_of_length_eq_zero (by omega)
            subst hb; subst hw; subst h3
            exact .pt rfl rfl rfl rfl (by simp [Nd.ptr, objP]) (by simp [Nd.need]) (by omega)
          · cases ho
    · cases ho
theorem wordsN_ob (o : Ob) : wordsN o.pt = wordsN ⟨o.kind, 0, o.data, o.ptrs, o.size, o.count, 0, false⟩ := rfl
theorem wordsE_ob (o : Ob) : wordsE o.pt = wordsE ⟨o.kind, 0, o.data, o.ptrs, o.size, o.count, 0, false⟩ := rfl
end Go.Proofs.Ytfhfecepcnapfaa.K
namespace Go.Proofs.Ytfhfecepcnapfaa.K
open Go Go.RowKit
theorem pathsL_mem : ∀ {ks : List Nd} {pre : List Int} {j0 : Nat} {p : List Int × Int}, p ∈ Nd.pathsL ks pre j0 → ∃ (k : Nat) (h : k < ks.length), p ∈ ks[k].paths (pre ++ [((j0 + k : Nat) : Int)])
  | [], pre, j0, p, h => by simp [Nd.pathsL] at h
  | t :: ts, pre, j0, p, h => by
    rw [Nd.pathsL, List.mem_append] at h
    rcases h with h | h
    · exact ⟨0, by simp, by simpa using h⟩
    · obtain ⟨k, hk, h2⟩ := pathsL_mem h
      refine ⟨k + 1, by simpa using hk, ?_⟩
      rw [show j0 + 1 + k = j0 + (k + 1) from by omega] at h2
      simpa using h2
theorem paths_mem {k s : Int} {w b : List Int} {ks : List Nd} {pre : List Int} {p : List Int × Int} (h : p ∈ (Nd.mk k s w b ks).paths pre) : (p.1 = pre ∧ -1 ≤ p.2 ∧ p.2 < (w.length : Int) + b.length) ∨ ∃ (j : Nat) (hj : j < ks.length), p ∈ ks[j].paths (pre ++ [(j : Int)]) := by
  rw [Nd.paths, List.mem_append, List.mem_map] at h
  rcases h with ⟨i, hi, rfl⟩ | h
  · rw [List.mem_range] at hi
    exact .inl ⟨rfl, by simp only []; omega, by simp only []; omega⟩
  · obtain ⟨j, hj, h2⟩ := pathsL_mem h
    exact .inr ⟨j, hj, by simpa using h2⟩
theorem rights_get {ks : List Nd} {l j : Nat} (h : Nd.rights ks l = true) (hj : j < ks.length) : ks[j].right l = true := rights_iff.1 h _ (List.getElem_mem hj)
theorem step_kid {k s : Int} {w b : List Int} {ks : List Nd} (ho : (Nd.mk k s w b ks).own = true) {j : Nat} (hj : j < ks.length) : tstep (.mk k s w b ks) (j : Int) = (ks[j], 0) := by
  have hk : ¬ k = 0 := fun h => by have := own_kids ho (by omega); rw [this] at hj; simp at hj
  have hg : ks.getD ((j : Int)).toNat .nil = ks[j] := by rw [Int.toNat_natCast]; exact getD_at hj
  cases own2 ho hk 0 0 with
  | st h1 h2 h3 h4 h5 h6 => rw [tstep_mk, if_neg (by omega), if_pos (by omega), hg]
  | bt h1 h2 h3 h4 h5 h6 h7 => rw [h4] at hj; simp at hj
  | wd h1 h2 h3 h4 h5 h6 h7 => rw [h4] at hj; simp at hj
  | pt h1 h2 h3 h4 h5 h6 h7 => rw [tstep_mk, if_neg (by omega), if_pos (by omega), hg]
theorem at_word {k s : Int} {w b : List Int} {ks : List Nd} (ho : (Nd.mk k s w b ks).own = true) {a : Int} (h0 : 0 ≤ a) (h1 : a < (w.length : Int) + b.length) : (tat (.mk k s w b ks) a).2 = 0 := by
  have hk : ¬ k = 0 := fun h => by
    simp only [Nd.own, if_pos h, Bool.and_eq_true, decide_eq_true_eq] at ho
    omega
  cases own2 ho hk 0 0 with
  | st g1 g2 g3 g4 g5 g6 => subst g3; simp at h1; rw [tat_mk, if_neg (by omega), if_pos (by omega)]
  | bt g1 g2 g3 g4 g5 g6 g7 => subst g3; simp at h1; rw [tat_mk, if_neg (by omega), if_neg (by simp; omega), if_pos (by omega)]
  | wd g1 g2 g3 g4 g5 g6 g7 => subst g3; simp at h1; rw [tat_mk, if_neg (by omega), if_pos (by omega)]
  | pt g1 g2 g3 g4 g5 g6 g7 => subst g3; subst g4; simp at h1; omega
mutual
theorem paths_go : ∀ (t : Nd) (l : Nat) (pre : List Int) (p : List Int × Int), t.right l = true → p ∈ t.paths pre → ∃ r u, p.1 = pre ++ r ∧ (∀ x ∈ r, 0 ≤ x) ∧ r.length < t.dep ∧ tgo r t = (u, 0) ∧ u.own = true ∧ -1 ≤ p.2 ∧ p.2 < (u.words.length : Int) + u.bytes.length
  | .mk k s w b ks, l, pre, p, hr, h => by
    have hf := Nd.fine_own ⟨l, hr⟩
    simp only [Nd.right, Bool.and_eq_true] at hr
    rcases paths_mem h with ⟨h1, h2, h3⟩ | ⟨j, hj, h1⟩
    · exact ⟨[], _, by simpa using h1, by simp, by rw [Nd.dep]; simp; omega, rfl, hf, h2, h3⟩
    · obtain ⟨r, u, g1, g2, g3, g4, g5, g6, g7⟩ := pathsL_go ks (l - 1) j hj (pre ++ [(j : Int)]) p hr.2 h1
      have hd := depL_kid (k := k) (s := s) (w := w) (b := b) hj
      refine ⟨(j : Int) :: r, u, by rw [g1, List.append_assoc]; rfl, fun x hx => ?_, by rw [List.length_cons]; omega, ?_, g5, g6, g7⟩
      · rcases List.mem_cons.1 hx with rfl | hx
        · omega
        · exact g2 x hx
      · rw [tgo, step_kid hf hj, if_neg (by simp)]
        exact g4
theorem pathsL_go : ∀ (ks : List Nd) (l j : Nat) (hj : j < ks.length) (pre : List Int) (p : List Int × Int), Nd.rights ks l = true → p ∈ ks[j].paths pre → ∃ r u, p.1 = pre ++ r ∧ (∀ x ∈ r, 0 ≤ x) ∧ r.length < ks[j].dep ∧ tgo r ks[j] = (u, 0) ∧ u.own = true ∧ -1 ≤ p.2 ∧ p.2 < (u.words.length : Int) + u.bytes.length
  | [], l, j, hj, _, _, _, _ => by simp at hj
  | t :: ts, l, 0, hj, pre, p, hr, h => by
    simp only [Nd.rights, Bool.and_eq_true] at hr
    exact paths_go t l pre p hr.1 h
  | t :: ts, l, j + 1, hj, pre, p, hr, h => by
    simp only [Nd.rights, Bool.and_eq_true] at hr
    exact pathsL_go ts l j (by simpa using hj) pre p hr.2 h
end
theorem path_ask {t : Nd} {l : Nat} {p : List Int × Int} (hr : t.right l = true) (hd : t.dep ≤ 32) (h : p ∈ t.paths []) : (∃ V1 V2, askT t p.1 p.2 = (V1, 0) ∧ askT t p.1 (-1) = (V2, 0) ∧ V1.kind = V2.kind ∧ p.2 < V2.words) ∧ -1 ≤ p.2 := by
  obtain ⟨r, u, g1, g2, g3, g4, g5, g6, g7⟩ := paths_go t l [] p hr h
  rw [List.nil_append] at g1
  have ha : ∀ a, askT t p.1 a = tval u a := by
    intro a
    unfold askT
    rw [g1, if_neg (fun ⟨x, hx, hlt⟩ => by have := g2 x hx; omega), if_neg (by omega), g4, if_neg (by simp)]
  refine ⟨?_, g6⟩
  by_cases h0 : p.2 < 0
  · exact ⟨⟨u.kind, u.size, (u.words.length : Int) + u.bytes.length, u.kids.length, 0⟩, ⟨u.kind, u.size, (u.words.length : Int) + u.bytes.length, u.kids.length, 0⟩, by rw [ha, tval, if_pos h0], by rw [ha, tval, if_pos (by omega)], rfl, g7⟩
  · have hw : (tat u p.2).2 = 0 := by
      obtain ⟨k, s, w, b, ks⟩ := u
      exact at_word g5 (by omega) g7
    exact ⟨⟨u.kind, 0, 0, 0, (tat u p.2).1⟩, ⟨u.kind, u.size, (u.words.length : Int) + u.bytes.length, u.kids.length, 0⟩, by rw [ha, tval, if_neg h0, if_neg (by rw [hw]; simp)], by rw [ha, tval, if_pos (by omega)], rfl, g7⟩
mutual
theorem paths_pre : ∀ (t : Nd) (pre : List Int), ∀ p ∈ t.paths pre, ∃ r, p.1 = pre ++ r
  | .mk k s w b ks, pre, p, h => by
    rcases paths_mem h with ⟨h1, -⟩ | ⟨j, hj, h1⟩
    · exact ⟨[], by simpa using h1⟩
    · obtain ⟨r, hr⟩ := pathsL_pre ks j hj (pre ++ [(j : Int)]) p h1
      exact ⟨(j : Int) :: r, by rw [hr, List.append_assoc]; rfl⟩
theorem pathsL_pre : ∀ (ks : List Nd) (j : Nat) (hj : j < ks.length) (pre : List Int), ∀ p ∈ ks[j].paths pre, ∃ r, p.1 = pre ++ r
  | [], j, hj, _, _, _ => by simp at hj
  | t :: ts, 0, hj, pre, p, h => paths_pre t pre p h
  | t :: ts, j + 1, hj, pre, p, h => pathsL_pre ts j (by simpa using hj) pre p h
end
mutual
theorem paths_nodup : ∀ (t : Nd) (pre : List Int), (t.paths pre).Nodup
  | .mk k s w b ks, pre => by
    rw [Nd.paths, List.nodup_append]
    refine ⟨?_, pathsL_nodup ks pre 0, ?_⟩
    · unfold List.Nodup
      rw [List.pairwise_map]
      exact List.nodup_range.imp (fun hne he => hne (by simp only [Prod.mk.injEq, true_and] at he; omega))
    · intro p hp q hq he
      subst he
      obtain ⟨i, -, rfl⟩ := List.mem_map.1 hp
      obtain ⟨j, hj, h2⟩ := pathsL_mem hq
      obtain ⟨r, hr⟩ := paths_pre _ _ _ h2
      have := congrArg List.length hr
      simp only [List.length_append, List.length_singleton] at this
      omega
theorem pathsL_nodup : ∀ (ks : List Nd) (pre : List Int) (j0 : Nat), (Nd.pathsL ks pre j0).Nodup
  | [], _, _ => by rw [Nd.pathsL]; exact List.nodup_nil
  | t :: ts, pre, j0 => by
    rw [Nd.pathsL, List.nodup_append]
    refine ⟨paths_nodup t _, pathsL_nodup ts pre (j0 + 1), ?_⟩
    intro p hp q hq he
    subst he
    obtain ⟨r1, h1⟩ := paths_pre _ _ _ hp
    obtain ⟨k, hk, h2⟩ := pathsL_mem hq
    obtain ⟨r2, h3⟩ := paths_pre _ _ _ h2
    rw [h1, List.append_assoc, List.append_assoc] at h3
    have := List.append_cancel_left h3
    simp only [List.singleton_append, List.cons.injEq] at this
    omega
end
theorem treesP_dep {f : List Int → Nd × List Int} {m : Nat} (hf : ∀ c, (f c).1.dep ≤ m) : ∀ (n : Nat) (c : List Int), Nd.depL (treesP f n c).1 ≤ m
  | 0, c => by simp [treesP, Nd.depL]
  | n + 1, c => by
    have h1 := treesP_dep hf n c
    have h2 := hf (treesP f n c).2
    simp only [treesP]
    have hap : ∀ (a b : List Nd), Nd.depL (a ++ b) = max (Nd.depL a) (Nd.depL b) := by
      intro a b
      induction a with
      | nil => simp [Nd.depL]
      | cons x a ih => simp only [List.cons_append, Nd.depL, ih]; omega
    rw [hap]
    simp only [Nd.depL]
    omega
theorem treeP_dep : ∀ (d : Nat) (c : List Int), (treeP d c).1.dep ≤ d + 1
  | 0, c => by simp [treeP, Nd.nil, Nd.dep, Nd.depL]
  | d + 1, [] => by simp [treeP, Nd.nil, Nd.dep, Nd.depL]
  | d + 1, k :: c => by
    have h := treesP_dep (f := treeP d) (m := d + 1) (fun c => treeP_dep d c) (k / 8 % 5).toNat c
    simp only [treeP]
    repeat' split
    all_goals (try simp only [Nd.nil, Nd.dep, Nd.depL])
    all_goals omega
theorem paths_first (t : Nd) (m : Nat) : 1 ≤ ((t.paths []).take (m + 1)).length := by
  obtain ⟨k, s, w, b, ks⟩ := t
  rw [List.length_take, paths_len]
  unfold own1
  omega
/-- Two paths at two places are the same just if the places are. -/
theorem take_same {L : List (List Int × Int)} (hn : L.Nodup) {m i j : Nat} (hi : i < (L.take m).length) (hj : j < (L.take m).length) : (decide ((L.take m)[i].2 = (L.take m)[j].2) && decide ((L.take m)[i].1 = (L.take m)[j].1)) = decide (i = j) := by
  have hnd : (L.take m).Nodup := hn.sublist (List.take_sublist m L)
  by_cases h : i = j
  · subst h; simp
  · rw [decide_eq_false h]
    have hne : (L.take m)[i] ≠ (L.take m)[j] := fun he => h ((List.getElem_inj hnd).1 he)
    by_cases h1 : (L.take m)[i].2 = (L.take m)[j].2
    · have h2 : (L.take m)[i].1 ≠ (L.take m)[j].1 := fun h2 => hne (Prod.ext h2 h1)
      rw [decide_eq_false h2, Bool.and_false]
    · rw [decide_eq_false h1, Bool.false_and]
theorem path_steps {t : Nd} {l : Nat} {p : List Int × Int} (hr : t.right l = true) (hd : t.dep ≤ 32) (h : p ∈ t.paths []) : (∀ x ∈ p.1, 0 ≤ x) ∧ p.1.length ≤ 32 := by
  obtain ⟨r, u, g1, g2, g3, -⟩ := paths_go t l [] p hr h
  rw [List.nil_append] at g1
  rw [g1]
  exact ⟨g2, by omega⟩
mutual
theorem paths_at_le {w : World} : ∀ (t : Nd) (c : List Value), NodeR w c t → ∀ pre, ∀ p ∈ t.paths pre, p.2 ≤ 1000000000000000
  | .mk k s ws bs ks, c, h, pre, p, hp => by
    obtain @⟨kind, size, words, bytes, kids, wv, bv, kv, kc, hk, hs, hW, hwr, hB, hbr, hK, hKs⟩ := h
    obtain ⟨aw, cw, -, -, -, h1⟩ := hW
    obtain ⟨ab, cb, -, -, -, h2⟩ := hB
    have h1 := h1.lim
    have h2 := h2.lim
    rcases paths_mem hp with ⟨-, -, h3⟩ | ⟨j, hj, h3⟩
    · omega
    · exact pathsL_at_le ks kc hKs j hj _ p h3
theorem pathsL_at_le {w : World} : ∀ (ks : List Nd) (c : List Value), KidsR w c ks → ∀ (j : Nat) (hj : j < ks.length) (pre : List Int), ∀ p ∈ ks[j].paths pre, p.2 ≤ 1000000000000000
  | [], c, h, j, hj, _, _, _ => by simp at hj
  | t :: ts, c, h, 0, hj, pre, p, hp => by
    cases h with
    | cons h1 h2 => exact paths_at_le t _ h1 pre p hp
  | t :: ts, c, h, j + 1, hj, pre, p, hp => by
    cases h with
    | cons h1 h2 => exact pathsL_at_le ts _ h2 j (by simpa using hj) pre p hp
end
theorem path_range {w : World} {c : List Value} {t : Nd} (h : NodeR w c t) {p : List Int × Int} (hp : p ∈ t.paths []) (h1 : -1 ≤ p.2) : inR .i64 p.2 := by
  have := paths_at_le t c h [] p hp
  simp only [inR]; omega
end Go.Proofs.Ytfhfecepcnapfaa.K
namespace Go.Proofs.Ytfhfecepcnapfaa.K
open Go Go.RowKit
mutual
theorem paths_short : ∀ (t : Nd) (pre : List Int), ∀ p ∈ t.paths pre, p.1.length < pre.length + t.dep
  | .mk k s w b ks, pre, p, h => by
    rw [Nd.paths, List.mem_append] at h
    rcases h with h | h
    · obtain ⟨i, _, rfl⟩ := List.mem_map.1 h
      simp only [Nd.dep]; omega
    · obtain ⟨j, hj, h2⟩ := pathsL_mem h
      have := pathsL_short ks j hj _ p h2
      simp only [List.length_append, List.length_singleton] at this
      simp only [Nd.dep]
      omega
theorem pathsL_short : ∀ (ks : List Nd) (j : Nat) (hj : j < ks.length) (pre : List Int), ∀ p ∈ ks[j].paths pre, p.1.length < pre.length + Nd.depL ks
  | t :: ts, 0, _, pre, p, h => by have := paths_short t pre p h; simp only [Nd.depL]; omega
  | t :: ts, j + 1, hj, pre, p, h => by have := pathsL_short ts j (by simpa using hj) pre p h; simp only [Nd.depL]; omega
end
theorem take_snoc {α : Type} {L : List α} {n : Nat} {x : α} (h : L[n]? = some x) : L.take (n + 1) = L.take n ++ [x] := by
  obtain ⟨hlt, rfl⟩ := List.getElem?_eq_some_iff.1 h
  exact List.take_succ_eq_append_getElem hlt
/-- Where the paths of a kid begin. -/
def offK (w b : List Int) (ks : List Nd) (j : Nat) : Nat := own1 w b + (Nd.pathsL (ks.take j) [] 0).length
theorem offK_zero (w b : List Int) (ks : List Nd) : offK w b ks 0 = own1 w b := by simp [offK, Nd.pathsL]
theorem offK_step {w b : List Int} {ks : List Nd} {j : Nat} (hj : j < ks.length) : offK w b ks (j + 1) = offK w b ks j + (ks[j].paths []).length := by
  unfold offK
  rw [pathsL_take ks [] j hj, List.nil_append, paths_step, List.length_map]; omega
theorem offK_all (k s : Int) (w b : List Int) (ks : List Nd) : offK w b ks ks.length = ((Nd.mk k s w b ks).paths []).length := by
  unfold offK
  rw [List.take_length, paths_len]
theorem kid_at {k s : Int} {w b : List Int} {ks : List Nd} {j : Nat} (hj : j < ks.length) {i : Nat} {p : List Int × Int} (h : (ks[j].paths [])[i]? = some p) : ((Nd.mk k s w b ks).paths [])[offK w b ks j + i]? = some ((j : Int) :: p.1, p.2) := by
  have hlt := (List.getElem?_eq_some_iff.1 h).1
  have hl : i < (ks[j].paths ([] ++ [(j : Int)])).length := by rw [List.nil_append, paths_step, List.length_map]; exact hlt
  have := paths_kid (k := k) (s := s) (w := w) (b := b) (pre := []) hj hl
  unfold offK
  rw [this, List.nil_append, paths_step, List.getElem?_map, h]
  rfl
theorem own_keepR {w w' : World} {row : Option Nat} {base n sz : Nat} {T : TypeId} {v : Value} {xs : List Value} (h : w.ownsRow base T sz v n xs) (g : Kp row.toList w w') (hF : ∀ k, v.ownBlock = some k → row ≠ some k) : w'.ownsRow base T sz v n xs := by
  refine ⟨h.1, ?_⟩
  rcases h.2 with h2 | ⟨q, cap, cur, rfl, hq, hc, rest⟩
  · exact .inl h2
  · exact .inr ⟨q, cap, cur, rfl, hq, g.heap hc (fun hm => hF q rfl (by simpa using hm)), rest⟩
theorem Kp.of_app {row r2 : Option Nat} {a b c : World} (h : Kp row.toList a b) (gr : b.grownBy c r2) (hr : r2 = row ∨ ∀ q, r2 = some q → a.heap.size ≤ q) : Kp row.toList a c :=
  ⟨gr.os.trans h.os, gr.tape.trans h.tape, gr.output.trans h.output, Nat.le_trans h.size gr.size, fun k hk hn => by
    have h1 := h.block k hk hn
    rw [gr.block k (Nat.lt_of_lt_of_le hk h.size) (fun he => ?_), h1]
    rcases hr with rfl | hr
    · exact hn (by rw [← he]; simp)
    · have := hr k he.symm; omega⟩
theorem tstep_err (t : Nd) (k : Int) : 0 ≤ (tstep t k).2 ∧ (tstep t k).2 ≤ 65535 := by unfold tstep; (repeat' split) <;> simp
theorem tat_err (t : Nd) (k : Int) : 0 ≤ (tat t k).2 ∧ (tat t k).2 ≤ 65535 := by unfold tat; (repeat' split) <;> simp
theorem tgo_err : ∀ (l : List Int) (t : Nd), 0 ≤ (tgo l t).2 ∧ (tgo l t).2 ≤ 65535
  | [], t => by simp [tgo]
  | k :: l, t => by
    have h1 := tstep_err t k
    have h2 := tgo_err l (tstep t k).1
    unfold tgo
    (repeat' split) <;> first | exact h1 | exact h2
theorem askT_err (t : Nd) (l : List Int) (a : Int) : 0 ≤ (askT t l a).2 ∧ (askT t l a).2 ≤ 65535 := by
  have h1 := tgo_err l t
  unfold askT tval
  (repeat' split) <;> first | exact h1 | exact tat_err _ _ | (simp; done)
theorem take_two0 {xs : List Value} {i : Nat} {a b : Value} (h : (xs.drop (i * 2)).take 2 = [a, b]) : xs[i * 2]? = some a := by
  have := congrArg (fun l : List Value => l[0]?) h
  simpa using this
theorem take_two1 {xs : List Value} {i : Nat} {a b : Value} (h : (xs.drop (i * 2)).take 2 = [a, b]) : xs[i * 2 + 1]? = some b := by
  have := congrArg (fun l : List Value => l[1]?) h
  simpa using this
end Go.Proofs.Ytfhfecepcnapfaa.K
namespace Go.Proofs.Ytfhfecepcnapfaa.K
open Go Go.RowKit
structure KpQ where
  r : World → World → Prop
  g : World → World → Prop
  gdrew : ∀ w : World, g w { w with drawn := w.drawn + 1 }
  refl : ∀ w, r w w
  tr : ∀ {a b c : World}, r a b → r b c → r a c
  grow : ∀ {a b : World}, g a b → r a b
def Sp.StabQ (F : KpQ) : Sp → Prop
  | .ex _ => True
  | .so G => ∀ w w' v, F.r w w' → G w v → G w' v
theorem Sp.keepQ {F : KpQ} {s : Sp} (h : s.StabQ F) {w w' : World} {v : Value} (g : F.r w w') (hv : s.holds w v) : s.holds w' v := by
  cases s with
  | ex x => exact hv
  | so G => exact h w w' v g hv
end Go.Proofs.Ytfhfecepcnapfaa.K
namespace Go.Proofs.Ytfhfecepcnapfaa.K
open Go Go.RowKit
/-- What makes memory alone. -/
abbrev grQ (R : KpR) : KpQ := ⟨R.r, Grow, Grow.drew', R.refl, R.tr, R.grow⟩
/-- What is asked of one operation: a plain one, or the k-th of those that write. -/
def OblU (P : Program) (ops : Array Oper) (F : KpQ) (S : Nat → Env → World → Prop) (w0 : World) (e : Env) (o : Oper) (s : Sp) (l : List (Option Nat × Sp)) : Option Nat → Prop
  | none => ∀ w, F.r w0 w → OblEnv l e w fun e' => OpG P ops o e' w fun v w' => F.g w w' ∧ s.holds w' v
  | some k => ∀ w, F.r w0 w → OblEnv l e w fun e' => S k e' w → OpG P ops o e' w fun v w' => F.r w w' ∧ S (k + 1) e' w' ∧ s.holds w' v
def AOU (P : Program) (ops : Array Oper) (F : KpQ) (S : Nat → Env → World → Prop) (ms : List Nat) (w0 : World) (e : Env) (K : List Dn → Prop) : List Oper → List (List Nat) → List Dn → Prop
  | [], _, rdone => K rdone.reverse
  | o :: r, an, rdone => ∃ s : Sp, s.StabQ F ∧ OblU P ops F S w0 e o s (selB rdone (an.headD [])) (mutNo ms 0 rdone.length) ∧
      AOU P ops F S ms w0 e K r an.tail (⟨o, s, an.headD []⟩ :: rdone)
section
variable {P : Program} {ops : Array Oper} {F : KpQ} {S : Nat → Env → World → Prop} {ms : List Nat} {w0 : World} {e : Env} {K : List Dn → Prop} {o : Oper} {r : List Oper} {a : List Nat} {an : List (List Nat)} {rdone : List Dn}
theorem AOU_ex (x : Value) (hm : mutNo ms 0 rdone.length = none) (h : ∀ w, F.r w0 w → OblEnv (selB rdone a) e w fun e' => OpG P ops o e' w fun v w' => F.g w w' ∧ v = x)
    (next : AOU P ops F S ms w0 e K r an (⟨o, .ex x, a⟩ :: rdone)) : AOU P ops F S ms w0 e K (o :: r) (a :: an) rdone := ⟨.ex x, trivial, by rw [hm]; exact h, next⟩
theorem AOU_so (G : World → Value → Prop) (hst : ∀ w w' v, F.r w w' → G w v → G w' v) (hm : mutNo ms 0 rdone.length = none) (h : ∀ w, F.r w0 w → OblEnv (selB rdone a) e w fun e' => OpG P ops o e' w fun v w' => F.g w w' ∧ G w' v)
    (next : AOU P ops F S ms w0 e K r an (⟨o, .so G, a⟩ :: rdone)) : AOU P ops F S ms w0 e K (o :: r) (a :: an) rdone := ⟨.so G, hst, by rw [hm]; exact h, next⟩
/-- One that writes, and comes to a value that is known. -/
theorem AOU_mut (k : Nat) (x : Value) (hm : mutNo ms 0 rdone.length = some k) (h : ∀ w, F.r w0 w → OblEnv (selB rdone a) e w fun e' => S k e' w → OpG P ops o e' w fun v w' => F.r w w' ∧ S (k + 1) e' w' ∧ v = x)
    (next : AOU P ops F S ms w0 e K r an (⟨o, .ex x, a⟩ :: rdone)) : AOU P ops F S ms w0 e K (o :: r) (a :: an) rdone := ⟨.ex x, trivial, by rw [hm]; exact h, next⟩
theorem AOU_mutso (k : Nat) (G : World → Value → Prop) (hst : ∀ w w' v, F.r w w' → G w v → G w' v) (hm : mutNo ms 0 rdone.length = some k) (h : ∀ w, F.r w0 w → OblEnv (selB rdone a) e w fun e' => S k e' w → OpG P ops o e' w fun v w' => F.r w w' ∧ S (k + 1) e' w' ∧ G w' v)
    (next : AOU P ops F S ms w0 e K r an (⟨o, .so G, a⟩ :: rdone)) : AOU P ops F S ms w0 e K (o :: r) (a :: an) rdone := ⟨.so G, hst, by rw [hm]; exact h, next⟩
theorem AOU_nil {an : List (List Nat)} (h : K rdone.reverse) : AOU P ops F S ms w0 e K [] an rdone := h
end
def GoodU (P : Program) (ops : Array Oper) (F : KpQ) (S : Nat → Env → World → Prop) (ms : List Nat) (w0 : World) (e : Env) (D : List Dn) : Prop :=
  ∀ i d, D[i]? = some d → d.s.StabQ F ∧ OblU P ops F S w0 e d.o d.s (selB (D.take i).reverse d.anc) (mutNo ms 0 i)
theorem AOU_out {P : Program} {ops : Array Oper} {F : KpQ} {S : Nat → Env → World → Prop} {ms : List Nat} {w0 : World} {e : Env} {K : List Dn → Prop} : ∀ (r : List Oper) (an : List (List Nat)) (rdone : List Dn), r.length = an.length →
    AOU P ops F S ms w0 e K r an rdone → GoodU P ops F S ms w0 e rdone.reverse → ∃ D, K D ∧ GoodU P ops F S ms w0 e D ∧ D.map Dn.o = rdone.reverse.map Dn.o ++ r ∧ D.map Dn.anc = rdone.reverse.map Dn.anc ++ an
  | [], [], rdone, _, h, hg => ⟨rdone.reverse, h, hg, by simp, by simp⟩
  | [], _ :: _, _, hl, _, _ => by simp at hl
  | _ :: _, [], _, hl, _, _ => by simp at hl
  | o :: r, a :: an, rdone, hl, ⟨s, hs, ho, hn⟩, hg => by
    simp only [List.headD_cons, List.tail_cons] at ho hn
    obtain ⟨D, hK, hG, hD, hA⟩ := AOU_out r an (⟨o, s, a⟩ :: rdone) (by simpa using hl) hn (by
      intro i d hd
      simp only [List.reverse_cons] at hd ⊢
      rcases Nat.lt_or_ge i rdone.reverse.length with hi | hi
      · rw [List.getElem?_append_left hi] at hd
        rw [List.take_append_of_le_length (by omega)]
        exact hg i d hd
      · rw [List.getElem?_append_right hi] at hd
        have h0 : i - rdone.reverse.length = 0 := by
          rcases Nat.eq_zero_or_pos (i - rdone.reverse.length) with h | h
          · exact h
          · rw [List.getElem?_eq_none (by simp only [List.length_cons, List.length_nil]; omega)] at hd; cases hd
        rw [h0] at hd
        have hi' : i = rdone.reverse.length := by omega
        subst hi'
        simp only [List.getElem?_cons_zero, Option.some.injEq] at hd
        subst hd
        have ht : (rdone.reverse ++ [(⟨o, s, a⟩ : Dn)]).take rdone.reverse.length = rdone.reverse := by simp
        rw [ht, List.reverse_reverse]
        rw [List.length_reverse]
        exact ⟨hs, ho⟩)
    exact ⟨D, hK, hG, by rw [hD]; simp, by rw [hA]; simp⟩

/-- The slots that S speaks of are set by what those that write wait for. -/
def usOk (ops : List Oper) (an : List (List Nat)) (U ms : List Nat) : Bool := U.all fun u => ms.all fun m => (an.getD m []).any fun j => match (ops[j]?).bind (·.dst) with | some d => Nat.beq d u | none => false
theorem usOk_at {ops : List Oper} {an : List (List Nat)} {U ms : List Nat} (h : usOk ops an U ms = true) {u m : Nat} (hu : u ∈ U) (hm : m ∈ ms) : ∃ j o, j ∈ an.getD m [] ∧ ops[j]? = some o ∧ o.dst = some u := by
  unfold usOk at h
  simp only [List.all_eq_true, List.any_eq_true] at h
  obtain ⟨j, hj, hd⟩ := h u hu m hm
  cases ho : ops[j]? with
  | none => rw [ho] at hd; simp at hd
  | some o =>
    rw [ho] at hd
    cases hdst : o.dst with
    | none => simp [hdst] at hd
    | some d =>
      simp only [Option.bind_some, hdst] at hd
      exact ⟨j, o, hj, ho, by rw [hdst, Nat.eq_of_beq_eq_true hd]⟩
section main
variable {P : Program} {N : Nat} {hd tl : List Oper} {Q : Ex → Env → World → Prop} {F : KpQ} {U : List Nat} {S : Nat → Env → World → Prop} {ms : List Nat}

structure InvU (F : KpQ) (S : Nat → Env → World → Prop) (ms : List Nat) (P : Program) (hd tl : List Oper) (D : List Dn) (w0 : World) (e : Env) (L : Array Bool) (E : Env) (w : World) : Prop where
  msro : E.ms = e.ms ∧ E.ro = e.ro
  down : Down (hd ++ tl) L
  head : ∀ i, Ls L i → i < hd.length
  grow : F.r w0 w
  st : ∃ k, k ≤ ms.length ∧ S k E w ∧ ∀ (j p : Nat), ms[j]? = some p → (Ls L p ↔ j < k)
  got : ∀ (i : Nat) (d : Dn), D[i]? = some d → Ls L i → ∃ v, d.s.holds w v ∧ ∀ t, d.o.dst = some t → E t = v
  off : ∀ u, (∀ (i : Nat) (o : Oper), (hd ++ tl)[i]? = some o → Ls L i → o.dst ≠ some u) → E u = e u

theorem phase1U (sh : Shape hd tl) {D : List Dn} {w0 : World} {e : Env} (hD : D.map Dn.o = hd) (hA : D.map Dn.anc = ancB (hd ++ tl) hd.length) (hg : GoodU P (hd ++ tl).toArray F S ms w0 e D)
    (hS : ∀ k e w w', F.g w w' → S k e w → S k e w') (hSe : ∀ k e e' w, (∀ u ∈ U, e u = e' u) → S k e w → S k e' w) (hS0 : ∀ e e' w, S 0 e w → S 0 e' w) (hUo : usOk (hd ++ tl) (ancL (hd ++ tl) []) U ms = true) (hmo : mutOk (ancL (hd ++ tl) []) [] ms = true) (hml : ∀ (j p : Nat), ms[j]? = some p → p < hd.length)
    (hfin : ∀ w, F.r w0 w → Fin (fun e w => S ms.length e w → WL P (hd ++ tl).toArray Q tl e w) D e w) : ∀ (fuel : Nat) (L : Array Bool) (E : Env) (w : World),
    InvU F S ms P hd tl D w0 e L E w → left L ≤ fuel → AnyE P (hd ++ tl).toArray Q fuel L E w := by
  have hlen : D.length = hd.length := by rw [← hD]; simp
  have hDo : ∀ (i : Nat) (d : Dn), D[i]? = some d → (hd ++ tl)[i]? = some d.o := fun i d h => by
    have hi : i < D.length := (List.getElem?_eq_some_iff.1 h).1
    rw [List.getElem?_append_left (by omega), ← hD]; simp [h]
  have hanc := ancs_eq sh hlen hA
  -- with all of the head listed, what follows stands
  have fin : ∀ (L : Array Bool) (E : Env) (w : World), InvU F S ms P hd tl D w0 e L E w → (∀ i, i < hd.length → Ls L i) → WL P (hd ++ tl).toArray Q tl E w := by
    intro L E w inv hall
    have hSl : S ms.length E w := by
      obtain ⟨k0, hk0, hSk, hch⟩ := inv.st
      rcases Nat.lt_or_ge k0 ms.length with hlt | hge
      · have hp := List.getElem?_eq_getElem hlt
        have := (hch k0 _ hp).1 (hall _ (hml k0 _ hp))
        omega
      · rw [show ms.length = k0 from by omega]; exact hSk
    obtain ⟨e', hG, hmr, hu⟩ := Fin_inst E D e (hfin w inv.grow) (fun d hd' => by
      obtain ⟨i, hi, rfl⟩ := List.getElem_of_mem hd'
      exact inv.got i _ (List.getElem?_eq_getElem hi) (hall i (by omega)))
    have : e' = E := by
      refine Env.ext' (fun u => ?_) (by rw [hmr.1, inv.msro.1]) (by rw [hmr.2, inv.msro.2])
      by_cases hin : ∃ d ∈ D, d.o.dst = some u
      · exact (hu u).1 hin
      · rw [(hu u).2 (fun d hd' he => hin ⟨d, hd', he⟩)]
        refine (inv.off u fun i o ho hl hou => hin ?_).symm
        have hi := inv.head i hl
        have hiD : i < D.length := by omega
        have := hDo i _ (List.getElem?_eq_getElem hiD)
        rw [ho] at this
        exact ⟨D[i], List.getElem_mem hiD, by rw [← Option.some.inj this]; exact hou⟩
    subst this; exact hG hSl
  -- and so the rest of the region
  have rest : ∀ (fuel : Nat) (L : Array Bool) (E : Env) (w : World), InvU F S ms P hd tl D w0 e L E w → (∀ i, i < hd.length → Ls L i) → left L ≤ fuel →
      AnyE P (hd ++ tl).toArray Q fuel L E w := by
    intro fuel L E w inv hall hf
    refine phase2 sh fuel hd.length L E w inv.down (fun i => ⟨inv.head i, hall i⟩) (Nat.le_refl _) (by simp) hf ?_
    rw [List.drop_left]
    exact fin L E w inv hall
  intro fuel
  induction fuel with
  | zero =>
    intro L E w inv hf
    refine rest 0 L E w inv (fun i hi => ?_) hf
    by_cases hl : Ls L i
    · exact hl
    · have := left_set (L := L) (i := i) (by rw [inv.down.size]; simp; omega) hl; omega
  | succ fuel ih =>
    intro L E w inv hf
    by_cases hall : ∀ i, i < hd.length → Ls L i
    · exact rest _ L E w inv hall hf
    refine ⟨fun hr => absurd (fun i hi => all_listed inv.down.size sh.back hr i (by simp; omega)) hall, fun i hi o' ho' => ?_⟩
    obtain ⟨hn, o, ho, hedge⟩ := (ready_iff inv.down.size).1 hi
    have hin : i < (hd ++ tl).length := (List.getElem?_eq_some_iff.1 ho).1
    have hal := anc_listed inv.down i o ho hedge
    have hih : i < hd.length := by
      rcases Nat.lt_or_ge i hd.length with h' | h'
      · exact h'
      · exact absurd (fun j hj => hal j (sh.tail i h' hin j (by omega))) hall
    have hi' : i < L.size := by rw [inv.down.size]; exact hin
    have hiD : i < D.length := by omega
    have hd' := List.getElem?_eq_getElem hiD
    generalize hdd : D[i] = d at hd'
    have hod : d.o = o := by have := hDo i d hd'; rw [ho] at this; exact (Option.some.inj this).symm
    obtain ⟨hst, hob⟩ := hg i d hd'
    have ha := hanc i d hd'
    rw [ha] at hob
    have hanI : (ancL (hd ++ tl) []).getD i [] = ancI (hd ++ tl) i := rfl
    have hinst : ∀ p ∈ sel (D.take i) (ancI (hd ++ tl) i), ∃ v, p.2.holds w v ∧ ∀ t, p.1 = some t → E t = v := by
      intro p hp
      unfold sel at hp
      rw [List.mem_filterMap] at hp
      obtain ⟨j, hj, hp⟩ := hp
      rw [List.getElem?_take] at hp
      split at hp
      · cases hdj : D[j]? with
        | none => rw [hdj] at hp; simp at hp
        | some dj =>
          rw [hdj] at hp
          simp only [Option.map_some, Option.some.injEq] at hp
          subst hp
          exact inv.got j dj hdj (hal j hj)
      · simp at hp
    have hmem : ∀ u, (∃ p ∈ sel (D.take i) (ancI (hd ++ tl) i), p.1 = some u) ↔ ∃ j ∈ ancI (hd ++ tl) i, ∃ dj, D[j]? = some dj ∧ dj.o.dst = some u := by
      intro u
      unfold sel
      constructor
      · rintro ⟨p, hp, hpu⟩
        rw [List.mem_filterMap] at hp
        obtain ⟨j, hj, hp⟩ := hp
        rw [List.getElem?_take] at hp
        split at hp
        · cases hdj : D[j]? with
          | none => rw [hdj] at hp; simp at hp
          | some dj =>
            rw [hdj] at hp
            simp only [Option.map_some, Option.some.injEq] at hp
            subst hp
            exact ⟨j, hj, dj, hdj, hpu⟩
        · simp at hp
      · rintro ⟨j, hj, dj, hdj, hdu⟩
        refine ⟨(dj.o.dst, dj.s), ?_, hdu⟩
        rw [List.mem_filterMap]
        refine ⟨j, hj, ?_⟩
        rw [List.getElem?_take, if_pos ((ancI_mem ho).1 hj).1, hdj]
        rfl
    have agree : ∀ e' : Env, (∀ u, ((∃ p ∈ sel (D.take i) (ancI (hd ++ tl) i), p.1 = some u) → e' u = E u) ∧ ((∀ p ∈ sel (D.take i) (ancI (hd ++ tl) i), p.1 ≠ some u) → e' u = e u)) → ∀ u ∈ slots (hd ++ tl) o, e' u = E u := by
      intro e' hu u hu'
      by_cases hin' : ∃ p ∈ sel (D.take i) (ancI (hd ++ tl) i), p.1 = some u
      · exact (hu u).1 hin'
      · rw [(hu u).2 (fun p hp he => hin' ⟨p, hp, he⟩)]
        refine (inv.off u fun k p hp hl hpu => ?_).symm
        have hki : i ≠ k := fun h => hn (h ▸ hl)
        rcases sh.read i k o p ho hp hki u hpu hu' with h | h
        · refine hin' ((hmem u).2 ⟨k, h, ?_⟩)
          have hk := inv.head k hl
          have hkD : k < D.length := by omega
          have := hDo k _ (List.getElem?_eq_getElem hkD)
          rw [hp] at this
          exact ⟨_, List.getElem?_eq_getElem hkD, by rw [← Option.some.inj this]; exact hpu⟩
        · exact hn (anc_listed inv.down k p hp (inv.down.down k p hp hl) i h)
    have hG2 : OpG P (hd ++ tl).toArray o E w fun v w' => F.r w w' ∧ (∃ k, k ≤ ms.length ∧ S k E w' ∧ ∀ (j p : Nat), ms[j]? = some p → (Ls (L.setIfInBounds i true) p ↔ j < k)) ∧ d.s.holds w' v := by
      obtain ⟨k0, hk0, hSk, hch⟩ := inv.st
      cases hmu : mutNo ms 0 i with
      | none =>
        rw [hmu] at hob
        obtain ⟨e', hG, hu⟩ := OblEnv_inst E _ e hinst (hob w inv.grow)
        rw [hod] at hG
        refine OpG.mono ?_ (OpG_congr (sh.nosel i o ho) (agree e' hu) hG)
        rintro v w' ⟨g, hv⟩
        refine ⟨F.grow g, ⟨k0, hk0, hS _ _ _ _ g hSk, fun j p hj => ?_⟩, hv⟩
        rw [Ls_set hi', ← hch j p hj]
        have : p ≠ i := fun h => mutNo_none hmu j (h ▸ hj)
        simp [this]
      | some k =>
        rw [hmu] at hob
        obtain ⟨_, hms⟩ := mutNo_some hmu
        rw [Nat.sub_zero] at hms
        have hkl : k < ms.length := (List.getElem?_eq_some_iff.1 hms).1
        have hkk : k0 = k := by
          have h1 : ¬ k < k0 := fun h => hn ((hch k i hms).2 h)
          rcases Nat.lt_or_ge k0 k with hlt | hge
          · have hq := List.getElem?_eq_getElem (show k0 < ms.length by omega)
            have h2 := (mutOk_at hmo k i hms).2 k0 _ hlt hq
            rw [hanI] at h2
            have := (hch k0 _ hq).1 (hal _ h2)
            omega
          · omega
        subst hkk
        obtain ⟨e', hG, hu⟩ := OblEnv_inst E _ e hinst (hob w inv.grow)
        have hUe : ∀ u ∈ U, e' u = E u := fun u hu' => by
          obtain ⟨j, oj, hj, hoj, hdj⟩ := usOk_at hUo hu' (List.mem_of_getElem? hms)
          rw [hanI] at hj
          have hji := ((ancI_mem ho).1 hj).1
          have hjD : j < D.length := by omega
          refine (hu u).1 ((hmem u).2 ⟨j, hj, D[j], List.getElem?_eq_getElem hjD, ?_⟩)
          have := hDo j _ (List.getElem?_eq_getElem hjD)
          rw [hoj] at this
          rw [← Option.some.inj this]; exact hdj
        have hG := hG (hSe _ _ _ _ (fun u hu' => (hUe u hu').symm) hSk)
        rw [hod] at hG
        refine OpG.mono ?_ (OpG_congr (sh.nosel i o ho) (agree e' hu) hG)
        rintro v w' ⟨g, hs', hv⟩
        refine ⟨g, ⟨k0 + 1, hkl, hSe _ _ _ _ hUe hs', fun j p hj => ?_⟩, hv⟩
        rw [Ls_set hi', hch j p hj]
        have anc_lt : ∀ q, q ∈ ancI (hd ++ tl) i → q < i := fun q hq => ((ancI_mem ho).1 hq).1
        constructor
        · rintro (rfl | h)
          · rcases Nat.lt_trichotomy j k0 with h | h | h
            · omega
            · omega
            · have h2 := (mutOk_at hmo j p hj).2 k0 p h hms
              exact absurd (anc_lt p h2) (by omega)
          · omega
        · intro h
          rcases Nat.lt_or_ge j k0 with h' | h'
          · exact .inr h'
          · have : j = k0 := by omega
            subst this
            rw [hms] at hj
            exact .inl (Option.some.inj hj).symm
    have hoo : o = o' := by rw [List.getElem?_toArray, ho] at ho'; exact Option.some.inj ho'
    subst hoo
    refine OpG.mono ?_ hG2
    rintro v w' ⟨hgr, hst', hv⟩
    have hst' : ∃ k, k ≤ ms.length ∧ S k (E.put o.dst v) w' ∧ ∀ (j p : Nat), ms[j]? = some p → (Ls (L.setIfInBounds i true) p ↔ j < k) := by
      obtain ⟨k, hk, hSk, hch⟩ := hst'
      refine ⟨k, hk, ?_, hch⟩
      rcases Nat.eq_zero_or_pos k with h0 | h0
      · subst h0; exact hS0 _ _ _ hSk
      · refine hSe _ _ _ _ (fun u hu' => ?_) hSk
        have hq := List.getElem?_eq_getElem (show 0 < ms.length by omega)
        obtain ⟨j, oj, hj, hoj, hdj⟩ := usOk_at hUo hu' (List.mem_of_getElem? hq)
        have hl0 := (hch 0 _ hq).2 h0
        have hji : j ≠ i := by
          intro he
          rw [Ls_set hi'] at hl0
          rcases hl0 with h' | h'
          · rw [he, h'] at hj
            have := ((ancI_mem ho).1 hj).1
            omega
          · have hp0 := inv.head _ h'
            have hpl : ms[0] < (hd ++ tl).length := by simp; omega
            have := anc_listed inv.down ms[0] _ (List.getElem?_eq_getElem hpl) (fun k hk => inv.down.down _ _ (List.getElem?_eq_getElem hpl) h' k hk) j hj
            rw [he] at this
            exact hn this
        cases hdst' : o.dst with
        | none => rfl
        | some t' =>
          refine (set_ne _ _ fun htt => ?_).symm
          exact sh.uniq i j o oj ho hoj (Ne.symm hji) t' hdst' (by rw [hdj, htt])
    refine ih _ _ w' ⟨⟨by rw [put_ms]; exact inv.msro.1, by rw [put_ro]; exact inv.msro.2⟩, inv.down.set ho hedge, fun j hj => ?_, F.tr inv.grow hgr, hst', fun j dj hdj hl => ?_, fun u hu' => ?_⟩ (by have := left_set hi' hn; omega)
    · rw [Ls_set hi'] at hj
      rcases hj with rfl | hj
      · exact hih
      · exact inv.head j hj
    · rw [Ls_set hi'] at hl
      by_cases hji : j = i
      · subst hji
        rw [hd'] at hdj
        cases hdj
        refine ⟨v, hv, fun t ht => ?_⟩
        rw [hod] at ht
        rw [ht]; exact set_same _ _ _
      · have hlj := hl.resolve_left hji
        obtain ⟨vj, hvj, htj⟩ := inv.got j dj hdj hlj
        have hkeep : dj.s.holds w' vj := by
          have hsj := (hg j dj hdj).1
          exact Sp.keepQ hsj hgr hvj
        refine ⟨vj, hkeep, fun t ht => ?_⟩
        rw [← htj t ht]
        cases hdst' : o.dst with
        | none => rfl
        | some t' =>
          refine set_ne _ _ fun htt => ?_
          exact sh.uniq i j o dj.o ho (hDo j dj hdj) (Ne.symm hji) t' hdst' (by rw [ht, htt])
    · have hne : o.dst ≠ some u := hu' i o ho ((Ls_set hi').2 (.inl rfl))
      have : E.put o.dst v u = E u := by
        cases hdst' : o.dst with
        | none => rfl
        | some t' => exact set_ne _ _ fun htt => hne (by rw [hdst', htt])
      rw [this]
      exact inv.off u fun k p hp hl => hu' k p hp ((Ls_set hi').2 (.inr hl))

/-- A region whose order is open, some of whose operations write: the ms-th, one after another; F: what they may change; S k: what stands behind k of them. -/
theorem W_anyU {id : Nat} {e : Env} {w : World} {l : List Oper} (m : Nat) (an : List (List Nat)) (ms U : List Nat) (F : KpQ) (S : Nat → Env → World → Prop) (hm : P.follows .mixedOrders = true) (hsh : shapeOk (l.take m) (l.drop m) = true)
    (han : ancB l (l.take m).length = an) (hdst : dstOk N l = true) (hmo : (mutOk (ancL l []) [] ms && ms.all fun p => Nat.blt p (l.take m).length) = true) (hUo : usOk l (ancL l []) U ms = true) (hS : ∀ k e w w', F.g w w' → S k e w → S k e w') (hSe : ∀ k e e' w, (∀ u ∈ U, e u = e' u) → S k e w → S k e' w) (hS0 : ∀ e e' w, S 0 e w → S 0 e' w) (h0 : ∀ w0, F.g w w0 → S 0 e w0)
    (h : ∀ w0, F.g w w0 → AOU P l.toArray F S ms w0 e (fun D => ∀ w', F.r w0 w' → Fin (fun e w => S ms.length e w → WL P l.toArray Q (l.drop m) e w) D e w') (l.take m) an []) :
    W P N (.region id l.toArray true) Q e w := by
  have hl := List.take_append_drop m l
  generalize hhd : l.take m = hd at *
  generalize htl : l.drop m = tl at *
  subst hl
  have h := h { w with drawn := w.drawn + 1 } (F.gdrew w)
  have h0 := h0 { w with drawn := w.drawn + 1 } (F.gdrew w)
  simp only [Bool.and_eq_true, List.all_eq_true] at hmo
  have hml : ∀ (j p : Nat), ms[j]? = some p → p < hd.length := fun j p hj => by
    have := hmo.2 p (List.mem_of_getElem? hj)
    simpa [Nat.blt_eq] using this
  intro b a k cs hs he
  subst he
  have sh := shape_of hsh
  obtain ⟨D, hK, hG, hDo, hDa⟩ := AOU_out _ _ _ (by rw [← han]; simp [ancB, length_ancL]) h (fun i d hd' => by simp at hd')
  have hDo' : D.map Dn.o = hd := by simpa using hDo
  have hDa' : D.map Dn.anc = ancB (hd ++ tl) hd.length := by rw [hDa, han]; simp
  have hno : ∀ i, ¬ Ls (Array.replicate (hd ++ tl).toArray.size false) i := fun i => by simp [Ls, Array.getD_eq_getD_getElem?, Array.getElem?_replicate]; split <;> simp
  have hany : AnyE P (hd ++ tl).toArray Q (hd ++ tl).toArray.size (Array.replicate (hd ++ tl).toArray.size false) (env b.roundOf a) { w with drawn := w.drawn + 1 } := by
    refine phase1U sh hDo' hDa' hG hS hSe hS0 hUo hmo.1 hml hK _ _ _ _ ⟨⟨rfl, rfl⟩, ⟨by simp, fun i o ho hl => absurd hl (hno i)⟩, fun i hl => absurd hl (hno i), F.refl _, ⟨0, Nat.zero_le _, h0, fun j p hj => ⟨fun hl => absurd hl (hno p), fun h => by omega⟩⟩, fun i d hd' hl => absurd hl (hno i), fun u _ => rfl⟩ ?_
    unfold Go.Proofs.Ytfhfecepcnapfaa.K.left
    have := List.countP_le_length (p := (!·)) (l := (Array.replicate (hd ++ tl).toArray.size false).toList)
    simpa using this
  have hs2 := AnyE_sound _ ((w.tape w.drawn (.order b.fn id))) _ _ _ hany
  obtain ⟨x, a', w', h1, h2, h3⟩ := ops_sound hdst (k := k) (cs := cs) _ a _ hs hs2
  refine ⟨x, a', w', h1, h2, .of (.one stepR_region_draw) ?_⟩
  simp only [Region.schedule, hm, Bool.true_or, if_true]
  exact h3

end main
end Go.Proofs.Ytfhfecepcnapfaa.K
