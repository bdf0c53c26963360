/- Plain laws of chapter 08's statements. No program here. -/
import Derived.Test.YtfhfecepcnapfaaQ08
set_option linter.unusedVariables false
set_option linter.unusedSimpArgs false
namespace Go.Proofs.Ytfhfecepcnapfaa.K
open Go Go.RowKit

/-! ### what choices make may be -/
theorem rights_iff {left : Nat} : ∀ {ks : List Nd}, Nd.rights ks left = true ↔ ∀ t ∈ ks, t.right left = true
  | [] => by simp [Nd.rights]
  | t :: ts => by simp only [Nd.rights, Bool.and_eq_true, rights_iff (ks := ts), List.mem_cons, forall_eq_or_imp]
theorem right_nil (l : Nat) : Nd.nil.right l = true := by simp [Nd.nil, Nd.right, Nd.own, Nd.rights]
theorem treesP_all {f : List Int → Nd × List Int} {Q : List Int → Prop} {R : Nd → Prop} (hf : ∀ c, Q c → Q (f c).2 ∧ R (f c).1) : ∀ (n : Nat) (c : List Int), Q c → ∀ t ∈ (treesP f n c).1, R t
  | 0, c, h => by simp [treesP]
  | n + 1, c, h => by
    have h2 := treesP_mem (f := f) (Q := Q) (fun c hc => (hf c hc).1) n c h
    intro t ht
    simp only [treesP, List.mem_append, List.mem_singleton] at ht
    rcases ht with ht | rfl
    · exact treesP_all hf n c h t ht
    · exact (hf _ h2).2
def isU8 (c : List Int) : Prop := ∀ x ∈ c, inR .u8 x
theorem treeP_right : ∀ (d : Nat) (c : List Int) (l : Nat), d ≤ l → isU8 c → (treeP d c).1.right l = true
  | 0, c, l, _, _ => by simp [treeP, right_nil]
  | d + 1, [], l, _, _ => by simp [treeP, right_nil]
  | d + 1, k :: c, l, hl, hc => by
    have hk := hc k (by simp)
    simp only [inR] at hk
    have hcc : isU8 c := fun x hx => hc x (by simp [hx])
    have hr : Nd.rights (treesP (treeP d) (k / 8 % 5).toNat c).1 (l - 1) = true := rights_iff.2 (treesP_all (f := treeP d) (Q := isU8) (R := fun t => t.right (l - 1) = true) (fun c hq => ⟨treeP_rest d c hq, treeP_right d c (l - 1) (by omega) hq⟩) _ c hcc)
    have hn := treesP_count (treeP d) (k / 8 % 5).toNat c
    have hl0 : ¬ l = 0 := by omega
    simp only [treeP]
    split
    · exact right_nil l
    · split
      · simp [Nd.right, Nd.rights, Nd.own, hl0]; omega
      · split
        · simp [Nd.right, Nd.rights, Nd.own, hl0]; omega
        · split
          · simp only [Nd.right, hr, Nd.own, Bool.and_true]
            simp [hl0]; omega
          · simp only [Nd.right, hr, Nd.own, Bool.and_true]
            simp [hl0]; split <;> omega
theorem needsL_le {f : List Int → Nd × List Int} (hf : ∀ c, (f c).1.needs + 7 * ((f c).2.length : Int) ≤ 7 * c.length) : ∀ (n : Nat) (c : List Int), Nd.needsL (treesP f n c).1 + 7 * ((treesP f n c).2.length : Int) ≤ 7 * c.length
  | 0, c => by simp [treesP, Nd.needsL]
  | n + 1, c => by
    have h1 := needsL_le hf n c
    have h2 := hf (treesP f n c).2
    simp only [treesP, needsL_append, Nd.needsL]
    omega
theorem treeP_needs : ∀ (d : Nat) (c : List Int), isU8 c → (treeP d c).1.needs + 7 * ((treeP d c).2.length : Int) ≤ 7 * c.length
  | 0, c, _ => by simp [treeP, Nd.nil, Nd.needs, Nd.needsL, Nd.need]
  | d + 1, [], _ => by simp [treeP, Nd.nil, Nd.needs, Nd.needsL, Nd.need]
  | d + 1, k :: c, hc => by
    have hk := hc k (by simp)
    simp only [inR] at hk
    have hcc : isU8 c := fun x hx => hc x (by simp [hx])
    have key : ∀ (n : Nat) (c : List Int), isU8 c → Nd.needsL (treesP (treeP d) n c).1 + 7 * ((treesP (treeP d) n c).2.length : Int) ≤ 7 * c.length := by
      intro n
      induction n with
      | zero => intro c _; simp [treesP, Nd.needsL]
      | succ n ih =>
        intro c hq
        have h1 := ih c hq
        have h2 := treeP_needs d (treesP (treeP d) n c).2 (treesP_rest d n c hq)
        simp only [treesP, needsL_append, Nd.needsL]
        omega
    have hs := key (k / 8 % 5).toNat c hcc
    have hn := treesP_count (treeP d) (k / 8 % 5).toNat c
    simp only [treeP]
    split
    · simp [Nd.nil, Nd.needs, Nd.needsL, Nd.need]; omega
    · split
      · simp [Nd.needs, Nd.needsL, Nd.need]; omega
      · split
        · simp [Nd.needs, Nd.needsL, Nd.need]; omega
        · split
          · simp only [Nd.needs, Nd.need, List.length_nil, List.length_cons, hn]; simp only [show ¬ ((2 : Int) = 1) from by decide, if_false, if_true]; omega
          · simp only [Nd.needs, Nd.need, List.length_map, List.length_range, List.length_cons, hn, if_true]; omega
/-! ### in one segment -/
theorem getD1 {s : List Int} : ([s] : List (List Int)).getD 0 [] = s := rfl
theorem growA1 (s l : List Int) : growA [s] 0 l = [s ++ l] := by simp [growA, growB]
theorem setP1 (s : List Int) (i : Nat) (x : Int) : setP [s] 0 i x = [s.set i x] := by simp [setP]
theorem full1 {size : Int} {s : List Int} (h1 : (s.length : Int) ≤ size) (h2 : s.length ≤ 4096) : fullP size [s] 0 = false := by
  simp [fullP, len2, totalP]; omega
theorem Nd.need_le (t : Nd) : t.need ≤ t.needs := by
  cases t; simp only [Nd.needs]; have := Nd.needsL_nn; rename_i ks; have := this ks; omega
mutual
theorem Nd.lay_one (size : Int) : ∀ (t : Nd) (s : List Int) (i : Nat), t.fine → i < s.length → (s.length : Int) + t.needs ≤ size → (s.length : Int) + t.needs ≤ 4096 →
    ∃ s', t.lay size ⟨[s], false⟩ 0 i = ⟨[s'], false⟩ ∧ (s'.length : Int) = s.length + t.needs
  | .mk k z w b ks, s, i, hR, hi, h1, h2 => by
    obtain ⟨hkd, hlw, hlb, hlk, hnn, hnm, hkn, hb1⟩ := Nd.own_b (Nd.fine_own hR)
    have hnl := Nd.needsL_nn ks
    simp only [Nd.needs] at h1 h2
    simp only [Nd.lay, Bool.false_eq_true, or_false]
    by_cases hk : k = 0
    · have hks : ks = [] := own_kids (Nd.fine_own hR) (by omega)
      subst hks
      rw [if_pos hk]
      exact ⟨s, rfl, by simp [Nd.needs, Nd.need, hk, Nd.needsL]⟩
    · rw [if_neg hk]
      by_cases hn : (Nd.mk k z w b ks).need = 0
      · rw [if_pos hn, setP1]
        have hks : ks = [] := List.eq_nil_of_length_eq_zero (by have := hkn hk; omega)
        subst hks
        exact ⟨_, rfl, by rw [List.length_set]; simp [Nd.needs, hn, Nd.needsL]⟩
      · rw [if_neg hn]
        have hp : placeP size (.mk k z w b ks) ⟨[s], false⟩ 0 i = ⟨⟨[s.set i ((Nd.mk k z w b ks).near ((s.length : Int) - i - 1))], false⟩, 0, s.length⟩ := by
          unfold placeP
          rw [if_pos (by refine ⟨rfl, ?_⟩; show ((s.length : Nat) : Int) + _ ≤ _; omega)]
          show (⟨⟨setP [s] 0 i _, false⟩, 0, _⟩ : Plc) = _
          rw [setP1]
          rfl
        have hco : ((Nd.mk k z w b ks).content.length : Int) = (Nd.mk k z w b ks).need := Nd.content_length _ (by simp only [Nd.kind]; omega) (by simpa only [Nd.kind, Nd.bytes] using hb1)
        rw [hp]
        have hm : moreP size ⟨[s.set i ((Nd.mk k z w b ks).near ((s.length : Int) - i - 1))], false⟩ 0 (Nd.mk k z w b ks).content = ⟨[s.set i ((Nd.mk k z w b ks).near ((s.length : Int) - i - 1)) ++ (Nd.mk k z w b ks).content], false⟩ := by
          simp only [moreP, growA1, Bool.false_or]
          rw [full1 (by rw [List.length_append, List.length_set]; omega) (by rw [List.length_append, List.length_set]; omega)]
        simp only [hm]
        obtain ⟨s', h3, h4⟩ := Nd.lays_one size ks (s.set i ((Nd.mk k z w b ks).near ((s.length : Int) - i - 1)) ++ (Nd.mk k z w b ks).content) (s.length + ((Nd.mk k z w b ks).need.toNat - ks.length)) (fun j hj => Nd.fine_kid hR hj)
          (by rw [List.length_append, List.length_set]; have := hkn hk; omega) (by rw [List.length_append, List.length_set]; omega) (by rw [List.length_append, List.length_set]; omega)
        refine ⟨s', h3, ?_⟩
        rw [h4, List.length_append, List.length_set]
        simp only [Nd.needs]
        omega
theorem Nd.lays_one (size : Int) : ∀ (ts : List Nd) (s : List Int) (i : Nat), (∀ (j : Nat) (h : j < ts.length), ts[j].fine) → i + ts.length ≤ s.length → (s.length : Int) + Nd.needsL ts ≤ size → (s.length : Int) + Nd.needsL ts ≤ 4096 →
    ∃ s', Nd.lays size ts ⟨[s], false⟩ 0 i = ⟨[s'], false⟩ ∧ (s'.length : Int) = s.length + Nd.needsL ts
  | [], s, i, _, _, _, _ => ⟨s, rfl, by simp [Nd.needsL]⟩
  | t :: ts, s, i, hR, hi, h1, h2 => by
    have ha := Nd.needs_nn t
    have hb := Nd.needsL_nn ts
    simp only [Nd.needsL, List.length_cons] at h1 h2 hi
    obtain ⟨s1, h3, h4⟩ := Nd.lay_one size t s i (hR 0 (by simp)) (by omega) (by omega) (by omega)
    obtain ⟨s2, h5, h6⟩ := Nd.lays_one size ts s1 (i + 1) (fun j hj => by have := hR (j + 1) (by simpa using hj); simpa using this) (by omega) (by omega) (by omega)
    refine ⟨s2, by simp only [Nd.lays, h3, h5], ?_⟩
    simp only [Nd.needsL]
    omega
end
theorem Nd.build_one {t : Nd} {size : Int} (hR : t.right 32 = true) (h1 : 1 + t.needs ≤ size) (h2 : size ≤ 4096) : ∃ s, t.build size = ([s], 0) ∧ (s.length : Int) = 1 + t.needs := by
  have hn := Nd.needs_nn t
  obtain ⟨s, h3, h4⟩ := Nd.lay_one size t [0] 0 ⟨32, hR⟩ (by simp) (by simpa using h1) (by simp; omega)
  refine ⟨s, ?_, by simpa using h4⟩
  unfold Nd.build
  rw [if_neg (by rw [hR]; simp; omega), h3, if_neg (by simp)]
theorem Nd.build_fit {t : Nd} {size : Int} (h : (t.build size).2 = 0) : Fit size (t.build size).1 := by
  unfold Nd.build at h ⊢
  split
  · rename_i hc; rw [if_pos hc] at h; simp at h
  · rename_i hc
    rw [if_neg hc] at h
    split
    · rename_i hf; rw [if_pos hf] at h; simp at h
    · rename_i hf
      have hf : (t.lay size ⟨[[0]], false⟩ 0 0).full = false := by simpa using hf
      exact (t.lay_ok size ⟨[[0]], false⟩ 0 0 (by simp)).fit (Fit.init (by omega)) hf
theorem Nd.build_none {t : Nd} {size : Int} (h : (t.build size).2 ≠ 0) : (t.build size).1 = [] := by
  unfold Nd.build at h ⊢
  split
  · rfl
  · rename_i hc
    rw [if_neg hc] at h
    split
    · rfl
    · rename_i hf; rw [if_neg hf] at h; exact absurd rfl h
theorem Nd.build_24 {t : Nd} {size : Int} (hR : t.right 32 = true) (h1 : 1 ≤ size) (h2 : size ≤ 4096) : (t.build size).2 = 0 ∨ (t.build size).2 = 24 := by
  unfold Nd.build
  rw [if_neg (by rw [hR]; simp; omega)]
  split
  · right; rfl
  · left; rfl
theorem Nd.build_bad {t : Nd} {size : Int} (hR : t.right 32 = false) : t.build size = ([], 1) := by
  unfold Nd.build; rw [if_pos (.inr (.inr hR))]
theorem right_own {t : Nd} (h : t.own = false) (l : Nat) : t.right l = false := by
  cases t; simp only [Nd.right, h, Bool.false_and]
theorem odd_words {k s : Int} {w b : List Int} {ks : List Nd} (h : 4097 ≤ w.length) (l : Nat) : (Nd.mk k s w b ks).right l = false := by
  refine right_own ?_ l
  cases ho : (Nd.mk k s w b ks).own with
  | false => rfl
  | true => have := (Nd.own_b ho).lw; omega
theorem odd_both {k s x y : Int} {ks : List Nd} (l : Nat) : (Nd.mk k s [x] [y] ks).right l = false := by
  refine right_own ?_ l
  simp only [Nd.own, List.length_cons, List.length_nil]
  by_cases k0 : k = 0
  · simp only [if_pos k0]; rw [Bool.and_eq_false_iff]; right; exact decide_eq_false (by omega)
  · by_cases k1 : k = 1
    · simp [k1]
    · by_cases k2 : k = 2
      · simp only [if_neg k0, if_neg k1, if_pos k2]
        by_cases s2 : s = 2
        · simp only [if_pos s2]; rw [Bool.and_eq_false_iff]; left; exact decide_eq_false (by omega)
        · by_cases s5 : s = 5
          · simp only [if_neg s2, if_pos s5]; rw [Bool.and_eq_false_iff]; left; exact decide_eq_false (by omega)
          · by_cases s6 : s = 6
            · simp only [if_neg s2, if_neg s5, if_pos s6]; rw [Bool.and_eq_false_iff]; left; exact decide_eq_false (by omega)
            · simp only [if_neg s2, if_neg s5, if_neg s6]
      · simp only [if_neg k0, if_neg k1, if_neg k2]
/-! ### one in the other -/
def deepP (ls : List Bool) : Nat → Nd
  | 0 => .nil
  | i + 1 => if ls.getD i false then .mk 2 6 [] [] [deepP ls i] else .mk 1 0 [] [] [deepP ls i]
theorem deepP_right (ls : List Bool) : ∀ (m l : Nat), (deepP ls m).right l = decide (m ≤ l)
  | 0, l => by simp [deepP, right_nil]
  | m + 1, l => by
    have ih := deepP_right ls m (l - 1)
    simp only [deepP]
    by_cases hl : l = 0
    · subst hl; split <;> simp [Nd.right]
    · have : decide (m ≤ l - 1) = decide (m + 1 ≤ l) := by rw [decide_eq_decide]; omega
      rw [this] at ih
      split <;> simp [Nd.right, Nd.rights, Nd.own, hl, ih]
theorem deepP_needs (ls : List Bool) : ∀ (m : Nat), (deepP ls m).needs = m
  | 0 => by simp [deepP, Nd.nil, Nd.needs, Nd.needsL, Nd.need]
  | m + 1 => by
    have ih := deepP_needs ls m
    simp only [deepP]
    split <;> simp [Nd.needs, Nd.needsL, Nd.need, ih] <;> omega
theorem row_see {w : World} {V : Nat → Prop} {b n sz : Nat} {cs : Array Value} {T : TypeId} {fr : Nat × Nat} (hb : w.heap[b]? = some (.cells cs T fr)) (hv : V b) (hn : cs.toList.length = n * sz) (hl : n ≤ 140737488355328) : Row (see V w) sz (.slice (some ⟨b, 0, none⟩) n n) n cs.toList :=
  Row.of_block (see_cells.2 ⟨hv, hb⟩) rfl hn hl
/-! ### things without words -/
def emptyN (ys : List Int) (i : Nat) : Nd := if i < ys.length ∧ ys.getD i 0 % 3 > 0 then .mk 2 (4 + ys.getD i 0 % 3) [] [] [] else .mk 1 0 [] [] []
def emptyP (ys : List Int) (m : Nat) : Nd := .mk 2 6 [] [] ((List.range m).map (emptyN ys))
def emptyC (ys : List Int) (i : Nat) : List Value := if i < ys.length ∧ ys.getD i 0 % 3 > 0 then [.int .i64 2, .int .i64 (4 + ys.getD i 0 % 3), .slice none 0 0, .slice none 0 0, .slice none 0 0] else [.int .i64 1, .int .i64 0, .slice none 0 0, .slice none 0 0, .slice none 0 0]
theorem emptyN_node (w : World) (ys : List Int) (i : Nat) : NodeR w (emptyC ys i) (emptyN ys i) := by
  unfold emptyC emptyN
  split
  · exact .mk (by simp [inR]) (by simp only [inR]; omega) (Row.nil _ _) (by simp) (Row.nil _ _) (by simp) (Row.nil _ _) .nil
  · exact .mk (by simp [inR]) (by simp [inR]) (Row.nil _ _) (by simp) (Row.nil _ _) (by simp) (Row.nil _ _) .nil
theorem emptyK (w : World) (ys : List Int) : ∀ (m : Nat), KidsR w ((List.range m).flatMap (emptyC ys)) ((List.range m).map (emptyN ys))
  | 0 => .nil
  | m + 1 => by
    rw [List.range_succ, List.map_append, List.flatMap_append]
    exact KidsR.append (emptyK w ys m) (by have := KidsR.cons (emptyN_node w ys m) .nil; simpa using this)
theorem emptyN_right (ys : List Int) (i l : Nat) : (emptyN ys i).right (l + 1) = true ∧ (emptyN ys i).needs = 0 := by
  unfold emptyN
  split
  · rename_i h
    have : ys.getD i 0 % 3 = 1 ∨ ys.getD i 0 % 3 = 2 := by omega
    rcases this with h | h <;> rw [h] <;> exact ⟨by simp [Nd.right, Nd.rights, Nd.own], by simp [Nd.needs, Nd.needsL, Nd.need]⟩
  · exact ⟨by simp [Nd.right, Nd.rights, Nd.own], by simp [Nd.needs, Nd.needsL, Nd.need]⟩
theorem needsL_zero : ∀ (ts : List Nd), (∀ t ∈ ts, t.needs = 0) → Nd.needsL ts = 0
  | [], _ => rfl
  | t :: ts, h => by
    have h1 := h t (by simp)
    have h2 := needsL_zero ts fun u hu => h u (by simp [hu])
    simp only [Nd.needsL]; omega
theorem emptyP_right (ys : List Int) {m : Nat} (hm : m ≤ 4096) : (emptyP ys m).right 32 = true ∧ (emptyP ys m).needs = m := by
  have hr : Nd.rights ((List.range m).map (emptyN ys)) 31 = true := rights_iff.2 fun t ht => by
    obtain ⟨i, _, rfl⟩ := List.mem_map.1 ht
    exact (emptyN_right ys i 30).1
  have hn : Nd.needsL ((List.range m).map (emptyN ys)) = 0 := needsL_zero _ fun t ht => by
    obtain ⟨i, _, rfl⟩ := List.mem_map.1 ht
    exact (emptyN_right ys i 0).2
  constructor
  · simp only [emptyP, Nd.right, hr, Nd.own]
    simp; omega
  · simp [emptyP, Nd.needs, Nd.need, hn]
theorem getD_u8 {ys : List Int} (h : isU8 ys) (i : Nat) : 0 ≤ ys.getD i 0 ∧ ys.getD i 0 ≤ 255 := by
  rcases Nat.lt_or_ge i ys.length with h1 | h1
  · have := h _ (List.getElem_mem h1)
    rw [getD_at h1]
    simpa [inR] using this
  · rw [List.getD_eq_getElem?_getD, List.getElem?_eq_none h1]; simp
end Go.Proofs.Ytfhfecepcnapfaa.K
