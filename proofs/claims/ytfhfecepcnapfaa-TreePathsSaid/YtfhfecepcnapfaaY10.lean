/- Each path of a tree leads to something; no two are the same. Plain law. -/
import Derived.Test.YtfhfecepcnapfaaP10
import Derived.Test.YtfhfecepcnapfaaU10
import Derived.Test.YtfhfecepcnapfaaV10
set_option linter.unusedVariables false
set_option linter.unusedSimpArgs false
namespace Go.Proofs.Ytfhfecepcnapfaa.K
open Go Go.RowKit
theorem pathsL_mem : ∀ {ks : List Nd} {pre : List Int} {j0 : Nat} {p : List Int × Int}, p ∈ Nd.pathsL ks pre j0 → ∃ (k : Nat) (h : k < ks.length), p ∈ ks[k].paths (pre ++ [((j0 + k : Nat) : Int)])
  | [], pre, j0, p, h => by simp [Nd.pathsL] at h
  | t :: ts, pre, j0, p, h => by
    rw [Nd.pathsL, List.mem_append] at h
    rcases h with h | h
    · exact ⟨0, by simp, by simpa using h⟩
    · obtain ⟨k, hk, h2⟩ := pathsL_mem h
      refine ⟨k + 1, by simpa using hk, ?_⟩
      rw [show j0 + 1 + k = j0 + (k + 1) from by omega] at h2
      simpa using h2
theorem paths_mem {k s : Int} {w b : List Int} {ks : List Nd} {pre : List Int} {p : List Int × Int} (h : p ∈ (Nd.mk k s w b ks).paths pre) : (p.1 = pre ∧ -1 ≤ p.2 ∧ p.2 < (w.length : Int) + b.length) ∨ ∃ (j : Nat) (hj : j < ks.length), p ∈ ks[j].paths (pre ++ [(j : Int)]) := by
  rw [Nd.paths, List.mem_append, List.mem_map] at h
  rcases h with ⟨i, hi, rfl⟩ | h
  · rw [List.mem_range] at hi
    exact .inl ⟨rfl, by simp only []; omega, by simp only []; omega⟩
  · obtain ⟨j, hj, h2⟩ := pathsL_mem h
    exact .inr ⟨j, hj, by simpa using h2⟩
theorem rights_get {ks : List Nd} {l j : Nat} (h : Nd.rights ks l = true) (hj : j < ks.length) : ks[j].right l = true := rights_iff.1 h _ (List.getElem_mem hj)
theorem step_kid {k s : Int} {w b : List Int} {ks : List Nd} (ho : (Nd.mk k s w b ks).own = true) {j : Nat} (hj : j < ks.length) : tstep (.mk k s w b ks) (j : Int) = (ks[j], 0) := by
  have hk : ¬ k = 0 := fun h => by have := own_kids ho (by omega); rw [this] at hj; simp at hj
  have hg : ks.getD ((j : Int)).toNat .nil = ks[j] := by rw [Int.toNat_natCast]; exact getD_at hj
  cases own2 ho hk 0 0 with
  | st h1 h2 h3 h4 h5 h6 => rw [tstep_mk, if_neg (by omega), if_pos (by omega), hg]
  | bt h1 h2 h3 h4 h5 h6 h7 => rw [h4] at hj; simp at hj
  | wd h1 h2 h3 h4 h5 h6 h7 => rw [h4] at hj; simp at hj
  | pt h1 h2 h3 h4 h5 h6 h7 => rw [tstep_mk, if_neg (by omega), if_pos (by omega), hg]
theorem at_word {k s : Int} {w b : List Int} {ks : List Nd} (ho : (Nd.mk k s w b ks).own = true) {a : Int} (h0 : 0 ≤ a) (h1 : a < (w.length : Int) + b.length) : (tat (.mk k s w b ks) a).2 = 0 := by
  have hk : ¬ k = 0 := fun h => by
    simp only [Nd.own, if_pos h, Bool.and_eq_true, decide_eq_true_eq] at ho
    omega
  cases own2 ho hk 0 0 with
  | st g1 g2 g3 g4 g5 g6 => subst g3; simp at h1; rw [tat_mk, if_neg (by omega), if_pos (by omega)]
  | bt g1 g2 g3 g4 g5 g6 g7 => subst g3; simp at h1; rw [tat_mk, if_neg (by omega), if_neg (by simp; omega), if_pos (by omega)]
  | wd g1 g2 g3 g4 g5 g6 g7 => subst g3; simp at h1; rw [tat_mk, if_neg (by omega), if_pos (by omega)]
  | pt g1 g2 g3 g4 g5 g6 g7 => subst g3; subst g4; simp at h1; omega
mutual
theorem paths_go : ∀ (t : Nd) (l : Nat) (pre : List Int) (p : List Int × Int), t.right l = true → p ∈ t.paths pre → ∃ r u, p.1 = pre ++ r ∧ (∀ x ∈ r, 0 ≤ x) ∧ r.length < t.dep ∧ tgo r t = (u, 0) ∧ u.own = true ∧ -1 ≤ p.2 ∧ p.2 < (u.words.length : Int) + u.bytes.length
  | .mk k s w b ks, l, pre, p, hr, h => by
    have hf := Nd.fine_own ⟨l, hr⟩
    simp only [Nd.right, Bool.and_eq_true] at hr
    rcases paths_mem h with ⟨h1, h2, h3⟩ | ⟨j, hj, h1⟩
    · exact ⟨[], _, by simpa using h1, by simp, by rw [Nd.dep]; simp; omega, rfl, hf, h2, h3⟩
    · obtain ⟨r, u, g1, g2, g3, g4, g5, g6, g7⟩ := pathsL_go ks (l - 1) j hj (pre ++ [(j : Int)]) p hr.2 h1
      have hd := depL_kid (k := k) (s := s) (w := w) (b := b) hj
      refine ⟨(j : Int) :: r, u, by rw [g1, List.append_assoc]; rfl, fun x hx => ?_, by rw [List.length_cons]; omega, ?_, g5, g6, g7⟩
      · rcases List.mem_cons.1 hx with rfl | hx
        · omega
        · exact g2 x hx
      · rw [tgo, step_kid hf hj, if_neg (by simp)]
        exact g4
theorem pathsL_go : ∀ (ks : List Nd) (l j : Nat) (hj : j < ks.length) (pre : List Int) (p : List Int × Int), Nd.rights ks l = true → p ∈ ks[j].paths pre → ∃ r u, p.1 = pre ++ r ∧ (∀ x ∈ r, 0 ≤ x) ∧ r.length < ks[j].dep ∧ tgo r ks[j] = (u, 0) ∧ u.own = true ∧ -1 ≤ p.2 ∧ p.2 < (u.words.length : Int) + u.bytes.length
  | [], l, j, hj, _, _, _, _ => by simp at hj
  | t :: ts, l, 0, hj, pre, p, hr, h => by
    simp only [Nd.rights, Bool.and_eq_true] at hr
    exact paths_go t l pre p hr.1 h
  | t :: ts, l, j + 1, hj, pre, p, hr, h => by
    simp only [Nd.rights, Bool.and_eq_true] at hr
    exact pathsL_go ts l j (by simpa using hj) pre p hr.2 h
end
theorem path_ask {t : Nd} {l : Nat} {p : List Int × Int} (hr : t.right l = true) (hd : t.dep ≤ 32) (h : p ∈ t.paths []) : (∃ V1 V2, askT t p.1 p.2 = (V1, 0) ∧ askT t p.1 (-1) = (V2, 0) ∧ V1.kind = V2.kind ∧ p.2 < V2.words) ∧ -1 ≤ p.2 := by
  obtain ⟨r, u, g1, g2, g3, g4, g5, g6, g7⟩ := paths_go t l [] p hr h
  rw [List.nil_append] at g1
  have ha : ∀ a, askT t p.1 a = tval u a := by
    intro a
    unfold askT
    rw [g1, if_neg (fun ⟨x, hx, hlt⟩ => by have := g2 x hx; omega), if_neg (by omega), g4, if_neg (by simp)]
  refine ⟨?_, g6⟩
  by_cases h0 : p.2 < 0
  · exact ⟨⟨u.kind, u.size, (u.words.length : Int) + u.bytes.length, u.kids.length, 0⟩, ⟨u.kind, u.size, (u.words.length : Int) + u.bytes.length, u.kids.length, 0⟩, by rw [ha, tval, if_pos h0], by rw [ha, tval, if_pos (by omega)], rfl, g7⟩
  · have hw : (tat u p.2).2 = 0 := by
      obtain ⟨k, s, w, b, ks⟩ := u
      exact at_word g5 (by omega) g7
    exact ⟨⟨u.kind, 0, 0, 0, (tat u p.2).1⟩, ⟨u.kind, u.size, (u.words.length : Int) + u.bytes.length, u.kids.length, 0⟩, by rw [ha, tval, if_neg h0, if_neg (by rw [hw]; simp)], by rw [ha, tval, if_pos (by omega)], rfl, g7⟩
mutual
theorem paths_pre : ∀ (t : Nd) (pre : List Int), ∀ p ∈ t.paths pre, ∃ r, p.1 = pre ++ r
  | .mk k s w b ks, pre, p, h => by
    rcases paths_mem h with ⟨h1, -⟩ | ⟨j, hj, h1⟩
    · exact ⟨[], by simpa using h1⟩
    · obtain ⟨r, hr⟩ := pathsL_pre ks j hj (pre ++ [(j : Int)]) p h1
      exact ⟨(j : Int) :: r, by rw [hr, List.append_assoc]; rfl⟩
theorem pathsL_pre : ∀ (ks : List Nd) (j : Nat) (hj : j < ks.length) (pre : List Int), ∀ p ∈ ks[j].paths pre, ∃ r, p.1 = pre ++ r
  | [], j, hj, _, _, _ => by simp at hj
  | t :: ts, 0, hj, pre, p, h => paths_pre t pre p h
  | t :: ts, j + 1, hj, pre, p, h => pathsL_pre ts j (by simpa using hj) pre p h
end
mutual
theorem paths_nodup : ∀ (t : Nd) (pre : List Int), (t.paths pre).Nodup
  | .mk k s w b ks, pre => by
    rw [Nd.paths, List.nodup_append]
    refine ⟨?_, pathsL_nodup ks pre 0, ?_⟩
    · unfold List.Nodup
      rw [List.pairwise_map]
      exact List.nodup_range.imp (fun hne he => hne (by simp only [Prod.mk.injEq, true_and] at he; omega))
    · intro p hp q hq he
      subst he
      obtain ⟨i, -, rfl⟩ := List.mem_map.1 hp
      obtain ⟨j, hj, h2⟩ := pathsL_mem hq
      obtain ⟨r, hr⟩ := paths_pre _ _ _ h2
      have := congrArg List.length hr
      simp only [List.length_append, List.length_singleton] at this
      omega
theorem pathsL_nodup : ∀ (ks : List Nd) (pre : List Int) (j0 : Nat), (Nd.pathsL ks pre j0).Nodup
  | [], _, _ => by rw [Nd.pathsL]; exact List.nodup_nil
  | t :: ts, pre, j0 => by
    rw [Nd.pathsL, List.nodup_append]
    refine ⟨paths_nodup t _, pathsL_nodup ts pre (j0 + 1), ?_⟩
    intro p hp q hq he
    subst he
    obtain ⟨r1, h1⟩ := paths_pre _ _ _ hp
    obtain ⟨k, hk, h2⟩ := pathsL_mem hq
    obtain ⟨r2, h3⟩ := paths_pre _ _ _ h2
    rw [h1, List.append_assoc, List.append_assoc] at h3
    have := List.append_cancel_left h3
    simp only [List.singleton_append, List.cons.injEq] at this
    omega
end
theorem treesP_dep {f : List Int → Nd × List Int} {m : Nat} (hf : ∀ c, (f c).1.dep ≤ m) : ∀ (n : Nat) (c : List Int), Nd.depL (treesP f n c).1 ≤ m
  | 0, c => by simp [treesP, Nd.depL]
  | n + 1, c => by
    have h1 := treesP_dep hf n c
    have h2 := hf (treesP f n c).2
    simp only [treesP]
    have hap : ∀ (a b : List Nd), Nd.depL (a ++ b) = max (Nd.depL a) (Nd.depL b) := by
      intro a b
      induction a with
      | nil => simp [Nd.depL]
      | cons x a ih => simp only [List.cons_append, Nd.depL, ih]; omega
    rw [hap]
    simp only [Nd.depL]
    omega
theorem treeP_dep : ∀ (d : Nat) (c : List Int), (treeP d c).1.dep ≤ d + 1
  | 0, c => by simp [treeP, Nd.nil, Nd.dep, Nd.depL]
  | d + 1, [] => by simp [treeP, Nd.nil, Nd.dep, Nd.depL]
  | d + 1, k :: c => by
    have h := treesP_dep (f := treeP d) (m := d + 1) (fun c => treeP_dep d c) (k / 8 % 5).toNat c
    simp only [treeP]
    repeat' split
    all_goals (try simp only [Nd.nil, Nd.dep, Nd.depL])
    all_goals omega
theorem paths_first (t : Nd) (m : Nat) : 1 ≤ ((t.paths []).take (m + 1)).length := by
  obtain ⟨k, s, w, b, ks⟩ := t
  rw [List.length_take, paths_len]
  unfold own1
  omega
/-- Two paths at two places are the same just if the places are. -/
theorem take_same {L : List (List Int × Int)} (hn : L.Nodup) {m i j : Nat} (hi : i < (L.take m).length) (hj : j < (L.take m).length) : (decide ((L.take m)[i].2 = (L.take m)[j].2) && decide ((L.take m)[i].1 = (L.take m)[j].1)) = decide (i = j) := by
  have hnd : (L.take m).Nodup := hn.sublist (List.take_sublist m L)
  by_cases h : i = j
  · subst h; simp
  · rw [decide_eq_false h]
    have hne : (L.take m)[i] ≠ (L.take m)[j] := fun he => h ((List.getElem_inj hnd).1 he)
    by_cases h1 : (L.take m)[i].2 = (L.take m)[j].2
    · have h2 : (L.take m)[i].1 ≠ (L.take m)[j].1 := fun h2 => hne (Prod.ext h2 h1)
      rw [decide_eq_false h2, Bool.and_false]
    · rw [decide_eq_false h1, Bool.false_and]
theorem path_steps {t : Nd} {l : Nat} {p : List Int × Int} (hr : t.right l = true) (hd : t.dep ≤ 32) (h : p ∈ t.paths []) : (∀ x ∈ p.1, 0 ≤ x) ∧ p.1.length ≤ 32 := by
  obtain ⟨r, u, g1, g2, g3, -⟩ := paths_go t l [] p hr h
  rw [List.nil_append] at g1
  rw [g1]
  exact ⟨g2, by omega⟩
mutual
theorem paths_at_le {w : World} : ∀ (t : Nd) (c : List Value), NodeR w c t → ∀ pre, ∀ p ∈ t.paths pre, p.2 ≤ 1000000000000000
  | .mk k s ws bs ks, c, h, pre, p, hp => by
    obtain @⟨kind, size, words, bytes, kids, wv, bv, kv, kc, hk, hs, hW, hwr, hB, hbr, hK, hKs⟩ := h
    obtain ⟨aw, cw, -, -, -, h1⟩ := hW
    obtain ⟨ab, cb, -, -, -, h2⟩ := hB
    have h1 := h1.lim
    have h2 := h2.lim
    rcases paths_mem hp with ⟨-, -, h3⟩ | ⟨j, hj, h3⟩
    · omega
    · exact pathsL_at_le ks kc hKs j hj _ p h3
theorem pathsL_at_le {w : World} : ∀ (ks : List Nd) (c : List Value), KidsR w c ks → ∀ (j : Nat) (hj : j < ks.length) (pre : List Int), ∀ p ∈ ks[j].paths pre, p.2 ≤ 1000000000000000
  | [], c, h, j, hj, _, _, _ => by simp at hj
  | t :: ts, c, h, 0, hj, pre, p, hp => by
    cases h with
    | cons h1 h2 => exact paths_at_le t _ h1 pre p hp
  | t :: ts, c, h, j + 1, hj, pre, p, hp => by
    cases h with
    | cons h1 h2 => exact pathsL_at_le ts _ h2 j (by simpa using hj) pre p hp
end
theorem path_range {w : World} {c : List Value} {t : Nd} (h : NodeR w c t) {p : List Int × Int} (hp : p ∈ t.paths []) (h1 : -1 ≤ p.2) : inR .i64 p.2 := by
  have := paths_at_le t c h [] p hp
  simp only [inR]; omega
end Go.Proofs.Ytfhfecepcnapfaa.K
